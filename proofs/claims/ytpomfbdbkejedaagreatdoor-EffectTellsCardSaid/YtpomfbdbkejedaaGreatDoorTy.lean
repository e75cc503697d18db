/- The program's data as plain values, and how they lie in memory. No conditions. -/
import Derived.Test.YtpomfbdbkejedaaGreatDoorFwZ
set_option linter.unusedVariables false
set_option linter.unusedSimpArgs false
namespace Go.Proofs.YtpomfbdbkejedaaGreatDoor
open Go
structure PBoundsError where
  x : Int
  y : Int
  signed : Bool
  code : Int
  deriving DecidableEq
def PBoundsError.zero : PBoundsError := ⟨0, 0, false, 0⟩
structure PPhi where
  dst : Int
  args : List Int
  deriving DecidableEq
def PPhi.zero : PPhi := ⟨0, []⟩
structure PInstr where
  op : Int
  dst : Int
  args : List Int
  imm : Int
  fn : Int
  deriving DecidableEq
def PInstr.zero : PInstr := ⟨0, 0, [], 0, 0⟩
structure PTerm where
  kind : Int
  arg : Int
  to : List Int
  deriving DecidableEq
def PTerm.zero : PTerm := ⟨0, 0, []⟩
structure PBlock where
  phis : List PPhi
  ins : List PInstr
  term : PTerm
  deriving DecidableEq
def PBlock.zero : PBlock := ⟨[], [], PTerm.zero⟩
structure PFunc where
  params : Int
  result : Int
  regs : List Int
  blocks : List PBlock
  deriving DecidableEq
def PFunc.zero : PFunc := ⟨0, 0, [], []⟩
structure PModule where
  funcs : List PFunc
  deriving DecidableEq
def PModule.zero : PModule := ⟨[]⟩
structure PEffect where
  reads : Bool
  writes : Bool
  outs : Bool
  traps : Bool
  turns : Bool
  deriving DecidableEq
def PEffect.zero : PEffect := ⟨false, false, false, false, false⟩
structure PLooker where
  m : PModule
  f : PFunc
  deriving DecidableEq
def PLooker.zero : PLooker := ⟨PModule.zero, PFunc.zero⟩
structure PFinder where
  calls : List (List Int)
  number : List Int
  low : List Int
  on : List Bool
  stack : List Int
  rings : List (List Int)
  counter : Int
  deriving DecidableEq
def PFinder.zero : PFinder := ⟨[], [], [], [], [], [], 0⟩
structure PMethod where
  name : Int
  mtyp : Int
  ifn : Int
  tfn : Int
  deriving DecidableEq
def PMethod.zero : PMethod := ⟨0, 0, 0, 0⟩
def kBoundsError : Kd PBoundsError where
  sz := 4
  own x cs F := cs = [.int .i64 x.x, .int .i64 x.y, .bool x.signed, .int .u8 x.code] ∧ F = []
  ro G x cs := cs = [.int .i64 x.x, .int .i64 x.y, .bool x.signed, .int .u8 x.code]
  len h := by obtain ⟨rfl, rfl⟩ := h; rfl
  lenR h := by obtain rfl := h; rfl
  weak h hs := by
    obtain ⟨rfl, rfl⟩ := h
    exact rfl
  mono h hs := by
    obtain rfl := h
    exact rfl
  one h u hu := by
    obtain ⟨rfl, rfl⟩ := h
    simp only [List.mem_cons, List.not_mem_nil, or_false] at hu
    rcases hu with rfl | rfl | rfl | rfl <;> rfl
def fBoundsError : Flat kBoundsError := ⟨fun x => [.int .i64 x.x, .int .i64 x.y, .bool x.signed, .int .u8 x.code], fun _ => ⟨rfl, rfl⟩, fun h => h⟩
def kPhi : Kd PPhi where
  sz := 2
  own x cs F := ∃ v1 F1, cs = [.int .i64 x.dst, v1] ∧ F = F1 ∧ SlO 3 (kInt .i64) x.args v1 F1
  ro G x cs := ∃ v1, cs = [.int .i64 x.dst, v1] ∧ SlI (kInt .i64) G x.args v1
  len h := by obtain ⟨v1, F1, rfl, rfl, h1⟩ := h; rfl
  lenR h := by obtain ⟨v1, rfl, h1⟩ := h; rfl
  weak h hs := by
    obtain ⟨v1, F1, rfl, rfl, h1⟩ := h
    exact ⟨v1, rfl, h1.ro.mono (fun p hp => hs p hp)⟩
  mono h hs := by
    obtain ⟨v1, rfl, h1⟩ := h
    exact ⟨v1, rfl, h1.mono hs⟩
  one h u hu := by
    obtain ⟨v1, F1, rfl, rfl, h1⟩ := h
    obtain ⟨A1, c1, rfl⟩ := h1.len
    simp only [List.mem_cons, List.not_mem_nil, or_false] at hu
    rcases hu with rfl | rfl <;> rfl
def kInstr : Kd PInstr where
  sz := 5
  own x cs F := ∃ v2 F2, cs = [.int .i64 x.op, .int .i64 x.dst, v2, .int .i64 x.imm, .int .i64 x.fn] ∧ F = F2 ∧ SlO 3 (kInt .i64) x.args v2 F2
  ro G x cs := ∃ v2, cs = [.int .i64 x.op, .int .i64 x.dst, v2, .int .i64 x.imm, .int .i64 x.fn] ∧ SlI (kInt .i64) G x.args v2
  len h := by obtain ⟨v2, F2, rfl, rfl, h2⟩ := h; rfl
  lenR h := by obtain ⟨v2, rfl, h2⟩ := h; rfl
  weak h hs := by
    obtain ⟨v2, F2, rfl, rfl, h2⟩ := h
    exact ⟨v2, rfl, h2.ro.mono (fun p hp => hs p hp)⟩
  mono h hs := by
    obtain ⟨v2, rfl, h2⟩ := h
    exact ⟨v2, rfl, h2.mono hs⟩
  one h u hu := by
    obtain ⟨v2, F2, rfl, rfl, h2⟩ := h
    obtain ⟨A2, c2, rfl⟩ := h2.len
    simp only [List.mem_cons, List.not_mem_nil, or_false] at hu
    rcases hu with rfl | rfl | rfl | rfl | rfl <;> rfl
def kTerm : Kd PTerm where
  sz := 3
  own x cs F := ∃ v2 F2, cs = [.int .i64 x.kind, .int .i64 x.arg, v2] ∧ F = F2 ∧ SlO 3 (kInt .i64) x.to v2 F2
  ro G x cs := ∃ v2, cs = [.int .i64 x.kind, .int .i64 x.arg, v2] ∧ SlI (kInt .i64) G x.to v2
  len h := by obtain ⟨v2, F2, rfl, rfl, h2⟩ := h; rfl
  lenR h := by obtain ⟨v2, rfl, h2⟩ := h; rfl
  weak h hs := by
    obtain ⟨v2, F2, rfl, rfl, h2⟩ := h
    exact ⟨v2, rfl, h2.ro.mono (fun p hp => hs p hp)⟩
  mono h hs := by
    obtain ⟨v2, rfl, h2⟩ := h
    exact ⟨v2, rfl, h2.mono hs⟩
  one h u hu := by
    obtain ⟨v2, F2, rfl, rfl, h2⟩ := h
    obtain ⟨A2, c2, rfl⟩ := h2.len
    simp only [List.mem_cons, List.not_mem_nil, or_false] at hu
    rcases hu with rfl | rfl | rfl <;> rfl
def kBlock : Kd PBlock where
  sz := 5
  own x cs F := ∃ v0 F0 v1 F1 v4 F4, cs = [v0, v1, .int .i64 x.term.kind, .int .i64 x.term.arg, v4] ∧ F = F0 ++ (F1 ++ (F4)) ∧ SlO 52 kPhi x.phis v0 F0 ∧ SlO 50 kInstr x.ins v1 F1 ∧ SlO 3 (kInt .i64) x.term.to v4 F4
  ro G x cs := ∃ v0 v1 v4, cs = [v0, v1, .int .i64 x.term.kind, .int .i64 x.term.arg, v4] ∧ SlI kPhi G x.phis v0 ∧ SlI kInstr G x.ins v1 ∧ SlI (kInt .i64) G x.term.to v4
  len h := by obtain ⟨v0, F0, v1, F1, v4, F4, rfl, rfl, h0, h1, h4⟩ := h; rfl
  lenR h := by obtain ⟨v0, v1, v4, rfl, h0, h1, h4⟩ := h; rfl
  weak h hs := by
    obtain ⟨v0, F0, v1, F1, v4, F4, rfl, rfl, h0, h1, h4⟩ := h
    exact ⟨v0, v1, v4, rfl, h0.ro.mono (fun p hp => hs p (List.mem_append_left _ hp)), h1.ro.mono (fun p hp => hs p (List.mem_append_right _ (List.mem_append_left _ hp))), h4.ro.mono (fun p hp => hs p (List.mem_append_right _ (List.mem_append_right _ (hp))))⟩
  mono h hs := by
    obtain ⟨v0, v1, v4, rfl, h0, h1, h4⟩ := h
    exact ⟨v0, v1, v4, rfl, h0.mono hs, h1.mono hs, h4.mono hs⟩
  one h u hu := by
    obtain ⟨v0, F0, v1, F1, v4, F4, rfl, rfl, h0, h1, h4⟩ := h
    obtain ⟨A0, c0, rfl⟩ := h0.len
    obtain ⟨A1, c1, rfl⟩ := h1.len
    obtain ⟨A4, c4, rfl⟩ := h4.len
    simp only [List.mem_cons, List.not_mem_nil, or_false] at hu
    rcases hu with rfl | rfl | rfl | rfl | rfl <;> rfl
def kFunc : Kd PFunc where
  sz := 4
  own x cs F := ∃ v2 F2 v3 F3, cs = [.int .i64 x.params, .int .i64 x.result, v2, v3] ∧ F = F2 ++ (F3) ∧ SlO 3 (kInt .i64) x.regs v2 F2 ∧ SlO 44 kBlock x.blocks v3 F3
  ro G x cs := ∃ v2 v3, cs = [.int .i64 x.params, .int .i64 x.result, v2, v3] ∧ SlI (kInt .i64) G x.regs v2 ∧ SlI kBlock G x.blocks v3
  len h := by obtain ⟨v2, F2, v3, F3, rfl, rfl, h2, h3⟩ := h; rfl
  lenR h := by obtain ⟨v2, v3, rfl, h2, h3⟩ := h; rfl
  weak h hs := by
    obtain ⟨v2, F2, v3, F3, rfl, rfl, h2, h3⟩ := h
    exact ⟨v2, v3, rfl, h2.ro.mono (fun p hp => hs p (List.mem_append_left _ hp)), h3.ro.mono (fun p hp => hs p (List.mem_append_right _ (hp)))⟩
  mono h hs := by
    obtain ⟨v2, v3, rfl, h2, h3⟩ := h
    exact ⟨v2, v3, rfl, h2.mono hs, h3.mono hs⟩
  one h u hu := by
    obtain ⟨v2, F2, v3, F3, rfl, rfl, h2, h3⟩ := h
    obtain ⟨A2, c2, rfl⟩ := h2.len
    obtain ⟨A3, c3, rfl⟩ := h3.len
    simp only [List.mem_cons, List.not_mem_nil, or_false] at hu
    rcases hu with rfl | rfl | rfl | rfl <;> rfl
def kModule : Kd PModule where
  sz := 1
  own x cs F := ∃ v0 F0, cs = [v0] ∧ F = F0 ∧ SlO 47 kFunc x.funcs v0 F0
  ro G x cs := ∃ v0, cs = [v0] ∧ SlI kFunc G x.funcs v0
  len h := by obtain ⟨v0, F0, rfl, rfl, h0⟩ := h; rfl
  lenR h := by obtain ⟨v0, rfl, h0⟩ := h; rfl
  weak h hs := by
    obtain ⟨v0, F0, rfl, rfl, h0⟩ := h
    exact ⟨v0, rfl, h0.ro.mono (fun p hp => hs p hp)⟩
  mono h hs := by
    obtain ⟨v0, rfl, h0⟩ := h
    exact ⟨v0, rfl, h0.mono hs⟩
  one h u hu := by
    obtain ⟨v0, F0, rfl, rfl, h0⟩ := h
    obtain ⟨A0, c0, rfl⟩ := h0.len
    simp only [List.mem_cons, List.not_mem_nil, or_false] at hu
    rcases hu with rfl <;> rfl
def kEffect : Kd PEffect where
  sz := 5
  own x cs F := cs = [.bool x.reads, .bool x.writes, .bool x.outs, .bool x.traps, .bool x.turns] ∧ F = []
  ro G x cs := cs = [.bool x.reads, .bool x.writes, .bool x.outs, .bool x.traps, .bool x.turns]
  len h := by obtain ⟨rfl, rfl⟩ := h; rfl
  lenR h := by obtain rfl := h; rfl
  weak h hs := by
    obtain ⟨rfl, rfl⟩ := h
    exact rfl
  mono h hs := by
    obtain rfl := h
    exact rfl
  one h u hu := by
    obtain ⟨rfl, rfl⟩ := h
    simp only [List.mem_cons, List.not_mem_nil, or_false] at hu
    rcases hu with rfl | rfl | rfl | rfl | rfl <;> rfl
def fEffect : Flat kEffect := ⟨fun x => [.bool x.reads, .bool x.writes, .bool x.outs, .bool x.traps, .bool x.turns], fun _ => ⟨rfl, rfl⟩, fun h => h⟩
def kLooker : Kd PLooker where
  sz := 5
  own x cs F := ∃ v0 F0 v3 F3 v4 F4, cs = [v0, .int .i64 x.f.params, .int .i64 x.f.result, v3, v4] ∧ F = F0 ++ (F3 ++ (F4)) ∧ SlO 47 kFunc x.m.funcs v0 F0 ∧ SlO 3 (kInt .i64) x.f.regs v3 F3 ∧ SlO 44 kBlock x.f.blocks v4 F4
  ro G x cs := ∃ v0 v3 v4, cs = [v0, .int .i64 x.f.params, .int .i64 x.f.result, v3, v4] ∧ SlI kFunc G x.m.funcs v0 ∧ SlI (kInt .i64) G x.f.regs v3 ∧ SlI kBlock G x.f.blocks v4
  len h := by obtain ⟨v0, F0, v3, F3, v4, F4, rfl, rfl, h0, h3, h4⟩ := h; rfl
  lenR h := by obtain ⟨v0, v3, v4, rfl, h0, h3, h4⟩ := h; rfl
  weak h hs := by
    obtain ⟨v0, F0, v3, F3, v4, F4, rfl, rfl, h0, h3, h4⟩ := h
    exact ⟨v0, v3, v4, rfl, h0.ro.mono (fun p hp => hs p (List.mem_append_left _ hp)), h3.ro.mono (fun p hp => hs p (List.mem_append_right _ (List.mem_append_left _ hp))), h4.ro.mono (fun p hp => hs p (List.mem_append_right _ (List.mem_append_right _ (hp))))⟩
  mono h hs := by
    obtain ⟨v0, v3, v4, rfl, h0, h3, h4⟩ := h
    exact ⟨v0, v3, v4, rfl, h0.mono hs, h3.mono hs, h4.mono hs⟩
  one h u hu := by
    obtain ⟨v0, F0, v3, F3, v4, F4, rfl, rfl, h0, h3, h4⟩ := h
    obtain ⟨A0, c0, rfl⟩ := h0.len
    obtain ⟨A3, c3, rfl⟩ := h3.len
    obtain ⟨A4, c4, rfl⟩ := h4.len
    simp only [List.mem_cons, List.not_mem_nil, or_false] at hu
    rcases hu with rfl | rfl | rfl | rfl | rfl <;> rfl
def kFinder : Kd PFinder where
  sz := 7
  own x cs F := ∃ v0 F0 v1 F1 v2 F2 v3 F3 v4 F4 v5 F5, cs = [v0, v1, v2, v3, v4, v5, .int .i64 x.counter] ∧ F = F0 ++ (F1 ++ (F2 ++ (F3 ++ (F4 ++ (F5))))) ∧ SlO 38 (kSl 3 (kInt .i64)) x.calls v0 F0 ∧ SlO 3 (kInt .i64) x.number v1 F1 ∧ SlO 3 (kInt .i64) x.low v2 F2 ∧ SlO 4 kBool x.on v3 F3 ∧ SlO 3 (kInt .i64) x.stack v4 F4 ∧ SlO 38 (kSl 3 (kInt .i64)) x.rings v5 F5
  ro G x cs := ∃ v0 v1 v2 v3 v4 v5, cs = [v0, v1, v2, v3, v4, v5, .int .i64 x.counter] ∧ SlI (kSl 3 (kInt .i64)) G x.calls v0 ∧ SlI (kInt .i64) G x.number v1 ∧ SlI (kInt .i64) G x.low v2 ∧ SlI kBool G x.on v3 ∧ SlI (kInt .i64) G x.stack v4 ∧ SlI (kSl 3 (kInt .i64)) G x.rings v5
  len h := by obtain ⟨v0, F0, v1, F1, v2, F2, v3, F3, v4, F4, v5, F5, rfl, rfl, h0, h1, h2, h3, h4, h5⟩ := h; rfl
  lenR h := by obtain ⟨v0, v1, v2, v3, v4, v5, rfl, h0, h1, h2, h3, h4, h5⟩ := h; rfl
  weak h hs := by
    obtain ⟨v0, F0, v1, F1, v2, F2, v3, F3, v4, F4, v5, F5, rfl, rfl, h0, h1, h2, h3, h4, h5⟩ := h
    exact ⟨v0, v1, v2, v3, v4, v5, rfl, h0.ro.mono (fun p hp => hs p (List.mem_append_left _ hp)), h1.ro.mono (fun p hp => hs p (List.mem_append_right _ (List.mem_append_left _ hp))), h2.ro.mono (fun p hp => hs p (List.mem_append_right _ (List.mem_append_right _ (List.mem_append_left _ hp)))), h3.ro.mono (fun p hp => hs p (List.mem_append_right _ (List.mem_append_right _ (List.mem_append_right _ (List.mem_append_left _ hp))))), h4.ro.mono (fun p hp => hs p (List.mem_append_right _ (List.mem_append_right _ (List.mem_append_right _ (List.mem_append_right _ (List.mem_append_left _ hp)))))), h5.ro.mono (fun p hp => hs p (List.mem_append_right _ (List.mem_append_right _ (List.mem_append_right _ (List.mem_append_right _ (List.mem_append_right _ (hp)))))))⟩
  mono h hs := by
    obtain ⟨v0, v1, v2, v3, v4, v5, rfl, h0, h1, h2, h3, h4, h5⟩ := h
    exact ⟨v0, v1, v2, v3, v4, v5, rfl, h0.mono hs, h1.mono hs, h2.mono hs, h3.mono hs, h4.mono hs, h5.mono hs⟩
  one h u hu := by
    obtain ⟨v0, F0, v1, F1, v2, F2, v3, F3, v4, F4, v5, F5, rfl, rfl, h0, h1, h2, h3, h4, h5⟩ := h
    obtain ⟨A0, c0, rfl⟩ := h0.len
    obtain ⟨A1, c1, rfl⟩ := h1.len
    obtain ⟨A2, c2, rfl⟩ := h2.len
    obtain ⟨A3, c3, rfl⟩ := h3.len
    obtain ⟨A4, c4, rfl⟩ := h4.len
    obtain ⟨A5, c5, rfl⟩ := h5.len
    simp only [List.mem_cons, List.not_mem_nil, or_false] at hu
    rcases hu with rfl | rfl | rfl | rfl | rfl | rfl | rfl <;> rfl
def kMethod : Kd PMethod where
  sz := 4
  own x cs F := cs = [.int .i32 x.name, .int .i32 x.mtyp, .int .i32 x.ifn, .int .i32 x.tfn] ∧ F = []
  ro G x cs := cs = [.int .i32 x.name, .int .i32 x.mtyp, .int .i32 x.ifn, .int .i32 x.tfn]
  len h := by obtain ⟨rfl, rfl⟩ := h; rfl
  lenR h := by obtain rfl := h; rfl
  weak h hs := by
    obtain ⟨rfl, rfl⟩ := h
    exact rfl
  mono h hs := by
    obtain rfl := h
    exact rfl
  one h u hu := by
    obtain ⟨rfl, rfl⟩ := h
    simp only [List.mem_cons, List.not_mem_nil, or_false] at hu
    rcases hu with rfl | rfl | rfl | rfl <;> rfl
def fMethod : Flat kMethod := ⟨fun x => [.int .i32 x.name, .int .i32 x.mtyp, .int .i32 x.ifn, .int .i32 x.tfn], fun _ => ⟨rfl, rfl⟩, fun h => h⟩
end Go.Proofs.YtpomfbdbkejedaaGreatDoor
