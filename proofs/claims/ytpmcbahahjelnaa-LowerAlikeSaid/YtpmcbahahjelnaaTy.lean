/- The program's data as plain values, and how they lie in memory. No conditions. -/
import Derived.Test.YtpmcbahahjelnaaFwP
set_option linter.unusedVariables false
set_option linter.unusedSimpArgs false
namespace Go.Proofs.Ytpmcbahahjelnaa
open Go
structure PBoundsError where
  x : Int
  y : Int
  signed : Bool
  code : Int
  deriving DecidableEq
def PBoundsError.zero : PBoundsError := ⟨0, 0, false, 0⟩
structure PPair where
  a : Int
  b : Int
  deriving DecidableEq
def PPair.zero : PPair := ⟨0, 0⟩
structure PPhi where
  dst : Int
  args : List Int
  deriving DecidableEq
def PPhi.zero : PPhi := ⟨0, []⟩
structure PInstr where
  op : Int
  dst : Int
  args : List Int
  imm : Int
  fn : Int
  deriving DecidableEq
def PInstr.zero : PInstr := ⟨0, 0, [], 0, 0⟩
structure PTerm where
  kind : Int
  arg : Int
  to : List Int
  deriving DecidableEq
def PTerm.zero : PTerm := ⟨0, 0, []⟩
structure PBlock where
  phis : List PPhi
  ins : List PInstr
  term : PTerm
  deriving DecidableEq
def PBlock.zero : PBlock := ⟨[], [], PTerm.zero⟩
structure PFunc where
  params : Int
  result : Int
  regs : List Int
  blocks : List PBlock
  deriving DecidableEq
def PFunc.zero : PFunc := ⟨0, 0, [], []⟩
structure PModule where
  funcs : List PFunc
  deriving DecidableEq
def PModule.zero : PModule := ⟨[]⟩
structure PKnown where
  kind : Int
  v : Int
  deriving DecidableEq
def PKnown.zero : PKnown := ⟨0, 0⟩
structure PLowerer where
  f : PFunc
  ahead : List (List Int)
  out : PFunc
  deriving DecidableEq
def PLowerer.zero : PLowerer := ⟨PFunc.zero, [], PFunc.zero⟩
structure PFinder where
  f : PFunc
  ahead : List (List Int)
  known : List PKnown
  entered : List Bool
  gone : List (List Bool)
  changed : Bool
  deriving DecidableEq
def PFinder.zero : PFinder := ⟨PFunc.zero, [], [], [], [], false⟩
structure PBuilder where
  f : PFunc
  in_ : List (List Bool)
  front : List (List Int)
  nearest : List Int
  phis : List (List Int)
  zeros : List Int
  regs : List Int
  phi : List (List Int)
  zero_ : List Int
  dst : List (List Int)
  begin : List (List Int)
  end_ : List (List Int)
  deriving DecidableEq
def PBuilder.zero : PBuilder := ⟨PFunc.zero, [], [], [], [], [], [], [], [], [], [], []⟩
structure PMaker where
  block : Int
  at_ : Int
  deriving DecidableEq
def PMaker.zero : PMaker := ⟨0, 0⟩
structure PProperLooker where
  f : PFunc
  makers : List PMaker
  over : List (List Bool)
  lowest : Int
  deriving DecidableEq
def PProperLooker.zero : PProperLooker := ⟨PFunc.zero, [], [], 0⟩
structure PLooker where
  m : PModule
  f : PFunc
  deriving DecidableEq
def PLooker.zero : PLooker := ⟨PModule.zero, PFunc.zero⟩
def kBoundsError : Kd PBoundsError where
  sz := 4
  own x cs F := cs = [.int .i64 x.x, .int .i64 x.y, .bool x.signed, .int .u8 x.code] ∧ F = []
  ro G x cs := cs = [.int .i64 x.x, .int .i64 x.y, .bool x.signed, .int .u8 x.code]
  len h := by obtain ⟨rfl, rfl⟩ := h; rfl
  lenR h := by obtain rfl := h; rfl
  weak h hs := by
    obtain ⟨rfl, rfl⟩ := h
    exact rfl
  mono h hs := by
    obtain rfl := h
    exact rfl
  one h u hu := by
    obtain ⟨rfl, rfl⟩ := h
    simp only [List.mem_cons, List.not_mem_nil, or_false] at hu
    rcases hu with rfl | rfl | rfl | rfl <;> rfl
def fBoundsError : Flat kBoundsError := ⟨fun x => [.int .i64 x.x, .int .i64 x.y, .bool x.signed, .int .u8 x.code], fun _ => ⟨rfl, rfl⟩, fun h => h⟩
def kPair : Kd PPair where
  sz := 2
  own x cs F := cs = [.int .i64 x.a, .int .i64 x.b] ∧ F = []
  ro G x cs := cs = [.int .i64 x.a, .int .i64 x.b]
  len h := by obtain ⟨rfl, rfl⟩ := h; rfl
  lenR h := by obtain rfl := h; rfl
  weak h hs := by
    obtain ⟨rfl, rfl⟩ := h
    exact rfl
  mono h hs := by
    obtain rfl := h
    exact rfl
  one h u hu := by
    obtain ⟨rfl, rfl⟩ := h
    simp only [List.mem_cons, List.not_mem_nil, or_false] at hu
    rcases hu with rfl | rfl <;> rfl
def fPair : Flat kPair := ⟨fun x => [.int .i64 x.a, .int .i64 x.b], fun _ => ⟨rfl, rfl⟩, fun h => h⟩
def kPhi : Kd PPhi where
  sz := 2
  own x cs F := ∃ v1 F1, cs = [.int .i64 x.dst, v1] ∧ F = F1 ∧ SlO 3 (kInt .i64) x.args v1 F1
  ro G x cs := ∃ v1, cs = [.int .i64 x.dst, v1] ∧ SlI (kInt .i64) G x.args v1
  len h := by obtain ⟨v1, F1, rfl, rfl, h1⟩ := h; rfl
  lenR h := by obtain ⟨v1, rfl, h1⟩ := h; rfl
  weak h hs := by
    obtain ⟨v1, F1, rfl, rfl, h1⟩ := h
    exact ⟨v1, rfl, h1.ro.mono (fun p hp => hs p hp)⟩
  mono h hs := by
    obtain ⟨v1, rfl, h1⟩ := h
    exact ⟨v1, rfl, h1.mono hs⟩
  one h u hu := by
    obtain ⟨v1, F1, rfl, rfl, h1⟩ := h
    obtain ⟨A1, c1, rfl⟩ := h1.len
    simp only [List.mem_cons, List.not_mem_nil, or_false] at hu
    rcases hu with rfl | rfl <;> rfl
def kInstr : Kd PInstr where
  sz := 5
  own x cs F := ∃ v2 F2, cs = [.int .i64 x.op, .int .i64 x.dst, v2, .int .i64 x.imm, .int .i64 x.fn] ∧ F = F2 ∧ SlO 3 (kInt .i64) x.args v2 F2
  ro G x cs := ∃ v2, cs = [.int .i64 x.op, .int .i64 x.dst, v2, .int .i64 x.imm, .int .i64 x.fn] ∧ SlI (kInt .i64) G x.args v2
  len h := by obtain ⟨v2, F2, rfl, rfl, h2⟩ := h; rfl
  lenR h := by obtain ⟨v2, rfl, h2⟩ := h; rfl
  weak h hs := by
    obtain ⟨v2, F2, rfl, rfl, h2⟩ := h
    exact ⟨v2, rfl, h2.ro.mono (fun p hp => hs p hp)⟩
  mono h hs := by
    obtain ⟨v2, rfl, h2⟩ := h
    exact ⟨v2, rfl, h2.mono hs⟩
  one h u hu := by
    obtain ⟨v2, F2, rfl, rfl, h2⟩ := h
    obtain ⟨A2, c2, rfl⟩ := h2.len
    simp only [List.mem_cons, List.not_mem_nil, or_false] at hu
    rcases hu with rfl | rfl | rfl | rfl | rfl <;> rfl
def kTerm : Kd PTerm where
  sz := 3
  own x cs F := ∃ v2 F2, cs = [.int .i64 x.kind, .int .i64 x.arg, v2] ∧ F = F2 ∧ SlO 3 (kInt .i64) x.to v2 F2
  ro G x cs := ∃ v2, cs = [.int .i64 x.kind, .int .i64 x.arg, v2] ∧ SlI (kInt .i64) G x.to v2
  len h := by obtain ⟨v2, F2, rfl, rfl, h2⟩ := h; rfl
  lenR h := by obtain ⟨v2, rfl, h2⟩ := h; rfl
  weak h hs := by
    obtain ⟨v2, F2, rfl, rfl, h2⟩ := h
    exact ⟨v2, rfl, h2.ro.mono (fun p hp => hs p hp)⟩
  mono h hs := by
    obtain ⟨v2, rfl, h2⟩ := h
    exact ⟨v2, rfl, h2.mono hs⟩
  one h u hu := by
    obtain ⟨v2, F2, rfl, rfl, h2⟩ := h
    obtain ⟨A2, c2, rfl⟩ := h2.len
    simp only [List.mem_cons, List.not_mem_nil, or_false] at hu
    rcases hu with rfl | rfl | rfl <;> rfl
def kBlock : Kd PBlock where
  sz := 5
  own x cs F := ∃ v0 F0 v1 F1 v4 F4, cs = [v0, v1, .int .i64 x.term.kind, .int .i64 x.term.arg, v4] ∧ F = F0 ++ (F1 ++ (F4)) ∧ SlO 70 kPhi x.phis v0 F0 ∧ SlO 52 kInstr x.ins v1 F1 ∧ SlO 3 (kInt .i64) x.term.to v4 F4
  ro G x cs := ∃ v0 v1 v4, cs = [v0, v1, .int .i64 x.term.kind, .int .i64 x.term.arg, v4] ∧ SlI kPhi G x.phis v0 ∧ SlI kInstr G x.ins v1 ∧ SlI (kInt .i64) G x.term.to v4
  len h := by obtain ⟨v0, F0, v1, F1, v4, F4, rfl, rfl, h0, h1, h4⟩ := h; rfl
  lenR h := by obtain ⟨v0, v1, v4, rfl, h0, h1, h4⟩ := h; rfl
  weak h hs := by
    obtain ⟨v0, F0, v1, F1, v4, F4, rfl, rfl, h0, h1, h4⟩ := h
    exact ⟨v0, v1, v4, rfl, h0.ro.mono (fun p hp => hs p (List.mem_append_left _ hp)), h1.ro.mono (fun p hp => hs p (List.mem_append_right _ (List.mem_append_left _ hp))), h4.ro.mono (fun p hp => hs p (List.mem_append_right _ (List.mem_append_right _ (hp))))⟩
  mono h hs := by
    obtain ⟨v0, v1, v4, rfl, h0, h1, h4⟩ := h
    exact ⟨v0, v1, v4, rfl, h0.mono hs, h1.mono hs, h4.mono hs⟩
  one h u hu := by
    obtain ⟨v0, F0, v1, F1, v4, F4, rfl, rfl, h0, h1, h4⟩ := h
    obtain ⟨A0, c0, rfl⟩ := h0.len
    obtain ⟨A1, c1, rfl⟩ := h1.len
    obtain ⟨A4, c4, rfl⟩ := h4.len
    simp only [List.mem_cons, List.not_mem_nil, or_false] at hu
    rcases hu with rfl | rfl | rfl | rfl | rfl <;> rfl
def kFunc : Kd PFunc where
  sz := 4
  own x cs F := ∃ v2 F2 v3 F3, cs = [.int .i64 x.params, .int .i64 x.result, v2, v3] ∧ F = F2 ++ (F3) ∧ SlO 3 (kInt .i64) x.regs v2 F2 ∧ SlO 50 kBlock x.blocks v3 F3
  ro G x cs := ∃ v2 v3, cs = [.int .i64 x.params, .int .i64 x.result, v2, v3] ∧ SlI (kInt .i64) G x.regs v2 ∧ SlI kBlock G x.blocks v3
  len h := by obtain ⟨v2, F2, v3, F3, rfl, rfl, h2, h3⟩ := h; rfl
  lenR h := by obtain ⟨v2, v3, rfl, h2, h3⟩ := h; rfl
  weak h hs := by
    obtain ⟨v2, F2, v3, F3, rfl, rfl, h2, h3⟩ := h
    exact ⟨v2, v3, rfl, h2.ro.mono (fun p hp => hs p (List.mem_append_left _ hp)), h3.ro.mono (fun p hp => hs p (List.mem_append_right _ (hp)))⟩
  mono h hs := by
    obtain ⟨v2, v3, rfl, h2, h3⟩ := h
    exact ⟨v2, v3, rfl, h2.mono hs, h3.mono hs⟩
  one h u hu := by
    obtain ⟨v2, F2, v3, F3, rfl, rfl, h2, h3⟩ := h
    obtain ⟨A2, c2, rfl⟩ := h2.len
    obtain ⟨A3, c3, rfl⟩ := h3.len
    simp only [List.mem_cons, List.not_mem_nil, or_false] at hu
    rcases hu with rfl | rfl | rfl | rfl <;> rfl
def kModule : Kd PModule where
  sz := 1
  own x cs F := ∃ v0 F0, cs = [v0] ∧ F = F0 ∧ SlO 41 kFunc x.funcs v0 F0
  ro G x cs := ∃ v0, cs = [v0] ∧ SlI kFunc G x.funcs v0
  len h := by obtain ⟨v0, F0, rfl, rfl, h0⟩ := h; rfl
  lenR h := by obtain ⟨v0, rfl, h0⟩ := h; rfl
  weak h hs := by
    obtain ⟨v0, F0, rfl, rfl, h0⟩ := h
    exact ⟨v0, rfl, h0.ro.mono (fun p hp => hs p hp)⟩
  mono h hs := by
    obtain ⟨v0, rfl, h0⟩ := h
    exact ⟨v0, rfl, h0.mono hs⟩
  one h u hu := by
    obtain ⟨v0, F0, rfl, rfl, h0⟩ := h
    obtain ⟨A0, c0, rfl⟩ := h0.len
    simp only [List.mem_cons, List.not_mem_nil, or_false] at hu
    rcases hu with rfl <;> rfl
def kKnown : Kd PKnown where
  sz := 2
  own x cs F := cs = [.int .i64 x.kind, .int .i64 x.v] ∧ F = []
  ro G x cs := cs = [.int .i64 x.kind, .int .i64 x.v]
  len h := by obtain ⟨rfl, rfl⟩ := h; rfl
  lenR h := by obtain rfl := h; rfl
  weak h hs := by
    obtain ⟨rfl, rfl⟩ := h
    exact rfl
  mono h hs := by
    obtain rfl := h
    exact rfl
  one h u hu := by
    obtain ⟨rfl, rfl⟩ := h
    simp only [List.mem_cons, List.not_mem_nil, or_false] at hu
    rcases hu with rfl | rfl <;> rfl
def fKnown : Flat kKnown := ⟨fun x => [.int .i64 x.kind, .int .i64 x.v], fun _ => ⟨rfl, rfl⟩, fun h => h⟩
def kLowerer : Kd PLowerer where
  sz := 9
  own x cs F := ∃ v2 F2 v3 F3 v4 F4 v7 F7 v8 F8, cs = [.int .i64 x.f.params, .int .i64 x.f.result, v2, v3, v4, .int .i64 x.out.params, .int .i64 x.out.result, v7, v8] ∧ F = F2 ++ (F3 ++ (F4 ++ (F7 ++ (F8)))) ∧ SlO 3 (kInt .i64) x.f.regs v2 F2 ∧ SlO 50 kBlock x.f.blocks v3 F3 ∧ SlO 25 (kSl 3 (kInt .i64)) x.ahead v4 F4 ∧ SlO 3 (kInt .i64) x.out.regs v7 F7 ∧ SlO 50 kBlock x.out.blocks v8 F8
  ro G x cs := ∃ v2 v3 v4 v7 v8, cs = [.int .i64 x.f.params, .int .i64 x.f.result, v2, v3, v4, .int .i64 x.out.params, .int .i64 x.out.result, v7, v8] ∧ SlI (kInt .i64) G x.f.regs v2 ∧ SlI kBlock G x.f.blocks v3 ∧ SlI (kSl 3 (kInt .i64)) G x.ahead v4 ∧ SlI (kInt .i64) G x.out.regs v7 ∧ SlI kBlock G x.out.blocks v8
  len h := by obtain ⟨v2, F2, v3, F3, v4, F4, v7, F7, v8, F8, rfl, rfl, h2, h3, h4, h7, h8⟩ := h; rfl
  lenR h := by obtain ⟨v2, v3, v4, v7, v8, rfl, h2, h3, h4, h7, h8⟩ := h; rfl
  weak h hs := by
    obtain ⟨v2, F2, v3, F3, v4, F4, v7, F7, v8, F8, rfl, rfl, h2, h3, h4, h7, h8⟩ := h
    exact ⟨v2, v3, v4, v7, v8, rfl, h2.ro.mono (fun p hp => hs p (List.mem_append_left _ hp)), h3.ro.mono (fun p hp => hs p (List.mem_append_right _ (List.mem_append_left _ hp))), h4.ro.mono (fun p hp => hs p (List.mem_append_right _ (List.mem_append_right _ (List.mem_append_left _ hp)))), h7.ro.mono (fun p hp => hs p (List.mem_append_right _ (List.mem_append_right _ (List.mem_append_right _ (List.mem_append_left _ hp))))), h8.ro.mono (fun p hp => hs p (List.mem_append_right _ (List.mem_append_right _ (List.mem_append_right _ (List.mem_append_right _ (hp))))))⟩
  mono h hs := by
    obtain ⟨v2, v3, v4, v7, v8, rfl, h2, h3, h4, h7, h8⟩ := h
    exact ⟨v2, v3, v4, v7, v8, rfl, h2.mono hs, h3.mono hs, h4.mono hs, h7.mono hs, h8.mono hs⟩
  one h u hu := by
    obtain ⟨v2, F2, v3, F3, v4, F4, v7, F7, v8, F8, rfl, rfl, h2, h3, h4, h7, h8⟩ := h
    obtain ⟨A2, c2, rfl⟩ := h2.len
    obtain ⟨A3, c3, rfl⟩ := h3.len
    obtain ⟨A4, c4, rfl⟩ := h4.len
    obtain ⟨A7, c7, rfl⟩ := h7.len
    obtain ⟨A8, c8, rfl⟩ := h8.len
    simp only [List.mem_cons, List.not_mem_nil, or_false] at hu
    rcases hu with rfl | rfl | rfl | rfl | rfl | rfl | rfl | rfl | rfl <;> rfl
def kFinder : Kd PFinder where
  sz := 9
  own x cs F := ∃ v2 F2 v3 F3 v4 F4 v5 F5 v6 F6 v7 F7, cs = [.int .i64 x.f.params, .int .i64 x.f.result, v2, v3, v4, v5, v6, v7, .bool x.changed] ∧ F = F2 ++ (F3 ++ (F4 ++ (F5 ++ (F6 ++ (F7))))) ∧ SlO 3 (kInt .i64) x.f.regs v2 F2 ∧ SlO 50 kBlock x.f.blocks v3 F3 ∧ SlO 25 (kSl 3 (kInt .i64)) x.ahead v4 F4 ∧ SlO 62 kKnown x.known v5 F5 ∧ SlO 4 kBool x.entered v6 F6 ∧ SlO 58 (kSl 4 kBool) x.gone v7 F7
  ro G x cs := ∃ v2 v3 v4 v5 v6 v7, cs = [.int .i64 x.f.params, .int .i64 x.f.result, v2, v3, v4, v5, v6, v7, .bool x.changed] ∧ SlI (kInt .i64) G x.f.regs v2 ∧ SlI kBlock G x.f.blocks v3 ∧ SlI (kSl 3 (kInt .i64)) G x.ahead v4 ∧ SlI kKnown G x.known v5 ∧ SlI kBool G x.entered v6 ∧ SlI (kSl 4 kBool) G x.gone v7
  len h := by obtain ⟨v2, F2, v3, F3, v4, F4, v5, F5, v6, F6, v7, F7, rfl, rfl, h2, h3, h4, h5, h6, h7⟩ := h; rfl
  lenR h := by obtain ⟨v2, v3, v4, v5, v6, v7, rfl, h2, h3, h4, h5, h6, h7⟩ := h; rfl
  weak h hs := by
    obtain ⟨v2, F2, v3, F3, v4, F4, v5, F5, v6, F6, v7, F7, rfl, rfl, h2, h3, h4, h5, h6, h7⟩ := h
    exact ⟨v2, v3, v4, v5, v6, v7, rfl, h2.ro.mono (fun p hp => hs p (List.mem_append_left _ hp)), h3.ro.mono (fun p hp => hs p (List.mem_append_right _ (List.mem_append_left _ hp))), h4.ro.mono (fun p hp => hs p (List.mem_append_right _ (List.mem_append_right _ (List.mem_append_left _ hp)))), h5.ro.mono (fun p hp => hs p (List.mem_append_right _ (List.mem_append_right _ (List.mem_append_right _ (List.mem_append_left _ hp))))), h6.ro.mono (fun p hp => hs p (List.mem_append_right _ (List.mem_append_right _ (List.mem_append_right _ (List.mem_append_right _ (List.mem_append_left _ hp)))))), h7.ro.mono (fun p hp => hs p (List.mem_append_right _ (List.mem_append_right _ (List.mem_append_right _ (List.mem_append_right _ (List.mem_append_right _ (hp)))))))⟩
  mono h hs := by
    obtain ⟨v2, v3, v4, v5, v6, v7, rfl, h2, h3, h4, h5, h6, h7⟩ := h
    exact ⟨v2, v3, v4, v5, v6, v7, rfl, h2.mono hs, h3.mono hs, h4.mono hs, h5.mono hs, h6.mono hs, h7.mono hs⟩
  one h u hu := by
    obtain ⟨v2, F2, v3, F3, v4, F4, v5, F5, v6, F6, v7, F7, rfl, rfl, h2, h3, h4, h5, h6, h7⟩ := h
    obtain ⟨A2, c2, rfl⟩ := h2.len
    obtain ⟨A3, c3, rfl⟩ := h3.len
    obtain ⟨A4, c4, rfl⟩ := h4.len
    obtain ⟨A5, c5, rfl⟩ := h5.len
    obtain ⟨A6, c6, rfl⟩ := h6.len
    obtain ⟨A7, c7, rfl⟩ := h7.len
    simp only [List.mem_cons, List.not_mem_nil, or_false] at hu
    rcases hu with rfl | rfl | rfl | rfl | rfl | rfl | rfl | rfl | rfl <;> rfl
def kBuilder : Kd PBuilder where
  sz := 15
  own x cs F := ∃ v2 F2 v3 F3 v4 F4 v5 F5 v6 F6 v7 F7 v8 F8 v9 F9 v10 F10 v11 F11 v12 F12 v13 F13 v14 F14, cs = [.int .i64 x.f.params, .int .i64 x.f.result, v2, v3, v4, v5, v6, v7, v8, v9, v10, v11, v12, v13, v14] ∧ F = F2 ++ (F3 ++ (F4 ++ (F5 ++ (F6 ++ (F7 ++ (F8 ++ (F9 ++ (F10 ++ (F11 ++ (F12 ++ (F13 ++ (F14)))))))))))) ∧ SlO 3 (kInt .i64) x.f.regs v2 F2 ∧ SlO 50 kBlock x.f.blocks v3 F3 ∧ SlO 58 (kSl 4 kBool) x.in_ v4 F4 ∧ SlO 25 (kSl 3 (kInt .i64)) x.front v5 F5 ∧ SlO 3 (kInt .i64) x.nearest v6 F6 ∧ SlO 25 (kSl 3 (kInt .i64)) x.phis v7 F7 ∧ SlO 3 (kInt .i64) x.zeros v8 F8 ∧ SlO 3 (kInt .i64) x.regs v9 F9 ∧ SlO 25 (kSl 3 (kInt .i64)) x.phi v10 F10 ∧ SlO 3 (kInt .i64) x.zero_ v11 F11 ∧ SlO 25 (kSl 3 (kInt .i64)) x.dst v12 F12 ∧ SlO 25 (kSl 3 (kInt .i64)) x.begin v13 F13 ∧ SlO 25 (kSl 3 (kInt .i64)) x.end_ v14 F14
  ro G x cs := ∃ v2 v3 v4 v5 v6 v7 v8 v9 v10 v11 v12 v13 v14, cs = [.int .i64 x.f.params, .int .i64 x.f.result, v2, v3, v4, v5, v6, v7, v8, v9, v10, v11, v12, v13, v14] ∧ SlI (kInt .i64) G x.f.regs v2 ∧ SlI kBlock G x.f.blocks v3 ∧ SlI (kSl 4 kBool) G x.in_ v4 ∧ SlI (kSl 3 (kInt .i64)) G x.front v5 ∧ SlI (kInt .i64) G x.nearest v6 ∧ SlI (kSl 3 (kInt .i64)) G x.phis v7 ∧ SlI (kInt .i64) G x.zeros v8 ∧ SlI (kInt .i64) G x.regs v9 ∧ SlI (kSl 3 (kInt .i64)) G x.phi v10 ∧ SlI (kInt .i64) G x.zero_ v11 ∧ SlI (kSl 3 (kInt .i64)) G x.dst v12 ∧ SlI (kSl 3 (kInt .i64)) G x.begin v13 ∧ SlI (kSl 3 (kInt .i64)) G x.end_ v14
  len h := by obtain ⟨v2, F2, v3, F3, v4, F4, v5, F5, v6, F6, v7, F7, v8, F8, v9, F9, v10, F10, v11, F11, v12, F12, v13, F13, v14, F14, rfl, rfl, h2, h3, h4, h5, h6, h7, h8, h9, h10, h11, h12, h13, h14⟩ := h; rfl
  lenR h := by obtain ⟨v2, v3, v4, v5, v6, v7, v8, v9, v10, v11, v12, v13, v14, rfl, h2, h3, h4, h5, h6, h7, h8, h9, h10, h11, h12, h13, h14⟩ := h; rfl
  weak h hs := by
    obtain ⟨v2, F2, v3, F3, v4, F4, v5, F5, v6, F6, v7, F7, v8, F8, v9, F9, v10, F10, v11, F11, v12, F12, v13, F13, v14, F14, rfl, rfl, h2, h3, h4, h5, h6, h7, h8, h9, h10, h11, h12, h13, h14⟩ := h
    exact ⟨v2, v3, v4, v5, v6, v7, v8, v9, v10, v11, v12, v13, v14, rfl, h2.ro.mono (fun p hp => hs p (List.mem_append_left _ hp)), h3.ro.mono (fun p hp => hs p (List.mem_append_right _ (List.mem_append_left _ hp))), h4.ro.mono (fun p hp => hs p (List.mem_append_right _ (List.mem_append_right _ (List.mem_append_left _ hp)))), h5.ro.mono (fun p hp => hs p (List.mem_append_right _ (List.mem_append_right _ (List.mem_append_right _ (List.mem_append_left _ hp))))), h6.ro.mono (fun p hp => hs p (List.mem_append_right _ (List.mem_append_right _ (List.mem_append_right _ (List.mem_append_right _ (List.mem_append_left _ hp)))))), h7.ro.mono (fun p hp => hs p (List.mem_append_right _ (List.mem_append_right _ (List.mem_append_right _ (List.mem_append_right _ (List.mem_append_right _ (List.mem_append_left _ hp))))))), h8.ro.mono (fun p hp => hs p (List.mem_append_right _ (List.mem_append_right _ (List.mem_append_right _ (List.mem_append_right _ (List.mem_append_right _ (List.mem_append_right _ (List.mem_append_left _ hp)))))))), h9.ro.mono (fun p hp => hs p (List.mem_append_right _ (List.mem_append_right _ (List.mem_append_right _ (List.mem_append_right _ (List.mem_append_right _ (List.mem_append_right _ (List.mem_append_right _ (List.mem_append_left _ hp))))))))), h10.ro.mono (fun p hp => hs p (List.mem_append_right _ (List.mem_append_right _ (List.mem_append_right _ (List.mem_append_right _ (List.mem_append_right _ (List.mem_append_right _ (List.mem_append_right _ (List.mem_append_right _ (List.mem_append_left _ hp)))))))))), h11.ro.mono (fun p hp => hs p (List.mem_append_right _ (List.mem_append_right _ (List.mem_append_right _ (List.mem_append_right _ (List.mem_append_right _ (List.mem_append_right _ (List.mem_append_right _ (List.mem_append_right _ (List.mem_append_right _ (List.mem_append_left _ hp))))))))))), h12.ro.mono (fun p hp => hs p (List.mem_append_right _ (List.mem_append_right _ (List.mem_append_right _ (List.mem_append_right _ (List.mem_append_right _ (List.mem_append_right _ (List.mem_append_right _ (List.mem_append_right _ (List.mem_append_right _ (List.mem_append_right _ (List.mem_append_left _ hp)))))))))))), h13.ro.mono (fun p hp => hs p (List.mem_append_right _ (List.mem_append_right _ (List.mem_append_right _ (List.mem_append_right _ (List.mem_append_right _ (List.mem_append_right _ (List.mem_append_right _ (List.mem_append_right _ (List.mem_append_right _ (List.mem_append_right _ (List.mem_append_right _ (List.mem_append_left _ hp))))))))))))), h14.ro.mono (fun p hp => hs p (List.mem_append_right _ (List.mem_append_right _ (List.mem_append_right _ (List.mem_append_right _ (List.mem_append_right _ (List.mem_append_right _ (List.mem_append_right _ (List.mem_append_right _ (List.mem_append_right _ (List.mem_append_right _ (List.mem_append_right _ (List.mem_append_right _ (hp))))))))))))))⟩
  mono h hs := by
    obtain ⟨v2, v3, v4, v5, v6, v7, v8, v9, v10, v11, v12, v13, v14, rfl, h2, h3, h4, h5, h6, h7, h8, h9, h10, h11, h12, h13, h14⟩ := h
    exact ⟨v2, v3, v4, v5, v6, v7, v8, v9, v10, v11, v12, v13, v14, rfl, h2.mono hs, h3.mono hs, h4.mono hs, h5.mono hs, h6.mono hs, h7.mono hs, h8.mono hs, h9.mono hs, h10.mono hs, h11.mono hs, h12.mono hs, h13.mono hs, h14.mono hs⟩
  one h u hu := by
    obtain ⟨v2, F2, v3, F3, v4, F4, v5, F5, v6, F6, v7, F7, v8, F8, v9, F9, v10, F10, v11, F11, v12, F12, v13, F13, v14, F14, rfl, rfl, h2, h3, h4, h5, h6, h7, h8, h9, h10, h11, h12, h13, h14⟩ := h
    obtain ⟨A2, c2, rfl⟩ := h2.len
    obtain ⟨A3, c3, rfl⟩ := h3.len
    obtain ⟨A4, c4, rfl⟩ := h4.len
    obtain ⟨A5, c5, rfl⟩ := h5.len
    obtain ⟨A6, c6, rfl⟩ := h6.len
    obtain ⟨A7, c7, rfl⟩ := h7.len
    obtain ⟨A8, c8, rfl⟩ := h8.len
    obtain ⟨A9, c9, rfl⟩ := h9.len
    obtain ⟨A10, c10, rfl⟩ := h10.len
    obtain ⟨A11, c11, rfl⟩ := h11.len
    obtain ⟨A12, c12, rfl⟩ := h12.len
    obtain ⟨A13, c13, rfl⟩ := h13.len
    obtain ⟨A14, c14, rfl⟩ := h14.len
    simp only [List.mem_cons, List.not_mem_nil, or_false] at hu
    rcases hu with rfl | rfl | rfl | rfl | rfl | rfl | rfl | rfl | rfl | rfl | rfl | rfl | rfl | rfl | rfl <;> rfl
def kMaker : Kd PMaker where
  sz := 2
  own x cs F := cs = [.int .i64 x.block, .int .i64 x.at_] ∧ F = []
  ro G x cs := cs = [.int .i64 x.block, .int .i64 x.at_]
  len h := by obtain ⟨rfl, rfl⟩ := h; rfl
  lenR h := by obtain rfl := h; rfl
  weak h hs := by
    obtain ⟨rfl, rfl⟩ := h
    exact rfl
  mono h hs := by
    obtain rfl := h
    exact rfl
  one h u hu := by
    obtain ⟨rfl, rfl⟩ := h
    simp only [List.mem_cons, List.not_mem_nil, or_false] at hu
    rcases hu with rfl | rfl <;> rfl
def fMaker : Flat kMaker := ⟨fun x => [.int .i64 x.block, .int .i64 x.at_], fun _ => ⟨rfl, rfl⟩, fun h => h⟩
def kProperLooker : Kd PProperLooker where
  sz := 7
  own x cs F := ∃ v2 F2 v3 F3 v4 F4 v5 F5, cs = [.int .i64 x.f.params, .int .i64 x.f.result, v2, v3, v4, v5, .int .i64 x.lowest] ∧ F = F2 ++ (F3 ++ (F4 ++ (F5))) ∧ SlO 3 (kInt .i64) x.f.regs v2 F2 ∧ SlO 50 kBlock x.f.blocks v3 F3 ∧ SlO 133 kMaker x.makers v4 F4 ∧ SlO 58 (kSl 4 kBool) x.over v5 F5
  ro G x cs := ∃ v2 v3 v4 v5, cs = [.int .i64 x.f.params, .int .i64 x.f.result, v2, v3, v4, v5, .int .i64 x.lowest] ∧ SlI (kInt .i64) G x.f.regs v2 ∧ SlI kBlock G x.f.blocks v3 ∧ SlI kMaker G x.makers v4 ∧ SlI (kSl 4 kBool) G x.over v5
  len h := by obtain ⟨v2, F2, v3, F3, v4, F4, v5, F5, rfl, rfl, h2, h3, h4, h5⟩ := h; rfl
  lenR h := by obtain ⟨v2, v3, v4, v5, rfl, h2, h3, h4, h5⟩ := h; rfl
  weak h hs := by
    obtain ⟨v2, F2, v3, F3, v4, F4, v5, F5, rfl, rfl, h2, h3, h4, h5⟩ := h
    exact ⟨v2, v3, v4, v5, rfl, h2.ro.mono (fun p hp => hs p (List.mem_append_left _ hp)), h3.ro.mono (fun p hp => hs p (List.mem_append_right _ (List.mem_append_left _ hp))), h4.ro.mono (fun p hp => hs p (List.mem_append_right _ (List.mem_append_right _ (List.mem_append_left _ hp)))), h5.ro.mono (fun p hp => hs p (List.mem_append_right _ (List.mem_append_right _ (List.mem_append_right _ (hp)))))⟩
  mono h hs := by
    obtain ⟨v2, v3, v4, v5, rfl, h2, h3, h4, h5⟩ := h
    exact ⟨v2, v3, v4, v5, rfl, h2.mono hs, h3.mono hs, h4.mono hs, h5.mono hs⟩
  one h u hu := by
    obtain ⟨v2, F2, v3, F3, v4, F4, v5, F5, rfl, rfl, h2, h3, h4, h5⟩ := h
    obtain ⟨A2, c2, rfl⟩ := h2.len
    obtain ⟨A3, c3, rfl⟩ := h3.len
    obtain ⟨A4, c4, rfl⟩ := h4.len
    obtain ⟨A5, c5, rfl⟩ := h5.len
    simp only [List.mem_cons, List.not_mem_nil, or_false] at hu
    rcases hu with rfl | rfl | rfl | rfl | rfl | rfl | rfl <;> rfl
def kLooker : Kd PLooker where
  sz := 5
  own x cs F := ∃ v0 F0 v3 F3 v4 F4, cs = [v0, .int .i64 x.f.params, .int .i64 x.f.result, v3, v4] ∧ F = F0 ++ (F3 ++ (F4)) ∧ SlO 41 kFunc x.m.funcs v0 F0 ∧ SlO 3 (kInt .i64) x.f.regs v3 F3 ∧ SlO 50 kBlock x.f.blocks v4 F4
  ro G x cs := ∃ v0 v3 v4, cs = [v0, .int .i64 x.f.params, .int .i64 x.f.result, v3, v4] ∧ SlI kFunc G x.m.funcs v0 ∧ SlI (kInt .i64) G x.f.regs v3 ∧ SlI kBlock G x.f.blocks v4
  len h := by obtain ⟨v0, F0, v3, F3, v4, F4, rfl, rfl, h0, h3, h4⟩ := h; rfl
  lenR h := by obtain ⟨v0, v3, v4, rfl, h0, h3, h4⟩ := h; rfl
  weak h hs := by
    obtain ⟨v0, F0, v3, F3, v4, F4, rfl, rfl, h0, h3, h4⟩ := h
    exact ⟨v0, v3, v4, rfl, h0.ro.mono (fun p hp => hs p (List.mem_append_left _ hp)), h3.ro.mono (fun p hp => hs p (List.mem_append_right _ (List.mem_append_left _ hp))), h4.ro.mono (fun p hp => hs p (List.mem_append_right _ (List.mem_append_right _ (hp))))⟩
  mono h hs := by
    obtain ⟨v0, v3, v4, rfl, h0, h3, h4⟩ := h
    exact ⟨v0, v3, v4, rfl, h0.mono hs, h3.mono hs, h4.mono hs⟩
  one h u hu := by
    obtain ⟨v0, F0, v3, F3, v4, F4, rfl, rfl, h0, h3, h4⟩ := h
    obtain ⟨A0, c0, rfl⟩ := h0.len
    obtain ⟨A3, c3, rfl⟩ := h3.len
    obtain ⟨A4, c4, rfl⟩ := h4.len
    simp only [List.mem_cons, List.not_mem_nil, or_false] at hu
    rcases hu with rfl | rfl | rfl | rfl | rfl <;> rfl
end Go.Proofs.Ytpmcbahahjelnaa
