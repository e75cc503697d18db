/- The program's data as plain values, and how they lie in memory. No conditions. -/
import Derived.Test.YtoflleabpkgdpaaFwY
set_option linter.unusedVariables false
set_option linter.unusedSimpArgs false
namespace Go.Proofs.Ytoflleabpkgdpaa
open Go
structure PBoundsError where
  x : Int
  y : Int
  signed : Bool
  code : Int
  deriving DecidableEq
def PBoundsError.zero : PBoundsError := ⟨0, 0, false, 0⟩
structure PPhi where
  dst : Int
  args : List Int
  deriving DecidableEq
def PPhi.zero : PPhi := ⟨0, []⟩
structure PInstr where
  op : Int
  dst : Int
  args : List Int
  imm : Int
  fn : Int
  deriving DecidableEq
def PInstr.zero : PInstr := ⟨0, 0, [], 0, 0⟩
structure PTerm where
  kind : Int
  arg : Int
  to : List Int
  deriving DecidableEq
def PTerm.zero : PTerm := ⟨0, 0, []⟩
structure PBlock where
  phis : List PPhi
  ins : List PInstr
  term : PTerm
  deriving DecidableEq
def PBlock.zero : PBlock := ⟨[], [], PTerm.zero⟩
structure PFunc where
  params : Int
  result : Int
  regs : List Int
  blocks : List PBlock
  deriving DecidableEq
def PFunc.zero : PFunc := ⟨0, 0, [], []⟩
structure PDeed where
  what : Int
  v : Int
  n : Int
  deriving DecidableEq
def PDeed.zero : PDeed := ⟨0, 0, 0⟩
structure PUnder where
  o : Option Nat
  kind : Int
  deriving DecidableEq
def PUnder.zero : PUnder := ⟨none, 0⟩
structure PPair where
  o : Option Nat
  m : Option Nat
  deriving DecidableEq
def PPair.zero : PPair := ⟨none, none⟩
structure PDeque where
  cells : List Int
  top : Int
  bottom : Int
  busy : Bool
  deriving DecidableEq
def PDeque.zero : PDeque := ⟨[], 0, 0, false⟩
structure PModule where
  funcs : List PFunc
  deriving DecidableEq
def PModule.zero : PModule := ⟨[]⟩
structure POutcome where
  done : Bool
  trap : Int
  value : Int
  out : List Int
  steps : Int
  memory : A64
  deriving DecidableEq
def POutcome.zero : POutcome := ⟨false, 0, 0, [], 0, A64.zero⟩
structure QDeque where
  cells : A64
  top : Int
  bottom : Int
  owner : Option Nat
  deriving DecidableEq
def QDeque.zero : QDeque := ⟨A64.zero, 0, 0, none⟩
structure QOp where
  d : Option Nat
  kind : Int
  at_ : Int
  t : Int
  b : Int
  x : Int
  got : Int
  deriving DecidableEq
def QOp.zero : QOp := ⟨none, 0, 0, 0, 0, 0, 0⟩
structure POp where
  kind : Int
  next : Int
  b : Int
  t : Int
  x : Int
  got : Int
  won : Bool
  deriving DecidableEq
def POp.zero : POp := ⟨0, 0, 0, 0, 0, 0, false⟩
structure PFrame where
  f : Int
  regs : List Int
  block : Int
  at_ : Int
  dst : Int
  deriving DecidableEq
def PFrame.zero : PFrame := ⟨0, [], 0, 0, 0⟩
structure PRunner where
  m : PModule
  ahead : List (List (List Int))
  frames : List PFrame
  out : POutcome
  deriving DecidableEq
def PRunner.zero : PRunner := ⟨PModule.zero, [], [], POutcome.zero⟩
structure PLooker where
  m : PModule
  f : PFunc
  deriving DecidableEq
def PLooker.zero : PLooker := ⟨PModule.zero, PFunc.zero⟩
def kBoundsError : Kd PBoundsError where
  sz := 4
  own x cs F := cs = [.int .i64 x.x, .int .i64 x.y, .bool x.signed, .int .u8 x.code] ∧ F = []
  ro G x cs := cs = [.int .i64 x.x, .int .i64 x.y, .bool x.signed, .int .u8 x.code]
  len h := by obtain ⟨rfl, rfl⟩ := h; rfl
  lenR h := by obtain rfl := h; rfl
  weak h hs := by
    obtain ⟨rfl, rfl⟩ := h
    exact rfl
  mono h hs := by
    obtain rfl := h
    exact rfl
  one h u hu := by
    obtain ⟨rfl, rfl⟩ := h
    simp only [List.mem_cons, List.not_mem_nil, or_false] at hu
    rcases hu with rfl | rfl | rfl | rfl <;> rfl
def fBoundsError : Flat kBoundsError := ⟨fun x => [.int .i64 x.x, .int .i64 x.y, .bool x.signed, .int .u8 x.code], fun _ => ⟨rfl, rfl⟩, fun h => h⟩
def kPhi : Kd PPhi where
  sz := 2
  own x cs F := ∃ v1 F1, cs = [.int .i64 x.dst, v1] ∧ F = F1 ∧ SlO 3 (kInt .i64) x.args v1 F1
  ro G x cs := ∃ v1, cs = [.int .i64 x.dst, v1] ∧ SlI (kInt .i64) G x.args v1
  len h := by obtain ⟨v1, F1, rfl, rfl, h1⟩ := h; rfl
  lenR h := by obtain ⟨v1, rfl, h1⟩ := h; rfl
  weak h hs := by
    obtain ⟨v1, F1, rfl, rfl, h1⟩ := h
    exact ⟨v1, rfl, h1.ro.mono (fun p hp => hs p hp)⟩
  mono h hs := by
    obtain ⟨v1, rfl, h1⟩ := h
    exact ⟨v1, rfl, h1.mono hs⟩
  one h u hu := by
    obtain ⟨v1, F1, rfl, rfl, h1⟩ := h
    obtain ⟨A1, c1, rfl⟩ := h1.len
    simp only [List.mem_cons, List.not_mem_nil, or_false] at hu
    rcases hu with rfl | rfl <;> rfl
def kInstr : Kd PInstr where
  sz := 5
  own x cs F := ∃ v2 F2, cs = [.int .i64 x.op, .int .i64 x.dst, v2, .int .i64 x.imm, .int .i64 x.fn] ∧ F = F2 ∧ SlO 3 (kInt .i64) x.args v2 F2
  ro G x cs := ∃ v2, cs = [.int .i64 x.op, .int .i64 x.dst, v2, .int .i64 x.imm, .int .i64 x.fn] ∧ SlI (kInt .i64) G x.args v2
  len h := by obtain ⟨v2, F2, rfl, rfl, h2⟩ := h; rfl
  lenR h := by obtain ⟨v2, rfl, h2⟩ := h; rfl
  weak h hs := by
    obtain ⟨v2, F2, rfl, rfl, h2⟩ := h
    exact ⟨v2, rfl, h2.ro.mono (fun p hp => hs p hp)⟩
  mono h hs := by
    obtain ⟨v2, rfl, h2⟩ := h
    exact ⟨v2, rfl, h2.mono hs⟩
  one h u hu := by
    obtain ⟨v2, F2, rfl, rfl, h2⟩ := h
    obtain ⟨A2, c2, rfl⟩ := h2.len
    simp only [List.mem_cons, List.not_mem_nil, or_false] at hu
    rcases hu with rfl | rfl | rfl | rfl | rfl <;> rfl
def kTerm : Kd PTerm where
  sz := 3
  own x cs F := ∃ v2 F2, cs = [.int .i64 x.kind, .int .i64 x.arg, v2] ∧ F = F2 ∧ SlO 3 (kInt .i64) x.to v2 F2
  ro G x cs := ∃ v2, cs = [.int .i64 x.kind, .int .i64 x.arg, v2] ∧ SlI (kInt .i64) G x.to v2
  len h := by obtain ⟨v2, F2, rfl, rfl, h2⟩ := h; rfl
  lenR h := by obtain ⟨v2, rfl, h2⟩ := h; rfl
  weak h hs := by
    obtain ⟨v2, F2, rfl, rfl, h2⟩ := h
    exact ⟨v2, rfl, h2.ro.mono (fun p hp => hs p hp)⟩
  mono h hs := by
    obtain ⟨v2, rfl, h2⟩ := h
    exact ⟨v2, rfl, h2.mono hs⟩
  one h u hu := by
    obtain ⟨v2, F2, rfl, rfl, h2⟩ := h
    obtain ⟨A2, c2, rfl⟩ := h2.len
    simp only [List.mem_cons, List.not_mem_nil, or_false] at hu
    rcases hu with rfl | rfl | rfl <;> rfl
def kBlock : Kd PBlock where
  sz := 5
  own x cs F := ∃ v0 F0 v1 F1 v4 F4, cs = [v0, v1, .int .i64 x.term.kind, .int .i64 x.term.arg, v4] ∧ F = F0 ++ (F1 ++ (F4)) ∧ SlO 131 kPhi x.phis v0 F0 ∧ SlO 87 kInstr x.ins v1 F1 ∧ SlO 3 (kInt .i64) x.term.to v4 F4
  ro G x cs := ∃ v0 v1 v4, cs = [v0, v1, .int .i64 x.term.kind, .int .i64 x.term.arg, v4] ∧ SlI kPhi G x.phis v0 ∧ SlI kInstr G x.ins v1 ∧ SlI (kInt .i64) G x.term.to v4
  len h := by obtain ⟨v0, F0, v1, F1, v4, F4, rfl, rfl, h0, h1, h4⟩ := h; rfl
  lenR h := by obtain ⟨v0, v1, v4, rfl, h0, h1, h4⟩ := h; rfl
  weak h hs := by
    obtain ⟨v0, F0, v1, F1, v4, F4, rfl, rfl, h0, h1, h4⟩ := h
    exact ⟨v0, v1, v4, rfl, h0.ro.mono (fun p hp => hs p (List.mem_append_left _ hp)), h1.ro.mono (fun p hp => hs p (List.mem_append_right _ (List.mem_append_left _ hp))), h4.ro.mono (fun p hp => hs p (List.mem_append_right _ (List.mem_append_right _ (hp))))⟩
  mono h hs := by
    obtain ⟨v0, v1, v4, rfl, h0, h1, h4⟩ := h
    exact ⟨v0, v1, v4, rfl, h0.mono hs, h1.mono hs, h4.mono hs⟩
  one h u hu := by
    obtain ⟨v0, F0, v1, F1, v4, F4, rfl, rfl, h0, h1, h4⟩ := h
    obtain ⟨A0, c0, rfl⟩ := h0.len
    obtain ⟨A1, c1, rfl⟩ := h1.len
    obtain ⟨A4, c4, rfl⟩ := h4.len
    simp only [List.mem_cons, List.not_mem_nil, or_false] at hu
    rcases hu with rfl | rfl | rfl | rfl | rfl <;> rfl
def kFunc : Kd PFunc where
  sz := 4
  own x cs F := ∃ v2 F2 v3 F3, cs = [.int .i64 x.params, .int .i64 x.result, v2, v3] ∧ F = F2 ++ (F3) ∧ SlO 3 (kInt .i64) x.regs v2 F2 ∧ SlO 85 kBlock x.blocks v3 F3
  ro G x cs := ∃ v2 v3, cs = [.int .i64 x.params, .int .i64 x.result, v2, v3] ∧ SlI (kInt .i64) G x.regs v2 ∧ SlI kBlock G x.blocks v3
  len h := by obtain ⟨v2, F2, v3, F3, rfl, rfl, h2, h3⟩ := h; rfl
  lenR h := by obtain ⟨v2, v3, rfl, h2, h3⟩ := h; rfl
  weak h hs := by
    obtain ⟨v2, F2, v3, F3, rfl, rfl, h2, h3⟩ := h
    exact ⟨v2, v3, rfl, h2.ro.mono (fun p hp => hs p (List.mem_append_left _ hp)), h3.ro.mono (fun p hp => hs p (List.mem_append_right _ (hp)))⟩
  mono h hs := by
    obtain ⟨v2, v3, rfl, h2, h3⟩ := h
    exact ⟨v2, v3, rfl, h2.mono hs, h3.mono hs⟩
  one h u hu := by
    obtain ⟨v2, F2, v3, F3, rfl, rfl, h2, h3⟩ := h
    obtain ⟨A2, c2, rfl⟩ := h2.len
    obtain ⟨A3, c3, rfl⟩ := h3.len
    simp only [List.mem_cons, List.not_mem_nil, or_false] at hu
    rcases hu with rfl | rfl | rfl | rfl <;> rfl
def kDeed : Kd PDeed where
  sz := 3
  own x cs F := cs = [.int .i64 x.what, .int .i64 x.v, .int .i64 x.n] ∧ F = []
  ro G x cs := cs = [.int .i64 x.what, .int .i64 x.v, .int .i64 x.n]
  len h := by obtain ⟨rfl, rfl⟩ := h; rfl
  lenR h := by obtain rfl := h; rfl
  weak h hs := by
    obtain ⟨rfl, rfl⟩ := h
    exact rfl
  mono h hs := by
    obtain rfl := h
    exact rfl
  one h u hu := by
    obtain ⟨rfl, rfl⟩ := h
    simp only [List.mem_cons, List.not_mem_nil, or_false] at hu
    rcases hu with rfl | rfl | rfl <;> rfl
def fDeed : Flat kDeed := ⟨fun x => [.int .i64 x.what, .int .i64 x.v, .int .i64 x.n], fun _ => ⟨rfl, rfl⟩, fun h => h⟩
def kUnder : Kd PUnder where
  sz := 2
  own x cs F := cs = [ptrV x.o, .int .i64 x.kind] ∧ F = []
  ro G x cs := cs = [ptrV x.o, .int .i64 x.kind]
  len h := by obtain ⟨rfl, rfl⟩ := h; rfl
  lenR h := by obtain rfl := h; rfl
  weak h hs := by
    obtain ⟨rfl, rfl⟩ := h
    exact rfl
  mono h hs := by
    obtain rfl := h
    exact rfl
  one h u hu := by
    obtain ⟨rfl, rfl⟩ := h
    simp only [List.mem_cons, List.not_mem_nil, or_false] at hu
    rcases hu with rfl | rfl <;> rfl
def fUnder : Flat kUnder := ⟨fun x => [ptrV x.o, .int .i64 x.kind], fun _ => ⟨rfl, rfl⟩, fun h => h⟩
def kPair : Kd PPair where
  sz := 2
  own x cs F := cs = [ptrV x.o, ptrV x.m] ∧ F = []
  ro G x cs := cs = [ptrV x.o, ptrV x.m]
  len h := by obtain ⟨rfl, rfl⟩ := h; rfl
  lenR h := by obtain rfl := h; rfl
  weak h hs := by
    obtain ⟨rfl, rfl⟩ := h
    exact rfl
  mono h hs := by
    obtain rfl := h
    exact rfl
  one h u hu := by
    obtain ⟨rfl, rfl⟩ := h
    simp only [List.mem_cons, List.not_mem_nil, or_false] at hu
    rcases hu with rfl | rfl <;> rfl
def fPair : Flat kPair := ⟨fun x => [ptrV x.o, ptrV x.m], fun _ => ⟨rfl, rfl⟩, fun h => h⟩
def kDeque : Kd PDeque where
  sz := 4
  own x cs F := ∃ v0 F0, cs = [v0, .int .i64 x.top, .int .i64 x.bottom, .bool x.busy] ∧ F = F0 ∧ SlO 3 (kInt .i64) x.cells v0 F0
  ro G x cs := ∃ v0, cs = [v0, .int .i64 x.top, .int .i64 x.bottom, .bool x.busy] ∧ SlI (kInt .i64) G x.cells v0
  len h := by obtain ⟨v0, F0, rfl, rfl, h0⟩ := h; rfl
  lenR h := by obtain ⟨v0, rfl, h0⟩ := h; rfl
  weak h hs := by
    obtain ⟨v0, F0, rfl, rfl, h0⟩ := h
    exact ⟨v0, rfl, h0.ro.mono (fun p hp => hs p hp)⟩
  mono h hs := by
    obtain ⟨v0, rfl, h0⟩ := h
    exact ⟨v0, rfl, h0.mono hs⟩
  one h u hu := by
    obtain ⟨v0, F0, rfl, rfl, h0⟩ := h
    obtain ⟨A0, c0, rfl⟩ := h0.len
    simp only [List.mem_cons, List.not_mem_nil, or_false] at hu
    rcases hu with rfl | rfl | rfl | rfl <;> rfl
def kModule : Kd PModule where
  sz := 1
  own x cs F := ∃ v0 F0, cs = [v0] ∧ F = F0 ∧ SlO 25 kFunc x.funcs v0 F0
  ro G x cs := ∃ v0, cs = [v0] ∧ SlI kFunc G x.funcs v0
  len h := by obtain ⟨v0, F0, rfl, rfl, h0⟩ := h; rfl
  lenR h := by obtain ⟨v0, rfl, h0⟩ := h; rfl
  weak h hs := by
    obtain ⟨v0, F0, rfl, rfl, h0⟩ := h
    exact ⟨v0, rfl, h0.ro.mono (fun p hp => hs p hp)⟩
  mono h hs := by
    obtain ⟨v0, rfl, h0⟩ := h
    exact ⟨v0, rfl, h0.mono hs⟩
  one h u hu := by
    obtain ⟨v0, F0, rfl, rfl, h0⟩ := h
    obtain ⟨A0, c0, rfl⟩ := h0.len
    simp only [List.mem_cons, List.not_mem_nil, or_false] at hu
    rcases hu with rfl <;> rfl
def kQOp : Kd QOp where
  sz := 7
  own x cs F := cs = [ptrV x.d, .int .i64 x.kind, .int .i64 x.at_, .int .i64 x.t, .int .i64 x.b, .int .i64 x.x, .int .i64 x.got] ∧ F = []
  ro G x cs := cs = [ptrV x.d, .int .i64 x.kind, .int .i64 x.at_, .int .i64 x.t, .int .i64 x.b, .int .i64 x.x, .int .i64 x.got]
  len h := by obtain ⟨rfl, rfl⟩ := h; rfl
  lenR h := by obtain rfl := h; rfl
  weak h hs := by
    obtain ⟨rfl, rfl⟩ := h
    exact rfl
  mono h hs := by
    obtain rfl := h
    exact rfl
  one h u hu := by
    obtain ⟨rfl, rfl⟩ := h
    simp only [List.mem_cons, List.not_mem_nil, or_false] at hu
    rcases hu with rfl | rfl | rfl | rfl | rfl | rfl | rfl <;> rfl
def fQOp : Flat kQOp := ⟨fun x => [ptrV x.d, .int .i64 x.kind, .int .i64 x.at_, .int .i64 x.t, .int .i64 x.b, .int .i64 x.x, .int .i64 x.got], fun _ => ⟨rfl, rfl⟩, fun h => h⟩
def kOp : Kd POp where
  sz := 7
  own x cs F := cs = [.int .i64 x.kind, .int .i64 x.next, .int .i64 x.b, .int .i64 x.t, .int .i64 x.x, .int .i64 x.got, .bool x.won] ∧ F = []
  ro G x cs := cs = [.int .i64 x.kind, .int .i64 x.next, .int .i64 x.b, .int .i64 x.t, .int .i64 x.x, .int .i64 x.got, .bool x.won]
  len h := by obtain ⟨rfl, rfl⟩ := h; rfl
  lenR h := by obtain rfl := h; rfl
  weak h hs := by
    obtain ⟨rfl, rfl⟩ := h
    exact rfl
  mono h hs := by
    obtain rfl := h
    exact rfl
  one h u hu := by
    obtain ⟨rfl, rfl⟩ := h
    simp only [List.mem_cons, List.not_mem_nil, or_false] at hu
    rcases hu with rfl | rfl | rfl | rfl | rfl | rfl | rfl <;> rfl
def fOp : Flat kOp := ⟨fun x => [.int .i64 x.kind, .int .i64 x.next, .int .i64 x.b, .int .i64 x.t, .int .i64 x.x, .int .i64 x.got, .bool x.won], fun _ => ⟨rfl, rfl⟩, fun h => h⟩
def kFrame : Kd PFrame where
  sz := 5
  own x cs F := ∃ v1 F1, cs = [.int .i64 x.f, v1, .int .i64 x.block, .int .i64 x.at_, .int .i64 x.dst] ∧ F = F1 ∧ SlO 2 (kInt .i64) x.regs v1 F1
  ro G x cs := ∃ v1, cs = [.int .i64 x.f, v1, .int .i64 x.block, .int .i64 x.at_, .int .i64 x.dst] ∧ SlI (kInt .i64) G x.regs v1
  len h := by obtain ⟨v1, F1, rfl, rfl, h1⟩ := h; rfl
  lenR h := by obtain ⟨v1, rfl, h1⟩ := h; rfl
  weak h hs := by
    obtain ⟨v1, F1, rfl, rfl, h1⟩ := h
    exact ⟨v1, rfl, h1.ro.mono (fun p hp => hs p hp)⟩
  mono h hs := by
    obtain ⟨v1, rfl, h1⟩ := h
    exact ⟨v1, rfl, h1.mono hs⟩
  one h u hu := by
    obtain ⟨v1, F1, rfl, rfl, h1⟩ := h
    obtain ⟨A1, c1, rfl⟩ := h1.len
    simp only [List.mem_cons, List.not_mem_nil, or_false] at hu
    rcases hu with rfl | rfl | rfl | rfl | rfl <;> rfl
def kLooker : Kd PLooker where
  sz := 5
  own x cs F := ∃ v0 F0 v3 F3 v4 F4, cs = [v0, .int .i64 x.f.params, .int .i64 x.f.result, v3, v4] ∧ F = F0 ++ (F3 ++ (F4)) ∧ SlO 25 kFunc x.m.funcs v0 F0 ∧ SlO 3 (kInt .i64) x.f.regs v3 F3 ∧ SlO 85 kBlock x.f.blocks v4 F4
  ro G x cs := ∃ v0 v3 v4, cs = [v0, .int .i64 x.f.params, .int .i64 x.f.result, v3, v4] ∧ SlI kFunc G x.m.funcs v0 ∧ SlI (kInt .i64) G x.f.regs v3 ∧ SlI kBlock G x.f.blocks v4
  len h := by obtain ⟨v0, F0, v3, F3, v4, F4, rfl, rfl, h0, h3, h4⟩ := h; rfl
  lenR h := by obtain ⟨v0, v3, v4, rfl, h0, h3, h4⟩ := h; rfl
  weak h hs := by
    obtain ⟨v0, F0, v3, F3, v4, F4, rfl, rfl, h0, h3, h4⟩ := h
    exact ⟨v0, v3, v4, rfl, h0.ro.mono (fun p hp => hs p (List.mem_append_left _ hp)), h3.ro.mono (fun p hp => hs p (List.mem_append_right _ (List.mem_append_left _ hp))), h4.ro.mono (fun p hp => hs p (List.mem_append_right _ (List.mem_append_right _ (hp))))⟩
  mono h hs := by
    obtain ⟨v0, v3, v4, rfl, h0, h3, h4⟩ := h
    exact ⟨v0, v3, v4, rfl, h0.mono hs, h3.mono hs, h4.mono hs⟩
  one h u hu := by
    obtain ⟨v0, F0, v3, F3, v4, F4, rfl, rfl, h0, h3, h4⟩ := h
    obtain ⟨A0, c0, rfl⟩ := h0.len
    obtain ⟨A3, c3, rfl⟩ := h3.len
    obtain ⟨A4, c4, rfl⟩ := h4.len
    simp only [List.mem_cons, List.not_mem_nil, or_false] at hu
    rcases hu with rfl | rfl | rfl | rfl | rfl <;> rfl
end Go.Proofs.Ytoflleabpkgdpaa
