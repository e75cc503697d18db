/-
  No cell of these rows narrows 'for every input' (looked for: loops, veiled, ifaces, maps, wideKeys, modest, calm, conditions, laid).
  DERIVED. THE GIVEN ROWS OF THIS SEAT. 8 by the template 'for every input the law returns true; each argument reads behind the call as it read before'; 0 by the template 'total and deterministic' (their statements: YteaknconpkklhaaTotals.lean).
  GIVEN WITH THE SEED: the statements are not yours to turn. If you find one false, say at which input.
  Laid BY PROGRAM, IN A SANDBOX (cutbox-rows.mjs): the forced cells as the released guide's own fill.sh prints them over the translation 322bf4736ca2b5ac… (all of the seat's roots in one cut). By AI agents, Wed Nov 11 2026. No macro, syntax, notation, axiom, sorry.
-/
import Derived.Test.YteaknconpkklhaaChecked
import GoSem.Claim
import GoSem.ClaimJoined
import GoSem.ClaimMapViews
import Derived.JoinedTies
import Derived.KernelRfl
namespace Go.Proofs.Yteaknconpkklhaa
/- THE CELL 'sum', in the pinned program and in every row, IS THE sha256 OF THE DUMP (.gsa) THAT YteaknconpkklhaaProg.lean LOADS. Nothing in Lean hashes anything: it is a label: what it is worth is what the hold of that sum in a sandbox is worth. -/
noncomputable def Try.pinned : Pinned := { name := "yteaknconpkklhaa", sum := "322bf4736ca2b5ac4207f9426064a4eb6fb88c047057fa749252ae638673824c", checked := Try.checked }
namespace Rows
def none {H : Type} : Left H := { results := [], args := [] }

/-- 'fettlelaw14.LowerAlike': WHATEVER THE INPUT: true; the input reads as it did. -/
def lowerAlikeSpec : ChangeSpec := { name := "lowerAlike", fn := fun _ => fun
  | [d1, d2] => { results := [.lit (.bool true)], args := [d1, d2] }
  | _ => none }
def lowerAlikeRow : OpenClaim := { program := "yteaknconpkklhaa", sum := "322bf4736ca2b5ac4207f9426064a4eb6fb88c047057fa749252ae638673824c", func := "fettle/fettlelaw14.LowerAlike", spec := "lowerAlike", unfollowed := true, recurses := true, apart := false }
def LowerAlikeSaid : Prop := lowerAlikeRow.holds Try.pinned (OpenSpec.ofChange lowerAlikeSpec)

/-- ITS FALSE NEIGHBOUR: 'it returns false'. Refute it at one input. -/
def lowerAlikeWrong : ChangeSpec := { name := "lowerAlike", fn := fun _ => fun
  | [d1, d2] => { results := [.lit (.bool false)], args := [d1, d2] }
  | _ => none }
def LowerAlikeWrongFalsely : Prop := lowerAlikeRow.holds Try.pinned (OpenSpec.ofChange lowerAlikeWrong)

/-- 'fettlelaw12.SsaStays': WHATEVER THE INPUT: true; the input reads as it did. -/
def ssaStaysSpec : ChangeSpec := { name := "ssaStays", fn := fun _ => fun
  | [d1, d2] => { results := [.lit (.bool true)], args := [d1, d2] }
  | _ => none }
def ssaStaysRow : OpenClaim := { program := "yteaknconpkklhaa", sum := "322bf4736ca2b5ac4207f9426064a4eb6fb88c047057fa749252ae638673824c", func := "fettle/fettlelaw12.SsaStays", spec := "ssaStays", unfollowed := true, recurses := true, apart := false }
def SsaStaysSaid : Prop := ssaStaysRow.holds Try.pinned (OpenSpec.ofChange ssaStaysSpec)

/-- ITS FALSE NEIGHBOUR: 'it returns false'. Refute it at one input. -/
def ssaStaysWrong : ChangeSpec := { name := "ssaStays", fn := fun _ => fun
  | [d1, d2] => { results := [.lit (.bool false)], args := [d1, d2] }
  | _ => none }
def SsaStaysWrongFalsely : Prop := ssaStaysRow.holds Try.pinned (OpenSpec.ofChange ssaStaysWrong)

/-- 'fettlelaw12.SsaBlocks': WHATEVER THE INPUT: true; the input reads as it did. -/
def ssaBlocksSpec : ChangeSpec := { name := "ssaBlocks", fn := fun _ => fun
  | [d1, d2] => { results := [.lit (.bool true)], args := [d1, d2] }
  | _ => none }
def ssaBlocksRow : OpenClaim := { program := "yteaknconpkklhaa", sum := "322bf4736ca2b5ac4207f9426064a4eb6fb88c047057fa749252ae638673824c", func := "fettle/fettlelaw12.SsaBlocks", spec := "ssaBlocks", unfollowed := true, recurses := true, apart := false }
def SsaBlocksSaid : Prop := ssaBlocksRow.holds Try.pinned (OpenSpec.ofChange ssaBlocksSpec)

/-- ITS FALSE NEIGHBOUR: 'it returns false'. Refute it at one input. -/
def ssaBlocksWrong : ChangeSpec := { name := "ssaBlocks", fn := fun _ => fun
  | [d1, d2] => { results := [.lit (.bool false)], args := [d1, d2] }
  | _ => none }
def SsaBlocksWrongFalsely : Prop := ssaBlocksRow.holds Try.pinned (OpenSpec.ofChange ssaBlocksWrong)

/-- 'fettlelaw13.ProperBuilt': WHATEVER THE INPUT: true; the input reads as it did. -/
def properBuiltSpec : ChangeSpec := { name := "properBuilt", fn := fun _ => fun
  | [d1, d2] => { results := [.lit (.bool true)], args := [d1, d2] }
  | _ => none }
def properBuiltRow : OpenClaim := { program := "yteaknconpkklhaa", sum := "322bf4736ca2b5ac4207f9426064a4eb6fb88c047057fa749252ae638673824c", func := "fettle/fettlelaw13.ProperBuilt", spec := "properBuilt", unfollowed := true, recurses := true, apart := false }
def ProperBuiltSaid : Prop := properBuiltRow.holds Try.pinned (OpenSpec.ofChange properBuiltSpec)

/-- ITS FALSE NEIGHBOUR: 'it returns false'. Refute it at one input. -/
def properBuiltWrong : ChangeSpec := { name := "properBuilt", fn := fun _ => fun
  | [d1, d2] => { results := [.lit (.bool false)], args := [d1, d2] }
  | _ => none }
def ProperBuiltWrongFalsely : Prop := properBuiltRow.holds Try.pinned (OpenSpec.ofChange properBuiltWrong)

/-- 'fettlelaw09.CallsLie': WHATEVER THE INPUT: true; the input reads as it did. -/
def callsLieSpec : ChangeSpec := { name := "callsLie", fn := fun _ => fun
  | [d] => { results := [.lit (.bool true)], args := [d] }
  | _ => none }
def callsLieRow : OpenClaim := { program := "yteaknconpkklhaa", sum := "322bf4736ca2b5ac4207f9426064a4eb6fb88c047057fa749252ae638673824c", func := "fettle/fettlelaw09.CallsLie", spec := "callsLie", unfollowed := true, recurses := true, apart := false }
def CallsLieSaid : Prop := callsLieRow.holds Try.pinned (OpenSpec.ofChange callsLieSpec)

/-- ITS FALSE NEIGHBOUR: 'it returns false'. Refute it at one input. -/
def callsLieWrong : ChangeSpec := { name := "callsLie", fn := fun _ => fun
  | [d] => { results := [.lit (.bool false)], args := [d] }
  | _ => none }
def CallsLieWrongFalsely : Prop := callsLieRow.holds Try.pinned (OpenSpec.ofChange callsLieWrong)

/-- 'fettlelaw09.CallsTells': WHATEVER THE INPUT: true; the input reads as it did. -/
def callsTellsSpec : ChangeSpec := { name := "callsTells", fn := fun _ => fun
  | [d] => { results := [.lit (.bool true)], args := [d] }
  | _ => none }
def callsTellsRow : OpenClaim := { program := "yteaknconpkklhaa", sum := "322bf4736ca2b5ac4207f9426064a4eb6fb88c047057fa749252ae638673824c", func := "fettle/fettlelaw09.CallsTells", spec := "callsTells", unfollowed := true, recurses := true, apart := false }
def CallsTellsSaid : Prop := callsTellsRow.holds Try.pinned (OpenSpec.ofChange callsTellsSpec)

/-- ITS FALSE NEIGHBOUR: 'it returns false'. Refute it at one input. -/
def callsTellsWrong : ChangeSpec := { name := "callsTells", fn := fun _ => fun
  | [d] => { results := [.lit (.bool false)], args := [d] }
  | _ => none }
def CallsTellsWrongFalsely : Prop := callsTellsRow.holds Try.pinned (OpenSpec.ofChange callsTellsWrong)

/-- 'fettlelaw09.CallsStays': WHATEVER THE INPUT: true; the input reads as it did. -/
def callsStaysSpec : ChangeSpec := { name := "callsStays", fn := fun _ => fun
  | [d] => { results := [.lit (.bool true)], args := [d] }
  | _ => none }
def callsStaysRow : OpenClaim := { program := "yteaknconpkklhaa", sum := "322bf4736ca2b5ac4207f9426064a4eb6fb88c047057fa749252ae638673824c", func := "fettle/fettlelaw09.CallsStays", spec := "callsStays", unfollowed := true, recurses := true, apart := false }
def CallsStaysSaid : Prop := callsStaysRow.holds Try.pinned (OpenSpec.ofChange callsStaysSpec)

/-- ITS FALSE NEIGHBOUR: 'it returns false'. Refute it at one input. -/
def callsStaysWrong : ChangeSpec := { name := "callsStays", fn := fun _ => fun
  | [d] => { results := [.lit (.bool false)], args := [d] }
  | _ => none }
def CallsStaysWrongFalsely : Prop := callsStaysRow.holds Try.pinned (OpenSpec.ofChange callsStaysWrong)

/-- 'fettlelaw14.LowerStays': WHATEVER THE INPUT: true; the input reads as it did. -/
def lowerStaysSpec : ChangeSpec := { name := "lowerStays", fn := fun _ => fun
  | [d1, d2, d3, d4] => { results := [.lit (.bool true)], args := [d1, d2, d3, d4] }
  | _ => none }
def lowerStaysRow : OpenClaim := { program := "yteaknconpkklhaa", sum := "322bf4736ca2b5ac4207f9426064a4eb6fb88c047057fa749252ae638673824c", func := "fettle/fettlelaw14.LowerStays", spec := "lowerStays", unfollowed := true, recurses := true, apart := false }
def LowerStaysSaid : Prop := lowerStaysRow.holds Try.pinned (OpenSpec.ofChange lowerStaysSpec)

/-- ITS FALSE NEIGHBOUR: 'it returns false'. Refute it at one input. -/
def lowerStaysWrong : ChangeSpec := { name := "lowerStays", fn := fun _ => fun
  | [d1, d2, d3, d4] => { results := [.lit (.bool false)], args := [d1, d2, d3, d4] }
  | _ => none }
def LowerStaysWrongFalsely : Prop := lowerStaysRow.holds Try.pinned (OpenSpec.ofChange lowerStaysWrong)

/- THE SECOND FORM. 'bulk': how many values and letters a reading holds, each counted each time it is reached (what is shared counts as often as it is met; a slice's spare places count too). A statement '..UptoSaid' is the law's where the arguments, and the package variables that the reading takes, are together of bulk at most 1048576: NARROWER than '..Said'. Prove '..Said' where nothing that the law and all that it calls make is longer than what came in: it says more and counts as full. Else prove '..UptoSaid'. A law counts once. -/
mutual
def uptoBulk {H : Type} : DataW H → Nat
  | .lit (.string bytes) => bytes.length + 1
  | .lit _ => 1
  | .nil => 1
  | .ptr d => uptoBulk d + 1
  | .slice elems spare => uptoBulkAll elems + uptoBulkAll spare + 1
  | .agg parts => uptoBulkAll parts + 1
  | .iface _ d => uptoBulk d + 1
  | .map entries => uptoBulkEntries entries + 1
  | .held _ => 1
def uptoBulkAll {H : Type} : List (DataW H) → Nat
  | [] => 0
  | d :: r => uptoBulk d + uptoBulkAll r
def uptoBulkEntries {H : Type} : List (Lit × DataW H) → Nat
  | [] => 0
  | x :: r => uptoBulkEntry x + uptoBulkEntries r
def uptoBulkEntry {H : Type} : Lit × DataW H → Nat
  | (.string bytes, d) => bytes.length + uptoBulk d + 1
  | (_, d) => uptoBulk d + 1
 end
def uptoSmall : (H : Type) → List (DataW H) → Bool := fun _ ds => decide (uptoBulkAll ds ≤ 1048576)
def OpenSpec.upto (s : _root_.Go.ChangeSpec) : _root_.Go.OpenSpec := { _root_.Go.OpenSpec.ofChange s with cond := some uptoSmall }

/-- 'fettlelaw14.LowerAlike', WHERE WHAT IT READS IS OF BULK AT MOST 1048576: true; the input reads as it did. -/
def lowerAlikeUptoRow : OpenClaim := { program := "yteaknconpkklhaa", sum := "322bf4736ca2b5ac4207f9426064a4eb6fb88c047057fa749252ae638673824c", func := "fettle/fettlelaw14.LowerAlike", spec := "lowerAlike", unfollowed := true, recurses := true, apart := false, narrowed := true }
def LowerAlikeUptoSaid : Prop := lowerAlikeUptoRow.holds Try.pinned (OpenSpec.upto lowerAlikeSpec)

/-- 'fettlelaw12.SsaStays', WHERE WHAT IT READS IS OF BULK AT MOST 1048576: true; the input reads as it did. -/
def ssaStaysUptoRow : OpenClaim := { program := "yteaknconpkklhaa", sum := "322bf4736ca2b5ac4207f9426064a4eb6fb88c047057fa749252ae638673824c", func := "fettle/fettlelaw12.SsaStays", spec := "ssaStays", unfollowed := true, recurses := true, apart := false, narrowed := true }
def SsaStaysUptoSaid : Prop := ssaStaysUptoRow.holds Try.pinned (OpenSpec.upto ssaStaysSpec)

/-- 'fettlelaw12.SsaBlocks', WHERE WHAT IT READS IS OF BULK AT MOST 1048576: true; the input reads as it did. -/
def ssaBlocksUptoRow : OpenClaim := { program := "yteaknconpkklhaa", sum := "322bf4736ca2b5ac4207f9426064a4eb6fb88c047057fa749252ae638673824c", func := "fettle/fettlelaw12.SsaBlocks", spec := "ssaBlocks", unfollowed := true, recurses := true, apart := false, narrowed := true }
def SsaBlocksUptoSaid : Prop := ssaBlocksUptoRow.holds Try.pinned (OpenSpec.upto ssaBlocksSpec)

/-- 'fettlelaw13.ProperBuilt', WHERE WHAT IT READS IS OF BULK AT MOST 1048576: true; the input reads as it did. -/
def properBuiltUptoRow : OpenClaim := { program := "yteaknconpkklhaa", sum := "322bf4736ca2b5ac4207f9426064a4eb6fb88c047057fa749252ae638673824c", func := "fettle/fettlelaw13.ProperBuilt", spec := "properBuilt", unfollowed := true, recurses := true, apart := false, narrowed := true }
def ProperBuiltUptoSaid : Prop := properBuiltUptoRow.holds Try.pinned (OpenSpec.upto properBuiltSpec)

/-- 'fettlelaw09.CallsLie', WHERE WHAT IT READS IS OF BULK AT MOST 1048576: true; the input reads as it did. -/
def callsLieUptoRow : OpenClaim := { program := "yteaknconpkklhaa", sum := "322bf4736ca2b5ac4207f9426064a4eb6fb88c047057fa749252ae638673824c", func := "fettle/fettlelaw09.CallsLie", spec := "callsLie", unfollowed := true, recurses := true, apart := false, narrowed := true }
def CallsLieUptoSaid : Prop := callsLieUptoRow.holds Try.pinned (OpenSpec.upto callsLieSpec)

/-- 'fettlelaw09.CallsTells', WHERE WHAT IT READS IS OF BULK AT MOST 1048576: true; the input reads as it did. -/
def callsTellsUptoRow : OpenClaim := { program := "yteaknconpkklhaa", sum := "322bf4736ca2b5ac4207f9426064a4eb6fb88c047057fa749252ae638673824c", func := "fettle/fettlelaw09.CallsTells", spec := "callsTells", unfollowed := true, recurses := true, apart := false, narrowed := true }
def CallsTellsUptoSaid : Prop := callsTellsUptoRow.holds Try.pinned (OpenSpec.upto callsTellsSpec)

/-- 'fettlelaw09.CallsStays', WHERE WHAT IT READS IS OF BULK AT MOST 1048576: true; the input reads as it did. -/
def callsStaysUptoRow : OpenClaim := { program := "yteaknconpkklhaa", sum := "322bf4736ca2b5ac4207f9426064a4eb6fb88c047057fa749252ae638673824c", func := "fettle/fettlelaw09.CallsStays", spec := "callsStays", unfollowed := true, recurses := true, apart := false, narrowed := true }
def CallsStaysUptoSaid : Prop := callsStaysUptoRow.holds Try.pinned (OpenSpec.upto callsStaysSpec)

/-- 'fettlelaw14.LowerStays', WHERE WHAT IT READS IS OF BULK AT MOST 1048576: true; the input reads as it did. -/
def lowerStaysUptoRow : OpenClaim := { program := "yteaknconpkklhaa", sum := "322bf4736ca2b5ac4207f9426064a4eb6fb88c047057fa749252ae638673824c", func := "fettle/fettlelaw14.LowerStays", spec := "lowerStays", unfollowed := true, recurses := true, apart := false, narrowed := true }
def LowerStaysUptoSaid : Prop := lowerStaysUptoRow.holds Try.pinned (OpenSpec.upto lowerStaysSpec)

end Rows
end Go.Proofs.Yteaknconpkklhaa
