/-
  No cell of these rows narrows 'for every input' (looked for: loops, veiled, ifaces, maps, wideKeys, modest, calm, conditions, laid).
  DERIVED. THE GIVEN ROWS OF THIS SEAT. 4 by the template 'for every input the law returns true; each argument reads behind the call as it read before'; 0 by the template 'total and deterministic' (their statements: YtpmcbahahjelnaaTotals.lean).
  GIVEN WITH THE SEED: the statements are not yours to turn. If you find one false, say at which input.
  Laid BY PROGRAM, IN A SANDBOX (cutbox-rows.mjs): the forced cells as the released guide's own fill.sh prints them over the translation 37801462615b207c… (all of the seat's roots in one cut). By AI agents, Wed Nov 11 2026. No macro, syntax, notation, axiom, sorry.
-/
import Derived.Test.YtpmcbahahjelnaaChecked
import GoSem.Claim
import GoSem.ClaimJoined
import GoSem.ClaimMapViews
import Derived.JoinedTies
import Derived.KernelRfl
namespace Go.Proofs.Ytpmcbahahjelnaa
/- THE CELL 'sum', in the pinned program and in every row, IS THE sha256 OF THE DUMP (.gsa) THAT YtpmcbahahjelnaaProg.lean LOADS. Nothing in Lean hashes anything: it is a label: what it is worth is what the hold of that sum in a sandbox is worth. -/
noncomputable def Try.pinned : Pinned := { name := "ytpmcbahahjelnaa", sum := "37801462615b207c042748744d1e5ce4d78b428040f34b687a1e4f9063c54f01", checked := Try.checked }
namespace Rows
def none {H : Type} : Left H := { results := [], args := [] }

/-- 'fettlelaw14.LowerAlike': WHATEVER THE INPUT: true; the input reads as it did. -/
def lowerAlikeSpec : ChangeSpec := { name := "lowerAlike", fn := fun _ => fun
  | [d1, d2] => { results := [.lit (.bool true)], args := [d1, d2] }
  | _ => none }
def lowerAlikeRow : OpenClaim := { program := "ytpmcbahahjelnaa", sum := "37801462615b207c042748744d1e5ce4d78b428040f34b687a1e4f9063c54f01", func := "fettle/fettlelaw14.LowerAlike", spec := "lowerAlike", unfollowed := true, recurses := true, apart := false }
def LowerAlikeSaid : Prop := lowerAlikeRow.holds Try.pinned (OpenSpec.ofChange lowerAlikeSpec)

/-- ITS FALSE NEIGHBOUR: 'it returns false'. Refute it at one input. -/
def lowerAlikeWrong : ChangeSpec := { name := "lowerAlike", fn := fun _ => fun
  | [d1, d2] => { results := [.lit (.bool false)], args := [d1, d2] }
  | _ => none }
def LowerAlikeWrongFalsely : Prop := lowerAlikeRow.holds Try.pinned (OpenSpec.ofChange lowerAlikeWrong)

/-- 'fettlelaw14.LowerStays': WHATEVER THE INPUT: true; the input reads as it did. -/
def lowerStaysSpec : ChangeSpec := { name := "lowerStays", fn := fun _ => fun
  | [d1, d2, d3, d4] => { results := [.lit (.bool true)], args := [d1, d2, d3, d4] }
  | _ => none }
def lowerStaysRow : OpenClaim := { program := "ytpmcbahahjelnaa", sum := "37801462615b207c042748744d1e5ce4d78b428040f34b687a1e4f9063c54f01", func := "fettle/fettlelaw14.LowerStays", spec := "lowerStays", unfollowed := true, recurses := true, apart := false }
def LowerStaysSaid : Prop := lowerStaysRow.holds Try.pinned (OpenSpec.ofChange lowerStaysSpec)

/-- ITS FALSE NEIGHBOUR: 'it returns false'. Refute it at one input. -/
def lowerStaysWrong : ChangeSpec := { name := "lowerStays", fn := fun _ => fun
  | [d1, d2, d3, d4] => { results := [.lit (.bool false)], args := [d1, d2, d3, d4] }
  | _ => none }
def LowerStaysWrongFalsely : Prop := lowerStaysRow.holds Try.pinned (OpenSpec.ofChange lowerStaysWrong)

/-- 'fettlelaw14.LowerNone': WHATEVER THE INPUT: true; the input reads as it did. -/
def lowerNoneSpec : ChangeSpec := { name := "lowerNone", fn := fun _ => fun
  | [d1, d2] => { results := [.lit (.bool true)], args := [d1, d2] }
  | _ => none }
def lowerNoneRow : OpenClaim := { program := "ytpmcbahahjelnaa", sum := "37801462615b207c042748744d1e5ce4d78b428040f34b687a1e4f9063c54f01", func := "fettle/fettlelaw14.LowerNone", spec := "lowerNone", unfollowed := true, recurses := true, apart := false }
def LowerNoneSaid : Prop := lowerNoneRow.holds Try.pinned (OpenSpec.ofChange lowerNoneSpec)

/-- ITS FALSE NEIGHBOUR: 'it returns false'. Refute it at one input. -/
def lowerNoneWrong : ChangeSpec := { name := "lowerNone", fn := fun _ => fun
  | [d1, d2] => { results := [.lit (.bool false)], args := [d1, d2] }
  | _ => none }
def LowerNoneWrongFalsely : Prop := lowerNoneRow.holds Try.pinned (OpenSpec.ofChange lowerNoneWrong)

/-- 'fettlelaw16.ConstsStays': WHATEVER THE INPUT: true; the input reads as it did. -/
def constsStaysSpec : ChangeSpec := { name := "constsStays", fn := fun _ => fun
  | [d1, d2] => { results := [.lit (.bool true)], args := [d1, d2] }
  | _ => none }
def constsStaysRow : OpenClaim := { program := "ytpmcbahahjelnaa", sum := "37801462615b207c042748744d1e5ce4d78b428040f34b687a1e4f9063c54f01", func := "fettle/fettlelaw16.ConstsStays", spec := "constsStays", unfollowed := true, recurses := true, apart := false }
def ConstsStaysSaid : Prop := constsStaysRow.holds Try.pinned (OpenSpec.ofChange constsStaysSpec)

/-- ITS FALSE NEIGHBOUR: 'it returns false'. Refute it at one input. -/
def constsStaysWrong : ChangeSpec := { name := "constsStays", fn := fun _ => fun
  | [d1, d2] => { results := [.lit (.bool false)], args := [d1, d2] }
  | _ => none }
def ConstsStaysWrongFalsely : Prop := constsStaysRow.holds Try.pinned (OpenSpec.ofChange constsStaysWrong)

/- THE SECOND FORM. 'bulk': how many values and letters a reading holds, each counted each time it is reached (what is shared counts as often as it is met; a slice's spare places count too). A statement '..UptoSaid' is the law's where the arguments, and the package variables that the reading takes, are together of bulk at most 1048576: NARROWER than '..Said'. Prove '..Said' where nothing that the law and all that it calls make is longer than what came in: it says more and counts as full. Else prove '..UptoSaid'. A law counts once. -/
mutual
def uptoBulk {H : Type} : DataW H → Nat
  | .lit (.string bytes) => bytes.length + 1
  | .lit _ => 1
  | .nil => 1
  | .ptr d => uptoBulk d + 1
  | .slice elems spare => uptoBulkAll elems + uptoBulkAll spare + 1
  | .agg parts => uptoBulkAll parts + 1
  | .iface _ d => uptoBulk d + 1
  | .map entries => uptoBulkEntries entries + 1
  | .held _ => 1
def uptoBulkAll {H : Type} : List (DataW H) → Nat
  | [] => 0
  | d :: r => uptoBulk d + uptoBulkAll r
def uptoBulkEntries {H : Type} : List (Lit × DataW H) → Nat
  | [] => 0
  | x :: r => uptoBulkEntry x + uptoBulkEntries r
def uptoBulkEntry {H : Type} : Lit × DataW H → Nat
  | (.string bytes, d) => bytes.length + uptoBulk d + 1
  | (_, d) => uptoBulk d + 1
 end
def uptoSmall : (H : Type) → List (DataW H) → Bool := fun _ ds => decide (uptoBulkAll ds ≤ 1048576)
def OpenSpec.upto (s : _root_.Go.ChangeSpec) : _root_.Go.OpenSpec := { _root_.Go.OpenSpec.ofChange s with cond := some uptoSmall }

/-- 'fettlelaw14.LowerAlike', WHERE WHAT IT READS IS OF BULK AT MOST 1048576: true; the input reads as it did. -/
def lowerAlikeUptoRow : OpenClaim := { program := "ytpmcbahahjelnaa", sum := "37801462615b207c042748744d1e5ce4d78b428040f34b687a1e4f9063c54f01", func := "fettle/fettlelaw14.LowerAlike", spec := "lowerAlike", unfollowed := true, recurses := true, apart := false, narrowed := true }
def LowerAlikeUptoSaid : Prop := lowerAlikeUptoRow.holds Try.pinned (OpenSpec.upto lowerAlikeSpec)

/-- 'fettlelaw14.LowerStays', WHERE WHAT IT READS IS OF BULK AT MOST 1048576: true; the input reads as it did. -/
def lowerStaysUptoRow : OpenClaim := { program := "ytpmcbahahjelnaa", sum := "37801462615b207c042748744d1e5ce4d78b428040f34b687a1e4f9063c54f01", func := "fettle/fettlelaw14.LowerStays", spec := "lowerStays", unfollowed := true, recurses := true, apart := false, narrowed := true }
def LowerStaysUptoSaid : Prop := lowerStaysUptoRow.holds Try.pinned (OpenSpec.upto lowerStaysSpec)

/-- 'fettlelaw14.LowerNone', WHERE WHAT IT READS IS OF BULK AT MOST 1048576: true; the input reads as it did. -/
def lowerNoneUptoRow : OpenClaim := { program := "ytpmcbahahjelnaa", sum := "37801462615b207c042748744d1e5ce4d78b428040f34b687a1e4f9063c54f01", func := "fettle/fettlelaw14.LowerNone", spec := "lowerNone", unfollowed := true, recurses := true, apart := false, narrowed := true }
def LowerNoneUptoSaid : Prop := lowerNoneUptoRow.holds Try.pinned (OpenSpec.upto lowerNoneSpec)

/-- 'fettlelaw16.ConstsStays', WHERE WHAT IT READS IS OF BULK AT MOST 1048576: true; the input reads as it did. -/
def constsStaysUptoRow : OpenClaim := { program := "ytpmcbahahjelnaa", sum := "37801462615b207c042748744d1e5ce4d78b428040f34b687a1e4f9063c54f01", func := "fettle/fettlelaw16.ConstsStays", spec := "constsStays", unfollowed := true, recurses := true, apart := false, narrowed := true }
def ConstsStaysUptoSaid : Prop := constsStaysUptoRow.holds Try.pinned (OpenSpec.upto constsStaysSpec)

end Rows
end Go.Proofs.Ytpmcbahahjelnaa
