/-
  No cell of these rows narrows 'for every input' (looked for: loops, veiled, ifaces, maps, wideKeys, modest, calm, conditions, laid).
  DERIVED. THE GIVEN ROWS OF THIS SEAT. 4 by the template 'for every input the law returns true; each argument reads behind the call as it read before'; 0 by the template 'total and deterministic' (their statements: YtpomfbdbkejedaaTotals.lean).
  GIVEN WITH THE SEED: the statements are not yours to turn. If you find one false, say at which input.
  Laid BY PROGRAM, IN A SANDBOX (cutbox-rows.mjs): the forced cells as the released guide's own fill.sh prints them over the translation 769f0207d4d9c2c9… (all of the seat's roots in one cut). By AI agents, Wed Nov 11 2026. No macro, syntax, notation, axiom, sorry.
-/
import Derived.Test.YtpomfbdbkejedaaChecked
import GoSem.Claim
import GoSem.ClaimJoined
import GoSem.ClaimMapViews
import Derived.JoinedTies
import Derived.KernelRfl
namespace Go.Proofs.Ytpomfbdbkejedaa
/- THE CELL 'sum', in the pinned program and in every row, IS THE sha256 OF THE DUMP (.gsa) THAT YtpomfbdbkejedaaProg.lean LOADS. Nothing in Lean hashes anything: it is a label: what it is worth is what the hold of that sum in a sandbox is worth. -/
noncomputable def Try.pinned : Pinned := { name := "ytpomfbdbkejedaa", sum := "769f0207d4d9c2c9b164410b508aae7452475de0bf318bec4d2d1966413d326e", checked := Try.checked }
namespace Rows
def none {H : Type} : Left H := { results := [], args := [] }

/-- 'fettlelaw15.EffectStays': WHATEVER THE INPUT: true; the input reads as it did. -/
def effectStaysSpec : ChangeSpec := { name := "effectStays", fn := fun _ => fun
  | [d] => { results := [.lit (.bool true)], args := [d] }
  | _ => none }
def effectStaysRow : OpenClaim := { program := "ytpomfbdbkejedaa", sum := "769f0207d4d9c2c9b164410b508aae7452475de0bf318bec4d2d1966413d326e", func := "fettle/fettlelaw15.EffectStays", spec := "effectStays", unfollowed := true, recurses := true, apart := false }
def EffectStaysSaid : Prop := effectStaysRow.holds Try.pinned (OpenSpec.ofChange effectStaysSpec)

/-- ITS FALSE NEIGHBOUR: 'it returns false'. Refute it at one input. -/
def effectStaysWrong : ChangeSpec := { name := "effectStays", fn := fun _ => fun
  | [d] => { results := [.lit (.bool false)], args := [d] }
  | _ => none }
def EffectStaysWrongFalsely : Prop := effectStaysRow.holds Try.pinned (OpenSpec.ofChange effectStaysWrong)

/-- 'fettlelaw15.EffectFewer': WHATEVER THE INPUT: true; the input reads as it did. -/
def effectFewerSpec : ChangeSpec := { name := "effectFewer", fn := fun _ => fun
  | [d1, d2, d3, d4] => { results := [.lit (.bool true)], args := [d1, d2, d3, d4] }
  | _ => none }
def effectFewerRow : OpenClaim := { program := "ytpomfbdbkejedaa", sum := "769f0207d4d9c2c9b164410b508aae7452475de0bf318bec4d2d1966413d326e", func := "fettle/fettlelaw15.EffectFewer", spec := "effectFewer", unfollowed := true, recurses := true, apart := false }
def EffectFewerSaid : Prop := effectFewerRow.holds Try.pinned (OpenSpec.ofChange effectFewerSpec)

/-- ITS FALSE NEIGHBOUR: 'it returns false'. Refute it at one input. -/
def effectFewerWrong : ChangeSpec := { name := "effectFewer", fn := fun _ => fun
  | [d1, d2, d3, d4] => { results := [.lit (.bool false)], args := [d1, d2, d3, d4] }
  | _ => none }
def EffectFewerWrongFalsely : Prop := effectFewerRow.holds Try.pinned (OpenSpec.ofChange effectFewerWrong)

/-- 'fettlelaw15.EffectKinds': WHATEVER THE INPUT: true; the input reads as it did. -/
def effectKindsSpec : ChangeSpec := { name := "effectKinds", fn := fun _ => fun
  | [d1, d2, d3] => { results := [.lit (.bool true)], args := [d1, d2, d3] }
  | _ => none }
def effectKindsRow : OpenClaim := { program := "ytpomfbdbkejedaa", sum := "769f0207d4d9c2c9b164410b508aae7452475de0bf318bec4d2d1966413d326e", func := "fettle/fettlelaw15.EffectKinds", spec := "effectKinds", unfollowed := true, recurses := true, apart := false }
def EffectKindsSaid : Prop := effectKindsRow.holds Try.pinned (OpenSpec.ofChange effectKindsSpec)

/-- ITS FALSE NEIGHBOUR: 'it returns false'. Refute it at one input. -/
def effectKindsWrong : ChangeSpec := { name := "effectKinds", fn := fun _ => fun
  | [d1, d2, d3] => { results := [.lit (.bool false)], args := [d1, d2, d3] }
  | _ => none }
def EffectKindsWrongFalsely : Prop := effectKindsRow.holds Try.pinned (OpenSpec.ofChange effectKindsWrong)

/-- 'fettlelaw15.EffectQuiet': WHATEVER THE INPUT: true; the input reads as it did. -/
def effectQuietSpec : ChangeSpec := { name := "effectQuiet", fn := fun _ => fun
  | [d1, d2, d3] => { results := [.lit (.bool true)], args := [d1, d2, d3] }
  | _ => none }
def effectQuietRow : OpenClaim := { program := "ytpomfbdbkejedaa", sum := "769f0207d4d9c2c9b164410b508aae7452475de0bf318bec4d2d1966413d326e", func := "fettle/fettlelaw15.EffectQuiet", spec := "effectQuiet", unfollowed := true, recurses := true, apart := false }
def EffectQuietSaid : Prop := effectQuietRow.holds Try.pinned (OpenSpec.ofChange effectQuietSpec)

/-- ITS FALSE NEIGHBOUR: 'it returns false'. Refute it at one input. -/
def effectQuietWrong : ChangeSpec := { name := "effectQuiet", fn := fun _ => fun
  | [d1, d2, d3] => { results := [.lit (.bool false)], args := [d1, d2, d3] }
  | _ => none }
def EffectQuietWrongFalsely : Prop := effectQuietRow.holds Try.pinned (OpenSpec.ofChange effectQuietWrong)

/- THE SECOND FORM. 'bulk': how many values and letters a reading holds, each counted each time it is reached (what is shared counts as often as it is met; a slice's spare places count too). A statement '..UptoSaid' is the law's where the arguments, and the package variables that the reading takes, are together of bulk at most 1048576: NARROWER than '..Said'. Prove '..Said' where nothing that the law and all that it calls make is longer than what came in: it says more and counts as full. Else prove '..UptoSaid'. A law counts once. -/
mutual
def uptoBulk {H : Type} : DataW H → Nat
  | .lit (.string bytes) => bytes.length + 1
  | .lit _ => 1
  | .nil => 1
  | .ptr d => uptoBulk d + 1
  | .slice elems spare => uptoBulkAll elems + uptoBulkAll spare + 1
  | .agg parts => uptoBulkAll parts + 1
  | .iface _ d => uptoBulk d + 1
  | .map entries => uptoBulkEntries entries + 1
  | .held _ => 1
def uptoBulkAll {H : Type} : List (DataW H) → Nat
  | [] => 0
  | d :: r => uptoBulk d + uptoBulkAll r
def uptoBulkEntries {H : Type} : List (Lit × DataW H) → Nat
  | [] => 0
  | x :: r => uptoBulkEntry x + uptoBulkEntries r
def uptoBulkEntry {H : Type} : Lit × DataW H → Nat
  | (.string bytes, d) => bytes.length + uptoBulk d + 1
  | (_, d) => uptoBulk d + 1
 end
def uptoSmall : (H : Type) → List (DataW H) → Bool := fun _ ds => decide (uptoBulkAll ds ≤ 1048576)
def OpenSpec.upto (s : _root_.Go.ChangeSpec) : _root_.Go.OpenSpec := { _root_.Go.OpenSpec.ofChange s with cond := some uptoSmall }

/-- 'fettlelaw15.EffectStays', WHERE WHAT IT READS IS OF BULK AT MOST 1048576: true; the input reads as it did. -/
def effectStaysUptoRow : OpenClaim := { program := "ytpomfbdbkejedaa", sum := "769f0207d4d9c2c9b164410b508aae7452475de0bf318bec4d2d1966413d326e", func := "fettle/fettlelaw15.EffectStays", spec := "effectStays", unfollowed := true, recurses := true, apart := false, narrowed := true }
def EffectStaysUptoSaid : Prop := effectStaysUptoRow.holds Try.pinned (OpenSpec.upto effectStaysSpec)

/-- 'fettlelaw15.EffectFewer', WHERE WHAT IT READS IS OF BULK AT MOST 1048576: true; the input reads as it did. -/
def effectFewerUptoRow : OpenClaim := { program := "ytpomfbdbkejedaa", sum := "769f0207d4d9c2c9b164410b508aae7452475de0bf318bec4d2d1966413d326e", func := "fettle/fettlelaw15.EffectFewer", spec := "effectFewer", unfollowed := true, recurses := true, apart := false, narrowed := true }
def EffectFewerUptoSaid : Prop := effectFewerUptoRow.holds Try.pinned (OpenSpec.upto effectFewerSpec)

/-- 'fettlelaw15.EffectKinds', WHERE WHAT IT READS IS OF BULK AT MOST 1048576: true; the input reads as it did. -/
def effectKindsUptoRow : OpenClaim := { program := "ytpomfbdbkejedaa", sum := "769f0207d4d9c2c9b164410b508aae7452475de0bf318bec4d2d1966413d326e", func := "fettle/fettlelaw15.EffectKinds", spec := "effectKinds", unfollowed := true, recurses := true, apart := false, narrowed := true }
def EffectKindsUptoSaid : Prop := effectKindsUptoRow.holds Try.pinned (OpenSpec.upto effectKindsSpec)

/-- 'fettlelaw15.EffectQuiet', WHERE WHAT IT READS IS OF BULK AT MOST 1048576: true; the input reads as it did. -/
def effectQuietUptoRow : OpenClaim := { program := "ytpomfbdbkejedaa", sum := "769f0207d4d9c2c9b164410b508aae7452475de0bf318bec4d2d1966413d326e", func := "fettle/fettlelaw15.EffectQuiet", spec := "effectQuiet", unfollowed := true, recurses := true, apart := false, narrowed := true }
def EffectQuietUptoSaid : Prop := effectQuietUptoRow.holds Try.pinned (OpenSpec.upto effectQuietSpec)

end Rows
end Go.Proofs.Ytpomfbdbkejedaa
