/-
  No cell of these rows narrows 'for every input' (looked for: loops, veiled, ifaces, maps, wideKeys, modest, calm, conditions, laid).
  DERIVED. THE GIVEN ROWS OF THIS SEAT. 13 by the template 'for every input the law returns true; each argument reads behind the call as it read before'; 0 by the template 'total and deterministic' (their statements: YtoflleabpkgdpaaTotals.lean).
  GIVEN WITH THE SEED: the statements are not yours to turn. If you find one false, say at which input.
  Laid BY PROGRAM, IN A SANDBOX (cutbox-rows.mjs): the forced cells as the released guide's own fill.sh prints them over the translation c1afe23796b5d51a… (all of the seat's roots in one cut). By AI agents, Wed Nov 11 2026. No macro, syntax, notation, axiom, sorry.
-/
import Derived.Test.YtoflleabpkgdpaaChecked
import GoSem.Claim
import GoSem.ClaimJoined
import GoSem.ClaimMapViews
import Derived.JoinedTies
import Derived.KernelRfl
namespace Go.Proofs.Ytoflleabpkgdpaa
/- THE CELL 'sum', in the pinned program and in every row, IS THE sha256 OF THE DUMP (.gsa) THAT YtoflleabpkgdpaaProg.lean LOADS. Nothing in Lean hashes anything: it is a label: what it is worth is what the hold of that sum in a sandbox is worth. -/
noncomputable def Try.pinned : Pinned := { name := "ytoflleabpkgdpaa", sum := "c1afe23796b5d51a5825b2c0160dabb214259623b2aebfe0029496c4eda63d67", checked := Try.checked }
namespace Rows
def none {H : Type} : Left H := { results := [], args := [] }

/-- 'fettlelaw05.GraphNext': WHATEVER THE INPUT: true; the input reads as it did. -/
def graphNextSpec : ChangeSpec := { name := "graphNext", fn := fun _ => fun
  | [d] => { results := [.lit (.bool true)], args := [d] }
  | _ => none }
def graphNextRow : OpenClaim := { program := "ytoflleabpkgdpaa", sum := "c1afe23796b5d51a5825b2c0160dabb214259623b2aebfe0029496c4eda63d67", func := "fettle/fettlelaw05.GraphNext", spec := "graphNext", unfollowed := true, recurses := true, apart := false }
def GraphNextSaid : Prop := graphNextRow.holds Try.pinned (OpenSpec.ofChange graphNextSpec)

/-- ITS FALSE NEIGHBOUR: 'it returns false'. Refute it at one input. -/
def graphNextWrong : ChangeSpec := { name := "graphNext", fn := fun _ => fun
  | [d] => { results := [.lit (.bool false)], args := [d] }
  | _ => none }
def GraphNextWrongFalsely : Prop := graphNextRow.holds Try.pinned (OpenSpec.ofChange graphNextWrong)

/-- 'fettlelaw11.DequeOnce': WHATEVER THE INPUT: true; the input reads as it did. -/
def dequeOnceSpec : ChangeSpec := { name := "dequeOnce", fn := fun _ => fun
  | [d] => { results := [.lit (.bool true)], args := [d] }
  | _ => none }
def dequeOnceRow : OpenClaim := { program := "ytoflleabpkgdpaa", sum := "c1afe23796b5d51a5825b2c0160dabb214259623b2aebfe0029496c4eda63d67", func := "fettle/fettlelaw11.DequeOnce", spec := "dequeOnce", apart := false }
def DequeOnceSaid : Prop := dequeOnceRow.holds Try.pinned (OpenSpec.ofChange dequeOnceSpec)

/-- ITS FALSE NEIGHBOUR: 'it returns false'. Refute it at one input. -/
def dequeOnceWrong : ChangeSpec := { name := "dequeOnce", fn := fun _ => fun
  | [d] => { results := [.lit (.bool false)], args := [d] }
  | _ => none }
def DequeOnceWrongFalsely : Prop := dequeOnceRow.holds Try.pinned (OpenSpec.ofChange dequeOnceWrong)

/-- 'fettlelaw11.DequeRow': WHATEVER THE INPUT: true; the input reads as it did. -/
def dequeRowSpec : ChangeSpec := { name := "dequeRow", fn := fun _ => fun
  | [d1, d2] => { results := [.lit (.bool true)], args := [d1, d2] }
  | _ => none }
def dequeRowRow : OpenClaim := { program := "ytoflleabpkgdpaa", sum := "c1afe23796b5d51a5825b2c0160dabb214259623b2aebfe0029496c4eda63d67", func := "fettle/fettlelaw11.DequeRow", spec := "dequeRow", apart := false }
def DequeRowSaid : Prop := dequeRowRow.holds Try.pinned (OpenSpec.ofChange dequeRowSpec)

/-- ITS FALSE NEIGHBOUR: 'it returns false'. Refute it at one input. -/
def dequeRowWrong : ChangeSpec := { name := "dequeRow", fn := fun _ => fun
  | [d1, d2] => { results := [.lit (.bool false)], args := [d1, d2] }
  | _ => none }
def DequeRowWrongFalsely : Prop := dequeRowRow.holds Try.pinned (OpenSpec.ofChange dequeRowWrong)

/-- 'fettlelaw11.DequePlays': WHATEVER THE INPUT: true; the input reads as it did. -/
def dequePlaysSpec : ChangeSpec := { name := "dequePlays", fn := fun _ => fun
  | [d] => { results := [.lit (.bool true)], args := [d] }
  | _ => none }
def dequePlaysRow : OpenClaim := { program := "ytoflleabpkgdpaa", sum := "c1afe23796b5d51a5825b2c0160dabb214259623b2aebfe0029496c4eda63d67", func := "fettle/fettlelaw11.DequePlays", spec := "dequePlays", apart := false }
def DequePlaysSaid : Prop := dequePlaysRow.holds Try.pinned (OpenSpec.ofChange dequePlaysSpec)

/-- ITS FALSE NEIGHBOUR: 'it returns false'. Refute it at one input. -/
def dequePlaysWrong : ChangeSpec := { name := "dequePlays", fn := fun _ => fun
  | [d] => { results := [.lit (.bool false)], args := [d] }
  | _ => none }
def DequePlaysWrongFalsely : Prop := dequePlaysRow.holds Try.pinned (OpenSpec.ofChange dequePlaysWrong)

/-- 'fettlelaw05.GraphTrims': WHATEVER THE INPUT: true; the input reads as it did. -/
def graphTrimsSpec : ChangeSpec := { name := "graphTrims", fn := fun _ => fun
  | [d] => { results := [.lit (.bool true)], args := [d] }
  | _ => none }
def graphTrimsRow : OpenClaim := { program := "ytoflleabpkgdpaa", sum := "c1afe23796b5d51a5825b2c0160dabb214259623b2aebfe0029496c4eda63d67", func := "fettle/fettlelaw05.GraphTrims", spec := "graphTrims", unfollowed := true, recurses := true, apart := false }
def GraphTrimsSaid : Prop := graphTrimsRow.holds Try.pinned (OpenSpec.ofChange graphTrimsSpec)

/-- ITS FALSE NEIGHBOUR: 'it returns false'. Refute it at one input. -/
def graphTrimsWrong : ChangeSpec := { name := "graphTrims", fn := fun _ => fun
  | [d] => { results := [.lit (.bool false)], args := [d] }
  | _ => none }
def GraphTrimsWrongFalsely : Prop := graphTrimsRow.holds Try.pinned (OpenSpec.ofChange graphTrimsWrong)

/-- 'fettlelaw05.GraphOrders': WHATEVER THE INPUT: true; the input reads as it did. -/
def graphOrdersSpec : ChangeSpec := { name := "graphOrders", fn := fun _ => fun
  | [d] => { results := [.lit (.bool true)], args := [d] }
  | _ => none }
def graphOrdersRow : OpenClaim := { program := "ytoflleabpkgdpaa", sum := "c1afe23796b5d51a5825b2c0160dabb214259623b2aebfe0029496c4eda63d67", func := "fettle/fettlelaw05.GraphOrders", spec := "graphOrders", unfollowed := true, recurses := true, apart := false }
def GraphOrdersSaid : Prop := graphOrdersRow.holds Try.pinned (OpenSpec.ofChange graphOrdersSpec)

/-- ITS FALSE NEIGHBOUR: 'it returns false'. Refute it at one input. -/
def graphOrdersWrong : ChangeSpec := { name := "graphOrders", fn := fun _ => fun
  | [d] => { results := [.lit (.bool false)], args := [d] }
  | _ => none }
def GraphOrdersWrongFalsely : Prop := graphOrdersRow.holds Try.pinned (OpenSpec.ofChange graphOrdersWrong)

/-- 'fettlelaw05.GraphStays': WHATEVER THE INPUT: true; the input reads as it did. -/
def graphStaysSpec : ChangeSpec := { name := "graphStays", fn := fun _ => fun
  | [d] => { results := [.lit (.bool true)], args := [d] }
  | _ => none }
def graphStaysRow : OpenClaim := { program := "ytoflleabpkgdpaa", sum := "c1afe23796b5d51a5825b2c0160dabb214259623b2aebfe0029496c4eda63d67", func := "fettle/fettlelaw05.GraphStays", spec := "graphStays", unfollowed := true, recurses := true, apart := false }
def GraphStaysSaid : Prop := graphStaysRow.holds Try.pinned (OpenSpec.ofChange graphStaysSpec)

/-- ITS FALSE NEIGHBOUR: 'it returns false'. Refute it at one input. -/
def graphStaysWrong : ChangeSpec := { name := "graphStays", fn := fun _ => fun
  | [d] => { results := [.lit (.bool false)], args := [d] }
  | _ => none }
def GraphStaysWrongFalsely : Prop := graphStaysRow.holds Try.pinned (OpenSpec.ofChange graphStaysWrong)

/-- 'fettlelaw08.LiveStays': WHATEVER THE INPUT: true; the input reads as it did. -/
def liveStaysSpec : ChangeSpec := { name := "liveStays", fn := fun _ => fun
  | [d1, d2] => { results := [.lit (.bool true)], args := [d1, d2] }
  | _ => none }
def liveStaysRow : OpenClaim := { program := "ytoflleabpkgdpaa", sum := "c1afe23796b5d51a5825b2c0160dabb214259623b2aebfe0029496c4eda63d67", func := "fettle/fettlelaw08.LiveStays", spec := "liveStays", unfollowed := true, recurses := true, apart := false }
def LiveStaysSaid : Prop := liveStaysRow.holds Try.pinned (OpenSpec.ofChange liveStaysSpec)

/-- ITS FALSE NEIGHBOUR: 'it returns false'. Refute it at one input. -/
def liveStaysWrong : ChangeSpec := { name := "liveStays", fn := fun _ => fun
  | [d1, d2] => { results := [.lit (.bool false)], args := [d1, d2] }
  | _ => none }
def LiveStaysWrongFalsely : Prop := liveStaysRow.holds Try.pinned (OpenSpec.ofChange liveStaysWrong)

/-- 'fettlelaw08.LiveNone': WHATEVER THE INPUT: true; the input reads as it did. -/
def liveNoneSpec : ChangeSpec := { name := "liveNone", fn := fun _ => fun
  | [d1, d2] => { results := [.lit (.bool true)], args := [d1, d2] }
  | _ => none }
def liveNoneRow : OpenClaim := { program := "ytoflleabpkgdpaa", sum := "c1afe23796b5d51a5825b2c0160dabb214259623b2aebfe0029496c4eda63d67", func := "fettle/fettlelaw08.LiveNone", spec := "liveNone", unfollowed := true, recurses := true, apart := false }
def LiveNoneSaid : Prop := liveNoneRow.holds Try.pinned (OpenSpec.ofChange liveNoneSpec)

/-- ITS FALSE NEIGHBOUR: 'it returns false'. Refute it at one input. -/
def liveNoneWrong : ChangeSpec := { name := "liveNone", fn := fun _ => fun
  | [d1, d2] => { results := [.lit (.bool false)], args := [d1, d2] }
  | _ => none }
def LiveNoneWrongFalsely : Prop := liveNoneRow.holds Try.pinned (OpenSpec.ofChange liveNoneWrong)

/-- 'fettlelaw04.RunMore': WHATEVER THE INPUT: true; the input reads as it did. -/
def runMoreSpec : ChangeSpec := { name := "runMore", fn := fun _ => fun
  | [d1, d2, d3, d4, d5] => { results := [.lit (.bool true)], args := [d1, d2, d3, d4, d5] }
  | _ => none }
def runMoreRow : OpenClaim := { program := "ytoflleabpkgdpaa", sum := "c1afe23796b5d51a5825b2c0160dabb214259623b2aebfe0029496c4eda63d67", func := "fettle/fettlelaw04.RunMore", spec := "runMore", unfollowed := true, recurses := true, apart := false }
def RunMoreSaid : Prop := runMoreRow.holds Try.pinned (OpenSpec.ofChange runMoreSpec)

/-- ITS FALSE NEIGHBOUR: 'it returns false'. Refute it at one input. -/
def runMoreWrong : ChangeSpec := { name := "runMore", fn := fun _ => fun
  | [d1, d2, d3, d4, d5] => { results := [.lit (.bool false)], args := [d1, d2, d3, d4, d5] }
  | _ => none }
def RunMoreWrongFalsely : Prop := runMoreRow.holds Try.pinned (OpenSpec.ofChange runMoreWrong)

/-- 'fettlelaw04.RunStays': WHATEVER THE INPUT: true; the input reads as it did. -/
def runStaysSpec : ChangeSpec := { name := "runStays", fn := fun _ => fun
  | [d1, d2, d3, d4] => { results := [.lit (.bool true)], args := [d1, d2, d3, d4] }
  | _ => none }
def runStaysRow : OpenClaim := { program := "ytoflleabpkgdpaa", sum := "c1afe23796b5d51a5825b2c0160dabb214259623b2aebfe0029496c4eda63d67", func := "fettle/fettlelaw04.RunStays", spec := "runStays", unfollowed := true, recurses := true, apart := false }
def RunStaysSaid : Prop := runStaysRow.holds Try.pinned (OpenSpec.ofChange runStaysSpec)

/-- ITS FALSE NEIGHBOUR: 'it returns false'. Refute it at one input. -/
def runStaysWrong : ChangeSpec := { name := "runStays", fn := fun _ => fun
  | [d1, d2, d3, d4] => { results := [.lit (.bool false)], args := [d1, d2, d3, d4] }
  | _ => none }
def RunStaysWrongFalsely : Prop := runStaysRow.holds Try.pinned (OpenSpec.ofChange runStaysWrong)

/-- 'fettlelaw04.RunCalls': WHATEVER THE INPUT: true; the input reads as it did. -/
def runCallsSpec : ChangeSpec := { name := "runCalls", fn := fun _ => fun
  | [d1, d2, d3, d4] => { results := [.lit (.bool true)], args := [d1, d2, d3, d4] }
  | _ => none }
def runCallsRow : OpenClaim := { program := "ytoflleabpkgdpaa", sum := "c1afe23796b5d51a5825b2c0160dabb214259623b2aebfe0029496c4eda63d67", func := "fettle/fettlelaw04.RunCalls", spec := "runCalls", unfollowed := true, recurses := true, apart := false }
def RunCallsSaid : Prop := runCallsRow.holds Try.pinned (OpenSpec.ofChange runCallsSpec)

/-- ITS FALSE NEIGHBOUR: 'it returns false'. Refute it at one input. -/
def runCallsWrong : ChangeSpec := { name := "runCalls", fn := fun _ => fun
  | [d1, d2, d3, d4] => { results := [.lit (.bool false)], args := [d1, d2, d3, d4] }
  | _ => none }
def RunCallsWrongFalsely : Prop := runCallsRow.holds Try.pinned (OpenSpec.ofChange runCallsWrong)

/-- 'fettlelaw05.GraphSame': WHATEVER THE INPUT: true; the input reads as it did. -/
def graphSameSpec : ChangeSpec := { name := "graphSame", fn := fun _ => fun
  | [d1, d2, d3, d4, d5] => { results := [.lit (.bool true)], args := [d1, d2, d3, d4, d5] }
  | _ => none }
def graphSameRow : OpenClaim := { program := "ytoflleabpkgdpaa", sum := "c1afe23796b5d51a5825b2c0160dabb214259623b2aebfe0029496c4eda63d67", func := "fettle/fettlelaw05.GraphSame", spec := "graphSame", unfollowed := true, recurses := true, apart := false }
def GraphSameSaid : Prop := graphSameRow.holds Try.pinned (OpenSpec.ofChange graphSameSpec)

/-- ITS FALSE NEIGHBOUR: 'it returns false'. Refute it at one input. -/
def graphSameWrong : ChangeSpec := { name := "graphSame", fn := fun _ => fun
  | [d1, d2, d3, d4, d5] => { results := [.lit (.bool false)], args := [d1, d2, d3, d4, d5] }
  | _ => none }
def GraphSameWrongFalsely : Prop := graphSameRow.holds Try.pinned (OpenSpec.ofChange graphSameWrong)

/- THE SECOND FORM. 'bulk': how many values and letters a reading holds, each counted each time it is reached (what is shared counts as often as it is met; a slice's spare places count too). A statement '..UptoSaid' is the law's where the arguments, and the package variables that the reading takes, are together of bulk at most 1048576: NARROWER than '..Said'. Prove '..Said' where nothing that the law and all that it calls make is longer than what came in: it says more and counts as full. Else prove '..UptoSaid'. A law counts once. -/
mutual
def uptoBulk {H : Type} : DataW H → Nat
  | .lit (.string bytes) => bytes.length + 1
  | .lit _ => 1
  | .nil => 1
  | .ptr d => uptoBulk d + 1
  | .slice elems spare => uptoBulkAll elems + uptoBulkAll spare + 1
  | .agg parts => uptoBulkAll parts + 1
  | .iface _ d => uptoBulk d + 1
  | .map entries => uptoBulkEntries entries + 1
  | .held _ => 1
def uptoBulkAll {H : Type} : List (DataW H) → Nat
  | [] => 0
  | d :: r => uptoBulk d + uptoBulkAll r
def uptoBulkEntries {H : Type} : List (Lit × DataW H) → Nat
  | [] => 0
  | x :: r => uptoBulkEntry x + uptoBulkEntries r
def uptoBulkEntry {H : Type} : Lit × DataW H → Nat
  | (.string bytes, d) => bytes.length + uptoBulk d + 1
  | (_, d) => uptoBulk d + 1
 end
def uptoSmall : (H : Type) → List (DataW H) → Bool := fun _ ds => decide (uptoBulkAll ds ≤ 1048576)
def OpenSpec.upto (s : _root_.Go.ChangeSpec) : _root_.Go.OpenSpec := { _root_.Go.OpenSpec.ofChange s with cond := some uptoSmall }

/-- 'fettlelaw05.GraphNext', WHERE WHAT IT READS IS OF BULK AT MOST 1048576: true; the input reads as it did. -/
def graphNextUptoRow : OpenClaim := { program := "ytoflleabpkgdpaa", sum := "c1afe23796b5d51a5825b2c0160dabb214259623b2aebfe0029496c4eda63d67", func := "fettle/fettlelaw05.GraphNext", spec := "graphNext", unfollowed := true, recurses := true, apart := false, narrowed := true }
def GraphNextUptoSaid : Prop := graphNextUptoRow.holds Try.pinned (OpenSpec.upto graphNextSpec)

/-- 'fettlelaw11.DequeOnce', WHERE WHAT IT READS IS OF BULK AT MOST 1048576: true; the input reads as it did. -/
def dequeOnceUptoRow : OpenClaim := { program := "ytoflleabpkgdpaa", sum := "c1afe23796b5d51a5825b2c0160dabb214259623b2aebfe0029496c4eda63d67", func := "fettle/fettlelaw11.DequeOnce", spec := "dequeOnce", apart := false, narrowed := true }
def DequeOnceUptoSaid : Prop := dequeOnceUptoRow.holds Try.pinned (OpenSpec.upto dequeOnceSpec)

/-- 'fettlelaw11.DequeRow', WHERE WHAT IT READS IS OF BULK AT MOST 1048576: true; the input reads as it did. -/
def dequeRowUptoRow : OpenClaim := { program := "ytoflleabpkgdpaa", sum := "c1afe23796b5d51a5825b2c0160dabb214259623b2aebfe0029496c4eda63d67", func := "fettle/fettlelaw11.DequeRow", spec := "dequeRow", apart := false, narrowed := true }
def DequeRowUptoSaid : Prop := dequeRowUptoRow.holds Try.pinned (OpenSpec.upto dequeRowSpec)

/-- 'fettlelaw11.DequePlays', WHERE WHAT IT READS IS OF BULK AT MOST 1048576: true; the input reads as it did. -/
def dequePlaysUptoRow : OpenClaim := { program := "ytoflleabpkgdpaa", sum := "c1afe23796b5d51a5825b2c0160dabb214259623b2aebfe0029496c4eda63d67", func := "fettle/fettlelaw11.DequePlays", spec := "dequePlays", apart := false, narrowed := true }
def DequePlaysUptoSaid : Prop := dequePlaysUptoRow.holds Try.pinned (OpenSpec.upto dequePlaysSpec)

/-- 'fettlelaw05.GraphTrims', WHERE WHAT IT READS IS OF BULK AT MOST 1048576: true; the input reads as it did. -/
def graphTrimsUptoRow : OpenClaim := { program := "ytoflleabpkgdpaa", sum := "c1afe23796b5d51a5825b2c0160dabb214259623b2aebfe0029496c4eda63d67", func := "fettle/fettlelaw05.GraphTrims", spec := "graphTrims", unfollowed := true, recurses := true, apart := false, narrowed := true }
def GraphTrimsUptoSaid : Prop := graphTrimsUptoRow.holds Try.pinned (OpenSpec.upto graphTrimsSpec)

/-- 'fettlelaw05.GraphOrders', WHERE WHAT IT READS IS OF BULK AT MOST 1048576: true; the input reads as it did. -/
def graphOrdersUptoRow : OpenClaim := { program := "ytoflleabpkgdpaa", sum := "c1afe23796b5d51a5825b2c0160dabb214259623b2aebfe0029496c4eda63d67", func := "fettle/fettlelaw05.GraphOrders", spec := "graphOrders", unfollowed := true, recurses := true, apart := false, narrowed := true }
def GraphOrdersUptoSaid : Prop := graphOrdersUptoRow.holds Try.pinned (OpenSpec.upto graphOrdersSpec)

/-- 'fettlelaw05.GraphStays', WHERE WHAT IT READS IS OF BULK AT MOST 1048576: true; the input reads as it did. -/
def graphStaysUptoRow : OpenClaim := { program := "ytoflleabpkgdpaa", sum := "c1afe23796b5d51a5825b2c0160dabb214259623b2aebfe0029496c4eda63d67", func := "fettle/fettlelaw05.GraphStays", spec := "graphStays", unfollowed := true, recurses := true, apart := false, narrowed := true }
def GraphStaysUptoSaid : Prop := graphStaysUptoRow.holds Try.pinned (OpenSpec.upto graphStaysSpec)

/-- 'fettlelaw08.LiveStays', WHERE WHAT IT READS IS OF BULK AT MOST 1048576: true; the input reads as it did. -/
def liveStaysUptoRow : OpenClaim := { program := "ytoflleabpkgdpaa", sum := "c1afe23796b5d51a5825b2c0160dabb214259623b2aebfe0029496c4eda63d67", func := "fettle/fettlelaw08.LiveStays", spec := "liveStays", unfollowed := true, recurses := true, apart := false, narrowed := true }
def LiveStaysUptoSaid : Prop := liveStaysUptoRow.holds Try.pinned (OpenSpec.upto liveStaysSpec)

/-- 'fettlelaw08.LiveNone', WHERE WHAT IT READS IS OF BULK AT MOST 1048576: true; the input reads as it did. -/
def liveNoneUptoRow : OpenClaim := { program := "ytoflleabpkgdpaa", sum := "c1afe23796b5d51a5825b2c0160dabb214259623b2aebfe0029496c4eda63d67", func := "fettle/fettlelaw08.LiveNone", spec := "liveNone", unfollowed := true, recurses := true, apart := false, narrowed := true }
def LiveNoneUptoSaid : Prop := liveNoneUptoRow.holds Try.pinned (OpenSpec.upto liveNoneSpec)

/-- 'fettlelaw04.RunMore', WHERE WHAT IT READS IS OF BULK AT MOST 1048576: true; the input reads as it did. -/
def runMoreUptoRow : OpenClaim := { program := "ytoflleabpkgdpaa", sum := "c1afe23796b5d51a5825b2c0160dabb214259623b2aebfe0029496c4eda63d67", func := "fettle/fettlelaw04.RunMore", spec := "runMore", unfollowed := true, recurses := true, apart := false, narrowed := true }
def RunMoreUptoSaid : Prop := runMoreUptoRow.holds Try.pinned (OpenSpec.upto runMoreSpec)

/-- 'fettlelaw04.RunStays', WHERE WHAT IT READS IS OF BULK AT MOST 1048576: true; the input reads as it did. -/
def runStaysUptoRow : OpenClaim := { program := "ytoflleabpkgdpaa", sum := "c1afe23796b5d51a5825b2c0160dabb214259623b2aebfe0029496c4eda63d67", func := "fettle/fettlelaw04.RunStays", spec := "runStays", unfollowed := true, recurses := true, apart := false, narrowed := true }
def RunStaysUptoSaid : Prop := runStaysUptoRow.holds Try.pinned (OpenSpec.upto runStaysSpec)

/-- 'fettlelaw04.RunCalls', WHERE WHAT IT READS IS OF BULK AT MOST 1048576: true; the input reads as it did. -/
def runCallsUptoRow : OpenClaim := { program := "ytoflleabpkgdpaa", sum := "c1afe23796b5d51a5825b2c0160dabb214259623b2aebfe0029496c4eda63d67", func := "fettle/fettlelaw04.RunCalls", spec := "runCalls", unfollowed := true, recurses := true, apart := false, narrowed := true }
def RunCallsUptoSaid : Prop := runCallsUptoRow.holds Try.pinned (OpenSpec.upto runCallsSpec)

/-- 'fettlelaw05.GraphSame', WHERE WHAT IT READS IS OF BULK AT MOST 1048576: true; the input reads as it did. -/
def graphSameUptoRow : OpenClaim := { program := "ytoflleabpkgdpaa", sum := "c1afe23796b5d51a5825b2c0160dabb214259623b2aebfe0029496c4eda63d67", func := "fettle/fettlelaw05.GraphSame", spec := "graphSame", unfollowed := true, recurses := true, apart := false, narrowed := true }
def GraphSameUptoSaid : Prop := graphSameUptoRow.holds Try.pinned (OpenSpec.upto graphSameSpec)

end Rows
end Go.Proofs.Ytoflleabpkgdpaa
