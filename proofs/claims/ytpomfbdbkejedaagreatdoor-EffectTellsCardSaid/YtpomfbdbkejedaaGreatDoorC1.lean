/- The walk through the program's functions: each one's pure reading, and that a call does what it says. No conditions. -/
import Derived.Test.YtpomfbdbkejedaaGreatDoorTb
set_option linter.unusedVariables false
set_option linter.unusedSimpArgs false
namespace Go.Proofs.YtpomfbdbkejedaaGreatDoor
open Go Go.Proofs

/-! ### fettle/fettlelaw00.Code -/
abbrev fettlelaw00_Code.R (r : Int) (v : Value) (A : List FP) : Prop := .int .i64 r = v ∧ A = []
def fettlelaw00_Code.nx11  : Option Int :=
  some (-1)
def fettlelaw00_Code.bd11 (a1 : GErr) (x5 : Int) : Option (Ex (Ex Int Unit) Int) :=
  if x5 ≤ 8 then
    if a1 = (GErr.code x5) then
      some (.ret (.ret x5))
    else
      some (.go (w64 (x5 + 1)))
  else
    some (.ret (.go ()))
def fettlelaw00_Code (a1 : GErr) : Option Int :=
  if a1 = GErr.no then
    some 0
  else
    (whl (fun (s : Int) => fettlelaw00_Code.bd11 a1 s) FUEL 1).bind fun z =>
    match z with
      | .ret r => some r
      | .go p => fettlelaw00_Code.nx11
theorem fettlelaw00_Code_ok {E : World} {H : FP} {w : World} {a1 : GErr} {v2 : Value} {F3 : FP} {r : Int} (h4 : ErO 73 60 65 a1 v2 F3) (hp : fettlelaw00_Code a1 = some r) (hst : St E H [] w) :
    Fn Tryz.prog 19 #[v2] w fun v w' => ∃ A, fettlelaw00_Code.R r v A ∧ St E H A w' := by
 refine fb 15 [.tmp 2] Tryz.func19 rfl rfl rfl rfl rfl hst <| sr <| ta rfl <| nz <| TC.seq fun K1 k2 => sr <| tm rfl <| tv (rv_eqlEN ifc_29 h4 rfl) rfl <| nz <| cD rfl hp (fun hc3 hp => ?_) fun hc3 hp => ?_
 · exact sr <| ta rfl <| nz <| TC.ret <| rt hp [] ⟨rfl, rfl⟩
 · refine sk k2 rfl <| TC.seq fun K4 k5 => sr <| ta rfl <| nz <| TC.block <| bE hp fun z_7 hz8 hr9 => ?_
   have J13 {e12} (hq14 : .go () = z_7) : ∀ w, St E H [] w → K4 (ovr e12 []) w := by
    subst hq14
    replace hp : fettlelaw00_Code.nx11 = some r := hr9
    exact tg k5 <| sr <| ta rfl <| nz <| TC.ret <| rt hp [] ⟨rfl, rfl⟩
   refine lp hz8 [] rfl (fun s e L => ∃ e6, e = ovr e6 [(0, v2), (3, .int .i64 s)] ∧ L = []) ⟨_, ovr_eq _ _ rfl, rfl⟩ ?_
   rintro x5 _ _ ⟨e6, rfl, rfl⟩ X10 hp hx11
   replace hp : fettlelaw00_Code.bd11 a1 x5 = some X10 := hp
   refine TC.seq fun K15 k16 => sr <| tm rfl <| tv (ble rfl rfl) rfl <| nz <| cD rfl hp (fun hc17 hp => ?_) fun hc17 hp => ?_
   · refine sk k16 rfl <| TC.seq fun K18 k19 => TC.block <| sr <| tm rfl <| tm rfl <| tv (mI u73 rfl) rfl <| tv (rv_eqlEC ifc_29 cmp_73 Tryz.underlying73 Tryz.underlying60 (by decide) h4 rfl rfl) rfl <| nz <| cD rfl hp (fun hc20 hp => ?_) fun hc20 hp => ?_
     · refine sr <| tm rfl <| ta rfl <| nz <| TC.ret ?_
       obtain rfl := ex_ret hp hx11
       exact rt hr9 [] ⟨rfl, rfl⟩
     · exact sk k19 rfl <| TC.region <| tm rfl <| tv (bad rfl rfl) rfl <| ta rfl <| nl <| gk hp [] ⟨_, ovr_eq _ _ rfl, rfl⟩
   · exact TC.exit <| jn [] (J13 (ex_ret hp hx11))
end Go.Proofs.YtpomfbdbkejedaaGreatDoor
