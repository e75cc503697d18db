/- The walk through the program's functions: each one's pure reading, and that a call does what it says. No conditions. -/
import Derived.Test.YteaknconpkklhaaDoorV3
set_option linter.unusedVariables false
set_option linter.unusedSimpArgs false
namespace Go.Proofs.YteaknconpkklhaaDoor
open Go Go.Proofs
/-! ### fettle/live.Live -/
abbrev live_Live.R (r : List (List Bool) × List (List Bool) × GErr) (v : Value) (A : List FP) : Prop := ∃ (w1 : Value) (G1 : FP) (w2 : Value) (G2 : FP) (w3 : Value) (G3 : FP), .tuple #[w1, w2, w3] = v ∧ A = [G1, G2, G3] ∧ SlO 42 (kSl 4 kBool) r.1 w1 G1 ∧ SlO 42 (kSl 4 kBool) r.2.1 w2 G2 ∧ ErO 38 69 74 r.2.2 w3 G3
def live_Live.nx43  (x4839 : List (List Bool)) (x4842 : List (List Bool)) : Option (List (List Bool) × List (List Bool) × GErr) :=
  some (x4839, x4842, GErr.no)
def live_Live.nx57  (x4854 : List (List Bool)) (x4857 : List (List Bool)) (x4860 : Bool) : Option (Ex (List (List Bool) × List (List Bool)) (List (List Bool) × List (List Bool) × Bool)) :=
  some (.go (x4854, x4857, x4860))
def live_Live.nx89 (x4853 : Int) (x4874 : List (List Bool)) (x9684 : List (List Bool)) (x9687 : Bool) : Option (Ex (List (List Bool) × List (List Bool) × Bool) (List (List Bool) × List (List Bool) × Bool × Int)) :=
  some (.go (x9684, x4874, x9687, (w64 (x4853 - 1))))
def live_Live.jn99 (x9683 : Int) (x9688 : List (List Bool)) (x9691 : Bool) : Option (Ex (List (List Bool) × Bool) (List (List Bool) × Bool × Int)) :=
  some (.go (x9688, x9691, (w64 (x9683 + 1))))
def live_Live.bd89 (x4853 : Int) (x8479 : List Bool) (x9679 : List (List Bool)) (x9682 : Bool) (x9683 : Int) : Option (Ex (List (List Bool) × Bool) (List (List Bool) × Bool × Int)) :=
  if x9683 < (len x8479) then
    (idx x8479 x9683).bind fun x9692 =>
    (idx x9679 x4853).bind fun x9698 =>
    (idx x9698 x9683).bind fun x9706 =>
    if (!(x9692 == x9706)) = true then
      (idx x9679 x4853).bind fun x9712 =>
      (idx x9712 x9683).bind fun x9721 =>
      live_Live.jn99 x9683 (x9679.set (x4853).toNat (x9712.set (x9683).toNat x9692)) true
    else
      live_Live.jn99 x9683 x9679 x9682
  else
    some (.ret (x9679, x9682))
def live_Live.nx74 (x12 : PFunc) (x4846 : List (List Bool)) (x4853 : Int) (x4874 : List (List Bool)) (x4877 : Bool) : Option (Ex (List (List Bool) × List (List Bool) × Bool) (List (List Bool) × List (List Bool) × Bool × Int)) :=
  (idx x12.blocks x4853).bind fun x6079 =>
  (idx x4874 x4853).bind fun x7679 =>
  (live_begin x6079 x7679).bind fun x8479 =>
  (whl (fun (s : (List (List Bool) × Bool × Int)) => live_Live.bd89 x4853 x8479 s.1 s.2.1 s.2.2) FUEL (x4846, x4877, 0)).bind fun z =>
  live_Live.nx89 x4853 x4874 z.1 z.2
def live_Live.nx122 (x4873 : Int) (x9748 : List (List Bool)) (x9751 : Bool) : Option (Ex (List (List Bool) × Bool) (List (List Bool) × Bool × Int)) :=
  some (.go (x9748, x9751, (w64 (x4873 + 1))))
def live_Live.jn132 (x9747 : Int) (x9752 : List (List Bool)) (x9755 : Bool) : Option (Ex (List (List Bool) × Bool) (List (List Bool) × Bool × Int)) :=
  some (.go (x9752, x9755, (w64 (x9747 + 1))))
def live_Live.bd122 (x4853 : Int) (x9735 : List Bool) (x9743 : List (List Bool)) (x9746 : Bool) (x9747 : Int) : Option (Ex (List (List Bool) × Bool) (List (List Bool) × Bool × Int)) :=
  if x9747 < (len x9735) then
    (idx x9735 x9747).bind fun x9756 =>
    (if x9756 = true then (idx x9743 x4853).bind fun x9780 =>
    (idx x9780 x9747).bind fun x9788 =>
    some (!x9788) else some false).bind fun t9762 =>
    if t9762 = true then
      (idx x9743 x4853).bind fun x9763 =>
      (idx x9763 x9747).bind fun x9772 =>
      live_Live.jn132 x9747 (x9743.set (x4853).toNat (x9763.set (x9747).toNat true)) true
    else
      live_Live.jn132 x9747 x9743 x9746
  else
    some (.ret (x9743, x9746))
def live_Live.bd74 (x4846 : List (List Bool)) (x4853 : Int) (x4861 : List Int) (x4869 : List (List Bool)) (x4872 : Bool) (x4873 : Int) : Option (Ex (List (List Bool) × Bool) (List (List Bool) × Bool × Int)) :=
  if x4873 < (len x4861) then
    (idx x4861 x4873).bind fun x9729 =>
    (idx x4846 x9729).bind fun x9735 =>
    (whl (fun (s : (List (List Bool) × Bool × Int)) => live_Live.bd122 x4853 x9735 s.1 s.2.1 s.2.2) FUEL (x4869, x4872, 0)).bind fun z =>
    live_Live.nx122 x4873 z.1 z.2
  else
    some (.ret (x4869, x4872))
def live_Live.bd57 (x12 : PFunc) (x424 : List (List Int)) (x4846 : List (List Bool)) (x4849 : List (List Bool)) (x4852 : Bool) (x4853 : Int) : Option (Ex (List (List Bool) × List (List Bool) × Bool) (List (List Bool) × List (List Bool) × Bool × Int)) :=
  if x4853 ≥ 0 then
    (idx x424 x4853).bind fun x4861 =>
    (whl (fun (s : (List (List Bool) × Bool × Int)) => live_Live.bd74 x4846 x4853 x4861 s.1 s.2.1 s.2.2) FUEL (x4849, x4852, 0)).bind fun z =>
    live_Live.nx74 x12 x4846 x4853 z.1 z.2
  else
    some (.ret (x4846, x4849, x4852))
def live_Live.bd43 (x12 : PFunc) (x424 : List (List Int)) (x4832 : List (List Bool)) (x4835 : List (List Bool)) (x4838 : Bool) : Option (Ex (List (List Bool) × List (List Bool)) (List (List Bool) × List (List Bool) × Bool)) :=
  if x4838 = true then
    (whl (fun (s : (List (List Bool) × List (List Bool) × Bool × Int)) => live_Live.bd57 x12 x424 s.1 s.2.1 s.2.2.1 s.2.2.2) FUEL (x4832, x4835, false, (w64 ((len x12.blocks) - 1)))).bind fun z =>
    live_Live.nx57 z.1 z.2.1 z.2.2
  else
    some (.ret (x4832, x4835))
def live_Live.nx34 (x12 : PFunc) (x424 : List (List Int)) (x2825 : List (List Bool)) (x4829 : List (List Bool)) : Option (List (List Bool) × List (List Bool) × GErr) :=
  (whl (fun (s : (List (List Bool) × List (List Bool) × Bool)) => live_Live.bd43 x12 x424 s.1 s.2.1 s.2.2) FUEL (x2825, x4829, true)).bind fun z =>
  live_Live.nx43 z.1 z.2
def live_Live.nx166 (x4828 : Int) (x9811 : List (List Bool)) : Option (Ex (List (List Bool)) (List (List Bool) × Int)) :=
  some (.go (x9811, (w64 (x4828 + 1))))
def live_Live.nx181 (x9810 : Int) (x9827 : List (List Bool)) : Option (Ex (List (List Bool)) (List (List Bool) × Int)) :=
  some (.go (x9827, (w64 (x9810 + 1))))
def live_Live.bd181 (x1224 : List (List Int)) (x4828 : Int) (x9814 : PPhi) (x9823 : List (List Bool)) (x9826 : Int) : Option (Ex (List (List Bool)) (List (List Bool) × Int)) :=
  if x9826 < (len x9814.args) then
    (idx x9814.args x9826).bind fun x9830 =>
    (idx x1224 x4828).bind fun x9836 =>
    (idx x9836 x9826).bind fun x9844 =>
    (idx x9823 x9844).bind fun x9850 =>
    (idx x9850 x9830).bind fun x9859 =>
    some (.go ((x9823.set (x9844).toNat (x9850.set (x9830).toNat true)), (w64 (x9826 + 1))))
  else
    some (.ret x9823)
def live_Live.bd166 (x1224 : List (List Int)) (x4828 : Int) (x9794 : PBlock) (x9807 : List (List Bool)) (x9810 : Int) : Option (Ex (List (List Bool)) (List (List Bool) × Int)) :=
  if x9810 < (len x9794.phis) then
    (idx x9794.phis x9810).bind fun x9814 =>
    (whl (fun (s : (List (List Bool) × Int)) => live_Live.bd181 x1224 x4828 x9814 s.1 s.2) FUEL (x9807, 0)).bind fun z =>
    live_Live.nx181 x9810 z
  else
    some (.ret x9807)
def live_Live.bd34 (x12 : PFunc) (x1224 : List (List Int)) (x4825 : List (List Bool)) (x4828 : Int) : Option (Ex (List (List Bool)) (List (List Bool) × Int)) :=
  if x4828 < (len x12.blocks) then
    (idx x12.blocks x4828).bind fun x9794 =>
    (whl (fun (s : (List (List Bool) × Int)) => live_Live.bd166 x1224 x4828 x9794 s.1 s.2) FUEL (x4825, 0)).bind fun z =>
    live_Live.nx166 x4828 z
  else
    some (.ret x4825)
def live_Live (a1 : PModule) (a4 : Int) : Option (List (List Bool) × List (List Bool) × GErr) :=
  (live_has a1 a4).bind fun x6 =>
  if ¬ x6 = GErr.no then
    some (([] : List (List Bool)), ([] : List (List Bool)), x6)
  else
    (idx a1.funcs a4).bind fun x12 =>
    (graph_Next x12).bind fun x424 =>
    (check_Ahead x12).bind fun x1224 =>
    (live_table x12).bind fun x2825 =>
    (live_table x12).bind fun x3625 =>
    (whl (fun (s : (List (List Bool) × Int)) => live_Live.bd34 x12 x1224 s.1 s.2) FUEL (x3625, 0)).bind fun z =>
    live_Live.nx34 x12 x424 x2825 z
set_option maxHeartbeats 4000000 in
theorem live_Live_ok {E : World} {H : FP} {w : World} {a1 : PModule} {a4 : Int} {v2 : Value} {r : List (List Bool) × List (List Bool) × GErr} (h3 : SlI kFunc H a1.funcs v2) (hp : live_Live a1 a4 = some r) (hst : St E H [] w) :
    Fn Tryd.prog 8 #[.agg #[v2], .int .i64 a4] w fun v w' => ∃ A, live_Live.R r v A ∧ St E H A w' := by
 refine fb 166 [.tmp 4, .tmp 5, .tmp 6] Tryd.func8 rfl rfl rfl rfl rfl hst <| sr <| tb [v2] rfl rfl fun b5 => ta rfl <| ta rfl <| ta rfl <| nz <| TC.seq fun K1 k2 => sr <| tv (lA (ds := [v2]) ag_24 0 rfl rfl rfl rfl) rfl <| tm rfl <| bE hp fun x6 hy3 hp => tc 0 [_] rfl c20 (fun _ => live_has_ok (a1 := a1) (a4 := a4) (h3.mono subH) hy3) rfl ?_
 rintro _ _ ⟨v7, F8, rfl, rfl, h9⟩
 refine ta rfl <| nz <| sr <| tm rfl <| tv (rv_neqEN ifc_29 h9 rfl) rfl <| nz <| cD rfl hp (fun hc5 hp => ?_) fun hc5 hp => ?_
 · exact sr <| tm rfl <| ta rfl <| ta rfl <| ta rfl <| nz <| TC.ret <| W.new0 <| W.new0 <| rt hp [1, 0, 2] ⟨(.slice none 0 0), ([] : FP), (.slice none 0 0), ([] : FP), v7, F8, rfl, rfl, (SlO.nil 42), (SlO.nil 42), h9⟩
 · refine sk k2 rfl <| sr <| tv (fa f24_0 rfl) rfl <| tv (lb s22 1 rfl rfl rfl) rfl <| tm rfl <| ti u22 i41 h3 hp rfl rfl rfl rfl ?_
   rintro x12 b13 o14 _ hp ⟨v18, v20, rfl, h19, h21⟩ h17
   refine tv (lR (ds := [.int .i64 x12.params, .int .i64 x12.result, v18, v20]) ag_41 sH h17 0 rfl rfl rfl) rfl <| tl i41 rfl fun b22 => tS 0 m41 rfl rfl [.int .i64 x12.params, .int .i64 x12.result, v18, v20] rfl (oc rfl (oc rfl (oc (h19).one (oc (h21).one oc0)))) rfl rfl <| nz <| TC.seq fun K7 k8 => ch mix [bx b22 41 [.int .i64 x12.params, .int .i64 x12.result, v18, v20], F8, bx b5 24 [v2]] (srcG 0 rfl (srcG 1 rfl (srcG 2 rfl srcG0))) <| hv 0 rfl (lAG (ds := [.int .i64 x12.params, .int .i64 x12.result, v18, v20]) ag_41 0 rfl rfl rfl rfl) (by kernel_rfl) rfl <| hv 2 rfl (lAG (ds := [.int .i64 x12.params, .int .i64 x12.result, v18, v20]) ag_41 0 rfl rfl rfl rfl) (by kernel_rfl) rfl <| ho 1 rfl (by kernel_rfl) fun K9 k10 => bE hp fun x424 hy11 hp => tc 0 [_,_,_] rfl c21 (fun _ => graph_Next_ok (a1 := x12) (h19.mono subH) (h21.mono subH) hy11) rfl ?_
   rintro _ _ ⟨v425, F426, rfl, rfl, h427⟩
   refine hk k10 (srcG 1 rfl (srcG 2 rfl (srcG 3 rfl srcG0))) <| ho 3 rfl (by kernel_rfl) fun K13 k14 => bE hp fun x1224 hy15 hp => tc 0 [_,_,_,_] rfl c22 (fun _ => check_Ahead_ok (a1 := x12) (h19.mono subH) (h21.mono subH) hy15) rfl ?_
   rintro _ _ ⟨v1225, F1226, rfl, rfl, h1227⟩
   refine hk k14 (srcG 2 rfl (srcG 3 rfl (srcG 4 rfl srcG0))) <| hv 4 rfl sg (by kernel_rfl) rfl <| hv 5 rfl sg (by kernel_rfl) rfl <| hz (by kernel_rfl) <| tg k8 <| TC.seq fun K17 k18 => ch mix [F1226, F426, bx b22 41 [.int .i64 x12.params, .int .i64 x12.result, v18, v20], F8, bx b5 24 [v2]] (srcG 0 rfl (srcG 1 rfl (srcG 2 rfl (srcG 3 rfl (srcG 4 rfl srcG0))))) <| hv 0 rfl (lAG (ds := [.int .i64 x12.params, .int .i64 x12.result, v18, v20]) ag_41 2 rfl rfl rfl rfl) (by kernel_rfl) rfl <| hv 2 rfl (lAG (ds := [.int .i64 x12.params, .int .i64 x12.result, v18, v20]) ag_41 2 rfl rfl rfl rfl) (by kernel_rfl) rfl <| ho 1 rfl (by kernel_rfl) fun K19 k20 => bE hp fun x2825 hy21 hp => tc 0 [_,_,_,_,_] rfl c23 (fun _ => live_table_ok (a1 := x12) (h19.mono subH) (h21.mono subH) hy21) rfl ?_
   rintro _ _ ⟨v2826, F2827, rfl, rfl, h2828⟩
   refine hk k20 (srcG 1 rfl (srcG 2 rfl (srcG 3 rfl (srcG 4 rfl (srcG 5 rfl srcG0))))) <| ho 3 rfl (by kernel_rfl) fun K23 k24 => bE hp fun x3625 hy25 hp => tc 0 [_,_,_,_,_,_] rfl c23 (fun _ => live_table_ok (a1 := x12) (h19.mono subH) (h21.mono subH) hy25) rfl ?_
   rintro _ _ ⟨v3626, F3627, rfl, rfl, h3628⟩
   refine hk k24 (srcG 2 rfl (srcG 3 rfl (srcG 4 rfl (srcG 5 rfl (srcG 6 rfl srcG0))))) <| hv 4 rfl sg (by kernel_rfl) rfl <| hv 5 rfl sg (by kernel_rfl) rfl <| hz (by kernel_rfl) <| tg k18 <| TC.seq fun K27 k28 => sr <| tv (fa f41_3 rfl) rfl <| tv (lb s39 4 rfl rfl rfl) rfl <| tv (ln u39 h21 rfl) rfl <| tm rfl <| nz <| TC.block <| bE hp fun z_30 hz31 hr32 => ?_
   have J153 {x4829 F4830 e35} (h4831 : SlO 42 (kSl 4 kBool) x4829 v3626 F4830) (hq154 : x4829 = z_30) : ∀ w, St E H [bx b22 41 [.int .i64 x12.params, .int .i64 x12.result, v18, v20], F426, F2827, F4830] w → K27 (ovr e35 [(8, .pointer (some ⟨b22, 0, none⟩)), (9, v425), (11, v2826), (12, v3626)]) w := by
    subst hq154
    replace hp : live_Live.nx34 x12 x424 x2825 x4829 = some r := hr32
    refine tg k28 <| TC.seq fun K36 k37 => sr <| ta rfl <| nz <| TC.block <| bE hp fun z_39 hz40 hr41 => ?_
    have J45 {x4839 x4842 F4840 F4843 e44} (h4841 : SlO 42 (kSl 4 kBool) x4839 v2826 F4840) (h4844 : SlO 42 (kSl 4 kBool) x4842 v3626 F4843) (hq46 : (x4839, x4842) = z_39) : ∀ w, St E H [F4840, F4843] w → K36 (ovr e44 [(11, v2826), (12, v3626)]) w := by
     subst hq46
     replace hp : live_Live.nx43 x4839 x4842 = some r := hr41
     exact tg k37 <| sr <| tm rfl <| tm rfl <| ta rfl <| ta rfl <| ta rfl <| nz <| TC.ret <| W.new0 <| rt hp [1, 2, 0] ⟨v2826, F4840, v3626, F4843, .nilIface, ([] : FP), rfl, rfl, h4841, h4844, (ErO.nil : ErO 38 69 74 GErr.no .nilIface [])⟩
    refine lp hz40 [0, 1, 2, 3] rfl (fun s e L => ∃ x4832 x4835 x4838 F4833 F4836 e38, s = (x4832, x4835, x4838) ∧ SlO 42 (kSl 4 kBool) x4832 v2826 F4833 ∧ SlO 42 (kSl 4 kBool) x4835 v3626 F4836 ∧ e = ovr e38 [(8, .pointer (some ⟨b22, 0, none⟩)), (9, v425), (11, v2826), (12, v3626), (19, .bool x4838)] ∧ L = [bx b22 41 [.int .i64 x12.params, .int .i64 x12.result, v18, v20], F426, F4833, F4836]) ⟨_, _, _, F2827, F4830, _, rfl, h2828, h4831, ovr_eq _ _ rfl, rfl⟩ ?_
    rintro _ _ _ ⟨x4832, x4835, x4838, F4833, F4836, e38, rfl, h4834, h4837, rfl, rfl⟩ X42 hp hx43
    replace hp : live_Live.bd43 x12 x424 x4832 x4835 x4838 = some X42 := hp
    refine TC.seq fun K47 k48 => sr <| tm rfl <| nz <| cB rfl hp (fun hc49 hp => ?_) fun hc49 hp => ?_
    · refine sk k48 rfl <| TC.named fun K50 k51 => TC.block <| sr <| ta rfl <| nz <| sr <| tv (fa f41_3 rfl) rfl <| tv (lb s39 0 rfl rfl rfl) rfl <| tv (ln u39 h21 rfl) rfl <| tv (bsu rfl rfl) rfl <| ta rfl <| nz <| TC.block <| bE hp fun z_53 hz54 hr55 => ?_
      have J59 {x4854 x4857 x4860 F4855 F4858 e58} (h4856 : SlO 42 (kSl 4 kBool) x4854 v2826 F4855) (h4859 : SlO 42 (kSl 4 kBool) x4857 v3626 F4858) (hq60 : (x4854, x4857, x4860) = z_53) : ∀ w, St E H [bx b22 41 [.int .i64 x12.params, .int .i64 x12.result, v18, v20], F426, F4855, F4858] w → K50 (ovr e58 [(8, .pointer (some ⟨b22, 0, none⟩)), (9, v425), (11, v2826), (12, v3626), (19, .bool x4860)]) w := by
       subst hq60
       replace hp : live_Live.nx57 x4854 x4857 x4860 = some X42 := hr55
       exact viaK k51 <| gk hp [0, 1, 2, 3] ⟨_, _, _, F4855, F4858, _, rfl, h4856, h4859, ovr_eq _ _ rfl, rfl⟩
      refine lp hz54 [0, 1, 2, 3] rfl (fun s e L => ∃ x4846 x4849 x4852 x4853 F4847 F4850 e52, s = (x4846, x4849, x4852, x4853) ∧ SlO 42 (kSl 4 kBool) x4846 v2826 F4847 ∧ SlO 42 (kSl 4 kBool) x4849 v3626 F4850 ∧ e = ovr e52 [(8, .pointer (some ⟨b22, 0, none⟩)), (9, v425), (11, v2826), (12, v3626), (19, .bool x4852), (20, .int .i64 x4853)] ∧ L = [bx b22 41 [.int .i64 x12.params, .int .i64 x12.result, v18, v20], F426, F4847, F4850]) ⟨_, _, _, _, F4833, F4836, _, rfl, h4834, h4837, ovr_eq _ _ rfl, rfl⟩ ?_
      rintro _ _ _ ⟨x4846, x4849, x4852, x4853, F4847, F4850, e52, rfl, h4848, h4851, rfl, rfl⟩ X56 hp hx57
      replace hp : live_Live.bd57 x12 x424 x4846 x4849 x4852 x4853 = some X56 := hp
      refine TC.seq fun K61 k62 => sr <| tm rfl <| tv (bge rfl rfl) rfl <| nz <| cD rfl hp (fun hc63 hp => ?_) fun hc63 hp => ?_
      · refine sk k62 rfl <| TC.seq fun K64 k65 => TC.block <| TC.seq fun K66 k67 => sr <| tm rfl <| tm rfl <| ti u65 i32 (h427).ro hp rfl rfl rfl rfl ?_
        rintro x4861 b4862 o4863 _ hp ⟨v4867, rfl, h4868⟩ h4866
        refine tv (lr s32 (Src.at_ 1 rfl) h4866 0 rfl rfl) rfl <| tv (ln u32 h4868 rfl) rfl <| tm rfl <| nz <| TC.block <| bE hp fun z_70 hz71 hr72 => ?_
        have J108 {x4874 x4877 F4875 e75} (h4876 : SlO 42 (kSl 4 kBool) x4874 v3626 F4875) (hq109 : (x4874, x4877) = z_70) : ∀ w, St E H [bx b22 41 [.int .i64 x12.params, .int .i64 x12.result, v18, v20], F426, F4847, F4875] w → K66 (ovr e75 [(8, .pointer (some ⟨b22, 0, none⟩)), (9, v425), (11, v2826), (12, v3626), (19, .bool x4877), (20, .int .i64 x4853)]) w := by
         subst hq109
         replace hp : live_Live.nx74 x12 x4846 x4853 x4874 x4877 = some X56 := hr72
         refine tg k67 <| TC.seq fun K76 k77 => ch mix [bx b22 41 [.int .i64 x12.params, .int .i64 x12.result, v18, v20], F426, F4847, F4875] (srcG 0 rfl (srcG 1 rfl (srcG 2 rfl (srcG 3 rfl srcG0)))) <| hv 0 rfl (fa f41_3 rfl) (by kernel_rfl) rfl <| hv 1 rfl (lbG s39 0 rfl rfl rfl) (by kernel_rfl) rfl <| hv 2 rfl mv (by kernel_rfl) rfl <| hi 3 rfl u39 i60 h21 hp rfl rfl rfl (by kernel_rfl) rfl ?_
         rintro x6079 b6080 o6081 _ hp ⟨v6085, v6087, v6089, rfl, h6086, h6088, h6090⟩ h6084
         refine hv 4 rfl (lR (ds := [v6085, v6087, .int .i64 x6079.term.kind, .int .i64 x6079.term.arg, v6089]) ag_60 srcInH h6084 0 rfl rfl rfl) (by kernel_rfl) rfl <| hv 5 rfl mv (by kernel_rfl) rfl <| hv 6 rfl mv (by kernel_rfl) rfl <| hi 7 rfl u27 i42 (h4876).ro hp rfl rfl rfl (by kernel_rfl) rfl ?_
         rintro x7679 b7680 o7681 _ hp ⟨v7685, rfl, h7686⟩ h7684
         refine hv 8 rfl (lr s42 (srcInG 3 rfl) h7684 0 rfl rfl) (by kernel_rfl) rfl <| hv 11 rfl mv (by kernel_rfl) rfl <| ho 9 rfl (by kernel_rfl) fun K80 k81 => bE hp fun x8479 hy82 hp => tc 0 [_,_,_,_] rfl c24 (fun _ => live_begin_ok (a1 := x6079) (a8 := x7679) (h6086.mono subH) (h6088.mono subH) (h6090.mono subH) (h7686.mono (subB 3 rfl)) hy82) rfl ?_
         rintro _ _ ⟨v8480, F8481, rfl, rfl, h8482⟩
         refine hk k81 (srcG 1 rfl (srcG 2 rfl (srcG 3 rfl (srcG 4 rfl srcG0)))) <| hv 10 rfl (ln u42 h8482.ro rfl) (by kernel_rfl) rfl <| hz (by kernel_rfl) <| tg k77 <| TC.block <| bE hp fun z_85 hz86 hr87 => ?_
         have J91 {x9684 x9687 F9685 e90} (h9686 : SlO 42 (kSl 4 kBool) x9684 v2826 F9685) (hq92 : (x9684, x9687) = z_85) : ∀ w, St E H [bx b22 41 [.int .i64 x12.params, .int .i64 x12.result, v18, v20], F426, F9685, F4875] w → K64 (ovr e90 [(8, .pointer (some ⟨b22, 0, none⟩)), (9, v425), (11, v2826), (12, v3626), (19, .bool x9687), (20, .int .i64 x4853)]) w := by
          subst hq92
          replace hp : live_Live.nx89 x4853 x4874 x9684 x9687 = some X56 := hr87
          exact tg k65 <| TC.region <| tm rfl <| tv (bsu rfl rfl) rfl <| ta rfl <| nl <| gk hp [0, 1, 2, 3] ⟨_, _, _, _, F9685, F4875, _, rfl, h9686, h4876, ovr_eq _ _ rfl, rfl⟩
         refine lp hz86 [1, 2, 3, 4, 0] rfl (fun s e L => ∃ x9679 x9682 x9683 F9680 e84, s = (x9679, x9682, x9683) ∧ SlO 42 (kSl 4 kBool) x9679 v2826 F9680 ∧ e = ovr e84 [(8, .pointer (some ⟨b22, 0, none⟩)), (9, v425), (11, v2826), (12, v3626), (19, .bool x9682), (20, .int .i64 x4853), (140, v8480), (141, .int .i64 (len x8479)), (142, .int .i64 x9683)] ∧ L = [bx b22 41 [.int .i64 x12.params, .int .i64 x12.result, v18, v20], F426, F9680, F4875, F8481]) ⟨_, _, _, F4847, _, rfl, h4848, ovr_eq _ _ rfl, rfl⟩ ?_
         rintro _ _ _ ⟨x9679, x9682, x9683, F9680, e84, rfl, h9681, rfl, rfl⟩ X88 hp hx89
         replace hp : live_Live.bd89 x4853 x8479 x9679 x9682 x9683 = some X88 := hp
         refine sr <| tv (blt rfl rfl) rfl <| nz <| TC.seq fun K93 k94 => cD rfl hp (fun hc95 hp => ?_) fun hc95 hp => ?_
         · refine sk k94 rfl <| TC.seq fun K96 k97 => ?_
           have J99 {x9688 x9691 F9689 e98} (h9690 : SlO 42 (kSl 4 kBool) x9688 v2826 F9689) (hp : live_Live.jn99 x9683 x9688 x9691 = some X88) : ∀ w, St E H [bx b22 41 [.int .i64 x12.params, .int .i64 x12.result, v18, v20], F426, F9689, F4875, F8481] w → K96 (ovr e98 [(8, .pointer (some ⟨b22, 0, none⟩)), (9, v425), (11, v2826), (12, v3626), (19, .bool x9691), (20, .int .i64 x4853), (140, v8480), (141, .int .i64 (len x8479)), (142, .int .i64 x9683)]) w := by
            exact tg k97 <| TC.region <| tv (bad rfl rfl) rfl <| tm rfl <| nl <| gk hp [0, 1, 2, 3, 4] ⟨_, _, _, F9689, _, rfl, h9690, ovr_eq _ _ rfl, rfl⟩
           refine TC.block <| sr <| tm rfl <| ti u42 i4 (h8482).ro hp rfl rfl rfl rfl ?_
           rintro x9692 b9693 o9694 _ hp rfl h9697
           refine tv (lr s4 (Src.at_ 4 rfl) h9697 0 rfl rfl) rfl <| ta rfl <| ta rfl <| nz <| sr <| tm rfl <| tm rfl <| tm rfl <| ti u27 i42 (h9681).ro hp rfl rfl rfl rfl ?_
           rintro x9698 b9699 o9700 _ hp ⟨v9704, rfl, h9705⟩ h9703
           refine tv (lr s42 (Src.at_ 2 rfl) h9703 0 rfl rfl) rfl <| tm rfl <| ti u42 i4 h9705 hp rfl rfl rfl rfl ?_
           rintro x9706 b9707 o9708 _ hp rfl h9711
           refine tv (lr s4 (Src.at_ 2 rfl) h9711 0 rfl rfl) rfl <| tv (rv_neqB (b := x9692) (c := x9706) Tryd.underlying4 rfl rfl) rfl <| nz <| cB rfl hp (fun hc103 hp => ?_) fun hc103 hp => ?_
           · refine TC.region <| tm rfl <| tm rfl <| tp [2, 0, 1, 3, 4] [_,_,_,_,_] rfl rfl <| bE hp fun x9712 hx104 hp => TL.open_ h9681 hx104 ?_
             rintro b9713 _ F9715 F9716 h9717 ⟨v9719, rfl, h9720⟩
             exact tv (rv_ixH u27 i42 rfl rfl (idx_some hx104).1 h9717) rfl <| tv (lr s42 (Src.at_ 0 rfl) (Hole.cells h9717) 0 rfl rfl) rfl <| tm rfl <| tm rfl <| tO u42 i4 h9720 hp rfl rfl rfl rfl fun x9721 b9722 o9723 h9724 hp => tp [1, 0, 2, 3, 4, 5] [_,_,_,_,_,_] rfl rfl <| tE h9720 h9724 m4 rfl ⟨rfl, rfl⟩ w1 fun F9725 h9726 => ta rfl <| nl <| wp [1, 0, 2, 3, 4, 5] [_,_,_,_,_,_] rfl rfl <| W.shut (a := (x9712.set (x9683).toNat x9692)) h9717 ⟨_, rfl, h9726⟩ fun F9727 h9728 => jn [1, 2, 0, 3, 4] (J99 h9728 hp)
           · exact TC.skip <| jn [0, 1, 2, 3, 4] (J99 h9681 hp)
         · exact TC.exit <| jn [0, 1, 2, 3] (J91 h9681 (ex_ret hp hx89))
        refine lp hz71 [0, 1, 2, 3] rfl (fun s e L => ∃ x4869 x4872 x4873 F4870 e69, s = (x4869, x4872, x4873) ∧ SlO 42 (kSl 4 kBool) x4869 v3626 F4870 ∧ e = ovr e69 [(8, .pointer (some ⟨b22, 0, none⟩)), (9, v425), (11, v2826), (12, v3626), (19, .bool x4872), (20, .int .i64 x4853), (96, v4867), (97, .int .i64 (len x4861)), (98, .int .i64 x4873)] ∧ L = [bx b22 41 [.int .i64 x12.params, .int .i64 x12.result, v18, v20], F426, F4847, F4870]) ⟨_, _, _, F4850, _, rfl, h4851, ovr_eq _ _ rfl, rfl⟩ ?_
        rintro _ _ _ ⟨x4869, x4872, x4873, F4870, e69, rfl, h4871, rfl, rfl⟩ X73 hp hx74
        replace hp : live_Live.bd74 x4846 x4853 x4861 x4869 x4872 x4873 = some X73 := hp
        refine sr <| tv (blt rfl rfl) rfl <| nz <| TC.seq fun K110 k111 => cD rfl hp (fun hc112 hp => ?_) fun hc112 hp => ?_
        · refine sk k111 rfl <| TC.seq fun K113 k114 => TC.block <| sr <| ti u32 i3 h4868 hp rfl rfl rfl rfl ?_
          rintro x9729 b9730 o9731 _ hp rfl h9734
          refine tv (lr s3 (Src.at_ 1 rfl) h9734 0 rfl rfl) rfl <| ta rfl <| nz <| sr <| tm rfl <| tm rfl <| ti u27 i42 (h4848).ro hp rfl rfl rfl rfl ?_
          rintro x9735 b9736 o9737 _ hp ⟨v9741, rfl, h9742⟩ h9740
          refine tv (lr s42 (Src.at_ 2 rfl) h9740 0 rfl rfl) rfl <| tv (ln u42 h9742 rfl) rfl <| tm rfl <| nz <| TC.block <| bE hp fun z_118 hz119 hr120 => ?_
          have J124 {x9748 x9751 F9749 e123} (h9750 : SlO 42 (kSl 4 kBool) x9748 v3626 F9749) (hq125 : (x9748, x9751) = z_118) : ∀ w, St E H [bx b22 41 [.int .i64 x12.params, .int .i64 x12.result, v18, v20], F426, F4847, F9749] w → K113 (ovr e123 [(8, .pointer (some ⟨b22, 0, none⟩)), (9, v425), (11, v2826), (12, v3626), (19, .bool x9751), (20, .int .i64 x4853), (96, v4867), (97, .int .i64 (len x4861)), (98, .int .i64 x4873)]) w := by
           subst hq125
           replace hp : live_Live.nx122 x4873 x9748 x9751 = some X73 := hr120
           exact tg k114 <| TC.region <| tv (bad rfl rfl) rfl <| tm rfl <| nl <| gk hp [0, 1, 2, 3] ⟨_, _, _, F9749, _, rfl, h9750, ovr_eq _ _ rfl, rfl⟩
          refine lp hz119 [0, 1, 2, 3] rfl (fun s e L => ∃ x9743 x9746 x9747 F9744 e117, s = (x9743, x9746, x9747) ∧ SlO 42 (kSl 4 kBool) x9743 v3626 F9744 ∧ e = ovr e117 [(8, .pointer (some ⟨b22, 0, none⟩)), (9, v425), (11, v2826), (12, v3626), (19, .bool x9746), (20, .int .i64 x4853), (96, v4867), (97, .int .i64 (len x4861)), (98, .int .i64 x4873), (105, v9741), (106, .int .i64 (len x9735)), (107, .int .i64 x9747)] ∧ L = [bx b22 41 [.int .i64 x12.params, .int .i64 x12.result, v18, v20], F426, F4847, F9744]) ⟨_, _, _, F4870, _, rfl, h4871, ovr_eq _ _ rfl, rfl⟩ ?_
          rintro _ _ _ ⟨x9743, x9746, x9747, F9744, e117, rfl, h9745, rfl, rfl⟩ X121 hp hx122
          replace hp : live_Live.bd122 x4853 x9735 x9743 x9746 x9747 = some X121 := hp
          refine sr <| tv (blt rfl rfl) rfl <| nz <| TC.seq fun K126 k127 => cD rfl hp (fun hc128 hp => ?_) fun hc128 hp => ?_
          · refine sk k127 rfl <| TC.seq fun K129 k130 => ?_
            have J132 {x9752 x9755 F9753 e131} (h9754 : SlO 42 (kSl 4 kBool) x9752 v3626 F9753) (hp : live_Live.jn132 x9747 x9752 x9755 = some X121) : ∀ w, St E H [bx b22 41 [.int .i64 x12.params, .int .i64 x12.result, v18, v20], F426, F4847, F9753] w → K129 (ovr e131 [(8, .pointer (some ⟨b22, 0, none⟩)), (9, v425), (11, v2826), (12, v3626), (19, .bool x9755), (20, .int .i64 x4853), (96, v4867), (97, .int .i64 (len x4861)), (98, .int .i64 x4873), (105, v9741), (106, .int .i64 (len x9735)), (107, .int .i64 x9747)]) w := by
             exact tg k130 <| TC.region <| tv (bad rfl rfl) rfl <| tm rfl <| nl <| gk hp [0, 1, 2, 3] ⟨_, _, _, F9753, _, rfl, h9754, ovr_eq _ _ rfl, rfl⟩
            refine TC.block <| sr <| tm rfl <| ti u42 i4 h9742 hp rfl rfl rfl rfl ?_
            rintro x9756 b9757 o9758 _ hp rfl h9761
            refine tv (lr s4 (Src.at_ 2 rfl) h9761 0 rfl rfl) rfl <| ta rfl <| ta rfl <| nz <| sr <| tm rfl <| tm rfl <| bE hp fun t9762 ht142 hp => TL.cut 9 fun K134 k135 => ?_
            have J136 {e138} : ∀ w, St E H [bx b22 41 [.int .i64 x12.params, .int .i64 x12.result, v18, v20], F426, F4847, F9744] w → K134 (ovr e138 [(122, .bool t9762), (8, .pointer (some ⟨b22, 0, none⟩)), (9, v425), (11, v2826), (12, v3626), (19, .bool x9746), (20, .int .i64 x4853), (23, .int .i64 x9747), (96, v4867), (97, .int .i64 (len x4861)), (98, .int .i64 x4873), (105, v9741), (106, .int .i64 (len x9735)), (107, .int .i64 x9747)]) w := by
             refine tlg k135 <| nz <| cB rfl hp (fun hc139 hp => ?_) fun hc139 hp => ?_
             · refine TC.region <| tm rfl <| tm rfl <| tp [3, 0, 1, 2] [_,_,_,_] rfl rfl <| bE hp fun x9763 hx140 hp => TL.open_ h9745 hx140 ?_
               rintro b9764 _ F9766 F9767 h9768 ⟨v9770, rfl, h9771⟩
               exact tv (rv_ixH u27 i42 rfl rfl (idx_some hx140).1 h9768) rfl <| tv (lr s42 (Src.at_ 0 rfl) (Hole.cells h9768) 0 rfl rfl) rfl <| tm rfl <| tO u42 i4 h9771 hp rfl rfl rfl rfl fun x9772 b9773 o9774 h9775 hp => tp [1, 0, 2, 3, 4] [_,_,_,_,_] rfl rfl <| tE h9771 h9775 m4 rfl ⟨rfl, rfl⟩ w1 fun F9776 h9777 => ta rfl <| nl <| wp [1, 0, 2, 3, 4] [_,_,_,_,_] rfl rfl <| W.shut (a := (x9763.set (x9747).toNat true)) h9768 ⟨_, rfl, h9777⟩ fun F9778 h9779 => jn [1, 2, 3, 0] (J132 h9779 hp)
             · exact TC.skip <| jn [0, 1, 2, 3] (J132 h9745 hp)
            refine ifE ht142 (fun hc137 hp => ?_) fun hc137 hp => ?_
            · refine gy rfl (bbT hc137) <| tm rfl <| gy rfl (bbT hc137) <| tm rfl <| gy rfl (bbT hc137) <| ti u27 i42 (h9745).ro hp rfl rfl rfl rfl ?_
              rintro x9780 b9781 o9782 _ hp ⟨v9786, rfl, h9787⟩ h9785
              refine gy rfl (bbT hc137) <| tv (lr s42 (Src.at_ 3 rfl) h9785 0 rfl rfl) rfl <| gy rfl (bbT hc137) <| tm rfl <| gy rfl (bbT hc137) <| ti u42 i4 h9787 hp rfl rfl rfl rfl ?_
              rintro x9788 b9789 o9790 _ hp rfl h9793
              refine gy rfl (bbT hc137) <| tv (lr s4 (Src.at_ 3 rfl) h9793 0 rfl rfl) rfl <| gy rfl (bbT hc137) <| tv (rv_not rfl) rfl <| tv (pT (bbT hc137)) rfl ?_
              obtain rfl := Option.some.inj hp
              exact nj J136 rfl
            · refine gn rfl (bbF hc137) rfl rfl <| gn rfl (bbF hc137) rfl rfl <| gn rfl (bbF hc137) rfl rfl <| gn rfl (bbF hc137) rfl rfl <| gn rfl (bbF hc137) rfl rfl <| gn rfl (bbF hc137) rfl rfl <| gn rfl (bbF hc137) rfl rfl <| gn rfl (bbF hc137) rfl rfl <| tv (pF (bbF hc137)) rfl ?_
              obtain rfl := Option.some.inj hp
              exact nj J136 rfl
          · exact TC.exit <| jn [0, 1, 2, 3] (J124 h9745 (ex_ret hp hx122))
        · exact TC.exit <| jn [0, 1, 2, 3] (J108 h4871 (ex_ret hp hx74))
      · exact TC.exit <| jn [0, 1, 2, 3] (J59 h4848 h4851 (ex_ret hp hx57))
    · exact TC.exit <| jn [2, 3] (J45 h4834 h4837 (ex_ret hp hx43))
   refine lp hz31 [4, 3, 2, 1, 0] rfl (fun s e L => ∃ x4825 x4828 F4826 e29, s = (x4825, x4828) ∧ SlO 42 (kSl 4 kBool) x4825 v3626 F4826 ∧ e = ovr e29 [(8, .pointer (some ⟨b22, 0, none⟩)), (9, v425), (10, v1225), (11, v2826), (12, v3626), (47, v20), (48, .int .i64 (len x12.blocks)), (49, .int .i64 x4828)] ∧ L = [bx b22 41 [.int .i64 x12.params, .int .i64 x12.result, v18, v20], F426, F1226, F2827, F4826]) ⟨_, _, F3627, _, rfl, h3628, ovr_eq _ _ rfl, rfl⟩ ?_
   rintro _ _ _ ⟨x4825, x4828, F4826, e29, rfl, h4827, rfl, rfl⟩ X33 hp hx34
   replace hp : live_Live.bd34 x12 x1224 x4825 x4828 = some X33 := hp
   refine sr <| tv (blt rfl rfl) rfl <| nz <| TC.seq fun K155 k156 => cD rfl hp (fun hc157 hp => ?_) fun hc157 hp => ?_
   · refine sk k156 rfl <| TC.seq fun K158 k159 => TC.block <| sr <| tm rfl <| ti u39 i60 h21 hp rfl rfl rfl rfl ?_
     rintro x9794 b9795 o9796 _ hp ⟨v9800, v9802, v9804, rfl, h9801, h9803, h9805⟩ h9799
     refine tv (lR (ds := [v9800, v9802, .int .i64 x9794.term.kind, .int .i64 x9794.term.arg, v9804]) ag_60 sH h9799 0 rfl rfl rfl) rfl <| tl i60 rfl fun b9806 => ta rfl <| tS 0 m60 rfl rfl [v9800, v9802, .int .i64 x9794.term.kind, .int .i64 x9794.term.arg, v9804] rfl (oc (h9801).one (oc (h9803).one (oc rfl (oc rfl (oc (h9805).one oc0))))) rfl rfl <| nz <| sr <| tv (fa f60_0 rfl) rfl <| tv (lb s57 0 rfl rfl rfl) rfl <| tv (ln u57 h9801 rfl) rfl <| tm rfl <| nz <| TC.block <| bE hp fun z_162 hz163 hr164 => ?_
     have J168 {x9811 F9812 e167} (h9813 : SlO 42 (kSl 4 kBool) x9811 v3626 F9812) (hq169 : x9811 = z_162) : ∀ w, St E H [bx b22 41 [.int .i64 x12.params, .int .i64 x12.result, v18, v20], F426, F1226, F2827, F9812] w → K158 (ovr e167 [(8, .pointer (some ⟨b22, 0, none⟩)), (9, v425), (10, v1225), (11, v2826), (12, v3626), (47, v20), (48, .int .i64 (len x12.blocks)), (49, .int .i64 x4828)]) w := by
      subst hq169
      replace hp : live_Live.nx166 x4828 x9811 = some X33 := hr164
      exact tg k159 <| TC.region <| tv (bad rfl rfl) rfl <| tm rfl <| nl <| gk hp [0, 1, 2, 3, 4] ⟨_, _, F9812, _, rfl, h9813, ovr_eq _ _ rfl, rfl⟩
     refine lp hz163 [1, 2, 3, 4, 5] rfl (fun s e L => ∃ x9807 x9810 F9808 e161, s = (x9807, x9810) ∧ SlO 42 (kSl 4 kBool) x9807 v3626 F9808 ∧ e = ovr e161 [(8, .pointer (some ⟨b22, 0, none⟩)), (9, v425), (10, v1225), (11, v2826), (12, v3626), (13, .int .i64 x4828), (47, v20), (48, .int .i64 (len x12.blocks)), (49, .int .i64 x4828), (55, v9800), (56, .int .i64 (len x9794.phis)), (57, .int .i64 x9810)] ∧ L = [bx b22 41 [.int .i64 x12.params, .int .i64 x12.result, v18, v20], F426, F1226, F2827, F9808]) ⟨_, _, F4826, _, rfl, h4827, ovr_eq _ _ rfl, rfl⟩ ?_
     rintro _ _ _ ⟨x9807, x9810, F9808, e161, rfl, h9809, rfl, rfl⟩ X165 hp hx166
     replace hp : live_Live.bd166 x1224 x4828 x9794 x9807 x9810 = some X165 := hp
     refine sr <| tv (blt rfl rfl) rfl <| nz <| TC.seq fun K170 k171 => cD rfl hp (fun hc172 hp => ?_) fun hc172 hp => ?_
     · refine sk k171 rfl <| TC.seq fun K173 k174 => TC.block <| sr <| ti u57 i64 h9801 hp rfl rfl rfl rfl ?_
       rintro x9814 b9815 o9816 _ hp ⟨v9820, rfl, h9821⟩ h9819
       refine tv (lR (ds := [.int .i64 x9814.dst, v9820]) ag_64 sH h9819 0 rfl rfl rfl) rfl <| tl i64 rfl fun b9822 => tS 0 m64 rfl rfl [.int .i64 x9814.dst, v9820] rfl (oc rfl (oc (h9821).one oc0)) rfl rfl <| nz <| sr <| tv (fa f64_1 rfl) rfl <| tv (lb s32 0 rfl rfl rfl) rfl <| tv (ln u32 h9821 rfl) rfl <| tm rfl <| nz <| TC.block <| bE hp fun z_177 hz178 hr179 => ?_
       have J183 {x9827 F9828 e182} (h9829 : SlO 42 (kSl 4 kBool) x9827 v3626 F9828) (hq184 : x9827 = z_177) : ∀ w, St E H [bx b22 41 [.int .i64 x12.params, .int .i64 x12.result, v18, v20], F426, F1226, F2827, F9828] w → K173 (ovr e182 [(8, .pointer (some ⟨b22, 0, none⟩)), (9, v425), (10, v1225), (11, v2826), (12, v3626), (13, .int .i64 x4828), (47, v20), (48, .int .i64 (len x12.blocks)), (49, .int .i64 x4828), (55, v9800), (56, .int .i64 (len x9794.phis)), (57, .int .i64 x9810)]) w := by
        subst hq184
        replace hp : live_Live.nx181 x9810 x9827 = some X165 := hr179
        exact tg k174 <| TC.region <| tv (bad rfl rfl) rfl <| tm rfl <| nl <| gk hp [0, 1, 2, 3, 4] ⟨_, _, F9828, _, rfl, h9829, ovr_eq _ _ rfl, rfl⟩
       refine lp hz178 [1, 2, 3, 4, 5] rfl (fun s e L => ∃ x9823 x9826 F9824 e176, s = (x9823, x9826) ∧ SlO 42 (kSl 4 kBool) x9823 v3626 F9824 ∧ e = ovr e176 [(8, .pointer (some ⟨b22, 0, none⟩)), (9, v425), (10, v1225), (11, v2826), (12, v3626), (13, .int .i64 x4828), (47, v20), (48, .int .i64 (len x12.blocks)), (49, .int .i64 x4828), (55, v9800), (56, .int .i64 (len x9794.phis)), (57, .int .i64 x9810), (62, v9820), (63, .int .i64 (len x9814.args)), (64, .int .i64 x9826)] ∧ L = [bx b22 41 [.int .i64 x12.params, .int .i64 x12.result, v18, v20], F426, F1226, F2827, F9824]) ⟨_, _, F9808, _, rfl, h9809, ovr_eq _ _ rfl, rfl⟩ ?_
       rintro _ _ _ ⟨x9823, x9826, F9824, e176, rfl, h9825, rfl, rfl⟩ X180 hp hx181
       replace hp : live_Live.bd181 x1224 x4828 x9814 x9823 x9826 = some X180 := hp
       refine sr <| tv (blt rfl rfl) rfl <| nz <| TC.seq fun K185 k186 => cD rfl hp (fun hc187 hp => ?_) fun hc187 hp => ?_
       · refine sk k186 rfl <| TC.seq fun K188 k189 => TC.block <| sr <| tm rfl <| ti u32 i3 h9821 hp rfl rfl rfl rfl ?_
         rintro x9830 b9831 o9832 _ hp rfl h9835
         refine tv (lr s3 sH h9835 0 rfl rfl) rfl <| ta rfl <| ta rfl <| nz <| TC.region <| tm rfl <| tm rfl <| tm rfl <| ti u65 i32 (h1227).ro hp rfl rfl rfl rfl ?_
         rintro x9836 b9837 o9838 _ hp ⟨v9842, rfl, h9843⟩ h9841
         refine tv (lr s32 (Src.at_ 2 rfl) h9841 0 rfl rfl) rfl <| tm rfl <| ti u32 i3 h9843 hp rfl rfl rfl rfl ?_
         rintro x9844 b9845 o9846 _ hp rfl h9849
         refine tv (lr s3 (Src.at_ 2 rfl) h9849 0 rfl rfl) rfl <| tp [4, 0, 1, 2, 3] [_,_,_,_,_] rfl rfl <| bE hp fun x9850 hx193 hp => TL.open_ h9825 hx193 ?_
         rintro b9851 _ F9853 F9854 h9855 ⟨v9857, rfl, h9858⟩
         exact tv (rv_ixH u27 i42 rfl rfl (idx_some hx193).1 h9855) rfl <| tv (lr s42 (Src.at_ 0 rfl) (Hole.cells h9855) 0 rfl rfl) rfl <| tm rfl <| tO u42 i4 h9858 hp rfl rfl rfl rfl fun x9859 b9860 o9861 h9862 hp => tp [1, 0, 2, 3, 4, 5] [_,_,_,_,_,_] rfl rfl <| tE h9858 h9862 m4 rfl ⟨rfl, rfl⟩ w1 fun F9863 h9864 => nl <| tg k189 <| TC.region <| tv (bad rfl rfl) rfl <| tm rfl <| nl <| wp [1, 0, 2, 3, 4, 5] [_,_,_,_,_,_] rfl rfl <| W.shut (a := (x9850.set (x9830).toNat true)) h9855 ⟨_, rfl, h9864⟩ fun F9865 h9866 => gk hp [1, 2, 3, 4, 0] ⟨_, _, F9865, _, rfl, h9866, ovr_eq _ _ rfl, rfl⟩
       · exact TC.exit <| jn [0, 1, 2, 3, 4] (J183 h9825 (ex_ret hp hx181))
     · exact TC.exit <| jn [0, 1, 2, 3, 4] (J168 h9809 (ex_ret hp hx166))
   · exact TC.exit <| jn [0, 1, 3, 4] (J153 h4827 (ex_ret hp hx34))
/-! ### fettle/fettlelaw08.up -/
abbrev fettlelaw08_up.R (r : Bool) (v : Value) (A : List FP) : Prop := .bool r = v ∧ A = []
def fettlelaw08_up  : Option Bool :=
  (live_Live (⟨[(⟨1, 1, [1], [(⟨([] : List PPhi), ([] : List PInstr), (⟨3, 0, ([] : List Int)⟩ : PTerm)⟩ : PBlock)]⟩ : PFunc)]⟩ : PModule) 0).bind fun x14 =>
  (if x14.2.2 = GErr.no ∧ (len x14.1) = 1 then (idx x14.1 0).bind fun x64 =>
  some (decide ((len x64) = 1)) else some false).bind fun t24 =>
  (if t24 = true then (idx x14.1 0).bind fun x50 =>
  (idx x50 0).bind fun x58 =>
  some x58 else some false).bind fun t25 =>
  (if t25 = true ∧ (len x14.2.1) = 1 then (idx x14.2.1 0).bind fun x42 =>
  some (decide ((len x42) = 1)) else some false).bind fun t26 =>
  (if t26 = true then (idx x14.2.1 0).bind fun x28 =>
  (idx x28 0).bind fun x36 =>
  some (!x36) else some false).bind fun t27 =>
  some t27
set_option maxHeartbeats 4000000 in
theorem fettlelaw08_up_ok {E : World} {H : FP} {w : World} {r : Bool}  (hp : fettlelaw08_up = some r) (hst : St E H [] w) :
    Fn Tryd.prog 6 #[] w fun v w' => ∃ A, fettlelaw08_up.R r v A ∧ St E H A w' := by
 refine fb 59 [.tmp 0] Tryd.func6 rfl rfl rfl rfl rfl hst <| sr <| ta rfl <| nz <| sr <| tbs [(0, .int .i64 1)] [.int .i64 1] u32 i3 (by kernel_rfl) rfl rfl rfl rfl fun b1 => tv (rv_bv (vs := [(0, .int .i64 3)]) (ds := [.int .i64 3, .int .i64 0, .slice none 0 0]) rfl (fun w => by kernel_rfl)) rfl <| tv (rv_bv (vs := [(2, .agg #[.int .i64 3, .int .i64 0, .slice none 0 0])]) (ds := [.slice none 0 0, .slice none 0 0, .int .i64 3, .int .i64 0, .slice none 0 0]) rfl (fun w => by kernel_rfl)) rfl <| tbs [(0, .agg #[.slice none 0 0, .slice none 0 0, .int .i64 3, .int .i64 0, .slice none 0 0])] [.slice none 0 0, .slice none 0 0, .int .i64 3, .int .i64 0, .slice none 0 0] u39 i60 (by kernel_rfl) rfl rfl rfl rfl fun b2 => tv (rv_bv (vs := [(0, .int .i64 1), (1, .int .i64 1), (2, .slice (some ⟨b1, 0, none⟩) 1 1), (3, .slice (some ⟨b2, 0, none⟩) 1 1)]) (ds := [.int .i64 1, .int .i64 1, .slice (some ⟨b1, 0, none⟩) 1 1, .slice (some ⟨b2, 0, none⟩) 1 1]) rfl (fun w => by kernel_rfl)) rfl <| tl i41 rfl fun b3 => tp [2, 0, 1] [_,_,_] rfl rfl <| tf 1 0 [_,_,_,_] rfl <| TL.litOwn (n := 1) (xs := [1]) (RepL.to (RepL.cons (k := (kInt .i64)) (x := 1) ⟨rfl, rfl⟩ RepL.nil) rfl) rfl rfl (ltb rfl) fun F4 h5 => TL.new0 <| TL.new0 <| TL.new0 <| tp [5, 2, 1, 0, 3, 4] [_,_,_,_,_,_] rfl rfl <| tf 1 3 [_,_,_,_] rfl <| TL.litOwn (n := 1) (xs := [(⟨([] : List PPhi), ([] : List PInstr), (⟨3, 0, ([] : List Int)⟩ : PTerm)⟩ : PBlock)]) (RepL.to (G' := ([] : FP) ++ (([] : FP) ++ (([] : FP)))) (RepL.cons (k := kBlock) (x := (⟨([] : List PPhi), ([] : List PInstr), (⟨3, 0, ([] : List Int)⟩ : PTerm)⟩ : PBlock)) ⟨_, _, _, _, _, _, rfl, rfl, (SlO.nil 64), (SlO.nil 62), (SlO.nil 3)⟩ RepL.nil) (by simp)) rfl rfl (ltb rfl) fun F9 h10 => tS 2 m41 rfl rfl [.int .i64 1, .int .i64 1, (.slice (some ⟨b1, 0, none⟩) 1 1), (.slice (some ⟨b2, 0, none⟩) 1 1)] rfl (oc rfl (oc rfl (oc (h5).one (oc (h10).one oc0)))) rfl rfl <| nz <| sr <| tv (lA (ds := [.int .i64 1, .int .i64 1, (.slice (some ⟨b1, 0, none⟩) 1 1), (.slice (some ⟨b2, 0, none⟩) 1 1)]) ag_41 2 rfl rfl rfl rfl) rfl <| tbs [(0, .agg #[.int .i64 1, .int .i64 1, (.slice (some ⟨b1, 0, none⟩) 1 1), (.slice (some ⟨b2, 0, none⟩) 1 1)])] [.int .i64 1, .int .i64 1, (.slice (some ⟨b1, 0, none⟩) 1 1), (.slice (some ⟨b2, 0, none⟩) 1 1)] u22 i41 (by kernel_rfl) rfl rfl rfl rfl fun b11 => tv (rv_bv (vs := [(0, .slice (some ⟨b11, 0, none⟩) 1 1)]) (ds := [.slice (some ⟨b11, 0, none⟩) 1 1]) rfl (fun w => by kernel_rfl)) rfl <| tp [0, 2, 1, 3] [_,_,_,_] rfl rfl <| tf 1 2 [_,_,_] rfl <| TL.litOwn (n := 1) (xs := [(⟨1, 1, [1], [(⟨([] : List PPhi), ([] : List PInstr), (⟨3, 0, ([] : List Int)⟩ : PTerm)⟩ : PBlock)]⟩ : PFunc)]) (RepL.to (G' := F4 ++ (F9)) (RepL.cons (k := kFunc) (x := (⟨1, 1, [1], [(⟨([] : List PPhi), ([] : List PInstr), (⟨3, 0, ([] : List Int)⟩ : PTerm)⟩ : PBlock)]⟩ : PFunc)) ⟨_, _, _, _, rfl, rfl, h5, h10⟩ RepL.nil) (by simp)) rfl rfl (ltb rfl) fun F12 h13 => bE hp fun x14 hy1 hp => tc 0 [_,_] rfl c8 (fun _ => live_Live_ok (a1 := (⟨[(⟨1, 1, [1], [(⟨([] : List PPhi), ([] : List PInstr), (⟨3, 0, ([] : List Int)⟩ : PTerm)⟩ : PBlock)]⟩ : PFunc)]⟩ : PModule)) (a4 := 0) (h13.ro.mono (subB 0 rfl)) hy1) rfl ?_
 rintro _ _ ⟨v15, F16, v18, F19, v21, F22, rfl, rfl, h17, h20, h23⟩
 refine tm rfl <| tv (xt rfl rfl) rfl <| tv (xt rfl rfl) rfl <| tv (xt rfl rfl) rfl <| ta rfl <| ta rfl <| ta rfl <| nz <| sr <| tm rfl <| tv (rv_eqlEN ifc_29 h23 rfl) rfl <| tm rfl <| TL.cut 4 fun K3 k4 => ?_
 have J5 {e7} : ∀ w, St E H [F16, F19, F22, F12, bx b3 41 [.int .i64 1, .int .i64 1, (.slice (some ⟨b1, 0, none⟩) 1 1), (.slice (some ⟨b2, 0, none⟩) 1 1)]] w → K3 (ovr e7 [(24, .bool (decide (x14.2.2 = GErr.no ∧ (len x14.1) = 1))), (2, v15), (3, v18)]) w := by
  refine tlg k4 <| tm rfl <| bE hp fun t24 ht41 hp => TL.cut 6 fun K8 k9 => ?_
  have J10 {e12} : ∀ w, St E H [F16, F19, F22, F12, bx b3 41 [.int .i64 1, .int .i64 1, (.slice (some ⟨b1, 0, none⟩) 1 1), (.slice (some ⟨b2, 0, none⟩) 1 1)]] w → K8 (ovr e12 [(31, .bool t24), (2, v15), (3, v18)]) w := by
   refine tlg k9 <| tm rfl <| bE hp fun t25 ht38 hp => TL.cut 6 fun K13 k14 => ?_
   have J15 {e17} : ∀ w, St E H [F16, F19, F22, F12, bx b3 41 [.int .i64 1, .int .i64 1, (.slice (some ⟨b1, 0, none⟩) 1 1), (.slice (some ⟨b2, 0, none⟩) 1 1)]] w → K13 (ovr e17 [(38, .bool t25), (3, v18)]) w := by
    refine tlg k14 <| tm rfl <| TL.cut 4 fun K18 k19 => ?_
    have J20 {e22} : ∀ w, St E H [F16, F19, F22, F12, bx b3 41 [.int .i64 1, .int .i64 1, (.slice (some ⟨b1, 0, none⟩) 1 1), (.slice (some ⟨b2, 0, none⟩) 1 1)]] w → K18 (ovr e22 [(43, .bool (decide (t25 = true ∧ (len x14.2.1) = 1))), (3, v18)]) w := by
     refine tlg k19 <| tm rfl <| bE hp fun t26 ht36 hp => TL.cut 6 fun K23 k24 => ?_
     have J25 {e27} : ∀ w, St E H [F16, F19, F22, F12, bx b3 41 [.int .i64 1, .int .i64 1, (.slice (some ⟨b1, 0, none⟩) 1 1), (.slice (some ⟨b2, 0, none⟩) 1 1)]] w → K23 (ovr e27 [(50, .bool t26), (3, v18)]) w := by
      refine tlg k24 <| tm rfl <| bE hp fun t27 ht33 hp => TL.cut 7 fun K28 k29 => ?_
      have J30 {e32} : ∀ w, St E H [F16, F19, F22, F12, bx b3 41 [.int .i64 1, .int .i64 1, (.slice (some ⟨b1, 0, none⟩) 1 1), (.slice (some ⟨b2, 0, none⟩) 1 1)]] w → K28 (ovr e32 [(58, .bool t27)]) w := by
       exact tlg k29 <| ta rfl <| nz <| TC.ret <| rt hp [] ⟨rfl, rfl⟩
      refine ifE ht33 (fun hc31 hp => ?_) fun hc31 hp => ?_
      · refine gy rfl (bbT hc31) <| tm rfl <| gy rfl (bbT hc31) <| ti u27 i42 (h20).ro hp rfl rfl rfl rfl ?_
        rintro x28 b29 o30 _ hp ⟨v34, rfl, h35⟩ h33
        refine gy rfl (bbT hc31) <| tv (lr s42 (Src.at_ 1 rfl) h33 0 rfl rfl) rfl <| gy rfl (bbT hc31) <| ti u42 i4 h35 hp rfl rfl rfl rfl ?_
        rintro x36 b37 o38 _ hp rfl h41
        refine gy rfl (bbT hc31) <| tv (lr s4 (Src.at_ 1 rfl) h41 0 rfl rfl) rfl <| gy rfl (bbT hc31) <| tv (rv_not rfl) rfl <| tv (pT (bbT hc31)) rfl ?_
        obtain rfl := Option.some.inj hp
        exact nj J30 rfl
      · refine gn rfl (bbF hc31) rfl rfl <| gn rfl (bbF hc31) rfl rfl <| gn rfl (bbF hc31) rfl rfl <| gn rfl (bbF hc31) rfl rfl <| gn rfl (bbF hc31) rfl rfl <| gn rfl (bbF hc31) rfl rfl <| tv (pF (bbF hc31)) rfl ?_
        obtain rfl := Option.some.inj hp
        exact nj J30 rfl
     refine ifE ht36 (fun hc26 hp => ?_) fun hc26 hp => ?_
     · refine gy rfl (bT hc26) <| tm rfl <| gy rfl (bT hc26) <| ti u27 i42 (h20).ro hp rfl rfl rfl rfl ?_
       rintro x42 b43 o44 _ hp ⟨v48, rfl, h49⟩ h47
       refine gy rfl (bT hc26) <| tv (lr s42 (Src.at_ 1 rfl) h47 0 rfl rfl) rfl <| gy rfl (bT hc26) <| tv (ln u42 h49 rfl) rfl <| gy rfl (bT hc26) <| tv (beq rfl rfl) rfl <| tv (pT (bT hc26)) rfl ?_
       obtain rfl := Option.some.inj hp
       exact nj J25 rfl
     · refine gn rfl (bF hc26) rfl rfl <| gn rfl (bF hc26) rfl rfl <| gn rfl (bF hc26) rfl rfl <| gn rfl (bF hc26) rfl rfl <| gn rfl (bF hc26) rfl rfl <| tv (pF (bF hc26)) rfl ?_
       obtain rfl := Option.some.inj hp
       exact nj J25 rfl
    by_cases hc21 : t25 = true
    · exact gy rfl (bbT hc21) <| tm rfl <| gy rfl (bbT hc21) <| tv (ln u27 h20.ro rfl) rfl <| gy rfl (bbT hc21) <| tv (beq rfl rfl) rfl <| tv (pT (bbT hc21)) rfl <| nj J20 (bAt hc21)
    · exact gn rfl (bbF hc21) rfl rfl <| gn rfl (bbF hc21) rfl rfl <| gn rfl (bbF hc21) rfl rfl <| tv (pF (bbF hc21)) rfl <| nj J20 (bAf hc21)
   refine ifE ht38 (fun hc16 hp => ?_) fun hc16 hp => ?_
   · refine gy rfl (bbT hc16) <| tm rfl <| gy rfl (bbT hc16) <| ti u27 i42 (h17).ro hp rfl rfl rfl rfl ?_
     rintro x50 b51 o52 _ hp ⟨v56, rfl, h57⟩ h55
     refine gy rfl (bbT hc16) <| tv (lr s42 (Src.at_ 0 rfl) h55 0 rfl rfl) rfl <| gy rfl (bbT hc16) <| ti u42 i4 h57 hp rfl rfl rfl rfl ?_
     rintro x58 b59 o60 _ hp rfl h63
     refine gy rfl (bbT hc16) <| tv (lr s4 (Src.at_ 0 rfl) h63 0 rfl rfl) rfl <| tv (pT (bbT hc16)) rfl ?_
     obtain rfl := Option.some.inj hp
     exact nj J15 rfl
   · refine gn rfl (bbF hc16) rfl rfl <| gn rfl (bbF hc16) rfl rfl <| gn rfl (bbF hc16) rfl rfl <| gn rfl (bbF hc16) rfl rfl <| gn rfl (bbF hc16) rfl rfl <| tv (pF (bbF hc16)) rfl ?_
     obtain rfl := Option.some.inj hp
     exact nj J15 rfl
  refine ifE ht41 (fun hc11 hp => ?_) fun hc11 hp => ?_
  · refine gy rfl (bT hc11) <| tm rfl <| gy rfl (bT hc11) <| ti u27 i42 (h17).ro hp rfl rfl rfl rfl ?_
    rintro x64 b65 o66 _ hp ⟨v70, rfl, h71⟩ h69
    refine gy rfl (bT hc11) <| tv (lr s42 (Src.at_ 0 rfl) h69 0 rfl rfl) rfl <| gy rfl (bT hc11) <| tv (ln u42 h71 rfl) rfl <| gy rfl (bT hc11) <| tv (beq rfl rfl) rfl <| tv (pT (bT hc11)) rfl ?_
    obtain rfl := Option.some.inj hp
    exact nj J10 rfl
  · refine gn rfl (bF hc11) rfl rfl <| gn rfl (bF hc11) rfl rfl <| gn rfl (bF hc11) rfl rfl <| gn rfl (bF hc11) rfl rfl <| gn rfl (bF hc11) rfl rfl <| tv (pF (bF hc11)) rfl ?_
    obtain rfl := Option.some.inj hp
    exact nj J10 rfl
 by_cases hc6 : x14.2.2 = GErr.no
 · exact gy rfl (bT hc6) <| tm rfl <| gy rfl (bT hc6) <| tv (ln u27 h17.ro rfl) rfl <| gy rfl (bT hc6) <| tv (beq rfl rfl) rfl <| tv (pT (bT hc6)) rfl <| nj J5 (bAt hc6)
 · exact gn rfl (bF hc6) rfl rfl <| gn rfl (bF hc6) rfl rfl <| gn rfl (bF hc6) rfl rfl <| tv (pF (bF hc6)) rfl <| nj J5 (bAf hc6)
end Go.Proofs.YteaknconpkklhaaDoor
