/- The walk through the program's functions: each one's pure reading, and that a call does what it says. No conditions. -/
import Derived.Test.YteaknconpkklhaaW7
set_option linter.unusedVariables false
set_option linter.unusedSimpArgs false
namespace Go.Proofs.Yteaknconpkklhaa
open Go Go.Proofs
/-! ### fettle/live.Live -/
abbrev live_Live.R (r : List (List Bool) × List (List Bool) × GErr) (v : Value) (A : List FP) : Prop := ∃ (w1 : Value) (G1 : FP) (w2 : Value) (G2 : FP) (w3 : Value) (G3 : FP), .tuple #[w1, w2, w3] = v ∧ A = [G1, G2, G3] ∧ SlO 88 (kSl 4 kBool) r.1 w1 G1 ∧ SlO 88 (kSl 4 kBool) r.2.1 w2 G2 ∧ ErO 70 96 98 r.2.2 w3 G3
def live_Live.nx43  (x4839 : List (List Bool)) (x4842 : List (List Bool)) : Option (List (List Bool) × List (List Bool) × GErr) :=
  some (x4839, x4842, GErr.no)
def live_Live.nx57  (x4854 : List (List Bool)) (x4857 : List (List Bool)) (x4860 : Bool) : Option (Ex (List (List Bool) × List (List Bool)) (List (List Bool) × List (List Bool) × Bool)) :=
  some (.go (x4854, x4857, x4860))
def live_Live.nx89 (x4853 : Int) (x4874 : List (List Bool)) (x9684 : List (List Bool)) (x9687 : Bool) : Option (Ex (List (List Bool) × List (List Bool) × Bool) (List (List Bool) × List (List Bool) × Bool × Int)) :=
  some (.go (x9684, x4874, x9687, (w64 (x4853 - 1))))
def live_Live.jn99 (x9683 : Int) (x9688 : List (List Bool)) (x9691 : Bool) : Option (Ex (List (List Bool) × Bool) (List (List Bool) × Bool × Int)) :=
  some (.go (x9688, x9691, (w64 (x9683 + 1))))
def live_Live.bd89 (x4853 : Int) (x8479 : List Bool) (x9679 : List (List Bool)) (x9682 : Bool) (x9683 : Int) : Option (Ex (List (List Bool) × Bool) (List (List Bool) × Bool × Int)) :=
  if x9683 < (len x8479) then
    (idx x8479 x9683).bind fun x9692 =>
    (idx x9679 x4853).bind fun x9698 =>
    (idx x9698 x9683).bind fun x9706 =>
    if (!(x9692 == x9706)) = true then
      (idx x9679 x4853).bind fun x9712 =>
      (idx x9712 x9683).bind fun x9721 =>
      live_Live.jn99 x9683 (x9679.set (x4853).toNat (x9712.set (x9683).toNat x9692)) true
    else
      live_Live.jn99 x9683 x9679 x9682
  else
    some (.ret (x9679, x9682))
def live_Live.nx74 (x12 : PFunc) (x4846 : List (List Bool)) (x4853 : Int) (x4874 : List (List Bool)) (x4877 : Bool) : Option (Ex (List (List Bool) × List (List Bool) × Bool) (List (List Bool) × List (List Bool) × Bool × Int)) :=
  (idx x12.blocks x4853).bind fun x6079 =>
  (idx x4874 x4853).bind fun x7679 =>
  (live_begin x6079 x7679).bind fun x8479 =>
  (whl (fun (s : (List (List Bool) × Bool × Int)) => live_Live.bd89 x4853 x8479 s.1 s.2.1 s.2.2) FUEL (x4846, x4877, 0)).bind fun z =>
  live_Live.nx89 x4853 x4874 z.1 z.2
def live_Live.nx122 (x4873 : Int) (x9748 : List (List Bool)) (x9751 : Bool) : Option (Ex (List (List Bool) × Bool) (List (List Bool) × Bool × Int)) :=
  some (.go (x9748, x9751, (w64 (x4873 + 1))))
def live_Live.jn132 (x9747 : Int) (x9752 : List (List Bool)) (x9755 : Bool) : Option (Ex (List (List Bool) × Bool) (List (List Bool) × Bool × Int)) :=
  some (.go (x9752, x9755, (w64 (x9747 + 1))))
def live_Live.bd122 (x4853 : Int) (x9735 : List Bool) (x9743 : List (List Bool)) (x9746 : Bool) (x9747 : Int) : Option (Ex (List (List Bool) × Bool) (List (List Bool) × Bool × Int)) :=
  if x9747 < (len x9735) then
    (idx x9735 x9747).bind fun x9756 =>
    (if x9756 = true then (idx x9743 x4853).bind fun x9780 =>
    (idx x9780 x9747).bind fun x9788 =>
    some (!x9788) else some false).bind fun t9762 =>
    if t9762 = true then
      (idx x9743 x4853).bind fun x9763 =>
      (idx x9763 x9747).bind fun x9772 =>
      live_Live.jn132 x9747 (x9743.set (x4853).toNat (x9763.set (x9747).toNat true)) true
    else
      live_Live.jn132 x9747 x9743 x9746
  else
    some (.ret (x9743, x9746))
def live_Live.bd74 (x4846 : List (List Bool)) (x4853 : Int) (x4861 : List Int) (x4869 : List (List Bool)) (x4872 : Bool) (x4873 : Int) : Option (Ex (List (List Bool) × Bool) (List (List Bool) × Bool × Int)) :=
  if x4873 < (len x4861) then
    (idx x4861 x4873).bind fun x9729 =>
    (idx x4846 x9729).bind fun x9735 =>
    (whl (fun (s : (List (List Bool) × Bool × Int)) => live_Live.bd122 x4853 x9735 s.1 s.2.1 s.2.2) FUEL (x4869, x4872, 0)).bind fun z =>
    live_Live.nx122 x4873 z.1 z.2
  else
    some (.ret (x4869, x4872))
def live_Live.bd57 (x12 : PFunc) (x424 : List (List Int)) (x4846 : List (List Bool)) (x4849 : List (List Bool)) (x4852 : Bool) (x4853 : Int) : Option (Ex (List (List Bool) × List (List Bool) × Bool) (List (List Bool) × List (List Bool) × Bool × Int)) :=
  if x4853 ≥ 0 then
    (idx x424 x4853).bind fun x4861 =>
    (whl (fun (s : (List (List Bool) × Bool × Int)) => live_Live.bd74 x4846 x4853 x4861 s.1 s.2.1 s.2.2) FUEL (x4849, x4852, 0)).bind fun z =>
    live_Live.nx74 x12 x4846 x4853 z.1 z.2
  else
    some (.ret (x4846, x4849, x4852))
def live_Live.bd43 (x12 : PFunc) (x424 : List (List Int)) (x4832 : List (List Bool)) (x4835 : List (List Bool)) (x4838 : Bool) : Option (Ex (List (List Bool) × List (List Bool)) (List (List Bool) × List (List Bool) × Bool)) :=
  if x4838 = true then
    (whl (fun (s : (List (List Bool) × List (List Bool) × Bool × Int)) => live_Live.bd57 x12 x424 s.1 s.2.1 s.2.2.1 s.2.2.2) FUEL (x4832, x4835, false, (w64 ((len x12.blocks) - 1)))).bind fun z =>
    live_Live.nx57 z.1 z.2.1 z.2.2
  else
    some (.ret (x4832, x4835))
def live_Live.nx34 (x12 : PFunc) (x424 : List (List Int)) (x2825 : List (List Bool)) (x4829 : List (List Bool)) : Option (List (List Bool) × List (List Bool) × GErr) :=
  (whl (fun (s : (List (List Bool) × List (List Bool) × Bool)) => live_Live.bd43 x12 x424 s.1 s.2.1 s.2.2) FUEL (x2825, x4829, true)).bind fun z =>
  live_Live.nx43 z.1 z.2
def live_Live.nx166 (x4828 : Int) (x9811 : List (List Bool)) : Option (Ex (List (List Bool)) (List (List Bool) × Int)) :=
  some (.go (x9811, (w64 (x4828 + 1))))
def live_Live.nx181 (x9810 : Int) (x9827 : List (List Bool)) : Option (Ex (List (List Bool)) (List (List Bool) × Int)) :=
  some (.go (x9827, (w64 (x9810 + 1))))
def live_Live.bd181 (x1224 : List (List Int)) (x4828 : Int) (x9814 : PPhi) (x9823 : List (List Bool)) (x9826 : Int) : Option (Ex (List (List Bool)) (List (List Bool) × Int)) :=
  if x9826 < (len x9814.args) then
    (idx x9814.args x9826).bind fun x9830 =>
    (idx x1224 x4828).bind fun x9836 =>
    (idx x9836 x9826).bind fun x9844 =>
    (idx x9823 x9844).bind fun x9850 =>
    (idx x9850 x9830).bind fun x9859 =>
    some (.go ((x9823.set (x9844).toNat (x9850.set (x9830).toNat true)), (w64 (x9826 + 1))))
  else
    some (.ret x9823)
def live_Live.bd166 (x1224 : List (List Int)) (x4828 : Int) (x9794 : PBlock) (x9807 : List (List Bool)) (x9810 : Int) : Option (Ex (List (List Bool)) (List (List Bool) × Int)) :=
  if x9810 < (len x9794.phis) then
    (idx x9794.phis x9810).bind fun x9814 =>
    (whl (fun (s : (List (List Bool) × Int)) => live_Live.bd181 x1224 x4828 x9814 s.1 s.2) FUEL (x9807, 0)).bind fun z =>
    live_Live.nx181 x9810 z
  else
    some (.ret x9807)
def live_Live.bd34 (x12 : PFunc) (x1224 : List (List Int)) (x4825 : List (List Bool)) (x4828 : Int) : Option (Ex (List (List Bool)) (List (List Bool) × Int)) :=
  if x4828 < (len x12.blocks) then
    (idx x12.blocks x4828).bind fun x9794 =>
    (whl (fun (s : (List (List Bool) × Int)) => live_Live.bd166 x1224 x4828 x9794 s.1 s.2) FUEL (x4825, 0)).bind fun z =>
    live_Live.nx166 x4828 z
  else
    some (.ret x4825)
def live_Live (a1 : PModule) (a4 : Int) : Option (List (List Bool) × List (List Bool) × GErr) :=
  (live_has a1 a4).bind fun x6 =>
  if ¬ x6 = GErr.no then
    some (([] : List (List Bool)), ([] : List (List Bool)), x6)
  else
    (idx a1.funcs a4).bind fun x12 =>
    (graph_Next x12).bind fun x424 =>
    (check_Ahead x12).bind fun x1224 =>
    (live_table x12).bind fun x2825 =>
    (live_table x12).bind fun x3625 =>
    (whl (fun (s : (List (List Bool) × Int)) => live_Live.bd34 x12 x1224 s.1 s.2) FUEL (x3625, 0)).bind fun z =>
    live_Live.nx34 x12 x424 x2825 z
set_option maxHeartbeats 4000000 in
theorem live_Live_ok {E : World} {H : FP} {w : World} {a1 : PModule} {a4 : Int} {v2 : Value} {r : List (List Bool) × List (List Bool) × GErr} (h3 : SlI kFunc H a1.funcs v2) (hp : live_Live a1 a4 = some r) (hst : St E H [] w) :
    Fn Try.prog 41 #[.agg #[v2], .int .i64 a4] w fun v w' => ∃ A, live_Live.R r v A ∧ St E H A w' := by
 refine fb 166 [.tmp 4, .tmp 5, .tmp 6] Try.func41 rfl rfl rfl rfl rfl hst <| sr <| tb [v2] rfl rfl fun b5 => ta rfl <| ta rfl <| ta rfl <| nz <| TC.seq fun K1 k2 => sr <| tv (lA (ds := [v2]) ag_35 0 rfl rfl rfl rfl) rfl <| tm rfl <| bE hp fun x6 hy3 hp => tc 0 [_] rfl c73 (fun _ => live_has_ok (a1 := a1) (a4 := a4) (h3.mono subH) hy3) rfl ?_
 rintro _ _ ⟨v7, F8, rfl, rfl, h9⟩
 refine ta rfl <| nz <| sr <| tm rfl <| tv (rv_neqEN ifc_27 h9 rfl) rfl <| nz <| cD rfl hp (fun hc5 hp => ?_) fun hc5 hp => ?_
 · exact sr <| tm rfl <| ta rfl <| ta rfl <| ta rfl <| nz <| TC.ret <| W.new0 <| W.new0 <| rt hp [1, 0, 2] ⟨(.slice none 0 0), ([] : FP), (.slice none 0 0), ([] : FP), v7, F8, rfl, rfl, (SlO.nil 88), (SlO.nil 88), h9⟩
 · refine sk k2 rfl <| sr <| tv (fa f35_0 rfl) rfl <| tv (lb s33 1 rfl rfl rfl) rfl <| tm rfl <| ti u33 i40 h3 hp rfl rfl rfl rfl ?_
   rintro x12 b13 o14 _ hp ⟨v18, v20, rfl, h19, h21⟩ h17
   refine tv (lR (ds := [.int .i64 x12.params, .int .i64 x12.result, v18, v20]) ag_40 sH h17 0 rfl rfl rfl) rfl <| tl i40 rfl fun b22 => tS 0 m40 rfl rfl [.int .i64 x12.params, .int .i64 x12.result, v18, v20] rfl (oc rfl (oc rfl (oc (h19).one (oc (h21).one oc0)))) rfl rfl <| nz <| TC.seq fun K7 k8 => ch mix [bx b22 40 [.int .i64 x12.params, .int .i64 x12.result, v18, v20], F8, bx b5 35 [v2]] (srcG 0 rfl (srcG 1 rfl (srcG 2 rfl srcG0))) <| hv 0 rfl (lAG (ds := [.int .i64 x12.params, .int .i64 x12.result, v18, v20]) ag_40 0 rfl rfl rfl rfl) (by kernel_rfl) rfl <| hv 2 rfl (lAG (ds := [.int .i64 x12.params, .int .i64 x12.result, v18, v20]) ag_40 0 rfl rfl rfl rfl) (by kernel_rfl) rfl <| ho 1 rfl (by kernel_rfl) fun K9 k10 => bE hp fun x424 hy11 hp => tc 0 [_,_,_] rfl c51 (fun _ => graph_Next_ok (a1 := x12) (h19.mono subH) (h21.mono subH) hy11) rfl ?_
   rintro _ _ ⟨v425, F426, rfl, rfl, h427⟩
   refine hk k10 (srcG 1 rfl (srcG 2 rfl (srcG 3 rfl srcG0))) <| ho 3 rfl (by kernel_rfl) fun K13 k14 => bE hp fun x1224 hy15 hp => tc 0 [_,_,_,_] rfl c47 (fun _ => check_Ahead_ok (a1 := x12) (h19.mono subH) (h21.mono subH) hy15) rfl ?_
   rintro _ _ ⟨v1225, F1226, rfl, rfl, h1227⟩
   refine hk k14 (srcG 2 rfl (srcG 3 rfl (srcG 4 rfl srcG0))) <| hv 4 rfl sg (by kernel_rfl) rfl <| hv 5 rfl sg (by kernel_rfl) rfl <| hz (by kernel_rfl) <| tg k8 <| TC.seq fun K17 k18 => ch mix [F1226, F426, bx b22 40 [.int .i64 x12.params, .int .i64 x12.result, v18, v20], F8, bx b5 35 [v2]] (srcG 0 rfl (srcG 1 rfl (srcG 2 rfl (srcG 3 rfl (srcG 4 rfl srcG0))))) <| hv 0 rfl (lAG (ds := [.int .i64 x12.params, .int .i64 x12.result, v18, v20]) ag_40 2 rfl rfl rfl rfl) (by kernel_rfl) rfl <| hv 2 rfl (lAG (ds := [.int .i64 x12.params, .int .i64 x12.result, v18, v20]) ag_40 2 rfl rfl rfl rfl) (by kernel_rfl) rfl <| ho 1 rfl (by kernel_rfl) fun K19 k20 => bE hp fun x2825 hy21 hp => tc 0 [_,_,_,_,_] rfl c74 (fun _ => live_table_ok (a1 := x12) (h19.mono subH) (h21.mono subH) hy21) rfl ?_
   rintro _ _ ⟨v2826, F2827, rfl, rfl, h2828⟩
   refine hk k20 (srcG 1 rfl (srcG 2 rfl (srcG 3 rfl (srcG 4 rfl (srcG 5 rfl srcG0))))) <| ho 3 rfl (by kernel_rfl) fun K23 k24 => bE hp fun x3625 hy25 hp => tc 0 [_,_,_,_,_,_] rfl c74 (fun _ => live_table_ok (a1 := x12) (h19.mono subH) (h21.mono subH) hy25) rfl ?_
   rintro _ _ ⟨v3626, F3627, rfl, rfl, h3628⟩
   refine hk k24 (srcG 2 rfl (srcG 3 rfl (srcG 4 rfl (srcG 5 rfl (srcG 6 rfl srcG0))))) <| hv 4 rfl sg (by kernel_rfl) rfl <| hv 5 rfl sg (by kernel_rfl) rfl <| hz (by kernel_rfl) <| tg k18 <| TC.seq fun K27 k28 => sr <| tv (fa f40_3 rfl) rfl <| tv (lb s38 4 rfl rfl rfl) rfl <| tv (ln u38 h21 rfl) rfl <| tm rfl <| nz <| TC.block <| bE hp fun z_30 hz31 hr32 => ?_
   have J153 {x4829 F4830 e35} (h4831 : SlO 88 (kSl 4 kBool) x4829 v3626 F4830) (hq154 : x4829 = z_30) : ∀ w, St E H [bx b22 40 [.int .i64 x12.params, .int .i64 x12.result, v18, v20], F426, F2827, F4830] w → K27 (ovr e35 [(8, .pointer (some ⟨b22, 0, none⟩)), (9, v425), (11, v2826), (12, v3626)]) w := by
    subst hq154
    replace hp : live_Live.nx34 x12 x424 x2825 x4829 = some r := hr32
    refine tg k28 <| TC.seq fun K36 k37 => sr <| ta rfl <| nz <| TC.block <| bE hp fun z_39 hz40 hr41 => ?_
    have J45 {x4839 x4842 F4840 F4843 e44} (h4841 : SlO 88 (kSl 4 kBool) x4839 v2826 F4840) (h4844 : SlO 88 (kSl 4 kBool) x4842 v3626 F4843) (hq46 : (x4839, x4842) = z_39) : ∀ w, St E H [F4840, F4843] w → K36 (ovr e44 [(11, v2826), (12, v3626)]) w := by
     subst hq46
     replace hp : live_Live.nx43 x4839 x4842 = some r := hr41
     exact tg k37 <| sr <| tm rfl <| tm rfl <| ta rfl <| ta rfl <| ta rfl <| nz <| TC.ret <| W.new0 <| rt hp [1, 2, 0] ⟨v2826, F4840, v3626, F4843, .nilIface, ([] : FP), rfl, rfl, h4841, h4844, (ErO.nil : ErO 70 96 98 GErr.no .nilIface [])⟩
    refine lp hz40 [0, 1, 2, 3] rfl (fun s e L => ∃ x4832 x4835 x4838 F4833 F4836 e38, s = (x4832, x4835, x4838) ∧ SlO 88 (kSl 4 kBool) x4832 v2826 F4833 ∧ SlO 88 (kSl 4 kBool) x4835 v3626 F4836 ∧ e = ovr e38 [(8, .pointer (some ⟨b22, 0, none⟩)), (9, v425), (11, v2826), (12, v3626), (19, .bool x4838)] ∧ L = [bx b22 40 [.int .i64 x12.params, .int .i64 x12.result, v18, v20], F426, F4833, F4836]) ⟨_, _, _, F2827, F4830, _, rfl, h2828, h4831, ovr_eq _ _ rfl, rfl⟩ ?_
    rintro _ _ _ ⟨x4832, x4835, x4838, F4833, F4836, e38, rfl, h4834, h4837, rfl, rfl⟩ X42 hp hx43
    replace hp : live_Live.bd43 x12 x424 x4832 x4835 x4838 = some X42 := hp
    refine TC.seq fun K47 k48 => sr <| tm rfl <| nz <| cB rfl hp (fun hc49 hp => ?_) fun hc49 hp => ?_
    · refine sk k48 rfl <| TC.named fun K50 k51 => TC.block <| sr <| ta rfl <| nz <| sr <| tv (fa f40_3 rfl) rfl <| tv (lb s38 0 rfl rfl rfl) rfl <| tv (ln u38 h21 rfl) rfl <| tv (bsu rfl rfl) rfl <| ta rfl <| nz <| TC.block <| bE hp fun z_53 hz54 hr55 => ?_
      have J59 {x4854 x4857 x4860 F4855 F4858 e58} (h4856 : SlO 88 (kSl 4 kBool) x4854 v2826 F4855) (h4859 : SlO 88 (kSl 4 kBool) x4857 v3626 F4858) (hq60 : (x4854, x4857, x4860) = z_53) : ∀ w, St E H [bx b22 40 [.int .i64 x12.params, .int .i64 x12.result, v18, v20], F426, F4855, F4858] w → K50 (ovr e58 [(8, .pointer (some ⟨b22, 0, none⟩)), (9, v425), (11, v2826), (12, v3626), (19, .bool x4860)]) w := by
       subst hq60
       replace hp : live_Live.nx57 x4854 x4857 x4860 = some X42 := hr55
       exact viaK k51 <| gk hp [0, 1, 2, 3] ⟨_, _, _, F4855, F4858, _, rfl, h4856, h4859, ovr_eq _ _ rfl, rfl⟩
      refine lp hz54 [0, 1, 2, 3] rfl (fun s e L => ∃ x4846 x4849 x4852 x4853 F4847 F4850 e52, s = (x4846, x4849, x4852, x4853) ∧ SlO 88 (kSl 4 kBool) x4846 v2826 F4847 ∧ SlO 88 (kSl 4 kBool) x4849 v3626 F4850 ∧ e = ovr e52 [(8, .pointer (some ⟨b22, 0, none⟩)), (9, v425), (11, v2826), (12, v3626), (19, .bool x4852), (20, .int .i64 x4853)] ∧ L = [bx b22 40 [.int .i64 x12.params, .int .i64 x12.result, v18, v20], F426, F4847, F4850]) ⟨_, _, _, _, F4833, F4836, _, rfl, h4834, h4837, ovr_eq _ _ rfl, rfl⟩ ?_
      rintro _ _ _ ⟨x4846, x4849, x4852, x4853, F4847, F4850, e52, rfl, h4848, h4851, rfl, rfl⟩ X56 hp hx57
      replace hp : live_Live.bd57 x12 x424 x4846 x4849 x4852 x4853 = some X56 := hp
      refine TC.seq fun K61 k62 => sr <| tm rfl <| tv (bge rfl rfl) rfl <| nz <| cD rfl hp (fun hc63 hp => ?_) fun hc63 hp => ?_
      · refine sk k62 rfl <| TC.seq fun K64 k65 => TC.block <| TC.seq fun K66 k67 => sr <| tm rfl <| tm rfl <| ti u60 i25 (h427).ro hp rfl rfl rfl rfl ?_
        rintro x4861 b4862 o4863 _ hp ⟨v4867, rfl, h4868⟩ h4866
        refine tv (lr s25 (Src.at_ 1 rfl) h4866 0 rfl rfl) rfl <| tv (ln u25 h4868 rfl) rfl <| tm rfl <| nz <| TC.block <| bE hp fun z_70 hz71 hr72 => ?_
        have J108 {x4874 x4877 F4875 e75} (h4876 : SlO 88 (kSl 4 kBool) x4874 v3626 F4875) (hq109 : (x4874, x4877) = z_70) : ∀ w, St E H [bx b22 40 [.int .i64 x12.params, .int .i64 x12.result, v18, v20], F426, F4847, F4875] w → K66 (ovr e75 [(8, .pointer (some ⟨b22, 0, none⟩)), (9, v425), (11, v2826), (12, v3626), (19, .bool x4877), (20, .int .i64 x4853)]) w := by
         subst hq109
         replace hp : live_Live.nx74 x12 x4846 x4853 x4874 x4877 = some X56 := hr72
         refine tg k67 <| TC.seq fun K76 k77 => ch mix [bx b22 40 [.int .i64 x12.params, .int .i64 x12.result, v18, v20], F426, F4847, F4875] (srcG 0 rfl (srcG 1 rfl (srcG 2 rfl (srcG 3 rfl srcG0)))) <| hv 0 rfl (fa f40_3 rfl) (by kernel_rfl) rfl <| hv 1 rfl (lbG s38 0 rfl rfl rfl) (by kernel_rfl) rfl <| hv 2 rfl mv (by kernel_rfl) rfl <| hi 3 rfl u38 i50 h21 hp rfl rfl rfl (by kernel_rfl) rfl ?_
         rintro x6079 b6080 o6081 _ hp ⟨v6085, v6087, v6089, rfl, h6086, h6088, h6090⟩ h6084
         refine hv 4 rfl (lR (ds := [v6085, v6087, .int .i64 x6079.term.kind, .int .i64 x6079.term.arg, v6089]) ag_50 srcInH h6084 0 rfl rfl rfl) (by kernel_rfl) rfl <| hv 5 rfl mv (by kernel_rfl) rfl <| hv 6 rfl mv (by kernel_rfl) rfl <| hi 7 rfl u62 i88 (h4876).ro hp rfl rfl rfl (by kernel_rfl) rfl ?_
         rintro x7679 b7680 o7681 _ hp ⟨v7685, rfl, h7686⟩ h7684
         refine hv 8 rfl (lr s88 (srcInG 3 rfl) h7684 0 rfl rfl) (by kernel_rfl) rfl <| hv 11 rfl mv (by kernel_rfl) rfl <| ho 9 rfl (by kernel_rfl) fun K80 k81 => bE hp fun x8479 hy82 hp => tc 0 [_,_,_,_] rfl c75 (fun _ => live_begin_ok (a1 := x6079) (a8 := x7679) (h6086.mono subH) (h6088.mono subH) (h6090.mono subH) (h7686.mono (subB 3 rfl)) hy82) rfl ?_
         rintro _ _ ⟨v8480, F8481, rfl, rfl, h8482⟩
         refine hk k81 (srcG 1 rfl (srcG 2 rfl (srcG 3 rfl (srcG 4 rfl srcG0)))) <| hv 10 rfl (ln u88 h8482.ro rfl) (by kernel_rfl) rfl <| hz (by kernel_rfl) <| tg k77 <| TC.block <| bE hp fun z_85 hz86 hr87 => ?_
         have J91 {x9684 x9687 F9685 e90} (h9686 : SlO 88 (kSl 4 kBool) x9684 v2826 F9685) (hq92 : (x9684, x9687) = z_85) : ∀ w, St E H [bx b22 40 [.int .i64 x12.params, .int .i64 x12.result, v18, v20], F426, F9685, F4875] w → K64 (ovr e90 [(8, .pointer (some ⟨b22, 0, none⟩)), (9, v425), (11, v2826), (12, v3626), (19, .bool x9687), (20, .int .i64 x4853)]) w := by
          subst hq92
          replace hp : live_Live.nx89 x4853 x4874 x9684 x9687 = some X56 := hr87
          exact tg k65 <| TC.region <| tm rfl <| tv (bsu rfl rfl) rfl <| ta rfl <| nl <| gk hp [0, 1, 2, 3] ⟨_, _, _, _, F9685, F4875, _, rfl, h9686, h4876, ovr_eq _ _ rfl, rfl⟩
         refine lp hz86 [1, 2, 3, 4, 0] rfl (fun s e L => ∃ x9679 x9682 x9683 F9680 e84, s = (x9679, x9682, x9683) ∧ SlO 88 (kSl 4 kBool) x9679 v2826 F9680 ∧ e = ovr e84 [(8, .pointer (some ⟨b22, 0, none⟩)), (9, v425), (11, v2826), (12, v3626), (19, .bool x9682), (20, .int .i64 x4853), (140, v8480), (141, .int .i64 (len x8479)), (142, .int .i64 x9683)] ∧ L = [bx b22 40 [.int .i64 x12.params, .int .i64 x12.result, v18, v20], F426, F9680, F4875, F8481]) ⟨_, _, _, F4847, _, rfl, h4848, ovr_eq _ _ rfl, rfl⟩ ?_
         rintro _ _ _ ⟨x9679, x9682, x9683, F9680, e84, rfl, h9681, rfl, rfl⟩ X88 hp hx89
         replace hp : live_Live.bd89 x4853 x8479 x9679 x9682 x9683 = some X88 := hp
         refine sr <| tv (blt rfl rfl) rfl <| nz <| TC.seq fun K93 k94 => cD rfl hp (fun hc95 hp => ?_) fun hc95 hp => ?_
         · refine sk k94 rfl <| TC.seq fun K96 k97 => ?_
           have J99 {x9688 x9691 F9689 e98} (h9690 : SlO 88 (kSl 4 kBool) x9688 v2826 F9689) (hp : live_Live.jn99 x9683 x9688 x9691 = some X88) : ∀ w, St E H [bx b22 40 [.int .i64 x12.params, .int .i64 x12.result, v18, v20], F426, F9689, F4875, F8481] w → K96 (ovr e98 [(8, .pointer (some ⟨b22, 0, none⟩)), (9, v425), (11, v2826), (12, v3626), (19, .bool x9691), (20, .int .i64 x4853), (140, v8480), (141, .int .i64 (len x8479)), (142, .int .i64 x9683)]) w := by
            exact tg k97 <| TC.region <| tv (bad rfl rfl) rfl <| tm rfl <| nl <| gk hp [0, 1, 2, 3, 4] ⟨_, _, _, F9689, _, rfl, h9690, ovr_eq _ _ rfl, rfl⟩
           refine TC.block <| sr <| tm rfl <| ti u88 i4 (h8482).ro hp rfl rfl rfl rfl ?_
           rintro x9692 b9693 o9694 _ hp rfl h9697
           refine tv (lr s4 (Src.at_ 4 rfl) h9697 0 rfl rfl) rfl <| ta rfl <| ta rfl <| nz <| sr <| tm rfl <| tm rfl <| tm rfl <| ti u62 i88 (h9681).ro hp rfl rfl rfl rfl ?_
           rintro x9698 b9699 o9700 _ hp ⟨v9704, rfl, h9705⟩ h9703
           refine tv (lr s88 (Src.at_ 2 rfl) h9703 0 rfl rfl) rfl <| tm rfl <| ti u88 i4 h9705 hp rfl rfl rfl rfl ?_
           rintro x9706 b9707 o9708 _ hp rfl h9711
           refine tv (lr s4 (Src.at_ 2 rfl) h9711 0 rfl rfl) rfl <| tv (rv_neqB (b := x9692) (c := x9706) Try.underlying4 rfl rfl) rfl <| nz <| cB rfl hp (fun hc103 hp => ?_) fun hc103 hp => ?_
           · refine TC.region <| tm rfl <| tm rfl <| tp [2, 0, 1, 3, 4] [_,_,_,_,_] rfl rfl <| bE hp fun x9712 hx104 hp => TL.open_ h9681 hx104 ?_
             rintro b9713 _ F9715 F9716 h9717 ⟨v9719, rfl, h9720⟩
             exact tv (rv_ixH u62 i88 rfl rfl (idx_some hx104).1 h9717) rfl <| tv (lr s88 (Src.at_ 0 rfl) (Hole.cells h9717) 0 rfl rfl) rfl <| tm rfl <| tm rfl <| tO u88 i4 h9720 hp rfl rfl rfl rfl fun x9721 b9722 o9723 h9724 hp => tp [1, 0, 2, 3, 4, 5] [_,_,_,_,_,_] rfl rfl <| tE h9720 h9724 m4 rfl ⟨rfl, rfl⟩ w1 fun F9725 h9726 => ta rfl <| nl <| wp [1, 0, 2, 3, 4, 5] [_,_,_,_,_,_] rfl rfl <| W.shut (a := (x9712.set (x9683).toNat x9692)) h9717 ⟨_, rfl, h9726⟩ fun F9727 h9728 => jn [1, 2, 0, 3, 4] (J99 h9728 hp)
           · exact TC.skip <| jn [0, 1, 2, 3, 4] (J99 h9681 hp)
         · exact TC.exit <| jn [0, 1, 2, 3] (J91 h9681 (ex_ret hp hx89))
        refine lp hz71 [0, 1, 2, 3] rfl (fun s e L => ∃ x4869 x4872 x4873 F4870 e69, s = (x4869, x4872, x4873) ∧ SlO 88 (kSl 4 kBool) x4869 v3626 F4870 ∧ e = ovr e69 [(8, .pointer (some ⟨b22, 0, none⟩)), (9, v425), (11, v2826), (12, v3626), (19, .bool x4872), (20, .int .i64 x4853), (96, v4867), (97, .int .i64 (len x4861)), (98, .int .i64 x4873)] ∧ L = [bx b22 40 [.int .i64 x12.params, .int .i64 x12.result, v18, v20], F426, F4847, F4870]) ⟨_, _, _, F4850, _, rfl, h4851, ovr_eq _ _ rfl, rfl⟩ ?_
        rintro _ _ _ ⟨x4869, x4872, x4873, F4870, e69, rfl, h4871, rfl, rfl⟩ X73 hp hx74
        replace hp : live_Live.bd74 x4846 x4853 x4861 x4869 x4872 x4873 = some X73 := hp
        refine sr <| tv (blt rfl rfl) rfl <| nz <| TC.seq fun K110 k111 => cD rfl hp (fun hc112 hp => ?_) fun hc112 hp => ?_
        · refine sk k111 rfl <| TC.seq fun K113 k114 => TC.block <| sr <| ti u25 i3 h4868 hp rfl rfl rfl rfl ?_
          rintro x9729 b9730 o9731 _ hp rfl h9734
          refine tv (lr s3 (Src.at_ 1 rfl) h9734 0 rfl rfl) rfl <| ta rfl <| nz <| sr <| tm rfl <| tm rfl <| ti u62 i88 (h4848).ro hp rfl rfl rfl rfl ?_
          rintro x9735 b9736 o9737 _ hp ⟨v9741, rfl, h9742⟩ h9740
          refine tv (lr s88 (Src.at_ 2 rfl) h9740 0 rfl rfl) rfl <| tv (ln u88 h9742 rfl) rfl <| tm rfl <| nz <| TC.block <| bE hp fun z_118 hz119 hr120 => ?_
          have J124 {x9748 x9751 F9749 e123} (h9750 : SlO 88 (kSl 4 kBool) x9748 v3626 F9749) (hq125 : (x9748, x9751) = z_118) : ∀ w, St E H [bx b22 40 [.int .i64 x12.params, .int .i64 x12.result, v18, v20], F426, F4847, F9749] w → K113 (ovr e123 [(8, .pointer (some ⟨b22, 0, none⟩)), (9, v425), (11, v2826), (12, v3626), (19, .bool x9751), (20, .int .i64 x4853), (96, v4867), (97, .int .i64 (len x4861)), (98, .int .i64 x4873)]) w := by
           subst hq125
           replace hp : live_Live.nx122 x4873 x9748 x9751 = some X73 := hr120
           exact tg k114 <| TC.region <| tv (bad rfl rfl) rfl <| tm rfl <| nl <| gk hp [0, 1, 2, 3] ⟨_, _, _, F9749, _, rfl, h9750, ovr_eq _ _ rfl, rfl⟩
          refine lp hz119 [0, 1, 2, 3] rfl (fun s e L => ∃ x9743 x9746 x9747 F9744 e117, s = (x9743, x9746, x9747) ∧ SlO 88 (kSl 4 kBool) x9743 v3626 F9744 ∧ e = ovr e117 [(8, .pointer (some ⟨b22, 0, none⟩)), (9, v425), (11, v2826), (12, v3626), (19, .bool x9746), (20, .int .i64 x4853), (96, v4867), (97, .int .i64 (len x4861)), (98, .int .i64 x4873), (105, v9741), (106, .int .i64 (len x9735)), (107, .int .i64 x9747)] ∧ L = [bx b22 40 [.int .i64 x12.params, .int .i64 x12.result, v18, v20], F426, F4847, F9744]) ⟨_, _, _, F4870, _, rfl, h4871, ovr_eq _ _ rfl, rfl⟩ ?_
          rintro _ _ _ ⟨x9743, x9746, x9747, F9744, e117, rfl, h9745, rfl, rfl⟩ X121 hp hx122
          replace hp : live_Live.bd122 x4853 x9735 x9743 x9746 x9747 = some X121 := hp
          refine sr <| tv (blt rfl rfl) rfl <| nz <| TC.seq fun K126 k127 => cD rfl hp (fun hc128 hp => ?_) fun hc128 hp => ?_
          · refine sk k127 rfl <| TC.seq fun K129 k130 => ?_
            have J132 {x9752 x9755 F9753 e131} (h9754 : SlO 88 (kSl 4 kBool) x9752 v3626 F9753) (hp : live_Live.jn132 x9747 x9752 x9755 = some X121) : ∀ w, St E H [bx b22 40 [.int .i64 x12.params, .int .i64 x12.result, v18, v20], F426, F4847, F9753] w → K129 (ovr e131 [(8, .pointer (some ⟨b22, 0, none⟩)), (9, v425), (11, v2826), (12, v3626), (19, .bool x9755), (20, .int .i64 x4853), (96, v4867), (97, .int .i64 (len x4861)), (98, .int .i64 x4873), (105, v9741), (106, .int .i64 (len x9735)), (107, .int .i64 x9747)]) w := by
             exact tg k130 <| TC.region <| tv (bad rfl rfl) rfl <| tm rfl <| nl <| gk hp [0, 1, 2, 3] ⟨_, _, _, F9753, _, rfl, h9754, ovr_eq _ _ rfl, rfl⟩
            refine TC.block <| sr <| tm rfl <| ti u88 i4 h9742 hp rfl rfl rfl rfl ?_
            rintro x9756 b9757 o9758 _ hp rfl h9761
            refine tv (lr s4 (Src.at_ 2 rfl) h9761 0 rfl rfl) rfl <| ta rfl <| ta rfl <| nz <| sr <| tm rfl <| tm rfl <| bE hp fun t9762 ht142 hp => TL.cut 9 fun K134 k135 => ?_
            have J136 {e138} : ∀ w, St E H [bx b22 40 [.int .i64 x12.params, .int .i64 x12.result, v18, v20], F426, F4847, F9744] w → K134 (ovr e138 [(122, .bool t9762), (8, .pointer (some ⟨b22, 0, none⟩)), (9, v425), (11, v2826), (12, v3626), (19, .bool x9746), (20, .int .i64 x4853), (23, .int .i64 x9747), (96, v4867), (97, .int .i64 (len x4861)), (98, .int .i64 x4873), (105, v9741), (106, .int .i64 (len x9735)), (107, .int .i64 x9747)]) w := by
             refine tlg k135 <| nz <| cB rfl hp (fun hc139 hp => ?_) fun hc139 hp => ?_
             · refine TC.region <| tm rfl <| tm rfl <| tp [3, 0, 1, 2] [_,_,_,_] rfl rfl <| bE hp fun x9763 hx140 hp => TL.open_ h9745 hx140 ?_
               rintro b9764 _ F9766 F9767 h9768 ⟨v9770, rfl, h9771⟩
               exact tv (rv_ixH u62 i88 rfl rfl (idx_some hx140).1 h9768) rfl <| tv (lr s88 (Src.at_ 0 rfl) (Hole.cells h9768) 0 rfl rfl) rfl <| tm rfl <| tO u88 i4 h9771 hp rfl rfl rfl rfl fun x9772 b9773 o9774 h9775 hp => tp [1, 0, 2, 3, 4] [_,_,_,_,_] rfl rfl <| tE h9771 h9775 m4 rfl ⟨rfl, rfl⟩ w1 fun F9776 h9777 => ta rfl <| nl <| wp [1, 0, 2, 3, 4] [_,_,_,_,_] rfl rfl <| W.shut (a := (x9763.set (x9747).toNat true)) h9768 ⟨_, rfl, h9777⟩ fun F9778 h9779 => jn [1, 2, 3, 0] (J132 h9779 hp)
             · exact TC.skip <| jn [0, 1, 2, 3] (J132 h9745 hp)
            refine ifE ht142 (fun hc137 hp => ?_) fun hc137 hp => ?_
            · refine gy rfl (bbT hc137) <| tm rfl <| gy rfl (bbT hc137) <| tm rfl <| gy rfl (bbT hc137) <| ti u62 i88 (h9745).ro hp rfl rfl rfl rfl ?_
              rintro x9780 b9781 o9782 _ hp ⟨v9786, rfl, h9787⟩ h9785
              refine gy rfl (bbT hc137) <| tv (lr s88 (Src.at_ 3 rfl) h9785 0 rfl rfl) rfl <| gy rfl (bbT hc137) <| tm rfl <| gy rfl (bbT hc137) <| ti u88 i4 h9787 hp rfl rfl rfl rfl ?_
              rintro x9788 b9789 o9790 _ hp rfl h9793
              refine gy rfl (bbT hc137) <| tv (lr s4 (Src.at_ 3 rfl) h9793 0 rfl rfl) rfl <| gy rfl (bbT hc137) <| tv (rv_not rfl) rfl <| tv (pT (bbT hc137)) rfl ?_
              obtain rfl := Option.some.inj hp
              exact nj J136 rfl
            · refine gn rfl (bbF hc137) rfl rfl <| gn rfl (bbF hc137) rfl rfl <| gn rfl (bbF hc137) rfl rfl <| gn rfl (bbF hc137) rfl rfl <| gn rfl (bbF hc137) rfl rfl <| gn rfl (bbF hc137) rfl rfl <| gn rfl (bbF hc137) rfl rfl <| gn rfl (bbF hc137) rfl rfl <| tv (pF (bbF hc137)) rfl ?_
              obtain rfl := Option.some.inj hp
              exact nj J136 rfl
          · exact TC.exit <| jn [0, 1, 2, 3] (J124 h9745 (ex_ret hp hx122))
        · exact TC.exit <| jn [0, 1, 2, 3] (J108 h4871 (ex_ret hp hx74))
      · exact TC.exit <| jn [0, 1, 2, 3] (J59 h4848 h4851 (ex_ret hp hx57))
    · exact TC.exit <| jn [2, 3] (J45 h4834 h4837 (ex_ret hp hx43))
   refine lp hz31 [4, 3, 2, 1, 0] rfl (fun s e L => ∃ x4825 x4828 F4826 e29, s = (x4825, x4828) ∧ SlO 88 (kSl 4 kBool) x4825 v3626 F4826 ∧ e = ovr e29 [(8, .pointer (some ⟨b22, 0, none⟩)), (9, v425), (10, v1225), (11, v2826), (12, v3626), (47, v20), (48, .int .i64 (len x12.blocks)), (49, .int .i64 x4828)] ∧ L = [bx b22 40 [.int .i64 x12.params, .int .i64 x12.result, v18, v20], F426, F1226, F2827, F4826]) ⟨_, _, F3627, _, rfl, h3628, ovr_eq _ _ rfl, rfl⟩ ?_
   rintro _ _ _ ⟨x4825, x4828, F4826, e29, rfl, h4827, rfl, rfl⟩ X33 hp hx34
   replace hp : live_Live.bd34 x12 x1224 x4825 x4828 = some X33 := hp
   refine sr <| tv (blt rfl rfl) rfl <| nz <| TC.seq fun K155 k156 => cD rfl hp (fun hc157 hp => ?_) fun hc157 hp => ?_
   · refine sk k156 rfl <| TC.seq fun K158 k159 => TC.block <| sr <| tm rfl <| ti u38 i50 h21 hp rfl rfl rfl rfl ?_
     rintro x9794 b9795 o9796 _ hp ⟨v9800, v9802, v9804, rfl, h9801, h9803, h9805⟩ h9799
     refine tv (lR (ds := [v9800, v9802, .int .i64 x9794.term.kind, .int .i64 x9794.term.arg, v9804]) ag_50 sH h9799 0 rfl rfl rfl) rfl <| tl i50 rfl fun b9806 => ta rfl <| tS 0 m50 rfl rfl [v9800, v9802, .int .i64 x9794.term.kind, .int .i64 x9794.term.arg, v9804] rfl (oc (h9801).one (oc (h9803).one (oc rfl (oc rfl (oc (h9805).one oc0))))) rfl rfl <| nz <| sr <| tv (fa f50_0 rfl) rfl <| tv (lb s47 0 rfl rfl rfl) rfl <| tv (ln u47 h9801 rfl) rfl <| tm rfl <| nz <| TC.block <| bE hp fun z_162 hz163 hr164 => ?_
     have J168 {x9811 F9812 e167} (h9813 : SlO 88 (kSl 4 kBool) x9811 v3626 F9812) (hq169 : x9811 = z_162) : ∀ w, St E H [bx b22 40 [.int .i64 x12.params, .int .i64 x12.result, v18, v20], F426, F1226, F2827, F9812] w → K158 (ovr e167 [(8, .pointer (some ⟨b22, 0, none⟩)), (9, v425), (10, v1225), (11, v2826), (12, v3626), (47, v20), (48, .int .i64 (len x12.blocks)), (49, .int .i64 x4828)]) w := by
      subst hq169
      replace hp : live_Live.nx166 x4828 x9811 = some X33 := hr164
      exact tg k159 <| TC.region <| tv (bad rfl rfl) rfl <| tm rfl <| nl <| gk hp [0, 1, 2, 3, 4] ⟨_, _, F9812, _, rfl, h9813, ovr_eq _ _ rfl, rfl⟩
     refine lp hz163 [1, 2, 3, 4, 5] rfl (fun s e L => ∃ x9807 x9810 F9808 e161, s = (x9807, x9810) ∧ SlO 88 (kSl 4 kBool) x9807 v3626 F9808 ∧ e = ovr e161 [(8, .pointer (some ⟨b22, 0, none⟩)), (9, v425), (10, v1225), (11, v2826), (12, v3626), (13, .int .i64 x4828), (47, v20), (48, .int .i64 (len x12.blocks)), (49, .int .i64 x4828), (55, v9800), (56, .int .i64 (len x9794.phis)), (57, .int .i64 x9810)] ∧ L = [bx b22 40 [.int .i64 x12.params, .int .i64 x12.result, v18, v20], F426, F1226, F2827, F9808]) ⟨_, _, F4826, _, rfl, h4827, ovr_eq _ _ rfl, rfl⟩ ?_
     rintro _ _ _ ⟨x9807, x9810, F9808, e161, rfl, h9809, rfl, rfl⟩ X165 hp hx166
     replace hp : live_Live.bd166 x1224 x4828 x9794 x9807 x9810 = some X165 := hp
     refine sr <| tv (blt rfl rfl) rfl <| nz <| TC.seq fun K170 k171 => cD rfl hp (fun hc172 hp => ?_) fun hc172 hp => ?_
     · refine sk k171 rfl <| TC.seq fun K173 k174 => TC.block <| sr <| ti u47 i76 h9801 hp rfl rfl rfl rfl ?_
       rintro x9814 b9815 o9816 _ hp ⟨v9820, rfl, h9821⟩ h9819
       refine tv (lR (ds := [.int .i64 x9814.dst, v9820]) ag_76 sH h9819 0 rfl rfl rfl) rfl <| tl i76 rfl fun b9822 => tS 0 m76 rfl rfl [.int .i64 x9814.dst, v9820] rfl (oc rfl (oc (h9821).one oc0)) rfl rfl <| nz <| sr <| tv (fa f76_1 rfl) rfl <| tv (lb s25 0 rfl rfl rfl) rfl <| tv (ln u25 h9821 rfl) rfl <| tm rfl <| nz <| TC.block <| bE hp fun z_177 hz178 hr179 => ?_
       have J183 {x9827 F9828 e182} (h9829 : SlO 88 (kSl 4 kBool) x9827 v3626 F9828) (hq184 : x9827 = z_177) : ∀ w, St E H [bx b22 40 [.int .i64 x12.params, .int .i64 x12.result, v18, v20], F426, F1226, F2827, F9828] w → K173 (ovr e182 [(8, .pointer (some ⟨b22, 0, none⟩)), (9, v425), (10, v1225), (11, v2826), (12, v3626), (13, .int .i64 x4828), (47, v20), (48, .int .i64 (len x12.blocks)), (49, .int .i64 x4828), (55, v9800), (56, .int .i64 (len x9794.phis)), (57, .int .i64 x9810)]) w := by
        subst hq184
        replace hp : live_Live.nx181 x9810 x9827 = some X165 := hr179
        exact tg k174 <| TC.region <| tv (bad rfl rfl) rfl <| tm rfl <| nl <| gk hp [0, 1, 2, 3, 4] ⟨_, _, F9828, _, rfl, h9829, ovr_eq _ _ rfl, rfl⟩
       refine lp hz178 [1, 2, 3, 4, 5] rfl (fun s e L => ∃ x9823 x9826 F9824 e176, s = (x9823, x9826) ∧ SlO 88 (kSl 4 kBool) x9823 v3626 F9824 ∧ e = ovr e176 [(8, .pointer (some ⟨b22, 0, none⟩)), (9, v425), (10, v1225), (11, v2826), (12, v3626), (13, .int .i64 x4828), (47, v20), (48, .int .i64 (len x12.blocks)), (49, .int .i64 x4828), (55, v9800), (56, .int .i64 (len x9794.phis)), (57, .int .i64 x9810), (62, v9820), (63, .int .i64 (len x9814.args)), (64, .int .i64 x9826)] ∧ L = [bx b22 40 [.int .i64 x12.params, .int .i64 x12.result, v18, v20], F426, F1226, F2827, F9824]) ⟨_, _, F9808, _, rfl, h9809, ovr_eq _ _ rfl, rfl⟩ ?_
       rintro _ _ _ ⟨x9823, x9826, F9824, e176, rfl, h9825, rfl, rfl⟩ X180 hp hx181
       replace hp : live_Live.bd181 x1224 x4828 x9814 x9823 x9826 = some X180 := hp
       refine sr <| tv (blt rfl rfl) rfl <| nz <| TC.seq fun K185 k186 => cD rfl hp (fun hc187 hp => ?_) fun hc187 hp => ?_
       · refine sk k186 rfl <| TC.seq fun K188 k189 => TC.block <| sr <| tm rfl <| ti u25 i3 h9821 hp rfl rfl rfl rfl ?_
         rintro x9830 b9831 o9832 _ hp rfl h9835
         refine tv (lr s3 sH h9835 0 rfl rfl) rfl <| ta rfl <| ta rfl <| nz <| TC.region <| tm rfl <| tm rfl <| tm rfl <| ti u60 i25 (h1227).ro hp rfl rfl rfl rfl ?_
         rintro x9836 b9837 o9838 _ hp ⟨v9842, rfl, h9843⟩ h9841
         refine tv (lr s25 (Src.at_ 2 rfl) h9841 0 rfl rfl) rfl <| tm rfl <| ti u25 i3 h9843 hp rfl rfl rfl rfl ?_
         rintro x9844 b9845 o9846 _ hp rfl h9849
         refine tv (lr s3 (Src.at_ 2 rfl) h9849 0 rfl rfl) rfl <| tp [4, 0, 1, 2, 3] [_,_,_,_,_] rfl rfl <| bE hp fun x9850 hx193 hp => TL.open_ h9825 hx193 ?_
         rintro b9851 _ F9853 F9854 h9855 ⟨v9857, rfl, h9858⟩
         exact tv (rv_ixH u62 i88 rfl rfl (idx_some hx193).1 h9855) rfl <| tv (lr s88 (Src.at_ 0 rfl) (Hole.cells h9855) 0 rfl rfl) rfl <| tm rfl <| tO u88 i4 h9858 hp rfl rfl rfl rfl fun x9859 b9860 o9861 h9862 hp => tp [1, 0, 2, 3, 4, 5] [_,_,_,_,_,_] rfl rfl <| tE h9858 h9862 m4 rfl ⟨rfl, rfl⟩ w1 fun F9863 h9864 => nl <| tg k189 <| TC.region <| tv (bad rfl rfl) rfl <| tm rfl <| nl <| wp [1, 0, 2, 3, 4, 5] [_,_,_,_,_,_] rfl rfl <| W.shut (a := (x9850.set (x9830).toNat true)) h9855 ⟨_, rfl, h9864⟩ fun F9865 h9866 => gk hp [1, 2, 3, 4, 0] ⟨_, _, F9865, _, rfl, h9866, ovr_eq _ _ rfl, rfl⟩
       · exact TC.exit <| jn [0, 1, 2, 3, 4] (J183 h9825 (ex_ret hp hx181))
     · exact TC.exit <| jn [0, 1, 2, 3, 4] (J168 h9809 (ex_ret hp hx166))
   · exact TC.exit <| jn [0, 1, 3, 4] (J153 h4827 (ex_ret hp hx34))
/-! ### fettle/dom.Frontier -/
abbrev dom_Frontier.R (r : List (List Int)) (v : Value) (A : List FP) : Prop := ∃ (w1 : Value) (G1 : FP), w1 = v ∧ A = [G1] ∧ SlO 25 (kSl 3 (kInt .i64)) r w1 G1
def dom_Frontier.nx23  (x3616 : List (List Int)) : Option (List (List Int)) :=
  some x3616
def dom_Frontier.nx47 (x3615 : Int) (x3634 : List (List Int)) : Option (Ex (List (List Int)) (List (List Int) × Int)) :=
  some (.go (x3634, (w64 (x3615 + 1))))
def dom_Frontier.jn57 (x3633 : Int) (x3637 : List (List Int)) : Option (Ex (List (List Int)) (List (List Int) × Int)) :=
  some (.go (x3637, (w64 (x3633 + 1))))
def dom_Frontier.bd47 (x1208 : List Bool) (x2008 : List (List Bool)) (x3615 : Int) (x3627 : List Bool) (x3630 : List (List Int)) (x3633 : Int) : Option (Ex (List (List Int)) (List (List Int) × Int)) :=
  if x3633 < (len x3627) then
    (idx x3627 x3633).bind fun x3640 =>
    (if x3640 = true then (idx x1208 x3615).bind fun x3682 =>
    some x3682 else some false).bind fun t3646 =>
    (if t3646 = true then (if x3615 = x3633 then some true else (idx x2008 x3615).bind fun x3668 =>
    (idx x3668 x3633).bind fun x3676 =>
    some (!x3676)).bind fun t3667 =>
    some t3667 else some false).bind fun t3647 =>
    if t3647 = true then
      (idx x3630 x3615).bind fun x3648 =>
      (cat x3648 [x3633]).bind fun x3658 =>
      dom_Frontier.jn57 x3633 (x3630.set (x3615).toNat x3658)
    else
      dom_Frontier.jn57 x3633 x3630
  else
    some (.ret x3630)
def dom_Frontier.nx40 (x1208 : List Bool) (x2008 : List (List Bool)) (x3612 : List (List Int)) (x3615 : Int) (x3627 : List Bool) : Option (Ex (List (List Int)) (List (List Int) × Int)) :=
  (whl (fun (s : (List (List Int) × Int)) => dom_Frontier.bd47 x1208 x2008 x3615 x3627 s.1 s.2) FUEL (x3612, 0)).bind fun z =>
  dom_Frontier.nx47 x3615 z
def dom_Frontier.nx99 (x3626 : Int) (x3700 : List Bool) : Option (Ex (List Bool) (List Bool × Int)) :=
  some (.go (x3700, (w64 (x3626 + 1))))
def dom_Frontier.bd99 (x2008 : List (List Bool)) (x3615 : Int) (x3626 : Int) (x3688 : List Int) (x3696 : List Bool) (x3699 : Int) : Option (Ex (List Bool) (List Bool × Int)) :=
  if x3699 < (len x3688) then
    (idx x3688 x3699).bind fun x3703 =>
    (idx x3696 x3703).bind fun x3709 =>
    (if x3709 = true then some true else (idx x2008 x3615).bind fun x3722 =>
    (idx x3722 x3626).bind fun x3730 =>
    some x3730).bind fun t3715 =>
    (idx x3696 x3703).bind fun x3716 =>
    some (.go ((x3696.set (x3703).toNat t3715), (w64 (x3699 + 1))))
  else
    some (.ret x3696)
def dom_Frontier.bd40 (x408 : List (List Int)) (x2008 : List (List Bool)) (x3615 : Int) (x3623 : List Bool) (x3626 : Int) : Option (Ex (List Bool) (List Bool × Int)) :=
  if x3626 < (len x408) then
    (idx x408 x3626).bind fun x3688 =>
    (whl (fun (s : (List Bool × Int)) => dom_Frontier.bd99 x2008 x3615 x3626 x3688 s.1 s.2) FUEL (x3623, 0)).bind fun z =>
    dom_Frontier.nx99 x3626 z
  else
    some (.ret x3623)
def dom_Frontier.bd23 (x408 : List (List Int)) (x1208 : List Bool) (x2008 : List (List Bool)) (x3608 : List (List Int)) (x3612 : List (List Int)) (x3615 : Int) : Option (Ex (List (List Int)) (List (List Int) × Int)) :=
  if x3615 < (len x3608) then
    (mkl (len x408) false).bind fun x3619 =>
    (whl (fun (s : (List Bool × Int)) => dom_Frontier.bd40 x408 x2008 x3615 s.1 s.2) FUEL (x3619, 0)).bind fun z =>
    dom_Frontier.nx40 x1208 x2008 x3612 x3615 z
  else
    some (.ret x3612)
def dom_Frontier (a1 : PFunc) : Option (List (List Int)) :=
  (graph_Next a1).bind fun x408 =>
  (graph_Reached a1).bind fun x1208 =>
  (dom_Dominates a1).bind fun x2008 =>
  (mkl (len x408) ([] : List Int)).bind fun x3608 =>
  (whl (fun (s : (List (List Int) × Int)) => dom_Frontier.bd23 x408 x1208 x2008 x3608 s.1 s.2) FUEL (x3608, 0)).bind fun z =>
  dom_Frontier.nx23 z
set_option maxHeartbeats 4000000 in
theorem dom_Frontier_ok {E : World} {H : FP} {w : World} {a1 : PFunc} {v2 : Value} {v4 : Value} {r : List (List Int)} (h3 : SlI (kInt .i64) H a1.regs v2) (h5 : SlI kBlock H a1.blocks v4) (hp : dom_Frontier a1 = some r) (hst : St E H [] w) :
    Fn Try.prog 42 #[.agg #[.int .i64 a1.params, .int .i64 a1.result, v2, v4]] w fun v w' => ∃ A, dom_Frontier.R r v A ∧ St E H A w' := by
 refine fb 105 [.tmp 2] Try.func42 rfl rfl rfl rfl rfl hst <| sr <| tb [.int .i64 a1.params, .int .i64 a1.result, v2, v4] rfl rfl fun b6 => ta rfl <| nz <| TC.seq fun K1 k2 => ch mix [bx b6 40 [.int .i64 a1.params, .int .i64 a1.result, v2, v4]] (srcG 0 rfl srcG0) <| hv 0 rfl (lAG (ds := [.int .i64 a1.params, .int .i64 a1.result, v2, v4]) ag_40 0 rfl rfl rfl rfl) (by kernel_rfl) rfl <| hv 2 rfl (lAG (ds := [.int .i64 a1.params, .int .i64 a1.result, v2, v4]) ag_40 0 rfl rfl rfl rfl) (by kernel_rfl) rfl <| hv 4 rfl (lAG (ds := [.int .i64 a1.params, .int .i64 a1.result, v2, v4]) ag_40 0 rfl rfl rfl rfl) (by kernel_rfl) rfl <| ho 1 rfl (by kernel_rfl) fun K3 k4 => bE hp fun x408 hy5 hp => tc 0 [_] rfl c51 (fun _ => graph_Next_ok (a1 := a1) (h3.mono subH) (h5.mono subH) hy5) rfl ?_
 rintro _ _ ⟨v409, F410, rfl, rfl, h411⟩
 refine hk k4 (srcG 1 rfl srcG0) <| ho 3 rfl (by kernel_rfl) fun K7 k8 => bE hp fun x1208 hy9 hp => tc 0 [_,_] rfl c52 (fun _ => graph_Reached_ok (a1 := a1) (h3.mono subH) (h5.mono subH) hy9) rfl ?_
 rintro _ _ ⟨v1209, F1210, rfl, rfl, h1211⟩
 refine hk k8 (srcG 2 rfl srcG0) <| ho 5 rfl (by kernel_rfl) fun K11 k12 => bE hp fun x2008 hy13 hp => tc 0 [_,_,_] rfl c58 (fun _ => dom_Dominates_ok (a1 := a1) (h3.mono subH) (h5.mono subH) hy13) rfl ?_
 rintro _ _ ⟨v2009, F2010, rfl, rfl, h2011⟩
 refine hk k12 (srcG 3 rfl srcG0) <| hv 6 rfl sg (by kernel_rfl) rfl <| hv 7 rfl sg (by kernel_rfl) rfl <| hv 8 rfl sg (by kernel_rfl) rfl <| hz (by kernel_rfl) <| tg k2 <| sr <| tm rfl <| tv (ln u60 h411.ro rfl) rfl <| tk (k := (kSl 3 (kInt .i64))) u60 i25 hp ⟨_, rfl, SlO.nil 3⟩ rfl rfl rfl rfl rfl rfl fun x3608 v3609 F3610 h3611 hp => ta rfl <| nz <| TC.seq fun K16 k17 => sr <| tm rfl <| tv (ln u60 h3611.ro rfl) rfl <| tm rfl <| nz <| TC.block <| bE hp fun z_19 hz20 hr21 => ?_
 have J25 {x3616 F3617 e24} (h3618 : SlO 25 (kSl 3 (kInt .i64)) x3616 v3609 F3617) (hq26 : x3616 = z_19) : ∀ w, St E H [F3617] w → K16 (ovr e24 [(6, v3609)]) w := by
  subst hq26
  replace hp : dom_Frontier.nx23 x3616 = some r := hr21
  exact tg k17 <| sr <| tm rfl <| ta rfl <| nz <| TC.ret <| rt hp [0] ⟨v3609, F3617, rfl, rfl, h3618⟩
 refine lp hz20 [3, 2, 1, 0] rfl (fun s e L => ∃ x3612 x3615 F3613 e18, s = (x3612, x3615) ∧ SlO 25 (kSl 3 (kInt .i64)) x3612 v3609 F3613 ∧ e = ovr e18 [(3, v409), (4, v1209), (5, v2009), (6, v3609), (25, .int .i64 (len x3608)), (26, .int .i64 x3615)] ∧ L = [F410, F1210, F2010, F3613]) ⟨_, _, F3610, _, rfl, h3611, ovr_eq _ _ rfl, rfl⟩ ?_
 rintro _ _ _ ⟨x3612, x3615, F3613, e18, rfl, h3614, rfl, rfl⟩ X22 hp hx23
 replace hp : dom_Frontier.bd23 x408 x1208 x2008 x3608 x3612 x3615 = some X22 := hp
 refine sr <| tv (blt rfl rfl) rfl <| nz <| TC.seq fun K27 k28 => cD rfl hp (fun hc29 hp => ?_) fun hc29 hp => ?_
 · refine sk k28 rfl <| TC.seq fun K30 k31 => TC.block <| sr <| tm rfl <| ta rfl <| nz <| sr <| tm rfl <| tv (ln u60 h411.ro rfl) rfl <| tk (k := kBool) u88 i4 hp ⟨rfl, rfl⟩ rfl rfl rfl rfl rfl rfl fun x3619 v3620 F3621 h3622 hp => ta rfl <| nz <| TC.seq fun K33 k34 => sr <| tm rfl <| tv (ln u60 h411.ro rfl) rfl <| tm rfl <| nz <| TC.block <| bE hp fun z_36 hz37 hr38 => ?_
   have J86 {x3627 F3628 e41} (h3629 : SlO 4 kBool x3627 v3620 F3628) (hq87 : x3627 = z_36) : ∀ w, St E H [F410, F1210, F2010, F3613, F3628] w → K33 (ovr e41 [(3, v409), (4, v1209), (5, v2009), (6, v3609), (7, .int .i64 x3615), (8, v3620), (25, .int .i64 (len x3608)), (26, .int .i64 x3615)]) w := by
    subst hq87
    replace hp : dom_Frontier.nx40 x1208 x2008 x3612 x3615 x3627 = some X22 := hr38
    refine tg k34 <| sr <| tm rfl <| tv (ln u88 h3629.ro rfl) rfl <| tm rfl <| nz <| TC.block <| bE hp fun z_43 hz44 hr45 => ?_
    have J49 {x3634 F3635 e48} (h3636 : SlO 25 (kSl 3 (kInt .i64)) x3634 v3609 F3635) (hq50 : x3634 = z_43) : ∀ w, St E H [F410, F1210, F2010, F3635] w → K30 (ovr e48 [(3, v409), (4, v1209), (5, v2009), (6, v3609), (25, .int .i64 (len x3608)), (26, .int .i64 x3615)]) w := by
     subst hq50
     replace hp : dom_Frontier.nx47 x3615 x3634 = some X22 := hr45
     exact tg k31 <| TC.region <| tv (bad rfl rfl) rfl <| tm rfl <| nl <| gk hp [0, 1, 2, 3] ⟨_, _, F3635, _, rfl, h3636, ovr_eq _ _ rfl, rfl⟩
    refine lp hz44 [0, 1, 2, 3, 4] rfl (fun s e L => ∃ x3630 x3633 F3631 e42, s = (x3630, x3633) ∧ SlO 25 (kSl 3 (kInt .i64)) x3630 v3609 F3631 ∧ e = ovr e42 [(3, v409), (4, v1209), (5, v2009), (6, v3609), (7, .int .i64 x3615), (25, .int .i64 (len x3608)), (26, .int .i64 x3615), (63, v3620), (64, .int .i64 (len x3627)), (65, .int .i64 x3633)] ∧ L = [F410, F1210, F2010, F3631, F3628]) ⟨_, _, F3613, _, rfl, h3614, ovr_eq _ _ rfl, rfl⟩ ?_
    rintro _ _ _ ⟨x3630, x3633, F3631, e42, rfl, h3632, rfl, rfl⟩ X46 hp hx47
    replace hp : dom_Frontier.bd47 x1208 x2008 x3615 x3627 x3630 x3633 = some X46 := hp
    refine sr <| tv (blt rfl rfl) rfl <| nz <| TC.seq fun K51 k52 => cD rfl hp (fun hc53 hp => ?_) fun hc53 hp => ?_
    · refine sk k52 rfl <| TC.seq fun K54 k55 => ?_
      have J57 {x3637 F3638 e56} (h3639 : SlO 25 (kSl 3 (kInt .i64)) x3637 v3609 F3638) (hp : dom_Frontier.jn57 x3633 x3637 = some X46) : ∀ w, St E H [F410, F1210, F2010, F3638, F3628] w → K54 (ovr e56 [(3, v409), (4, v1209), (5, v2009), (6, v3609), (7, .int .i64 x3615), (25, .int .i64 (len x3608)), (26, .int .i64 x3615), (63, v3620), (64, .int .i64 (len x3627)), (65, .int .i64 x3633)]) w := by
       exact tg k55 <| TC.region <| tv (bad rfl rfl) rfl <| tm rfl <| nl <| gk hp [0, 1, 2, 3, 4] ⟨_, _, F3638, _, rfl, h3639, ovr_eq _ _ rfl, rfl⟩
      refine TC.block <| sr <| tm rfl <| ti u88 i4 (h3629).ro hp rfl rfl rfl rfl ?_
      rintro x3640 b3641 o3642 _ hp rfl h3645
      refine tv (lr s4 (Src.at_ 4 rfl) h3645 0 rfl rfl) rfl <| ta rfl <| ta rfl <| nz <| sr <| tm rfl <| tm rfl <| bE hp fun t3646 ht82 hp => TL.cut 5 fun K59 k60 => ?_
      have J61 {e63} : ∀ w, St E H [F410, F1210, F2010, F3631, F3628] w → K59 (ovr e63 [(76, .bool t3646), (3, v409), (4, v1209), (5, v2009), (6, v3609), (7, .int .i64 x3615), (13, .int .i64 x3633), (25, .int .i64 (len x3608)), (26, .int .i64 x3615), (63, v3620), (64, .int .i64 (len x3627)), (65, .int .i64 x3633)]) w := by
       refine tlg k60 <| tm rfl <| bE hp fun t3647 ht73 hp => TL.cut 14 fun K64 k65 => ?_
       have J66 {e68} : ∀ w, St E H [F410, F1210, F2010, F3631, F3628] w → K64 (ovr e68 [(91, .bool t3647), (3, v409), (4, v1209), (5, v2009), (6, v3609), (7, .int .i64 x3615), (13, .int .i64 x3633), (25, .int .i64 (len x3608)), (26, .int .i64 x3615), (63, v3620), (64, .int .i64 (len x3627)), (65, .int .i64 x3633)]) w := by
        refine tlg k65 <| nz <| cB rfl hp (fun hc69 hp => ?_) fun hc69 hp => ?_
        · refine TC.region <| tm rfl <| tm rfl <| tm rfl <| tm rfl <| tp [3, 0, 1, 2, 4] [_,_,_,_,_] rfl rfl <| bE hp fun x3648 hx70 hp => TL.open_ h3632 hx70 ?_
          rintro b3649 _ F3651 F3652 h3653 ⟨v3655, rfl, h3656⟩
          exact tv (rv_ixH u60 i25 rfl rfl (idx_some hx70).1 h3653) rfl <| tv (lr s25 (Src.at_ 0 rfl) (Hole.cells h3653) 0 rfl rfl) rfl <| tm rfl <| tbs [(0, .int .i64 x3633)] [.int .i64 x3633] u25 i3 (by kernel_rfl) rfl rfl rfl rfl fun b3657 => tp [2, 0, 1, 3, 4, 5, 6] [_,_,_,_,_,_,_] rfl rfl <| tf 2 0 [_,_,_,_,_,_,_,_] rfl <| tp2 u25 i3 h3656 hp (RepL.to (RepL.cons (k := (kInt .i64)) (x := x3633) ⟨rfl, rfl⟩ RepL.nil) rfl) rfl rfl rfl rfl rfl rfl rfl rfl rfl fun x3658 v3659 F3660 h3661 hp => tv (rv_ixH u60 i25 rfl rfl (idx_some hx70).1 h3653) rfl <| tp [1, 0, 2, 3, 4, 5] [_,_,_,_,_,_] rfl rfl <| tsH h3653 m25 0 rfl h3661.o1 rfl fun F3663 h3664 => nl <| W.shut (a := x3658) h3664 ⟨_, rfl, h3661⟩ fun F3665 h3666 => jn [1, 2, 3, 0, 4] (J57 h3666 hp)
        · exact TC.skip <| jn [0, 1, 2, 3, 4] (J57 h3632 hp)
       refine ifE ht73 (fun hc67 hp => ?_) fun hc67 hp => ?_
       · refine gy rfl (bbT hc67) <| tm rfl <| gy rfl (bbT hc67) <| tm rfl <| gy rfl (bbT hc67) <| tv (beq rfl rfl) rfl <| gy rfl (bbT hc67) <| tm rfl <| bE hp fun t3667 ht79 hp => TL.cut 9 fun K74 k75 => ?_
         have J76 {e78} : ∀ w, St E H [F410, F1210, F2010, F3631, F3628] w → K74 (ovr e78 [(90, .bool t3667), (3, v409), (4, v1209), (5, v2009), (6, v3609), (7, .int .i64 x3615), (13, .int .i64 x3633), (25, .int .i64 (len x3608)), (26, .int .i64 x3615), (63, v3620), (64, .int .i64 (len x3627)), (65, .int .i64 x3633), (77, .bool t3646), (78, .int .i64 x3615), (79, .int .i64 x3633), (80, .bool (decide (x3615 = x3633))), (81, .bool (decide (x3615 = x3633)))]) w := by
          refine tlg k75 <| tv (pT (bbT hc67)) rfl ?_
          obtain rfl := Option.some.inj hp
          exact nj J66 rfl
         refine ifE ht79 (fun hc77 hp => ?_) fun hc77 hp => ?_
         · refine gn rfl (bT hc77) rfl rfl <| gn rfl (bT hc77) rfl rfl <| gn rfl (bT hc77) rfl rfl <| gn rfl (bT hc77) rfl rfl <| gn rfl (bT hc77) rfl rfl <| gn rfl (bT hc77) rfl rfl <| gn rfl (bT hc77) rfl rfl <| gn rfl (bT hc77) rfl rfl <| gy rfl (bbT hc67) <| tv (pT (bT hc77)) rfl ?_
           obtain rfl := Option.some.inj hp
           exact nj J76 rfl
         · refine gy rfl (bF hc77) <| tm rfl <| gy rfl (bF hc77) <| tm rfl <| gy rfl (bF hc77) <| ti u62 i88 (h2011).ro hp rfl rfl rfl rfl ?_
           rintro x3668 b3669 o3670 _ hp ⟨v3674, rfl, h3675⟩ h3673
           refine gy rfl (bF hc77) <| tv (lr s88 (Src.at_ 2 rfl) h3673 0 rfl rfl) rfl <| gy rfl (bF hc77) <| tm rfl <| gy rfl (bF hc77) <| ti u88 i4 h3675 hp rfl rfl rfl rfl ?_
           rintro x3676 b3677 o3678 _ hp rfl h3681
           refine gy rfl (bF hc77) <| tv (lr s4 (Src.at_ 2 rfl) h3681 0 rfl rfl) rfl <| gy rfl (bF hc77) <| tv (rv_not rfl) rfl <| gy rfl (bbT hc67) <| tv (pF (bF hc77)) rfl ?_
           obtain rfl := Option.some.inj hp
           exact nj J76 rfl
       · refine gn rfl (bbF hc67) rfl rfl <| gn rfl (bbF hc67) rfl rfl <| gn rfl (bbF hc67) rfl rfl <| gn rfl (bbF hc67) rfl rfl <| gu rfl rfl rfl <| gu rfl rfl rfl <| gu rfl rfl rfl <| gu rfl rfl rfl <| gu rfl rfl rfl <| gu rfl rfl rfl <| gu rfl rfl rfl <| gu rfl rfl rfl <| gn rfl (bbF hc67) rfl rfl <| tv (pF (bbF hc67)) rfl ?_
         obtain rfl := Option.some.inj hp
         exact nj J66 rfl
      refine ifE ht82 (fun hc62 hp => ?_) fun hc62 hp => ?_
      · refine gy rfl (bbT hc62) <| tm rfl <| gy rfl (bbT hc62) <| tm rfl <| gy rfl (bbT hc62) <| ti u88 i4 (h1211).ro hp rfl rfl rfl rfl ?_
        rintro x3682 b3683 o3684 _ hp rfl h3687
        refine gy rfl (bbT hc62) <| tv (lr s4 (Src.at_ 1 rfl) h3687 0 rfl rfl) rfl <| tv (pT (bbT hc62)) rfl ?_
        obtain rfl := Option.some.inj hp
        exact nj J61 rfl
      · refine gn rfl (bbF hc62) rfl rfl <| gn rfl (bbF hc62) rfl rfl <| gn rfl (bbF hc62) rfl rfl <| gn rfl (bbF hc62) rfl rfl <| tv (pF (bbF hc62)) rfl ?_
        obtain rfl := Option.some.inj hp
        exact nj J61 rfl
    · exact TC.exit <| jn [0, 1, 2, 3] (J49 h3632 (ex_ret hp hx47))
   refine lp hz37 [1, 2, 3, 4, 0] rfl (fun s e L => ∃ x3623 x3626 F3624 e35, s = (x3623, x3626) ∧ SlO 4 kBool x3623 v3620 F3624 ∧ e = ovr e35 [(3, v409), (4, v1209), (5, v2009), (6, v3609), (7, .int .i64 x3615), (8, v3620), (25, .int .i64 (len x3608)), (26, .int .i64 x3615), (32, v409), (33, .int .i64 (len x408)), (34, .int .i64 x3626)] ∧ L = [F410, F1210, F2010, F3613, F3624]) ⟨_, _, F3621, _, rfl, h3622, ovr_eq _ _ rfl, rfl⟩ ?_
   rintro _ _ _ ⟨x3623, x3626, F3624, e35, rfl, h3625, rfl, rfl⟩ X39 hp hx40
   replace hp : dom_Frontier.bd40 x408 x2008 x3615 x3623 x3626 = some X39 := hp
   refine sr <| tv (blt rfl rfl) rfl <| nz <| TC.seq fun K88 k89 => cD rfl hp (fun hc90 hp => ?_) fun hc90 hp => ?_
   · refine sk k89 rfl <| TC.seq fun K91 k92 => TC.block <| sr <| tm rfl <| ti u60 i25 (h411).ro hp rfl rfl rfl rfl ?_
     rintro x3688 b3689 o3690 _ hp ⟨v3694, rfl, h3695⟩ h3693
     refine tv (lr s25 (Src.at_ 0 rfl) h3693 0 rfl rfl) rfl <| ta rfl <| ta rfl <| nz <| sr <| tm rfl <| tv (ln u25 h3695 rfl) rfl <| tm rfl <| nz <| TC.block <| bE hp fun z_95 hz96 hr97 => ?_
     have J101 {x3700 F3701 e100} (h3702 : SlO 4 kBool x3700 v3620 F3701) (hq102 : x3700 = z_95) : ∀ w, St E H [F410, F1210, F2010, F3613, F3701] w → K91 (ovr e100 [(3, v409), (4, v1209), (5, v2009), (6, v3609), (7, .int .i64 x3615), (8, v3620), (25, .int .i64 (len x3608)), (26, .int .i64 x3615), (32, v409), (33, .int .i64 (len x408)), (34, .int .i64 x3626)]) w := by
      subst hq102
      replace hp : dom_Frontier.nx99 x3626 x3700 = some X39 := hr97
      exact tg k92 <| TC.region <| tv (bad rfl rfl) rfl <| tm rfl <| nl <| gk hp [0, 1, 2, 3, 4] ⟨_, _, F3701, _, rfl, h3702, ovr_eq _ _ rfl, rfl⟩
     refine lp hz96 [0, 1, 2, 3, 4] rfl (fun s e L => ∃ x3696 x3699 F3697 e94, s = (x3696, x3699) ∧ SlO 4 kBool x3696 v3620 F3697 ∧ e = ovr e94 [(3, v409), (4, v1209), (5, v2009), (6, v3609), (7, .int .i64 x3615), (8, v3620), (9, .int .i64 x3626), (25, .int .i64 (len x3608)), (26, .int .i64 x3615), (32, v409), (33, .int .i64 (len x408)), (34, .int .i64 x3626), (39, v3694), (40, .int .i64 (len x3688)), (41, .int .i64 x3699)] ∧ L = [F410, F1210, F2010, F3613, F3697]) ⟨_, _, F3624, _, rfl, h3625, ovr_eq _ _ rfl, rfl⟩ ?_
     rintro _ _ _ ⟨x3696, x3699, F3697, e94, rfl, h3698, rfl, rfl⟩ X98 hp hx99
     replace hp : dom_Frontier.bd99 x2008 x3615 x3626 x3688 x3696 x3699 = some X98 := hp
     refine sr <| tv (blt rfl rfl) rfl <| nz <| TC.seq fun K103 k104 => cD rfl hp (fun hc105 hp => ?_) fun hc105 hp => ?_
     · refine sk k104 rfl <| TC.seq fun K106 k107 => TC.block <| sr <| ti u25 i3 h3695 hp rfl rfl rfl rfl ?_
       rintro x3703 b3704 o3705 _ hp rfl h3708
       refine tv (lr s3 (Src.at_ 0 rfl) h3708 0 rfl rfl) rfl <| ta rfl <| nz <| TC.region <| tm rfl <| tm rfl <| tm rfl <| tm rfl <| ti u88 i4 (h3698).ro hp rfl rfl rfl rfl ?_
       rintro x3709 b3710 o3711 _ hp rfl h3714
       refine tv (lr s4 (Src.at_ 4 rfl) h3714 0 rfl rfl) rfl <| tm rfl <| bE hp fun t3715 ht116 hp => TL.cut 8 fun K110 k111 => ?_
       have J112 {e114} : ∀ w, St E H [F410, F1210, F2010, F3613, F3697] w → K110 (ovr e114 [(59, .bool t3715), (3, v409), (4, v1209), (5, v2009), (6, v3609), (7, .int .i64 x3615), (8, v3620), (9, .int .i64 x3626), (25, .int .i64 (len x3608)), (26, .int .i64 x3615), (32, v409), (33, .int .i64 (len x408)), (34, .int .i64 x3626), (39, v3694), (40, .int .i64 (len x3688)), (41, .int .i64 x3699), (45, v3620), (46, .int .i64 x3703)]) w := by
        exact tlg k111 <| tO u88 i4 h3698 hp rfl rfl rfl rfl fun x3716 b3717 o3718 h3719 hp => tp [4, 0, 1, 2, 3] [_,_,_,_,_] rfl rfl <| tE h3698 h3719 m4 rfl ⟨rfl, rfl⟩ w1 fun F3720 h3721 => nl <| tg k107 <| TC.region <| tv (bad rfl rfl) rfl <| tm rfl <| nl <| gk hp [1, 2, 3, 4, 0] ⟨_, _, F3720, _, rfl, h3721, ovr_eq _ _ rfl, rfl⟩
       refine ifE ht116 (fun hc113 hp => ?_) fun hc113 hp => ?_
       · refine gn rfl (bbT hc113) rfl rfl <| gn rfl (bbT hc113) rfl rfl <| gn rfl (bbT hc113) rfl rfl <| gn rfl (bbT hc113) rfl rfl <| gn rfl (bbT hc113) rfl rfl <| gn rfl (bbT hc113) rfl rfl <| gn rfl (bbT hc113) rfl rfl <| tv (pT (bbT hc113)) rfl ?_
         obtain rfl := Option.some.inj hp
         exact nj J112 rfl
       · refine gy rfl (bbF hc113) <| tm rfl <| gy rfl (bbF hc113) <| tm rfl <| gy rfl (bbF hc113) <| ti u62 i88 (h2011).ro hp rfl rfl rfl rfl ?_
         rintro x3722 b3723 o3724 _ hp ⟨v3728, rfl, h3729⟩ h3727
         refine gy rfl (bbF hc113) <| tv (lr s88 (Src.at_ 2 rfl) h3727 0 rfl rfl) rfl <| gy rfl (bbF hc113) <| tm rfl <| gy rfl (bbF hc113) <| ti u88 i4 h3729 hp rfl rfl rfl rfl ?_
         rintro x3730 b3731 o3732 _ hp rfl h3735
         refine gy rfl (bbF hc113) <| tv (lr s4 (Src.at_ 2 rfl) h3735 0 rfl rfl) rfl <| tv (pF (bbF hc113)) rfl ?_
         obtain rfl := Option.some.inj hp
         exact nj J112 rfl
     · exact TC.exit <| jn [0, 1, 2, 3, 4] (J101 h3698 (ex_ret hp hx99))
   · exact TC.exit <| jn [0, 1, 2, 3, 4] (J86 h3625 (ex_ret hp hx40))
 · exact TC.exit <| jn [3] (J25 h3614 (ex_ret hp hx23))
/-! ### (*fettle/ssa.builder).closed$1 -/
abbrev ssa_builder_closed_1.R (r : Bool) (v : Value) (A : List FP) : Prop := .bool r = v ∧ A = []
def ssa_builder_closed_1 (a1 : PInstr) (a5 : Int) : Option Bool :=
  some (decide (a1.dst = a5))
theorem ssa_builder_closed_1_ok {E : World} {H : FP} {w : World} {a1 : PInstr} {a5 : Int} {v2 : Value} {b4 : Nat} {o6 : Nat} {r : Bool} (h3 : SlI (kInt .i64) H a1.args v2) (h7 : CellsIn H b4 o6 [.int .i64 a5]) (hp : ssa_builder_closed_1 a1 a5 = some r) (hst : St E H [] w) :
    Fn Try.prog 94 #[.agg #[.int .i64 a1.op, .int .i64 a1.dst, v2, .int .i64 a1.imm, .int .i64 a1.fn], .pointer (some ⟨b4, o6, none⟩)] w fun v w' => ∃ A, ssa_builder_closed_1.R r v A ∧ St E H A w' := by
 exact fb 8 [.tmp 3] Try.func94 rfl rfl rfl rfl rfl hst <| sr <| tb [.int .i64 a1.op, .int .i64 a1.dst, v2, .int .i64 a1.imm, .int .i64 a1.fn] rfl rfl fun b8 => ta rfl <| nz <| sr <| tv (fa f52_1 rfl) rfl <| tv (lb s3 0 rfl rfl rfl) rfl <| tv (lr s3 sH h7 0 rfl rfl) rfl <| tv (beq rfl rfl) rfl <| ta rfl <| nz <| TC.ret <| rt hp [] ⟨rfl, rfl⟩
/-! ### slices.IndexFunc[[]fettle/api.Instr,fettle/api.Instr] -/
abbrev slices_IndexFunc_api_Instr_api_Instr_ssa_builder_closed_1.R (r : Int) (v : Value) (A : List FP) : Prop := .int .i64 r = v ∧ A = []
def slices_IndexFunc_api_Instr_api_Instr_ssa_builder_closed_1.nx8  : Option Int :=
  some (-1)
def slices_IndexFunc_api_Instr_api_Instr_ssa_builder_closed_1.bd8 (a1 : List PInstr) (a6 : Int) (x9 : Int) : Option (Ex (Ex Int Unit) Int) :=
  if x9 < (len a1) then
    (idx a1 x9).bind fun x10 =>
    (ssa_builder_closed_1 x10 a6).bind fun x18 =>
    if x18 = true then
      some (.ret (.ret x9))
    else
      some (.go (w64 (x9 + 1)))
  else
    some (.ret (.go ()))
def slices_IndexFunc_api_Instr_api_Instr_ssa_builder_closed_1 (a1 : List PInstr) (a6 : Int) : Option Int :=
  (whl (fun (s : Int) => slices_IndexFunc_api_Instr_api_Instr_ssa_builder_closed_1.bd8 a1 a6 s) FUEL 0).bind fun z =>
  match z with
    | .ret r => some r
    | .go p => slices_IndexFunc_api_Instr_api_Instr_ssa_builder_closed_1.nx8
theorem slices_IndexFunc_api_Instr_api_Instr_ssa_builder_closed_1_ok {E : World} {H : FP} {w : World} {a1 : List PInstr} {a6 : Int} {v2 : Value} {b5 : Nat} {o7 : Nat} {r : Int} (h3 : SlI kInstr H a1 v2) (h8 : CellsIn H b5 o7 [.int .i64 a6]) (hp : slices_IndexFunc_api_Instr_api_Instr_ssa_builder_closed_1 a1 a6 = some r) (hst : St E H [] w) :
    Fn Try.prog 121 #[v2, .func (.func 94) #[] #[.pointer (some ⟨b5, o7, none⟩)]] w fun v w' => ∃ A, slices_IndexFunc_api_Instr_api_Instr_ssa_builder_closed_1.R r v A ∧ St E H A w' := by
 refine fb 19 [.tmp 4] Try.func121 rfl rfl rfl rfl rfl hst <| sr <| ta rfl <| nz <| TC.seq fun K1 k2 => sr <| tm rfl <| tv (ln u48 h3 rfl) rfl <| tm rfl <| nz <| TC.block <| bE hp fun z_4 hz5 hr6 => ?_
 have J10 {e9} (hq11 : .go () = z_4) : ∀ w, St E H [] w → K1 (ovr e9 []) w := by
  subst hq11
  replace hp : slices_IndexFunc_api_Instr_api_Instr_ssa_builder_closed_1.nx8 = some r := hr6
  exact tg k2 <| sr <| ta rfl <| nz <| TC.ret <| rt hp [] ⟨rfl, rfl⟩
 refine lp hz5 [] rfl (fun s e L => ∃ e3, e = ovr e3 [(0, v2), (1, .func (.func 94) #[] #[.pointer (some ⟨b5, o7, none⟩)]), (7, .int .i64 (len a1)), (8, .int .i64 s)] ∧ L = []) ⟨_, ovr_eq _ _ rfl, rfl⟩ ?_
 rintro x9 _ _ ⟨e3, rfl, rfl⟩ X7 hp hx8
 replace hp : slices_IndexFunc_api_Instr_api_Instr_ssa_builder_closed_1.bd8 a1 a6 x9 = some X7 := hp
 refine sr <| tv (blt rfl rfl) rfl <| nz <| TC.seq fun K12 k13 => cD rfl hp (fun hc14 hp => ?_) fun hc14 hp => ?_
 · refine sk k13 rfl <| TC.seq fun K15 k16 => TC.block <| sr <| tm rfl <| ta rfl <| nz <| sr <| tm rfl <| tm rfl <| tm rfl <| ti u48 i52 h3 hp rfl rfl rfl rfl ?_
   rintro x10 b11 o12 _ hp ⟨v16, rfl, h17⟩ h15
   refine tv (lR (ds := [.int .i64 x10.op, .int .i64 x10.dst, v16, .int .i64 x10.imm, .int .i64 x10.fn]) ag_52 sH h15 0 rfl rfl rfl) rfl <| bE hp fun x18 hy18 hp => tcv 0 [] rfl c94 rfl (fun _ => ssa_builder_closed_1_ok (a1 := x10) (a5 := a6) (h17.mono subH) (h8.mono subH) hy18) rfl ?_
   rintro _ _ ⟨rfl, rfl⟩
   refine nz <| cB rfl hp (fun hc20 hp => ?_) fun hc20 hp => ?_
   · refine sr <| tm rfl <| ta rfl <| nz <| TC.ret ?_
     obtain rfl := ex_ret hp hx8
     exact rt hr6 [] ⟨rfl, rfl⟩
   · exact sk k16 rfl <| TC.region <| tv (bad rfl rfl) rfl <| tm rfl <| nl <| gk hp [] ⟨_, ovr_eq _ _ rfl, rfl⟩
 · exact TC.exit <| jn [] (J10 (ex_ret hp hx8))
end Go.Proofs.Yteaknconpkklhaa
