/- The walk through the program's functions: each one's pure reading, and that a call does what it says. No conditions. -/
import Derived.Test.YteaknconpkklhaaW5
set_option linter.unusedVariables false
set_option linter.unusedSimpArgs false
namespace Go.Proofs.Yteaknconpkklhaa
open Go Go.Proofs

/-! ### fettle/dom.Nearest -/
abbrev dom_Nearest.R (r : List Int) (v : Value) (A : List FP) : Prop := ∃ (w1 : Value) (G1 : FP), w1 = v ∧ A = [G1] ∧ SlO 3 (kInt .i64) r w1 G1
def dom_Nearest.nx48  (x2840 : List Int) : Option (List Int) :=
  (idx x2840 0).bind fun x2843 =>
  some (x2840.set (0 : Int).toNat (-1))
def dom_Nearest.nx64  (x2857 : List Int) (x2860 : Bool) : Option (Ex (List Int) (List Int × Bool)) :=
  some (.go (x2857, x2860))
def dom_Nearest.jn74 (x2856 : Int) (x2861 : List Int) (x2864 : Bool) : Option (Ex (List Int × Bool) (List Int × Bool × Int)) :=
  some (.go (x2861, x2864, (w64 (x2856 + 1))))
def dom_Nearest.nx84 (x2852 : List Int) (x2855 : Bool) (x2856 : Int) (x2865 : Int) (x2881 : Int) : Option (Ex (List Int × Bool) (List Int × Bool × Int)) :=
  (idx x2852 x2865).bind fun x2882 =>
  if ¬ x2882 = x2881 then
    (idx x2852 x2865).bind fun x2888 =>
    dom_Nearest.jn74 x2856 (x2852.set (x2865).toNat x2881) true
  else
    dom_Nearest.jn74 x2856 x2852 x2855
def dom_Nearest.jn97 (x2880 : Int) (x2894 : Int) : Option (Ex Int (Int × Int)) :=
  some (.go (x2894, (w64 (x2880 + 1))))
def dom_Nearest.bd84 (x2827 : List Int) (x2852 : List Int) (x2871 : List Int) (x2879 : Int) (x2880 : Int) : Option (Ex Int (Int × Int)) :=
  if x2880 < (len x2871) then
    (idx x2871 x2880).bind fun x2895 =>
    (idx x2852 x2895).bind fun x2901 =>
    if x2901 < 0 then
      dom_Nearest.jn97 x2880 x2879
    else
      if x2879 < 0 then
        dom_Nearest.jn97 x2880 x2895
      else
        (dom_meet x2852 x2827 x2895 x2879).bind fun x2907 =>
        dom_Nearest.jn97 x2880 x2907
  else
    some (.ret x2879)
def dom_Nearest.bd64 (x1608 : List (List Int)) (x2827 : List Int) (x2849 : List Int) (x2852 : List Int) (x2855 : Bool) (x2856 : Int) : Option (Ex (List Int × Bool) (List Int × Bool × Int)) :=
  if x2856 < (len x2849) then
    (idx x2849 x2856).bind fun x2865 =>
    (idx x1608 x2865).bind fun x2871 =>
    (whl (fun (s : (Int × Int)) => dom_Nearest.bd84 x2827 x2852 x2871 s.1 s.2) FUEL (-1, 0)).bind fun z =>
    dom_Nearest.nx84 x2852 x2855 x2856 x2865 z
  else
    some (.ret (x2852, x2855))
def dom_Nearest.bd48 (x408 : List Int) (x1608 : List (List Int)) (x2827 : List Int) (x2836 : List Int) (x2839 : Bool) : Option (Ex (List Int) (List Int × Bool)) :=
  if x2839 = true then
    (from_ x408 1).bind fun x2849 =>
    (whl (fun (s : (List Int × Bool × Int)) => dom_Nearest.bd64 x1608 x2827 x2849 s.1 s.2.1 s.2.2) FUEL (x2836, false, 0)).bind fun z =>
    dom_Nearest.nx64 z.1 z.2
  else
    some (.ret x2836)
def dom_Nearest.nx35 (x408 : List Int) (x1608 : List (List Int)) (x2820 : List Int) (x2827 : List Int) : Option (List Int) :=
  if (len x408) = 0 then
    some x2820
  else
    (idx x2820 0).bind fun x2830 =>
    (whl (fun (s : (List Int × Bool)) => dom_Nearest.bd48 x408 x1608 x2827 s.1 s.2) FUEL ((x2820.set (0 : Int).toNat 0), true)).bind fun z =>
    dom_Nearest.nx48 z
def dom_Nearest.bd35 (x408 : List Int) (x2823 : List Int) (x2826 : Int) : Option (Ex (List Int) (List Int × Int)) :=
  if x2826 < (len x408) then
    (idx x408 x2826).bind fun x2908 =>
    (idx x2823 x2908).bind fun x2914 =>
    some (.go ((x2823.set (x2908).toNat x2826), (w64 (x2826 + 1))))
  else
    some (.ret x2823)
def dom_Nearest.nx26 (x408 : List Int) (x1608 : List (List Int)) (x2812 : List Int) (x2820 : List Int) : Option (List Int) :=
  (whl (fun (s : (List Int × Int)) => dom_Nearest.bd35 x408 s.1 s.2) FUEL (x2812, 0)).bind fun z =>
  dom_Nearest.nx35 x408 x1608 x2820 z
def dom_Nearest.bd26 (x2808 : List Int) (x2816 : List Int) (x2819 : Int) : Option (Ex (List Int) (List Int × Int)) :=
  if x2819 < (len x2808) then
    (idx x2816 x2819).bind fun x2920 =>
    some (.go ((x2816.set (x2819).toNat (-1)), (w64 (x2819 + 1))))
  else
    some (.ret x2816)
def dom_Nearest.jn18 (x408 : List Int) (x1608 : List (List Int)) (x2808 : List Int) (x2812 : List Int) : Option (List Int) :=
  (whl (fun (s : (List Int × Int)) => dom_Nearest.bd26 x2808 s.1 s.2) FUEL (x2808, 0)).bind fun z =>
  dom_Nearest.nx26 x408 x1608 x2812 z
def dom_Nearest (a1 : PFunc) : Option (List Int) :=
  (graph_Order a1).bind fun x408 =>
  (graph_Next a1).bind fun x1208 =>
  (dom_ahead x1208).bind fun x1608 =>
  (mkl (len x1608) (0 : Int)).bind fun x3727 =>
  (mkl (len x1608) (0 : Int)).bind fun x4927 =>
  dom_Nearest.jn18 x408 x1608 x3727 x4927
set_option maxHeartbeats 4000000 in
theorem dom_Nearest_ok {E : World} {H : FP} {w : World} {a1 : PFunc} {v2 : Value} {v4 : Value} {r : List Int} (h3 : SlI (kInt .i64) H a1.regs v2) (h5 : SlI kBlock H a1.blocks v4) (hp : dom_Nearest a1 = some r) (hst : St E H [] w) :
    Fn Try.prog 43 #[.agg #[.int .i64 a1.params, .int .i64 a1.result, v2, v4]] w fun v w' => ∃ A, dom_Nearest.R r v A ∧ St E H A w' := by
 refine fb 101 [.tmp 2] Try.func43 rfl rfl rfl rfl rfl hst <| sr <| tb [.int .i64 a1.params, .int .i64 a1.result, v2, v4] rfl rfl fun b6 => ta rfl <| nz <| TC.seq fun K1 k2 => ch mix [bx b6 40 [.int .i64 a1.params, .int .i64 a1.result, v2, v4]] (srcG 0 rfl srcG0) <| hv 0 rfl (lAG (ds := [.int .i64 a1.params, .int .i64 a1.result, v2, v4]) ag_40 0 rfl rfl rfl rfl) (by kernel_rfl) rfl <| hv 2 rfl (lAG (ds := [.int .i64 a1.params, .int .i64 a1.result, v2, v4]) ag_40 0 rfl rfl rfl rfl) (by kernel_rfl) rfl <| ho 1 rfl (by kernel_rfl) fun K3 k4 => bE hp fun x408 hy5 hp => tc 0 [_] rfl c76 (fun _ => graph_Order_ok (a1 := a1) (h3.mono subH) (h5.mono subH) hy5) rfl ?_
 rintro _ _ ⟨v409, F410, rfl, rfl, h411⟩
 refine hk k4 (srcG 1 rfl srcG0) <| ho 3 rfl (by kernel_rfl) fun K7 k8 => bE hp fun x1208 hy9 hp => tc 0 [_,_] rfl c51 (fun _ => graph_Next_ok (a1 := a1) (h3.mono subH) (h5.mono subH) hy9) rfl ?_
 rintro _ _ ⟨v1209, F1210, rfl, rfl, h1211⟩
 refine hk k8 (srcG 2 rfl srcG0) <| ho 4 rfl (by kernel_rfl) fun K11 k12 => bE hp fun x1608 hy13 hp => tc 0 [_,_,_] rfl c77 (fun _ => dom_ahead_ok (a1 := x1208) (h1211.ro.mono (subB 0 rfl)) hy13) rfl ?_
 rintro _ _ ⟨v1609, F1610, rfl, rfl, h1611⟩
 refine hk k12 (srcG 3 rfl srcG0) <| hv 5 rfl sg (by kernel_rfl) rfl <| hv 6 rfl sg (by kernel_rfl) rfl <| hz (by kernel_rfl) <| tg k2 <| TC.seq fun K15 k16 => ?_
 have J18 {x2808 x2812 v2809 F2810 v2813 F2814 e17} (h2811 : SlO 3 (kInt .i64) x2808 v2809 F2810) (h2815 : SlO 3 (kInt .i64) x2812 v2813 F2814) (hp : dom_Nearest.jn18 x408 x1608 x2808 x2812 = some r) : ∀ w, St E H [F410, F1610, F2810, F2814] w → K15 (ovr e17 [(3, v409), (4, v1609), (5, v2809), (6, v2813)]) w := by
  refine tg k16 <| TC.seq fun K19 k20 => sr <| tm rfl <| tv (ln u25 h2811.ro rfl) rfl <| tm rfl <| nz <| TC.block <| bE hp fun z_22 hz23 hr24 => ?_
  have J121 {x2820 F2821 e27} (h2822 : SlO 3 (kInt .i64) x2820 v2809 F2821) (hq122 : x2820 = z_22) : ∀ w, St E H [F410, F1610, F2821, F2814] w → K19 (ovr e27 [(3, v409), (4, v1609), (5, v2809), (6, v2813)]) w := by
   subst hq122
   replace hp : dom_Nearest.nx26 x408 x1608 x2812 x2820 = some r := hr24
   refine tg k20 <| TC.seq fun K28 k29 => sr <| tm rfl <| tv (ln u25 h411.ro rfl) rfl <| tm rfl <| nz <| TC.block <| bE hp fun z_31 hz32 hr33 => ?_
   have J110 {x2827 F2828 e36} (h2829 : SlO 3 (kInt .i64) x2827 v2813 F2828) (hq111 : x2827 = z_31) : ∀ w, St E H [F410, F1610, F2821, F2828] w → K28 (ovr e36 [(3, v409), (4, v1609), (5, v2809), (6, v2813)]) w := by
    subst hq111
    replace hp : dom_Nearest.nx35 x408 x1608 x2820 x2827 = some r := hr33
    refine tg k29 <| TC.seq fun K37 k38 => sr <| tm rfl <| tv (ln u25 h411.ro rfl) rfl <| tv (beq rfl rfl) rfl <| nz <| cD rfl hp (fun hc39 hp => ?_) fun hc39 hp => ?_
    · exact sr <| tm rfl <| ta rfl <| nz <| TC.ret <| rt hp [2] ⟨v2809, F2821, rfl, rfl, h2822⟩
    · refine sk k38 rfl <| sr <| tm rfl <| tO u25 i3 h2822 hp rfl rfl rfl rfl fun x2830 b2831 o2832 h2833 hp => tp [2, 0, 1, 3] [_,_,_,_] rfl rfl <| tE h2822 h2833 m3 rfl ⟨rfl, rfl⟩ w1 fun F2834 h2835 => nz <| TC.seq fun K41 k42 => sr <| ta rfl <| nz <| TC.block <| bE hp fun z_44 hz45 hr46 => ?_
      have J51 {x2840 F2841 e49} (h2842 : SlO 3 (kInt .i64) x2840 v2809 F2841) (hq52 : x2840 = z_44) : ∀ w, St E H [F2841] w → K41 (ovr e49 [(5, v2809)]) w := by
       subst hq52
       replace hp : dom_Nearest.nx48 x2840 = some r := hr46
       exact tg k42 <| sr <| tm rfl <| tO u25 i3 h2842 hp rfl rfl rfl rfl fun x2843 b2844 o2845 h2846 hp => tE h2842 h2846 m3 rfl ⟨rfl, rfl⟩ w1 fun F2847 h2848 => nz <| sr <| tm rfl <| ta rfl <| nz <| TC.ret <| rt hp [0] ⟨v2809, F2847, rfl, rfl, h2848⟩
      refine lp hz45 [1, 2, 0, 3] rfl (fun s e L => ∃ x2836 x2839 F2837 e43, s = (x2836, x2839) ∧ SlO 3 (kInt .i64) x2836 v2809 F2837 ∧ e = ovr e43 [(3, v409), (4, v1609), (5, v2809), (6, v2813), (10, .bool x2839)] ∧ L = [F410, F1610, F2837, F2828]) ⟨_, _, F2834, _, rfl, h2835, ovr_eq _ _ rfl, rfl⟩ ?_
      rintro _ _ _ ⟨x2836, x2839, F2837, e43, rfl, h2838, rfl, rfl⟩ X47 hp hx48
      replace hp : dom_Nearest.bd48 x408 x1608 x2827 x2836 x2839 = some X47 := hp
      refine TC.seq fun K53 k54 => sr <| tm rfl <| nz <| cB rfl hp (fun hc55 hp => ?_) fun hc55 hp => ?_
      · refine sk k54 rfl <| TC.named fun K56 k57 => TC.block <| sr <| ta rfl <| nz <| sr <| tm rfl <| tF u25 i3 h411.ro hp rfl rfl rfl rfl fun x2849 v2850 h2851 hp => tv (ln u25 h2851 rfl) rfl <| tm rfl <| nz <| TC.block <| bE hp fun z_60 hz61 hr62 => ?_
        have J66 {x2857 x2860 F2858 e65} (h2859 : SlO 3 (kInt .i64) x2857 v2809 F2858) (hq67 : (x2857, x2860) = z_60) : ∀ w, St E H [F410, F1610, F2858, F2828] w → K56 (ovr e65 [(3, v409), (4, v1609), (5, v2809), (6, v2813), (10, .bool x2860)]) w := by
         subst hq67
         replace hp : dom_Nearest.nx64 x2857 x2860 = some X47 := hr62
         exact viaK k57 <| gk hp [0, 1, 2, 3] ⟨_, _, F2858, _, rfl, h2859, ovr_eq _ _ rfl, rfl⟩
        refine lp hz61 [0, 1, 2, 3] rfl (fun s e L => ∃ x2852 x2855 x2856 F2853 e59, s = (x2852, x2855, x2856) ∧ SlO 3 (kInt .i64) x2852 v2809 F2853 ∧ e = ovr e59 [(3, v409), (4, v1609), (5, v2809), (6, v2813), (10, .bool x2855), (56, v2850), (57, .int .i64 (len x2849)), (58, .int .i64 x2856)] ∧ L = [F410, F1610, F2853, F2828]) ⟨_, _, _, F2837, _, rfl, h2838, ovr_eq _ _ rfl, rfl⟩ ?_
        rintro _ _ _ ⟨x2852, x2855, x2856, F2853, e59, rfl, h2854, rfl, rfl⟩ X63 hp hx64
        replace hp : dom_Nearest.bd64 x1608 x2827 x2849 x2852 x2855 x2856 = some X63 := hp
        refine sr <| tv (blt rfl rfl) rfl <| nz <| TC.seq fun K68 k69 => cD rfl hp (fun hc70 hp => ?_) fun hc70 hp => ?_
        · refine sk k69 rfl <| TC.seq fun K71 k72 => ?_
          have J74 {x2861 x2864 F2862 e73} (h2863 : SlO 3 (kInt .i64) x2861 v2809 F2862) (hp : dom_Nearest.jn74 x2856 x2861 x2864 = some X63) : ∀ w, St E H [F410, F1610, F2862, F2828] w → K71 (ovr e73 [(3, v409), (4, v1609), (5, v2809), (6, v2813), (10, .bool x2864), (56, v2850), (57, .int .i64 (len x2849)), (58, .int .i64 x2856)]) w := by
           exact tg k72 <| TC.region <| tv (bad rfl rfl) rfl <| tm rfl <| nl <| gk hp [0, 1, 2, 3] ⟨_, _, _, F2862, _, rfl, h2863, ovr_eq _ _ rfl, rfl⟩
          refine TC.block <| sr <| ti u25 i3 h2851 hp rfl rfl rfl rfl ?_
          rintro x2865 b2866 o2867 _ hp rfl h2870
          refine tv (lr s3 (Src.at_ 0 rfl) h2870 0 rfl rfl) rfl <| ta rfl <| nz <| sr <| ta rfl <| nz <| TC.seq fun K76 k77 => sr <| tm rfl <| tm rfl <| ti u60 i25 (h1611).ro hp rfl rfl rfl rfl ?_
          rintro x2871 b2872 o2873 _ hp ⟨v2877, rfl, h2878⟩ h2876
          refine tv (lr s25 (Src.at_ 1 rfl) h2876 0 rfl rfl) rfl <| tv (ln u25 h2878 rfl) rfl <| tm rfl <| nz <| TC.block <| bE hp fun z_80 hz81 hr82 => ?_
          have J89 {x2881 e85} (hq90 : x2881 = z_80) : ∀ w, St E H [F410, F1610, F2853, F2828] w → K76 (ovr e85 [(3, v409), (4, v1609), (5, v2809), (6, v2813), (10, .bool x2855), (12, .int .i64 x2865), (13, .int .i64 x2881), (56, v2850), (57, .int .i64 (len x2849)), (58, .int .i64 x2856)]) w := by
           subst hq90
           replace hp : dom_Nearest.nx84 x2852 x2855 x2856 x2865 x2881 = some X63 := hr82
           refine tg k77 <| sr <| tm rfl <| tm rfl <| ti u25 i3 (h2854).ro hp rfl rfl rfl rfl ?_
           rintro x2882 b2883 o2884 _ hp rfl h2887
           refine tv (lr s3 (Src.at_ 2 rfl) h2887 0 rfl rfl) rfl <| tm rfl <| tv (bne rfl rfl) rfl <| nz <| cD rfl hp (fun hc87 hp => ?_) fun hc87 hp => ?_
           · exact TC.region <| tm rfl <| tm rfl <| tm rfl <| tO u25 i3 h2854 hp rfl rfl rfl rfl fun x2888 b2889 o2890 h2891 hp => tp [2, 0, 1, 3] [_,_,_,_] rfl rfl <| tE h2854 h2891 m3 rfl ⟨rfl, rfl⟩ w1 fun F2892 h2893 => ta rfl <| nl <| jn [1, 2, 0, 3] (J74 h2893 hp)
           · exact TC.skip <| jn [0, 1, 2, 3] (J74 h2854 hp)
          refine lp hz81 [0, 1, 2, 3] rfl (fun s e L => ∃ x2879 x2880 e79, s = (x2879, x2880) ∧ e = ovr e79 [(3, v409), (4, v1609), (5, v2809), (6, v2813), (10, .bool x2855), (12, .int .i64 x2865), (13, .int .i64 x2879), (56, v2850), (57, .int .i64 (len x2849)), (58, .int .i64 x2856), (65, v2877), (66, .int .i64 (len x2871)), (67, .int .i64 x2880)] ∧ L = [F410, F1610, F2853, F2828]) ⟨_, _, _, rfl, ovr_eq _ _ rfl, rfl⟩ ?_
          rintro _ _ _ ⟨x2879, x2880, e79, rfl, rfl, rfl⟩ X83 hp hx84
          replace hp : dom_Nearest.bd84 x2827 x2852 x2871 x2879 x2880 = some X83 := hp
          refine sr <| tv (blt rfl rfl) rfl <| nz <| TC.seq fun K91 k92 => cD rfl hp (fun hc93 hp => ?_) fun hc93 hp => ?_
          · refine sk k92 rfl <| TC.seq fun K94 k95 => ?_
            have J97 {x2894 e96} (hp : dom_Nearest.jn97 x2880 x2894 = some X83) : ∀ w, St E H [F410, F1610, F2853, F2828] w → K94 (ovr e96 [(3, v409), (4, v1609), (5, v2809), (6, v2813), (10, .bool x2855), (12, .int .i64 x2865), (13, .int .i64 x2894), (56, v2850), (57, .int .i64 (len x2849)), (58, .int .i64 x2856), (65, v2877), (66, .int .i64 (len x2871)), (67, .int .i64 x2880)]) w := by
             exact tg k95 <| TC.region <| tv (bad rfl rfl) rfl <| tm rfl <| nl <| gk hp [0, 1, 2, 3] ⟨_, _, _, rfl, ovr_eq _ _ rfl, rfl⟩
            refine TC.block <| sr <| ti u25 i3 h2878 hp rfl rfl rfl rfl ?_
            rintro x2895 b2896 o2897 _ hp rfl h2900
            refine tv (lr s3 (Src.at_ 1 rfl) h2900 0 rfl rfl) rfl <| ta rfl <| nz <| TC.block <| sr <| tm rfl <| tm rfl <| ti u25 i3 (h2854).ro hp rfl rfl rfl rfl ?_
            rintro x2901 b2902 o2903 _ hp rfl h2906
            refine tv (lr s3 (Src.at_ 2 rfl) h2906 0 rfl rfl) rfl <| tv (blt rfl rfl) rfl <| ta rfl <| nz <| cD rfl hp (fun hc100 hp => ?_) fun hc100 hp => ?_
            · exact TC.skip <| jn [0, 1, 2, 3] (J97 hp)
            · refine sr <| tm rfl <| tv (blt rfl rfl) rfl <| ta rfl <| nz <| cD rfl hp (fun hc101 hp => ?_) fun hc101 hp => ?_
              · exact TC.region <| tm rfl <| ta rfl <| nl <| jn [0, 1, 2, 3] (J97 hp)
              · refine TC.region <| tm rfl <| tm rfl <| tm rfl <| tm rfl <| bE hp fun x2907 hy102 hp => tc 0 [_,_,_,_] rfl c78 (fun _ => dom_meet_ok (a1 := x2852) (a4 := x2827) (a7 := x2895) (a8 := x2879) (h2854.ro.mono (subB 2 rfl)) (h2829.ro.mono (subB 3 rfl)) hy102) rfl ?_
                rintro _ _ ⟨rfl, rfl⟩
                exact ta rfl <| nl <| jn [0, 1, 2, 3] (J97 hp)
          · exact TC.exit <| jn [0, 1, 2, 3] (J89 (ex_ret hp hx84))
        · exact TC.exit <| jn [0, 1, 2, 3] (J66 h2854 (ex_ret hp hx64))
      · exact TC.exit <| jn [2] (J51 h2838 (ex_ret hp hx48))
   refine lp hz32 [0, 1, 2, 3] rfl (fun s e L => ∃ x2823 x2826 F2824 e30, s = (x2823, x2826) ∧ SlO 3 (kInt .i64) x2823 v2813 F2824 ∧ e = ovr e30 [(3, v409), (4, v1609), (5, v2809), (6, v2813), (36, v409), (37, .int .i64 (len x408)), (38, .int .i64 x2826)] ∧ L = [F410, F1610, F2821, F2824]) ⟨_, _, F2814, _, rfl, h2815, ovr_eq _ _ rfl, rfl⟩ ?_
   rintro _ _ _ ⟨x2823, x2826, F2824, e30, rfl, h2825, rfl, rfl⟩ X34 hp hx35
   replace hp : dom_Nearest.bd35 x408 x2823 x2826 = some X34 := hp
   refine sr <| tv (blt rfl rfl) rfl <| nz <| TC.seq fun K112 k113 => cD rfl hp (fun hc114 hp => ?_) fun hc114 hp => ?_
   · refine sk k113 rfl <| TC.seq fun K115 k116 => TC.block <| sr <| tm rfl <| ti u25 i3 (h411).ro hp rfl rfl rfl rfl ?_
     rintro x2908 b2909 o2910 _ hp rfl h2913
     exact tv (lr s3 (Src.at_ 0 rfl) h2913 0 rfl rfl) rfl <| ta rfl <| ta rfl <| nz <| TC.region <| tm rfl <| tm rfl <| tm rfl <| tO u25 i3 h2825 hp rfl rfl rfl rfl fun x2914 b2915 o2916 h2917 hp => tp [3, 0, 1, 2] [_,_,_,_] rfl rfl <| tE h2825 h2917 m3 rfl ⟨rfl, rfl⟩ w1 fun F2918 h2919 => nl <| tg k116 <| TC.region <| tv (bad rfl rfl) rfl <| tm rfl <| nl <| gk hp [1, 2, 3, 0] ⟨_, _, F2918, _, rfl, h2919, ovr_eq _ _ rfl, rfl⟩
   · exact TC.exit <| jn [0, 1, 2, 3] (J110 h2825 (ex_ret hp hx35))
  refine lp hz23 [0, 1, 2, 3] rfl (fun s e L => ∃ x2816 x2819 F2817 e21, s = (x2816, x2819) ∧ SlO 3 (kInt .i64) x2816 v2809 F2817 ∧ e = ovr e21 [(3, v409), (4, v1609), (5, v2809), (6, v2813), (28, .int .i64 (len x2808)), (29, .int .i64 x2819)] ∧ L = [F410, F1610, F2817, F2814]) ⟨_, _, F2810, _, rfl, h2811, ovr_eq _ _ rfl, rfl⟩ ?_
  rintro _ _ _ ⟨x2816, x2819, F2817, e21, rfl, h2818, rfl, rfl⟩ X25 hp hx26
  replace hp : dom_Nearest.bd26 x2808 x2816 x2819 = some X25 := hp
  refine sr <| tv (blt rfl rfl) rfl <| nz <| TC.seq fun K123 k124 => cD rfl hp (fun hc125 hp => ?_) fun hc125 hp => ?_
  · exact sk k124 rfl <| TC.seq fun K126 k127 => TC.block <| sr <| tm rfl <| ta rfl <| nz <| TC.region <| tm rfl <| tm rfl <| tO u25 i3 h2818 hp rfl rfl rfl rfl fun x2920 b2921 o2922 h2923 hp => tp [2, 0, 1, 3] [_,_,_,_] rfl rfl <| tE h2818 h2923 m3 rfl ⟨rfl, rfl⟩ w1 fun F2924 h2925 => nl <| tg k127 <| TC.region <| tv (bad rfl rfl) rfl <| tm rfl <| nl <| gk hp [1, 2, 0, 3] ⟨_, _, F2924, _, rfl, h2925, ovr_eq _ _ rfl, rfl⟩
  · exact TC.exit <| jn [0, 1, 2, 3] (J121 h2818 (ex_ret hp hx26))
 refine bE hp fun x3727 hY2_2 hp => bE hp fun x4927 hY2_5 hp => ch mix [F1610, F1210, F410, bx b6 40 [.int .i64 a1.params, .int .i64 a1.result, v2, v4]] (srcG 0 rfl (srcG 1 rfl (srcG 2 rfl (srcG 3 rfl srcG0)))) <| hv 0 rfl mv (by kernel_rfl) rfl <| hv 1 rfl (ln u60 h1611.ro rfl) (by kernel_rfl) rfl <| hv 3 rfl mv (by kernel_rfl) rfl <| hv 4 rfl (ln u60 h1611.ro rfl) (by kernel_rfl) rfl <| HL.all [2, 5] (by kernel_rfl) (by simp) (HL.al ⟨_, rfl, fun K131 k132 => ?_⟩ (HL.al ⟨_, rfl, fun K137 k138 => ?_⟩ HL.al0))
 · exact tk0 (k := (kInt .i64)) u25 i3 hY2_2 ⟨rfl, rfl⟩ rfl rfl rfl rfl rfl rfl fun v3728 F3729 h3730 => hk k132 (srcG 1 rfl (srcG 2 rfl (srcG 3 rfl (srcG 4 rfl srcG0)))) <| hv 6 rfl sg (by kernel_rfl) rfl <| ho 5 rfl (by kernel_rfl) fun K134 k135 => tk0 (k := (kInt .i64)) u25 i3 hY2_5 ⟨rfl, rfl⟩ rfl rfl rfl rfl rfl rfl fun v4928 F4929 h4930 => hk k135 (srcG 2 rfl (srcG 3 rfl (srcG 4 rfl (srcG 5 rfl srcG0)))) <| hv 7 rfl sg (by kernel_rfl) rfl <| hz (by kernel_rfl) <| jn [4, 2, 1, 0] (J18 h3730 h4930 hp)
 · exact tk0 (k := (kInt .i64)) u25 i3 hY2_5 ⟨rfl, rfl⟩ rfl rfl rfl rfl rfl rfl fun v4928 F4929 h4930 => hk k138 (srcG 1 rfl (srcG 2 rfl (srcG 3 rfl (srcG 4 rfl srcG0)))) <| ho 2 rfl (by kernel_rfl) fun K140 k141 => tk0 (k := (kInt .i64)) u25 i3 hY2_2 ⟨rfl, rfl⟩ rfl rfl rfl rfl rfl rfl fun v3728 F3729 h3730 => hk k141 (srcG 2 rfl (srcG 3 rfl (srcG 4 rfl (srcG 5 rfl srcG0)))) <| hv 6 rfl sg (by kernel_rfl) rfl <| hv 7 rfl sg (by kernel_rfl) rfl <| hz (by kernel_rfl) <| jn [4, 2, 0, 1] (J18 h3730 h4930 hp)

/-! ### fettle/dom.Dominates -/
abbrev dom_Dominates.R (r : List (List Bool)) (v : Value) (A : List FP) : Prop := ∃ (w1 : Value) (G1 : FP), w1 = v ∧ A = [G1] ∧ SlO 88 (kSl 4 kBool) r w1 G1
def dom_Dominates.nx28  (x2423 : List (List Bool)) : Option (List (List Bool)) :=
  some x2423
def dom_Dominates.nx42 (x2422 : Int) (x2430 : List (List Bool)) : Option (Ex (List (List Bool)) (List (List Bool) × Int)) :=
  some (.go (x2430, (w64 (x2422 + 1))))
def dom_Dominates.bd42 (x408 : List Int) (x1208 : List Bool) (x2422 : Int) (x2426 : List (List Bool)) (x2429 : Int) : Option (Ex (List (List Bool)) (List (List Bool) × Int)) :=
  (idx x1208 x2422).bind fun x2433 =>
  if x2433 = true ∧ x2429 ≥ 0 then
    (idx x2426 x2429).bind fun x2439 =>
    (idx x2439 x2422).bind fun x2448 =>
    (idx x408 x2429).bind fun x2454 =>
    some (.go ((x2426.set (x2429).toNat (x2439.set (x2422).toNat true)), x2454))
  else
    some (.ret x2426)
def dom_Dominates.bd28 (x408 : List Int) (x1208 : List Bool) (x2416 : List (List Bool)) (x2419 : List (List Bool)) (x2422 : Int) : Option (Ex (List (List Bool)) (List (List Bool) × Int)) :=
  if x2422 < (len x2416) then
    (whl (fun (s : (List (List Bool) × Int)) => dom_Dominates.bd42 x408 x1208 x2422 s.1 s.2) FUEL (x2419, x2422)).bind fun z =>
    dom_Dominates.nx42 x2422 z
  else
    some (.ret x2419)
def dom_Dominates.nx19 (x408 : List Int) (x1208 : List Bool) (x2416 : List (List Bool)) : Option (List (List Bool)) :=
  (whl (fun (s : (List (List Bool) × Int)) => dom_Dominates.bd28 x408 x1208 x2416 s.1 s.2) FUEL (x2416, 0)).bind fun z =>
  dom_Dominates.nx28 z
def dom_Dominates.bd19 (x408 : List Int) (x2408 : List (List Bool)) (x2412 : List (List Bool)) (x2415 : Int) : Option (Ex (List (List Bool)) (List (List Bool) × Int)) :=
  if x2415 < (len x2408) then
    (mkl (len x408) false).bind fun x2462 =>
    (idx x2412 x2415).bind fun x2466 =>
    some (.go ((x2412.set (x2415).toNat x2462), (w64 (x2415 + 1))))
  else
    some (.ret x2412)
def dom_Dominates (a1 : PFunc) : Option (List (List Bool)) :=
  (dom_Nearest a1).bind fun x408 =>
  (graph_Reached a1).bind fun x1208 =>
  (mkl (len x408) ([] : List Bool)).bind fun x2408 =>
  (whl (fun (s : (List (List Bool) × Int)) => dom_Dominates.bd19 x408 x2408 s.1 s.2) FUEL (x2408, 0)).bind fun z =>
  dom_Dominates.nx19 x408 x1208 z
set_option maxHeartbeats 4000000 in
theorem dom_Dominates_ok {E : World} {H : FP} {w : World} {a1 : PFunc} {v2 : Value} {v4 : Value} {r : List (List Bool)} (h3 : SlI (kInt .i64) H a1.regs v2) (h5 : SlI kBlock H a1.blocks v4) (hp : dom_Dominates a1 = some r) (hst : St E H [] w) :
    Fn Try.prog 58 #[.agg #[.int .i64 a1.params, .int .i64 a1.result, v2, v4]] w fun v w' => ∃ A, dom_Dominates.R r v A ∧ St E H A w' := by
 refine fb 54 [.tmp 2] Try.func58 rfl rfl rfl rfl rfl hst <| sr <| tb [.int .i64 a1.params, .int .i64 a1.result, v2, v4] rfl rfl fun b6 => ta rfl <| nz <| TC.seq fun K1 k2 => ch mix [bx b6 40 [.int .i64 a1.params, .int .i64 a1.result, v2, v4]] (srcG 0 rfl srcG0) <| hv 0 rfl (lAG (ds := [.int .i64 a1.params, .int .i64 a1.result, v2, v4]) ag_40 0 rfl rfl rfl rfl) (by kernel_rfl) rfl <| hv 2 rfl (lAG (ds := [.int .i64 a1.params, .int .i64 a1.result, v2, v4]) ag_40 0 rfl rfl rfl rfl) (by kernel_rfl) rfl <| ho 1 rfl (by kernel_rfl) fun K3 k4 => bE hp fun x408 hy5 hp => tc 0 [_] rfl c43 (fun _ => dom_Nearest_ok (a1 := a1) (h3.mono subH) (h5.mono subH) hy5) rfl ?_
 rintro _ _ ⟨v409, F410, rfl, rfl, h411⟩
 refine hk k4 (srcG 1 rfl srcG0) <| ho 3 rfl (by kernel_rfl) fun K7 k8 => bE hp fun x1208 hy9 hp => tc 0 [_,_] rfl c52 (fun _ => graph_Reached_ok (a1 := a1) (h3.mono subH) (h5.mono subH) hy9) rfl ?_
 rintro _ _ ⟨v1209, F1210, rfl, rfl, h1211⟩
 refine hk k8 (srcG 2 rfl srcG0) <| hv 4 rfl sg (by kernel_rfl) rfl <| hv 5 rfl sg (by kernel_rfl) rfl <| hz (by kernel_rfl) <| tg k2 <| sr <| tm rfl <| tv (ln u25 h411.ro rfl) rfl <| tk (k := (kSl 4 kBool)) u62 i88 hp ⟨_, rfl, SlO.nil 4⟩ rfl rfl rfl rfl rfl rfl fun x2408 v2409 F2410 h2411 hp => ta rfl <| nz <| TC.seq fun K12 k13 => sr <| tm rfl <| tv (ln u62 h2411.ro rfl) rfl <| tm rfl <| nz <| TC.block <| bE hp fun z_15 hz16 hr17 => ?_
 have J64 {x2416 F2417 e20} (h2418 : SlO 88 (kSl 4 kBool) x2416 v2409 F2417) (hq65 : x2416 = z_15) : ∀ w, St E H [F410, F1210, F2417] w → K12 (ovr e20 [(3, v409), (4, v1209), (5, v2409)]) w := by
  subst hq65
  replace hp : dom_Dominates.nx19 x408 x1208 x2416 = some r := hr17
  refine tg k13 <| TC.seq fun K21 k22 => sr <| tm rfl <| tv (ln u62 h2418.ro rfl) rfl <| tm rfl <| nz <| TC.block <| bE hp fun z_24 hz25 hr26 => ?_
  have J30 {x2423 F2424 e29} (h2425 : SlO 88 (kSl 4 kBool) x2423 v2409 F2424) (hq31 : x2423 = z_24) : ∀ w, St E H [F2424] w → K21 (ovr e29 [(5, v2409)]) w := by
   subst hq31
   replace hp : dom_Dominates.nx28 x2423 = some r := hr26
   exact tg k22 <| sr <| tm rfl <| ta rfl <| nz <| TC.ret <| rt hp [0] ⟨v2409, F2424, rfl, rfl, h2425⟩
  refine lp hz25 [0, 1, 2] rfl (fun s e L => ∃ x2419 x2422 F2420 e23, s = (x2419, x2422) ∧ SlO 88 (kSl 4 kBool) x2419 v2409 F2420 ∧ e = ovr e23 [(3, v409), (4, v1209), (5, v2409), (29, .int .i64 (len x2416)), (30, .int .i64 x2422)] ∧ L = [F410, F1210, F2420]) ⟨_, _, F2417, _, rfl, h2418, ovr_eq _ _ rfl, rfl⟩ ?_
  rintro _ _ _ ⟨x2419, x2422, F2420, e23, rfl, h2421, rfl, rfl⟩ X27 hp hx28
  replace hp : dom_Dominates.bd28 x408 x1208 x2416 x2419 x2422 = some X27 := hp
  refine sr <| tv (blt rfl rfl) rfl <| nz <| TC.seq fun K32 k33 => cD rfl hp (fun hc34 hp => ?_) fun hc34 hp => ?_
  · refine sk k33 rfl <| TC.seq fun K35 k36 => TC.block <| sr <| tm rfl <| ta rfl <| nz <| sr <| tm rfl <| ta rfl <| nz <| TC.block <| bE hp fun z_38 hz39 hr40 => ?_
    have J44 {x2430 F2431 e43} (h2432 : SlO 88 (kSl 4 kBool) x2430 v2409 F2431) (hq45 : x2430 = z_38) : ∀ w, St E H [F410, F1210, F2431] w → K35 (ovr e43 [(3, v409), (4, v1209), (5, v2409), (29, .int .i64 (len x2416)), (30, .int .i64 x2422)]) w := by
     subst hq45
     replace hp : dom_Dominates.nx42 x2422 x2430 = some X27 := hr40
     exact tg k36 <| TC.region <| tv (bad rfl rfl) rfl <| tm rfl <| nl <| gk hp [0, 1, 2] ⟨_, _, F2431, _, rfl, h2432, ovr_eq _ _ rfl, rfl⟩
    refine lp hz39 [0, 1, 2] rfl (fun s e L => ∃ x2426 x2429 F2427 e37, s = (x2426, x2429) ∧ SlO 88 (kSl 4 kBool) x2426 v2409 F2427 ∧ e = ovr e37 [(3, v409), (4, v1209), (5, v2409), (7, .int .i64 x2422), (8, .int .i64 x2429), (29, .int .i64 (len x2416)), (30, .int .i64 x2422)] ∧ L = [F410, F1210, F2427]) ⟨_, _, F2420, _, rfl, h2421, ovr_eq _ _ rfl, rfl⟩ ?_
    rintro _ _ _ ⟨x2426, x2429, F2427, e37, rfl, h2428, rfl, rfl⟩ X41 hp hx42
    replace hp : dom_Dominates.bd42 x408 x1208 x2422 x2426 x2429 = some X41 := hp
    refine TC.seq fun K46 k47 => sr <| tm rfl <| tm rfl <| ti u88 i4 (h1211).ro hp rfl rfl rfl rfl ?_
    rintro x2433 b2434 o2435 _ hp rfl h2438
    refine tv (lr s4 (Src.at_ 1 rfl) h2438 0 rfl rfl) rfl <| tm rfl <| TL.cut 3 fun K49 k50 => ?_
    have J51 {e53} : ∀ w, St E H [F410, F1210, F2427] w → K49 (ovr e53 [(41, .bool (decide (x2433 = true ∧ x2429 ≥ 0))), (3, v409), (4, v1209), (5, v2409), (7, .int .i64 x2422), (8, .int .i64 x2429), (29, .int .i64 (len x2416)), (30, .int .i64 x2422)]) w := by
     refine tlg k50 <| nz <| cD rfl hp (fun hc54 hp => ?_) fun hc54 hp => ?_
     · refine sk k47 rfl <| TC.seq fun K55 k56 => TC.block <| TC.region <| tm rfl <| tm rfl <| tp [2, 0, 1] [_,_,_] rfl rfl <| bE hp fun x2439 hx57 hp => TL.open_ h2428 hx57 ?_
       rintro b2440 _ F2442 F2443 h2444 ⟨v2446, rfl, h2447⟩
       refine tv (rv_ixH u62 i88 rfl rfl (idx_some hx57).1 h2444) rfl <| tv (lr s88 (Src.at_ 0 rfl) (Hole.cells h2444) 0 rfl rfl) rfl <| tm rfl <| tO u88 i4 h2447 hp rfl rfl rfl rfl fun x2448 b2449 o2450 h2451 hp => tp [1, 0, 2, 3] [_,_,_,_] rfl rfl <| tE h2447 h2451 m4 rfl ⟨rfl, rfl⟩ w1 fun F2452 h2453 => nl <| tg k56 <| TC.region <| tm rfl <| tm rfl <| ti u25 i3 (h411).ro hp rfl rfl rfl rfl ?_
       rintro x2454 b2455 o2456 _ hp rfl h2459
       exact tv (lr s3 (Src.at_ 2 rfl) h2459 0 rfl rfl) rfl <| ta rfl <| nl <| wp [1, 0, 2, 3] [_,_,_,_] rfl rfl <| W.shut (a := (x2439.set (x2422).toNat true)) h2444 ⟨_, rfl, h2453⟩ fun F2460 h2461 => gk hp [1, 2, 0] ⟨_, _, F2460, _, rfl, h2461, ovr_eq _ _ rfl, rfl⟩
     · exact TC.exit <| jn [0, 1, 2] (J44 h2428 (ex_ret hp hx42))
    by_cases hc52 : x2433 = true
    · exact gy rfl (bbT hc52) <| tm rfl <| gy rfl (bbT hc52) <| tv (bge rfl rfl) rfl <| tv (pT (bbT hc52)) rfl <| nj J51 (bAt hc52)
    · exact gn rfl (bbF hc52) rfl rfl <| gn rfl (bbF hc52) rfl rfl <| tv (pF (bbF hc52)) rfl <| nj J51 (bAf hc52)
  · exact TC.exit <| jn [2] (J30 h2421 (ex_ret hp hx28))
 refine lp hz16 [2, 1, 0] rfl (fun s e L => ∃ x2412 x2415 F2413 e14, s = (x2412, x2415) ∧ SlO 88 (kSl 4 kBool) x2412 v2409 F2413 ∧ e = ovr e14 [(3, v409), (4, v1209), (5, v2409), (17, .int .i64 (len x2408)), (18, .int .i64 x2415)] ∧ L = [F410, F1210, F2413]) ⟨_, _, F2410, _, rfl, h2411, ovr_eq _ _ rfl, rfl⟩ ?_
 rintro _ _ _ ⟨x2412, x2415, F2413, e14, rfl, h2414, rfl, rfl⟩ X18 hp hx19
 replace hp : dom_Dominates.bd19 x408 x2408 x2412 x2415 = some X18 := hp
 refine sr <| tv (blt rfl rfl) rfl <| nz <| TC.seq fun K66 k67 => cD rfl hp (fun hc68 hp => ?_) fun hc68 hp => ?_
 · exact sk k67 rfl <| TC.seq fun K69 k70 => TC.block <| sr <| tm rfl <| ta rfl <| nz <| TC.region <| tm rfl <| tm rfl <| tm rfl <| tv (ln u25 h411.ro rfl) rfl <| tk (k := kBool) u88 i4 hp ⟨rfl, rfl⟩ rfl rfl rfl rfl rfl rfl fun x2462 v2463 F2464 h2465 hp => tO u62 i88 h2414 hp rfl rfl rfl rfl fun x2466 b2467 o2468 h2469 hp => tp [3, 0, 1, 2] [_,_,_,_] rfl rfl <| TL.stE (ds := [v2463]) (u := v2463) (a := x2462) h2414 h2469 m88 rfl rfl (SlO.cells h2465) ⟨_, rfl, h2465⟩ fun F2470 h2471 => nl <| tg k70 <| TC.region <| tv (bad rfl rfl) rfl <| tm rfl <| nl <| gk hp [1, 2, 0] ⟨_, _, F2470, _, rfl, h2471, ovr_eq _ _ rfl, rfl⟩
 · exact TC.exit <| jn [0, 1, 2] (J64 h2414 (ex_ret hp hx19))

/-! ### fettle/dom.Frontier -/
abbrev dom_Frontier.R (r : List (List Int)) (v : Value) (A : List FP) : Prop := ∃ (w1 : Value) (G1 : FP), w1 = v ∧ A = [G1] ∧ SlO 25 (kSl 3 (kInt .i64)) r w1 G1
def dom_Frontier.nx23  (x3616 : List (List Int)) : Option (List (List Int)) :=
  some x3616
def dom_Frontier.nx47 (x3615 : Int) (x3634 : List (List Int)) : Option (Ex (List (List Int)) (List (List Int) × Int)) :=
  some (.go (x3634, (w64 (x3615 + 1))))
def dom_Frontier.jn57 (x3633 : Int) (x3637 : List (List Int)) : Option (Ex (List (List Int)) (List (List Int) × Int)) :=
  some (.go (x3637, (w64 (x3633 + 1))))
def dom_Frontier.bd47 (x1208 : List Bool) (x2008 : List (List Bool)) (x3615 : Int) (x3627 : List Bool) (x3630 : List (List Int)) (x3633 : Int) : Option (Ex (List (List Int)) (List (List Int) × Int)) :=
  if x3633 < (len x3627) then
    (idx x3627 x3633).bind fun x3640 =>
    (if x3640 = true then (idx x1208 x3615).bind fun x3682 =>
    some x3682 else some false).bind fun t3646 =>
    (if t3646 = true then (if x3615 = x3633 then some true else (idx x2008 x3615).bind fun x3668 =>
    (idx x3668 x3633).bind fun x3676 =>
    some (!x3676)).bind fun t3667 =>
    some t3667 else some false).bind fun t3647 =>
    if t3647 = true then
      (idx x3630 x3615).bind fun x3648 =>
      (cat x3648 [x3633]).bind fun x3658 =>
      dom_Frontier.jn57 x3633 (x3630.set (x3615).toNat x3658)
    else
      dom_Frontier.jn57 x3633 x3630
  else
    some (.ret x3630)
def dom_Frontier.nx40 (x1208 : List Bool) (x2008 : List (List Bool)) (x3612 : List (List Int)) (x3615 : Int) (x3627 : List Bool) : Option (Ex (List (List Int)) (List (List Int) × Int)) :=
  (whl (fun (s : (List (List Int) × Int)) => dom_Frontier.bd47 x1208 x2008 x3615 x3627 s.1 s.2) FUEL (x3612, 0)).bind fun z =>
  dom_Frontier.nx47 x3615 z
def dom_Frontier.nx99 (x3626 : Int) (x3700 : List Bool) : Option (Ex (List Bool) (List Bool × Int)) :=
  some (.go (x3700, (w64 (x3626 + 1))))
def dom_Frontier.bd99 (x2008 : List (List Bool)) (x3615 : Int) (x3626 : Int) (x3688 : List Int) (x3696 : List Bool) (x3699 : Int) : Option (Ex (List Bool) (List Bool × Int)) :=
  if x3699 < (len x3688) then
    (idx x3688 x3699).bind fun x3703 =>
    (idx x3696 x3703).bind fun x3709 =>
    (if x3709 = true then some true else (idx x2008 x3615).bind fun x3722 =>
    (idx x3722 x3626).bind fun x3730 =>
    some x3730).bind fun t3715 =>
    (idx x3696 x3703).bind fun x3716 =>
    some (.go ((x3696.set (x3703).toNat t3715), (w64 (x3699 + 1))))
  else
    some (.ret x3696)
def dom_Frontier.bd40 (x408 : List (List Int)) (x2008 : List (List Bool)) (x3615 : Int) (x3623 : List Bool) (x3626 : Int) : Option (Ex (List Bool) (List Bool × Int)) :=
  if x3626 < (len x408) then
    (idx x408 x3626).bind fun x3688 =>
    (whl (fun (s : (List Bool × Int)) => dom_Frontier.bd99 x2008 x3615 x3626 x3688 s.1 s.2) FUEL (x3623, 0)).bind fun z =>
    dom_Frontier.nx99 x3626 z
  else
    some (.ret x3623)
def dom_Frontier.bd23 (x408 : List (List Int)) (x1208 : List Bool) (x2008 : List (List Bool)) (x3608 : List (List Int)) (x3612 : List (List Int)) (x3615 : Int) : Option (Ex (List (List Int)) (List (List Int) × Int)) :=
  if x3615 < (len x3608) then
    (mkl (len x408) false).bind fun x3619 =>
    (whl (fun (s : (List Bool × Int)) => dom_Frontier.bd40 x408 x2008 x3615 s.1 s.2) FUEL (x3619, 0)).bind fun z =>
    dom_Frontier.nx40 x1208 x2008 x3612 x3615 z
  else
    some (.ret x3612)
def dom_Frontier (a1 : PFunc) : Option (List (List Int)) :=
  (graph_Next a1).bind fun x408 =>
  (graph_Reached a1).bind fun x1208 =>
  (dom_Dominates a1).bind fun x2008 =>
  (mkl (len x408) ([] : List Int)).bind fun x3608 =>
  (whl (fun (s : (List (List Int) × Int)) => dom_Frontier.bd23 x408 x1208 x2008 x3608 s.1 s.2) FUEL (x3608, 0)).bind fun z =>
  dom_Frontier.nx23 z
set_option maxHeartbeats 4000000 in
theorem dom_Frontier_ok {E : World} {H : FP} {w : World} {a1 : PFunc} {v2 : Value} {v4 : Value} {r : List (List Int)} (h3 : SlI (kInt .i64) H a1.regs v2) (h5 : SlI kBlock H a1.blocks v4) (hp : dom_Frontier a1 = some r) (hst : St E H [] w) :
    Fn Try.prog 42 #[.agg #[.int .i64 a1.params, .int .i64 a1.result, v2, v4]] w fun v w' => ∃ A, dom_Frontier.R r v A ∧ St E H A w' := by
 refine fb 105 [.tmp 2] Try.func42 rfl rfl rfl rfl rfl hst <| sr <| tb [.int .i64 a1.params, .int .i64 a1.result, v2, v4] rfl rfl fun b6 => ta rfl <| nz <| TC.seq fun K1 k2 => ch mix [bx b6 40 [.int .i64 a1.params, .int .i64 a1.result, v2, v4]] (srcG 0 rfl srcG0) <| hv 0 rfl (lAG (ds := [.int .i64 a1.params, .int .i64 a1.result, v2, v4]) ag_40 0 rfl rfl rfl rfl) (by kernel_rfl) rfl <| hv 2 rfl (lAG (ds := [.int .i64 a1.params, .int .i64 a1.result, v2, v4]) ag_40 0 rfl rfl rfl rfl) (by kernel_rfl) rfl <| hv 4 rfl (lAG (ds := [.int .i64 a1.params, .int .i64 a1.result, v2, v4]) ag_40 0 rfl rfl rfl rfl) (by kernel_rfl) rfl <| ho 1 rfl (by kernel_rfl) fun K3 k4 => bE hp fun x408 hy5 hp => tc 0 [_] rfl c51 (fun _ => graph_Next_ok (a1 := a1) (h3.mono subH) (h5.mono subH) hy5) rfl ?_
 rintro _ _ ⟨v409, F410, rfl, rfl, h411⟩
 refine hk k4 (srcG 1 rfl srcG0) <| ho 3 rfl (by kernel_rfl) fun K7 k8 => bE hp fun x1208 hy9 hp => tc 0 [_,_] rfl c52 (fun _ => graph_Reached_ok (a1 := a1) (h3.mono subH) (h5.mono subH) hy9) rfl ?_
 rintro _ _ ⟨v1209, F1210, rfl, rfl, h1211⟩
 refine hk k8 (srcG 2 rfl srcG0) <| ho 5 rfl (by kernel_rfl) fun K11 k12 => bE hp fun x2008 hy13 hp => tc 0 [_,_,_] rfl c58 (fun _ => dom_Dominates_ok (a1 := a1) (h3.mono subH) (h5.mono subH) hy13) rfl ?_
 rintro _ _ ⟨v2009, F2010, rfl, rfl, h2011⟩
 refine hk k12 (srcG 3 rfl srcG0) <| hv 6 rfl sg (by kernel_rfl) rfl <| hv 7 rfl sg (by kernel_rfl) rfl <| hv 8 rfl sg (by kernel_rfl) rfl <| hz (by kernel_rfl) <| tg k2 <| sr <| tm rfl <| tv (ln u60 h411.ro rfl) rfl <| tk (k := (kSl 3 (kInt .i64))) u60 i25 hp ⟨_, rfl, SlO.nil 3⟩ rfl rfl rfl rfl rfl rfl fun x3608 v3609 F3610 h3611 hp => ta rfl <| nz <| TC.seq fun K16 k17 => sr <| tm rfl <| tv (ln u60 h3611.ro rfl) rfl <| tm rfl <| nz <| TC.block <| bE hp fun z_19 hz20 hr21 => ?_
 have J25 {x3616 F3617 e24} (h3618 : SlO 25 (kSl 3 (kInt .i64)) x3616 v3609 F3617) (hq26 : x3616 = z_19) : ∀ w, St E H [F3617] w → K16 (ovr e24 [(6, v3609)]) w := by
  subst hq26
  replace hp : dom_Frontier.nx23 x3616 = some r := hr21
  exact tg k17 <| sr <| tm rfl <| ta rfl <| nz <| TC.ret <| rt hp [0] ⟨v3609, F3617, rfl, rfl, h3618⟩
 refine lp hz20 [3, 2, 1, 0] rfl (fun s e L => ∃ x3612 x3615 F3613 e18, s = (x3612, x3615) ∧ SlO 25 (kSl 3 (kInt .i64)) x3612 v3609 F3613 ∧ e = ovr e18 [(3, v409), (4, v1209), (5, v2009), (6, v3609), (25, .int .i64 (len x3608)), (26, .int .i64 x3615)] ∧ L = [F410, F1210, F2010, F3613]) ⟨_, _, F3610, _, rfl, h3611, ovr_eq _ _ rfl, rfl⟩ ?_
 rintro _ _ _ ⟨x3612, x3615, F3613, e18, rfl, h3614, rfl, rfl⟩ X22 hp hx23
 replace hp : dom_Frontier.bd23 x408 x1208 x2008 x3608 x3612 x3615 = some X22 := hp
 refine sr <| tv (blt rfl rfl) rfl <| nz <| TC.seq fun K27 k28 => cD rfl hp (fun hc29 hp => ?_) fun hc29 hp => ?_
 · refine sk k28 rfl <| TC.seq fun K30 k31 => TC.block <| sr <| tm rfl <| ta rfl <| nz <| sr <| tm rfl <| tv (ln u60 h411.ro rfl) rfl <| tk (k := kBool) u88 i4 hp ⟨rfl, rfl⟩ rfl rfl rfl rfl rfl rfl fun x3619 v3620 F3621 h3622 hp => ta rfl <| nz <| TC.seq fun K33 k34 => sr <| tm rfl <| tv (ln u60 h411.ro rfl) rfl <| tm rfl <| nz <| TC.block <| bE hp fun z_36 hz37 hr38 => ?_
   have J86 {x3627 F3628 e41} (h3629 : SlO 4 kBool x3627 v3620 F3628) (hq87 : x3627 = z_36) : ∀ w, St E H [F410, F1210, F2010, F3613, F3628] w → K33 (ovr e41 [(3, v409), (4, v1209), (5, v2009), (6, v3609), (7, .int .i64 x3615), (8, v3620), (25, .int .i64 (len x3608)), (26, .int .i64 x3615)]) w := by
    subst hq87
    replace hp : dom_Frontier.nx40 x1208 x2008 x3612 x3615 x3627 = some X22 := hr38
    refine tg k34 <| sr <| tm rfl <| tv (ln u88 h3629.ro rfl) rfl <| tm rfl <| nz <| TC.block <| bE hp fun z_43 hz44 hr45 => ?_
    have J49 {x3634 F3635 e48} (h3636 : SlO 25 (kSl 3 (kInt .i64)) x3634 v3609 F3635) (hq50 : x3634 = z_43) : ∀ w, St E H [F410, F1210, F2010, F3635] w → K30 (ovr e48 [(3, v409), (4, v1209), (5, v2009), (6, v3609), (25, .int .i64 (len x3608)), (26, .int .i64 x3615)]) w := by
     subst hq50
     replace hp : dom_Frontier.nx47 x3615 x3634 = some X22 := hr45
     exact tg k31 <| TC.region <| tv (bad rfl rfl) rfl <| tm rfl <| nl <| gk hp [0, 1, 2, 3] ⟨_, _, F3635, _, rfl, h3636, ovr_eq _ _ rfl, rfl⟩
    refine lp hz44 [0, 1, 2, 3, 4] rfl (fun s e L => ∃ x3630 x3633 F3631 e42, s = (x3630, x3633) ∧ SlO 25 (kSl 3 (kInt .i64)) x3630 v3609 F3631 ∧ e = ovr e42 [(3, v409), (4, v1209), (5, v2009), (6, v3609), (7, .int .i64 x3615), (25, .int .i64 (len x3608)), (26, .int .i64 x3615), (63, v3620), (64, .int .i64 (len x3627)), (65, .int .i64 x3633)] ∧ L = [F410, F1210, F2010, F3631, F3628]) ⟨_, _, F3613, _, rfl, h3614, ovr_eq _ _ rfl, rfl⟩ ?_
    rintro _ _ _ ⟨x3630, x3633, F3631, e42, rfl, h3632, rfl, rfl⟩ X46 hp hx47
    replace hp : dom_Frontier.bd47 x1208 x2008 x3615 x3627 x3630 x3633 = some X46 := hp
    refine sr <| tv (blt rfl rfl) rfl <| nz <| TC.seq fun K51 k52 => cD rfl hp (fun hc53 hp => ?_) fun hc53 hp => ?_
    · refine sk k52 rfl <| TC.seq fun K54 k55 => ?_
      have J57 {x3637 F3638 e56} (h3639 : SlO 25 (kSl 3 (kInt .i64)) x3637 v3609 F3638) (hp : dom_Frontier.jn57 x3633 x3637 = some X46) : ∀ w, St E H [F410, F1210, F2010, F3638, F3628] w → K54 (ovr e56 [(3, v409), (4, v1209), (5, v2009), (6, v3609), (7, .int .i64 x3615), (25, .int .i64 (len x3608)), (26, .int .i64 x3615), (63, v3620), (64, .int .i64 (len x3627)), (65, .int .i64 x3633)]) w := by
       exact tg k55 <| TC.region <| tv (bad rfl rfl) rfl <| tm rfl <| nl <| gk hp [0, 1, 2, 3, 4] ⟨_, _, F3638, _, rfl, h3639, ovr_eq _ _ rfl, rfl⟩
      refine TC.block <| sr <| tm rfl <| ti u88 i4 (h3629).ro hp rfl rfl rfl rfl ?_
      rintro x3640 b3641 o3642 _ hp rfl h3645
      refine tv (lr s4 (Src.at_ 4 rfl) h3645 0 rfl rfl) rfl <| ta rfl <| ta rfl <| nz <| sr <| tm rfl <| tm rfl <| bE hp fun t3646 ht82 hp => TL.cut 5 fun K59 k60 => ?_
      have J61 {e63} : ∀ w, St E H [F410, F1210, F2010, F3631, F3628] w → K59 (ovr e63 [(76, .bool t3646), (3, v409), (4, v1209), (5, v2009), (6, v3609), (7, .int .i64 x3615), (13, .int .i64 x3633), (25, .int .i64 (len x3608)), (26, .int .i64 x3615), (63, v3620), (64, .int .i64 (len x3627)), (65, .int .i64 x3633)]) w := by
       refine tlg k60 <| tm rfl <| bE hp fun t3647 ht73 hp => TL.cut 14 fun K64 k65 => ?_
       have J66 {e68} : ∀ w, St E H [F410, F1210, F2010, F3631, F3628] w → K64 (ovr e68 [(91, .bool t3647), (3, v409), (4, v1209), (5, v2009), (6, v3609), (7, .int .i64 x3615), (13, .int .i64 x3633), (25, .int .i64 (len x3608)), (26, .int .i64 x3615), (63, v3620), (64, .int .i64 (len x3627)), (65, .int .i64 x3633)]) w := by
        refine tlg k65 <| nz <| cB rfl hp (fun hc69 hp => ?_) fun hc69 hp => ?_
        · refine TC.region <| tm rfl <| tm rfl <| tm rfl <| tm rfl <| tp [3, 0, 1, 2, 4] [_,_,_,_,_] rfl rfl <| bE hp fun x3648 hx70 hp => TL.open_ h3632 hx70 ?_
          rintro b3649 _ F3651 F3652 h3653 ⟨v3655, rfl, h3656⟩
          exact tv (rv_ixH u60 i25 rfl rfl (idx_some hx70).1 h3653) rfl <| tv (lr s25 (Src.at_ 0 rfl) (Hole.cells h3653) 0 rfl rfl) rfl <| tm rfl <| tbs [(0, .int .i64 x3633)] [.int .i64 x3633] u25 i3 (by kernel_rfl) rfl rfl rfl rfl fun b3657 => tp [2, 0, 1, 3, 4, 5, 6] [_,_,_,_,_,_,_] rfl rfl <| tf 2 0 [_,_,_,_,_,_,_,_] rfl <| tp2 u25 i3 h3656 hp (RepL.to (RepL.cons (k := (kInt .i64)) (x := x3633) ⟨rfl, rfl⟩ RepL.nil) rfl) rfl rfl rfl rfl rfl rfl rfl rfl rfl fun x3658 v3659 F3660 h3661 hp => tv (rv_ixH u60 i25 rfl rfl (idx_some hx70).1 h3653) rfl <| tp [1, 0, 2, 3, 4, 5] [_,_,_,_,_,_] rfl rfl <| tsH h3653 m25 0 rfl h3661.o1 rfl fun F3663 h3664 => nl <| W.shut (a := x3658) h3664 ⟨_, rfl, h3661⟩ fun F3665 h3666 => jn [1, 2, 3, 0, 4] (J57 h3666 hp)
        · exact TC.skip <| jn [0, 1, 2, 3, 4] (J57 h3632 hp)
       refine ifE ht73 (fun hc67 hp => ?_) fun hc67 hp => ?_
       · refine gy rfl (bbT hc67) <| tm rfl <| gy rfl (bbT hc67) <| tm rfl <| gy rfl (bbT hc67) <| tv (beq rfl rfl) rfl <| gy rfl (bbT hc67) <| tm rfl <| bE hp fun t3667 ht79 hp => TL.cut 9 fun K74 k75 => ?_
         have J76 {e78} : ∀ w, St E H [F410, F1210, F2010, F3631, F3628] w → K74 (ovr e78 [(90, .bool t3667), (3, v409), (4, v1209), (5, v2009), (6, v3609), (7, .int .i64 x3615), (13, .int .i64 x3633), (25, .int .i64 (len x3608)), (26, .int .i64 x3615), (63, v3620), (64, .int .i64 (len x3627)), (65, .int .i64 x3633), (77, .bool t3646), (78, .int .i64 x3615), (79, .int .i64 x3633), (80, .bool (decide (x3615 = x3633))), (81, .bool (decide (x3615 = x3633)))]) w := by
          refine tlg k75 <| tv (pT (bbT hc67)) rfl ?_
          obtain rfl := Option.some.inj hp
          exact nj J66 rfl
         refine ifE ht79 (fun hc77 hp => ?_) fun hc77 hp => ?_
         · refine gn rfl (bT hc77) rfl rfl <| gn rfl (bT hc77) rfl rfl <| gn rfl (bT hc77) rfl rfl <| gn rfl (bT hc77) rfl rfl <| gn rfl (bT hc77) rfl rfl <| gn rfl (bT hc77) rfl rfl <| gn rfl (bT hc77) rfl rfl <| gn rfl (bT hc77) rfl rfl <| gy rfl (bbT hc67) <| tv (pT (bT hc77)) rfl ?_
           obtain rfl := Option.some.inj hp
           exact nj J76 rfl
         · refine gy rfl (bF hc77) <| tm rfl <| gy rfl (bF hc77) <| tm rfl <| gy rfl (bF hc77) <| ti u62 i88 (h2011).ro hp rfl rfl rfl rfl ?_
           rintro x3668 b3669 o3670 _ hp ⟨v3674, rfl, h3675⟩ h3673
           refine gy rfl (bF hc77) <| tv (lr s88 (Src.at_ 2 rfl) h3673 0 rfl rfl) rfl <| gy rfl (bF hc77) <| tm rfl <| gy rfl (bF hc77) <| ti u88 i4 h3675 hp rfl rfl rfl rfl ?_
           rintro x3676 b3677 o3678 _ hp rfl h3681
           refine gy rfl (bF hc77) <| tv (lr s4 (Src.at_ 2 rfl) h3681 0 rfl rfl) rfl <| gy rfl (bF hc77) <| tv (rv_not rfl) rfl <| gy rfl (bbT hc67) <| tv (pF (bF hc77)) rfl ?_
           obtain rfl := Option.some.inj hp
           exact nj J76 rfl
       · refine gn rfl (bbF hc67) rfl rfl <| gn rfl (bbF hc67) rfl rfl <| gn rfl (bbF hc67) rfl rfl <| gn rfl (bbF hc67) rfl rfl <| gu rfl rfl rfl <| gu rfl rfl rfl <| gu rfl rfl rfl <| gu rfl rfl rfl <| gu rfl rfl rfl <| gu rfl rfl rfl <| gu rfl rfl rfl <| gu rfl rfl rfl <| gn rfl (bbF hc67) rfl rfl <| tv (pF (bbF hc67)) rfl ?_
         obtain rfl := Option.some.inj hp
         exact nj J66 rfl
      refine ifE ht82 (fun hc62 hp => ?_) fun hc62 hp => ?_
      · refine gy rfl (bbT hc62) <| tm rfl <| gy rfl (bbT hc62) <| tm rfl <| gy rfl (bbT hc62) <| ti u88 i4 (h1211).ro hp rfl rfl rfl rfl ?_
        rintro x3682 b3683 o3684 _ hp rfl h3687
        refine gy rfl (bbT hc62) <| tv (lr s4 (Src.at_ 1 rfl) h3687 0 rfl rfl) rfl <| tv (pT (bbT hc62)) rfl ?_
        obtain rfl := Option.some.inj hp
        exact nj J61 rfl
      · refine gn rfl (bbF hc62) rfl rfl <| gn rfl (bbF hc62) rfl rfl <| gn rfl (bbF hc62) rfl rfl <| gn rfl (bbF hc62) rfl rfl <| tv (pF (bbF hc62)) rfl ?_
        obtain rfl := Option.some.inj hp
        exact nj J61 rfl
    · exact TC.exit <| jn [0, 1, 2, 3] (J49 h3632 (ex_ret hp hx47))
   refine lp hz37 [1, 2, 3, 4, 0] rfl (fun s e L => ∃ x3623 x3626 F3624 e35, s = (x3623, x3626) ∧ SlO 4 kBool x3623 v3620 F3624 ∧ e = ovr e35 [(3, v409), (4, v1209), (5, v2009), (6, v3609), (7, .int .i64 x3615), (8, v3620), (25, .int .i64 (len x3608)), (26, .int .i64 x3615), (32, v409), (33, .int .i64 (len x408)), (34, .int .i64 x3626)] ∧ L = [F410, F1210, F2010, F3613, F3624]) ⟨_, _, F3621, _, rfl, h3622, ovr_eq _ _ rfl, rfl⟩ ?_
   rintro _ _ _ ⟨x3623, x3626, F3624, e35, rfl, h3625, rfl, rfl⟩ X39 hp hx40
   replace hp : dom_Frontier.bd40 x408 x2008 x3615 x3623 x3626 = some X39 := hp
   refine sr <| tv (blt rfl rfl) rfl <| nz <| TC.seq fun K88 k89 => cD rfl hp (fun hc90 hp => ?_) fun hc90 hp => ?_
   · refine sk k89 rfl <| TC.seq fun K91 k92 => TC.block <| sr <| tm rfl <| ti u60 i25 (h411).ro hp rfl rfl rfl rfl ?_
     rintro x3688 b3689 o3690 _ hp ⟨v3694, rfl, h3695⟩ h3693
     refine tv (lr s25 (Src.at_ 0 rfl) h3693 0 rfl rfl) rfl <| ta rfl <| ta rfl <| nz <| sr <| tm rfl <| tv (ln u25 h3695 rfl) rfl <| tm rfl <| nz <| TC.block <| bE hp fun z_95 hz96 hr97 => ?_
     have J101 {x3700 F3701 e100} (h3702 : SlO 4 kBool x3700 v3620 F3701) (hq102 : x3700 = z_95) : ∀ w, St E H [F410, F1210, F2010, F3613, F3701] w → K91 (ovr e100 [(3, v409), (4, v1209), (5, v2009), (6, v3609), (7, .int .i64 x3615), (8, v3620), (25, .int .i64 (len x3608)), (26, .int .i64 x3615), (32, v409), (33, .int .i64 (len x408)), (34, .int .i64 x3626)]) w := by
      subst hq102
      replace hp : dom_Frontier.nx99 x3626 x3700 = some X39 := hr97
      exact tg k92 <| TC.region <| tv (bad rfl rfl) rfl <| tm rfl <| nl <| gk hp [0, 1, 2, 3, 4] ⟨_, _, F3701, _, rfl, h3702, ovr_eq _ _ rfl, rfl⟩
     refine lp hz96 [0, 1, 2, 3, 4] rfl (fun s e L => ∃ x3696 x3699 F3697 e94, s = (x3696, x3699) ∧ SlO 4 kBool x3696 v3620 F3697 ∧ e = ovr e94 [(3, v409), (4, v1209), (5, v2009), (6, v3609), (7, .int .i64 x3615), (8, v3620), (9, .int .i64 x3626), (25, .int .i64 (len x3608)), (26, .int .i64 x3615), (32, v409), (33, .int .i64 (len x408)), (34, .int .i64 x3626), (39, v3694), (40, .int .i64 (len x3688)), (41, .int .i64 x3699)] ∧ L = [F410, F1210, F2010, F3613, F3697]) ⟨_, _, F3624, _, rfl, h3625, ovr_eq _ _ rfl, rfl⟩ ?_
     rintro _ _ _ ⟨x3696, x3699, F3697, e94, rfl, h3698, rfl, rfl⟩ X98 hp hx99
     replace hp : dom_Frontier.bd99 x2008 x3615 x3626 x3688 x3696 x3699 = some X98 := hp
     refine sr <| tv (blt rfl rfl) rfl <| nz <| TC.seq fun K103 k104 => cD rfl hp (fun hc105 hp => ?_) fun hc105 hp => ?_
     · refine sk k104 rfl <| TC.seq fun K106 k107 => TC.block <| sr <| ti u25 i3 h3695 hp rfl rfl rfl rfl ?_
       rintro x3703 b3704 o3705 _ hp rfl h3708
       refine tv (lr s3 (Src.at_ 0 rfl) h3708 0 rfl rfl) rfl <| ta rfl <| nz <| TC.region <| tm rfl <| tm rfl <| tm rfl <| tm rfl <| ti u88 i4 (h3698).ro hp rfl rfl rfl rfl ?_
       rintro x3709 b3710 o3711 _ hp rfl h3714
       refine tv (lr s4 (Src.at_ 4 rfl) h3714 0 rfl rfl) rfl <| tm rfl <| bE hp fun t3715 ht116 hp => TL.cut 8 fun K110 k111 => ?_
       have J112 {e114} : ∀ w, St E H [F410, F1210, F2010, F3613, F3697] w → K110 (ovr e114 [(59, .bool t3715), (3, v409), (4, v1209), (5, v2009), (6, v3609), (7, .int .i64 x3615), (8, v3620), (9, .int .i64 x3626), (25, .int .i64 (len x3608)), (26, .int .i64 x3615), (32, v409), (33, .int .i64 (len x408)), (34, .int .i64 x3626), (39, v3694), (40, .int .i64 (len x3688)), (41, .int .i64 x3699), (45, v3620), (46, .int .i64 x3703)]) w := by
        exact tlg k111 <| tO u88 i4 h3698 hp rfl rfl rfl rfl fun x3716 b3717 o3718 h3719 hp => tp [4, 0, 1, 2, 3] [_,_,_,_,_] rfl rfl <| tE h3698 h3719 m4 rfl ⟨rfl, rfl⟩ w1 fun F3720 h3721 => nl <| tg k107 <| TC.region <| tv (bad rfl rfl) rfl <| tm rfl <| nl <| gk hp [1, 2, 3, 4, 0] ⟨_, _, F3720, _, rfl, h3721, ovr_eq _ _ rfl, rfl⟩
       refine ifE ht116 (fun hc113 hp => ?_) fun hc113 hp => ?_
       · refine gn rfl (bbT hc113) rfl rfl <| gn rfl (bbT hc113) rfl rfl <| gn rfl (bbT hc113) rfl rfl <| gn rfl (bbT hc113) rfl rfl <| gn rfl (bbT hc113) rfl rfl <| gn rfl (bbT hc113) rfl rfl <| gn rfl (bbT hc113) rfl rfl <| tv (pT (bbT hc113)) rfl ?_
         obtain rfl := Option.some.inj hp
         exact nj J112 rfl
       · refine gy rfl (bbF hc113) <| tm rfl <| gy rfl (bbF hc113) <| tm rfl <| gy rfl (bbF hc113) <| ti u62 i88 (h2011).ro hp rfl rfl rfl rfl ?_
         rintro x3722 b3723 o3724 _ hp ⟨v3728, rfl, h3729⟩ h3727
         refine gy rfl (bbF hc113) <| tv (lr s88 (Src.at_ 2 rfl) h3727 0 rfl rfl) rfl <| gy rfl (bbF hc113) <| tm rfl <| gy rfl (bbF hc113) <| ti u88 i4 h3729 hp rfl rfl rfl rfl ?_
         rintro x3730 b3731 o3732 _ hp rfl h3735
         refine gy rfl (bbF hc113) <| tv (lr s4 (Src.at_ 2 rfl) h3735 0 rfl rfl) rfl <| tv (pF (bbF hc113)) rfl ?_
         obtain rfl := Option.some.inj hp
         exact nj J112 rfl
     · exact TC.exit <| jn [0, 1, 2, 3, 4] (J101 h3698 (ex_ret hp hx99))
   · exact TC.exit <| jn [0, 1, 2, 3, 4] (J86 h3625 (ex_ret hp hx40))
 · exact TC.exit <| jn [3] (J25 h3614 (ex_ret hp hx23))

/-! ### (*fettle/ssa.builder).closed$1 -/
abbrev ssa_builder_closed_1.R (r : Bool) (v : Value) (A : List FP) : Prop := .bool r = v ∧ A = []
def ssa_builder_closed_1 (a1 : PInstr) (a5 : Int) : Option Bool :=
  some (decide (a1.dst = a5))
theorem ssa_builder_closed_1_ok {E : World} {H : FP} {w : World} {a1 : PInstr} {a5 : Int} {v2 : Value} {b4 : Nat} {o6 : Nat} {r : Bool} (h3 : SlI (kInt .i64) H a1.args v2) (h7 : CellsIn H b4 o6 [.int .i64 a5]) (hp : ssa_builder_closed_1 a1 a5 = some r) (hst : St E H [] w) :
    Fn Try.prog 94 #[.agg #[.int .i64 a1.op, .int .i64 a1.dst, v2, .int .i64 a1.imm, .int .i64 a1.fn], .pointer (some ⟨b4, o6, none⟩)] w fun v w' => ∃ A, ssa_builder_closed_1.R r v A ∧ St E H A w' := by
 exact fb 8 [.tmp 3] Try.func94 rfl rfl rfl rfl rfl hst <| sr <| tb [.int .i64 a1.op, .int .i64 a1.dst, v2, .int .i64 a1.imm, .int .i64 a1.fn] rfl rfl fun b8 => ta rfl <| nz <| sr <| tv (fa f52_1 rfl) rfl <| tv (lb s3 0 rfl rfl rfl) rfl <| tv (lr s3 sH h7 0 rfl rfl) rfl <| tv (beq rfl rfl) rfl <| ta rfl <| nz <| TC.ret <| rt hp [] ⟨rfl, rfl⟩

/-! ### slices.IndexFunc[[]fettle/api.Instr,fettle/api.Instr] -/
abbrev slices_IndexFunc_api_Instr_api_Instr_ssa_builder_closed_1.R (r : Int) (v : Value) (A : List FP) : Prop := .int .i64 r = v ∧ A = []
def slices_IndexFunc_api_Instr_api_Instr_ssa_builder_closed_1.nx8  : Option Int :=
  some (-1)
def slices_IndexFunc_api_Instr_api_Instr_ssa_builder_closed_1.bd8 (a1 : List PInstr) (a6 : Int) (x9 : Int) : Option (Ex (Ex Int Unit) Int) :=
  if x9 < (len a1) then
    (idx a1 x9).bind fun x10 =>
    (ssa_builder_closed_1 x10 a6).bind fun x18 =>
    if x18 = true then
      some (.ret (.ret x9))
    else
      some (.go (w64 (x9 + 1)))
  else
    some (.ret (.go ()))
def slices_IndexFunc_api_Instr_api_Instr_ssa_builder_closed_1 (a1 : List PInstr) (a6 : Int) : Option Int :=
  (whl (fun (s : Int) => slices_IndexFunc_api_Instr_api_Instr_ssa_builder_closed_1.bd8 a1 a6 s) FUEL 0).bind fun z =>
  match z with
    | .ret r => some r
    | .go p => slices_IndexFunc_api_Instr_api_Instr_ssa_builder_closed_1.nx8
theorem slices_IndexFunc_api_Instr_api_Instr_ssa_builder_closed_1_ok {E : World} {H : FP} {w : World} {a1 : List PInstr} {a6 : Int} {v2 : Value} {b5 : Nat} {o7 : Nat} {r : Int} (h3 : SlI kInstr H a1 v2) (h8 : CellsIn H b5 o7 [.int .i64 a6]) (hp : slices_IndexFunc_api_Instr_api_Instr_ssa_builder_closed_1 a1 a6 = some r) (hst : St E H [] w) :
    Fn Try.prog 121 #[v2, .func (.func 94) #[] #[.pointer (some ⟨b5, o7, none⟩)]] w fun v w' => ∃ A, slices_IndexFunc_api_Instr_api_Instr_ssa_builder_closed_1.R r v A ∧ St E H A w' := by
 refine fb 19 [.tmp 4] Try.func121 rfl rfl rfl rfl rfl hst <| sr <| ta rfl <| nz <| TC.seq fun K1 k2 => sr <| tm rfl <| tv (ln u48 h3 rfl) rfl <| tm rfl <| nz <| TC.block <| bE hp fun z_4 hz5 hr6 => ?_
 have J10 {e9} (hq11 : .go () = z_4) : ∀ w, St E H [] w → K1 (ovr e9 []) w := by
  subst hq11
  replace hp : slices_IndexFunc_api_Instr_api_Instr_ssa_builder_closed_1.nx8 = some r := hr6
  exact tg k2 <| sr <| ta rfl <| nz <| TC.ret <| rt hp [] ⟨rfl, rfl⟩
 refine lp hz5 [] rfl (fun s e L => ∃ e3, e = ovr e3 [(0, v2), (1, .func (.func 94) #[] #[.pointer (some ⟨b5, o7, none⟩)]), (7, .int .i64 (len a1)), (8, .int .i64 s)] ∧ L = []) ⟨_, ovr_eq _ _ rfl, rfl⟩ ?_
 rintro x9 _ _ ⟨e3, rfl, rfl⟩ X7 hp hx8
 replace hp : slices_IndexFunc_api_Instr_api_Instr_ssa_builder_closed_1.bd8 a1 a6 x9 = some X7 := hp
 refine sr <| tv (blt rfl rfl) rfl <| nz <| TC.seq fun K12 k13 => cD rfl hp (fun hc14 hp => ?_) fun hc14 hp => ?_
 · refine sk k13 rfl <| TC.seq fun K15 k16 => TC.block <| sr <| tm rfl <| ta rfl <| nz <| sr <| tm rfl <| tm rfl <| tm rfl <| ti u48 i52 h3 hp rfl rfl rfl rfl ?_
   rintro x10 b11 o12 _ hp ⟨v16, rfl, h17⟩ h15
   refine tv (lR (ds := [.int .i64 x10.op, .int .i64 x10.dst, v16, .int .i64 x10.imm, .int .i64 x10.fn]) ag_52 sH h15 0 rfl rfl rfl) rfl <| bE hp fun x18 hy18 hp => tcv 0 [] rfl c94 rfl (fun _ => ssa_builder_closed_1_ok (a1 := x10) (a5 := a6) (h17.mono subH) (h8.mono subH) hy18) rfl ?_
   rintro _ _ ⟨rfl, rfl⟩
   refine nz <| cB rfl hp (fun hc20 hp => ?_) fun hc20 hp => ?_
   · refine sr <| tm rfl <| ta rfl <| nz <| TC.ret ?_
     obtain rfl := ex_ret hp hx8
     exact rt hr6 [] ⟨rfl, rfl⟩
   · exact sk k16 rfl <| TC.region <| tv (bad rfl rfl) rfl <| tm rfl <| nl <| gk hp [] ⟨_, ovr_eq _ _ rfl, rfl⟩
 · exact TC.exit <| jn [] (J10 (ex_ret hp hx8))

/-! ### slices.ContainsFunc[[]fettle/api.Instr,fettle/api.Instr] -/
abbrev slices_ContainsFunc_api_Instr_api_Instr_ssa_builder_closed_1.R (r : Bool) (v : Value) (A : List FP) : Prop := .bool r = v ∧ A = []
def slices_ContainsFunc_api_Instr_api_Instr_ssa_builder_closed_1 (a1 : List PInstr) (a6 : Int) : Option Bool :=
  (slices_IndexFunc_api_Instr_api_Instr_ssa_builder_closed_1 a1 a6).bind fun x9 =>
  some (decide (x9 ≥ 0))
theorem slices_ContainsFunc_api_Instr_api_Instr_ssa_builder_closed_1_ok {E : World} {H : FP} {w : World} {a1 : List PInstr} {a6 : Int} {v2 : Value} {b5 : Nat} {o7 : Nat} {r : Bool} (h3 : SlI kInstr H a1 v2) (h8 : CellsIn H b5 o7 [.int .i64 a6]) (hp : slices_ContainsFunc_api_Instr_api_Instr_ssa_builder_closed_1 a1 a6 = some r) (hst : St E H [] w) :
    Fn Try.prog 93 #[v2, .func (.func 94) #[] #[.pointer (some ⟨b5, o7, none⟩)]] w fun v w' => ∃ A, slices_ContainsFunc_api_Instr_api_Instr_ssa_builder_closed_1.R r v A ∧ St E H A w' := by
 refine fb 9 [.tmp 4] Try.func93 rfl rfl rfl rfl rfl hst <| sr <| ta rfl <| nz <| sr <| tm rfl <| tm rfl <| bE hp fun x9 hy1 hp => tc 0 [] rfl c121 (fun _ => slices_IndexFunc_api_Instr_api_Instr_ssa_builder_closed_1_ok (a1 := a1) (a6 := a6) (h3.mono subH) (h8.mono subH) hy1) rfl ?_
 rintro _ _ ⟨rfl, rfl⟩
 exact tv (bge rfl rfl) rfl <| ta rfl <| nz <| TC.ret <| rt hp [] ⟨rfl, rfl⟩
end Go.Proofs.Yteaknconpkklhaa
