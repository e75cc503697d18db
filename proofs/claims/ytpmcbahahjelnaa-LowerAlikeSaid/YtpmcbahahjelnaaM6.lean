/- The walk through the program's functions: each one's pure reading, and that a call does what it says. No conditions. -/
import Derived.Test.YtpmcbahahjelnaaM5
set_option linter.unusedVariables false
set_option linter.unusedSimpArgs false
namespace Go.Proofs.Ytpmcbahahjelnaa
open Go Go.Proofs

/-! ### fettle/dom.Nearest -/
abbrev dom_Nearest.R (r : List Int) (v : Value) (A : List FP) : Prop := ∃ (w1 : Value) (G1 : FP), w1 = v ∧ A = [G1] ∧ SlO 3 (kInt .i64) r w1 G1
def dom_Nearest.nx48  (x2840 : List Int) : Option (List Int) :=
  (idx x2840 0).bind fun x2843 =>
  some (x2840.set (0 : Int).toNat (-1))
def dom_Nearest.nx64  (x2857 : List Int) (x2860 : Bool) : Option (Ex (List Int) (List Int × Bool)) :=
  some (.go (x2857, x2860))
def dom_Nearest.jn74 (x2856 : Int) (x2861 : List Int) (x2864 : Bool) : Option (Ex (List Int × Bool) (List Int × Bool × Int)) :=
  some (.go (x2861, x2864, (w64 (x2856 + 1))))
def dom_Nearest.nx84 (x2852 : List Int) (x2855 : Bool) (x2856 : Int) (x2865 : Int) (x2881 : Int) : Option (Ex (List Int × Bool) (List Int × Bool × Int)) :=
  (idx x2852 x2865).bind fun x2882 =>
  if ¬ x2882 = x2881 then
    (idx x2852 x2865).bind fun x2888 =>
    dom_Nearest.jn74 x2856 (x2852.set (x2865).toNat x2881) true
  else
    dom_Nearest.jn74 x2856 x2852 x2855
def dom_Nearest.jn97 (x2880 : Int) (x2894 : Int) : Option (Ex Int (Int × Int)) :=
  some (.go (x2894, (w64 (x2880 + 1))))
def dom_Nearest.bd84 (x2827 : List Int) (x2852 : List Int) (x2871 : List Int) (x2879 : Int) (x2880 : Int) : Option (Ex Int (Int × Int)) :=
  if x2880 < (len x2871) then
    (idx x2871 x2880).bind fun x2895 =>
    (idx x2852 x2895).bind fun x2901 =>
    if x2901 < 0 then
      dom_Nearest.jn97 x2880 x2879
    else
      if x2879 < 0 then
        dom_Nearest.jn97 x2880 x2895
      else
        (dom_meet x2852 x2827 x2895 x2879).bind fun x2907 =>
        dom_Nearest.jn97 x2880 x2907
  else
    some (.ret x2879)
def dom_Nearest.bd64 (x1608 : List (List Int)) (x2827 : List Int) (x2849 : List Int) (x2852 : List Int) (x2855 : Bool) (x2856 : Int) : Option (Ex (List Int × Bool) (List Int × Bool × Int)) :=
  if x2856 < (len x2849) then
    (idx x2849 x2856).bind fun x2865 =>
    (idx x1608 x2865).bind fun x2871 =>
    (whl (fun (s : (Int × Int)) => dom_Nearest.bd84 x2827 x2852 x2871 s.1 s.2) FUEL (-1, 0)).bind fun z =>
    dom_Nearest.nx84 x2852 x2855 x2856 x2865 z
  else
    some (.ret (x2852, x2855))
def dom_Nearest.bd48 (x408 : List Int) (x1608 : List (List Int)) (x2827 : List Int) (x2836 : List Int) (x2839 : Bool) : Option (Ex (List Int) (List Int × Bool)) :=
  if x2839 = true then
    (from_ x408 1).bind fun x2849 =>
    (whl (fun (s : (List Int × Bool × Int)) => dom_Nearest.bd64 x1608 x2827 x2849 s.1 s.2.1 s.2.2) FUEL (x2836, false, 0)).bind fun z =>
    dom_Nearest.nx64 z.1 z.2
  else
    some (.ret x2836)
def dom_Nearest.nx35 (x408 : List Int) (x1608 : List (List Int)) (x2820 : List Int) (x2827 : List Int) : Option (List Int) :=
  if (len x408) = 0 then
    some x2820
  else
    (idx x2820 0).bind fun x2830 =>
    (whl (fun (s : (List Int × Bool)) => dom_Nearest.bd48 x408 x1608 x2827 s.1 s.2) FUEL ((x2820.set (0 : Int).toNat 0), true)).bind fun z =>
    dom_Nearest.nx48 z
def dom_Nearest.bd35 (x408 : List Int) (x2823 : List Int) (x2826 : Int) : Option (Ex (List Int) (List Int × Int)) :=
  if x2826 < (len x408) then
    (idx x408 x2826).bind fun x2908 =>
    (idx x2823 x2908).bind fun x2914 =>
    some (.go ((x2823.set (x2908).toNat x2826), (w64 (x2826 + 1))))
  else
    some (.ret x2823)
def dom_Nearest.nx26 (x408 : List Int) (x1608 : List (List Int)) (x2812 : List Int) (x2820 : List Int) : Option (List Int) :=
  (whl (fun (s : (List Int × Int)) => dom_Nearest.bd35 x408 s.1 s.2) FUEL (x2812, 0)).bind fun z =>
  dom_Nearest.nx35 x408 x1608 x2820 z
def dom_Nearest.bd26 (x2808 : List Int) (x2816 : List Int) (x2819 : Int) : Option (Ex (List Int) (List Int × Int)) :=
  if x2819 < (len x2808) then
    (idx x2816 x2819).bind fun x2920 =>
    some (.go ((x2816.set (x2819).toNat (-1)), (w64 (x2819 + 1))))
  else
    some (.ret x2816)
def dom_Nearest.jn18 (x408 : List Int) (x1608 : List (List Int)) (x2808 : List Int) (x2812 : List Int) : Option (List Int) :=
  (whl (fun (s : (List Int × Int)) => dom_Nearest.bd26 x2808 s.1 s.2) FUEL (x2808, 0)).bind fun z =>
  dom_Nearest.nx26 x408 x1608 x2812 z
def dom_Nearest (a1 : PFunc) : Option (List Int) :=
  (graph_Order a1).bind fun x408 =>
  (graph_Next a1).bind fun x1208 =>
  (dom_ahead x1208).bind fun x1608 =>
  (mkl (len x1608) (0 : Int)).bind fun x3727 =>
  (mkl (len x1608) (0 : Int)).bind fun x4927 =>
  dom_Nearest.jn18 x408 x1608 x3727 x4927
set_option maxHeartbeats 4000000 in
theorem dom_Nearest_ok {E : World} {H : FP} {w : World} {a1 : PFunc} {v2 : Value} {v4 : Value} {r : List Int} (h3 : SlI (kInt .i64) H a1.regs v2) (h5 : SlI kBlock H a1.blocks v4) (hp : dom_Nearest a1 = some r) (hst : St E H [] w) :
    Fn Try.prog 42 #[.agg #[.int .i64 a1.params, .int .i64 a1.result, v2, v4]] w fun v w' => ∃ A, dom_Nearest.R r v A ∧ St E H A w' := by
 refine fb 101 [.tmp 2] Try.func42 rfl rfl rfl rfl rfl hst <| sr <| tb [.int .i64 a1.params, .int .i64 a1.result, v2, v4] rfl rfl fun b6 => ta rfl <| nz <| TC.seq fun K1 k2 => ch mix [bx b6 41 [.int .i64 a1.params, .int .i64 a1.result, v2, v4]] (srcG 0 rfl srcG0) <| hv 0 rfl (lAG (ds := [.int .i64 a1.params, .int .i64 a1.result, v2, v4]) ag_41 0 rfl rfl rfl rfl) (by kernel_rfl) rfl <| hv 2 rfl (lAG (ds := [.int .i64 a1.params, .int .i64 a1.result, v2, v4]) ag_41 0 rfl rfl rfl rfl) (by kernel_rfl) rfl <| ho 1 rfl (by kernel_rfl) fun K3 k4 => bE hp fun x408 hy5 hp => tc 0 [_] rfl c66 (fun _ => graph_Order_ok (a1 := a1) (h3.mono subH) (h5.mono subH) hy5) rfl ?_
 rintro _ _ ⟨v409, F410, rfl, rfl, h411⟩
 refine hk k4 (srcG 1 rfl srcG0) <| ho 3 rfl (by kernel_rfl) fun K7 k8 => bE hp fun x1208 hy9 hp => tc 0 [_,_] rfl c58 (fun _ => graph_Next_ok (a1 := a1) (h3.mono subH) (h5.mono subH) hy9) rfl ?_
 rintro _ _ ⟨v1209, F1210, rfl, rfl, h1211⟩
 refine hk k8 (srcG 2 rfl srcG0) <| ho 4 rfl (by kernel_rfl) fun K11 k12 => bE hp fun x1608 hy13 hp => tc 0 [_,_,_] rfl c67 (fun _ => dom_ahead_ok (a1 := x1208) (h1211.ro.mono (subB 0 rfl)) hy13) rfl ?_
 rintro _ _ ⟨v1609, F1610, rfl, rfl, h1611⟩
 refine hk k12 (srcG 3 rfl srcG0) <| hv 5 rfl sg (by kernel_rfl) rfl <| hv 6 rfl sg (by kernel_rfl) rfl <| hz (by kernel_rfl) <| tg k2 <| TC.seq fun K15 k16 => ?_
 have J18 {x2808 x2812 v2809 F2810 v2813 F2814 e17} (h2811 : SlO 3 (kInt .i64) x2808 v2809 F2810) (h2815 : SlO 3 (kInt .i64) x2812 v2813 F2814) (hp : dom_Nearest.jn18 x408 x1608 x2808 x2812 = some r) : ∀ w, St E H [F410, F1610, F2810, F2814] w → K15 (ovr e17 [(3, v409), (4, v1609), (5, v2809), (6, v2813)]) w := by
  refine tg k16 <| TC.seq fun K19 k20 => sr <| tm rfl <| tv (ln u25 h2811.ro rfl) rfl <| tm rfl <| nz <| TC.block <| bE hp fun z_22 hz23 hr24 => ?_
  have J121 {x2820 F2821 e27} (h2822 : SlO 3 (kInt .i64) x2820 v2809 F2821) (hq122 : x2820 = z_22) : ∀ w, St E H [F410, F1610, F2821, F2814] w → K19 (ovr e27 [(3, v409), (4, v1609), (5, v2809), (6, v2813)]) w := by
   subst hq122
   replace hp : dom_Nearest.nx26 x408 x1608 x2812 x2820 = some r := hr24
   refine tg k20 <| TC.seq fun K28 k29 => sr <| tm rfl <| tv (ln u25 h411.ro rfl) rfl <| tm rfl <| nz <| TC.block <| bE hp fun z_31 hz32 hr33 => ?_
   have J110 {x2827 F2828 e36} (h2829 : SlO 3 (kInt .i64) x2827 v2813 F2828) (hq111 : x2827 = z_31) : ∀ w, St E H [F410, F1610, F2821, F2828] w → K28 (ovr e36 [(3, v409), (4, v1609), (5, v2809), (6, v2813)]) w := by
    subst hq111
    replace hp : dom_Nearest.nx35 x408 x1608 x2820 x2827 = some r := hr33
    refine tg k29 <| TC.seq fun K37 k38 => sr <| tm rfl <| tv (ln u25 h411.ro rfl) rfl <| tv (beq rfl rfl) rfl <| nz <| cD rfl hp (fun hc39 hp => ?_) fun hc39 hp => ?_
    · exact sr <| tm rfl <| ta rfl <| nz <| TC.ret <| rt hp [2] ⟨v2809, F2821, rfl, rfl, h2822⟩
    · refine sk k38 rfl <| sr <| tm rfl <| tO u25 i3 h2822 hp rfl rfl rfl rfl fun x2830 b2831 o2832 h2833 hp => tp [2, 0, 1, 3] [_,_,_,_] rfl rfl <| tE h2822 h2833 m3 rfl ⟨rfl, rfl⟩ w1 fun F2834 h2835 => nz <| TC.seq fun K41 k42 => sr <| ta rfl <| nz <| TC.block <| bE hp fun z_44 hz45 hr46 => ?_
      have J51 {x2840 F2841 e49} (h2842 : SlO 3 (kInt .i64) x2840 v2809 F2841) (hq52 : x2840 = z_44) : ∀ w, St E H [F2841] w → K41 (ovr e49 [(5, v2809)]) w := by
       subst hq52
       replace hp : dom_Nearest.nx48 x2840 = some r := hr46
       exact tg k42 <| sr <| tm rfl <| tO u25 i3 h2842 hp rfl rfl rfl rfl fun x2843 b2844 o2845 h2846 hp => tE h2842 h2846 m3 rfl ⟨rfl, rfl⟩ w1 fun F2847 h2848 => nz <| sr <| tm rfl <| ta rfl <| nz <| TC.ret <| rt hp [0] ⟨v2809, F2847, rfl, rfl, h2848⟩
      refine lp hz45 [1, 2, 0, 3] rfl (fun s e L => ∃ x2836 x2839 F2837 e43, s = (x2836, x2839) ∧ SlO 3 (kInt .i64) x2836 v2809 F2837 ∧ e = ovr e43 [(3, v409), (4, v1609), (5, v2809), (6, v2813), (10, .bool x2839)] ∧ L = [F410, F1610, F2837, F2828]) ⟨_, _, F2834, _, rfl, h2835, ovr_eq _ _ rfl, rfl⟩ ?_
      rintro _ _ _ ⟨x2836, x2839, F2837, e43, rfl, h2838, rfl, rfl⟩ X47 hp hx48
      replace hp : dom_Nearest.bd48 x408 x1608 x2827 x2836 x2839 = some X47 := hp
      refine TC.seq fun K53 k54 => sr <| tm rfl <| nz <| cB rfl hp (fun hc55 hp => ?_) fun hc55 hp => ?_
      · refine sk k54 rfl <| TC.named fun K56 k57 => TC.block <| sr <| ta rfl <| nz <| sr <| tm rfl <| tF u25 i3 h411.ro hp rfl rfl rfl rfl fun x2849 v2850 h2851 hp => tv (ln u25 h2851 rfl) rfl <| tm rfl <| nz <| TC.block <| bE hp fun z_60 hz61 hr62 => ?_
        have J66 {x2857 x2860 F2858 e65} (h2859 : SlO 3 (kInt .i64) x2857 v2809 F2858) (hq67 : (x2857, x2860) = z_60) : ∀ w, St E H [F410, F1610, F2858, F2828] w → K56 (ovr e65 [(3, v409), (4, v1609), (5, v2809), (6, v2813), (10, .bool x2860)]) w := by
         subst hq67
         replace hp : dom_Nearest.nx64 x2857 x2860 = some X47 := hr62
         exact viaK k57 <| gk hp [0, 1, 2, 3] ⟨_, _, F2858, _, rfl, h2859, ovr_eq _ _ rfl, rfl⟩
        refine lp hz61 [0, 1, 2, 3] rfl (fun s e L => ∃ x2852 x2855 x2856 F2853 e59, s = (x2852, x2855, x2856) ∧ SlO 3 (kInt .i64) x2852 v2809 F2853 ∧ e = ovr e59 [(3, v409), (4, v1609), (5, v2809), (6, v2813), (10, .bool x2855), (56, v2850), (57, .int .i64 (len x2849)), (58, .int .i64 x2856)] ∧ L = [F410, F1610, F2853, F2828]) ⟨_, _, _, F2837, _, rfl, h2838, ovr_eq _ _ rfl, rfl⟩ ?_
        rintro _ _ _ ⟨x2852, x2855, x2856, F2853, e59, rfl, h2854, rfl, rfl⟩ X63 hp hx64
        replace hp : dom_Nearest.bd64 x1608 x2827 x2849 x2852 x2855 x2856 = some X63 := hp
        refine sr <| tv (blt rfl rfl) rfl <| nz <| TC.seq fun K68 k69 => cD rfl hp (fun hc70 hp => ?_) fun hc70 hp => ?_
        · refine sk k69 rfl <| TC.seq fun K71 k72 => ?_
          have J74 {x2861 x2864 F2862 e73} (h2863 : SlO 3 (kInt .i64) x2861 v2809 F2862) (hp : dom_Nearest.jn74 x2856 x2861 x2864 = some X63) : ∀ w, St E H [F410, F1610, F2862, F2828] w → K71 (ovr e73 [(3, v409), (4, v1609), (5, v2809), (6, v2813), (10, .bool x2864), (56, v2850), (57, .int .i64 (len x2849)), (58, .int .i64 x2856)]) w := by
           exact tg k72 <| TC.region <| tv (bad rfl rfl) rfl <| tm rfl <| nl <| gk hp [0, 1, 2, 3] ⟨_, _, _, F2862, _, rfl, h2863, ovr_eq _ _ rfl, rfl⟩
          refine TC.block <| sr <| ti u25 i3 h2851 hp rfl rfl rfl rfl ?_
          rintro x2865 b2866 o2867 _ hp rfl h2870
          refine tv (lr s3 (Src.at_ 0 rfl) h2870 0 rfl rfl) rfl <| ta rfl <| nz <| sr <| ta rfl <| nz <| TC.seq fun K76 k77 => sr <| tm rfl <| tm rfl <| ti u73 i25 (h1611).ro hp rfl rfl rfl rfl ?_
          rintro x2871 b2872 o2873 _ hp ⟨v2877, rfl, h2878⟩ h2876
          refine tv (lr s25 (Src.at_ 1 rfl) h2876 0 rfl rfl) rfl <| tv (ln u25 h2878 rfl) rfl <| tm rfl <| nz <| TC.block <| bE hp fun z_80 hz81 hr82 => ?_
          have J89 {x2881 e85} (hq90 : x2881 = z_80) : ∀ w, St E H [F410, F1610, F2853, F2828] w → K76 (ovr e85 [(3, v409), (4, v1609), (5, v2809), (6, v2813), (10, .bool x2855), (12, .int .i64 x2865), (13, .int .i64 x2881), (56, v2850), (57, .int .i64 (len x2849)), (58, .int .i64 x2856)]) w := by
           subst hq90
           replace hp : dom_Nearest.nx84 x2852 x2855 x2856 x2865 x2881 = some X63 := hr82
           refine tg k77 <| sr <| tm rfl <| tm rfl <| ti u25 i3 (h2854).ro hp rfl rfl rfl rfl ?_
           rintro x2882 b2883 o2884 _ hp rfl h2887
           refine tv (lr s3 (Src.at_ 2 rfl) h2887 0 rfl rfl) rfl <| tm rfl <| tv (bne rfl rfl) rfl <| nz <| cD rfl hp (fun hc87 hp => ?_) fun hc87 hp => ?_
           · exact TC.region <| tm rfl <| tm rfl <| tm rfl <| tO u25 i3 h2854 hp rfl rfl rfl rfl fun x2888 b2889 o2890 h2891 hp => tp [2, 0, 1, 3] [_,_,_,_] rfl rfl <| tE h2854 h2891 m3 rfl ⟨rfl, rfl⟩ w1 fun F2892 h2893 => ta rfl <| nl <| jn [1, 2, 0, 3] (J74 h2893 hp)
           · exact TC.skip <| jn [0, 1, 2, 3] (J74 h2854 hp)
          refine lp hz81 [0, 1, 2, 3] rfl (fun s e L => ∃ x2879 x2880 e79, s = (x2879, x2880) ∧ e = ovr e79 [(3, v409), (4, v1609), (5, v2809), (6, v2813), (10, .bool x2855), (12, .int .i64 x2865), (13, .int .i64 x2879), (56, v2850), (57, .int .i64 (len x2849)), (58, .int .i64 x2856), (65, v2877), (66, .int .i64 (len x2871)), (67, .int .i64 x2880)] ∧ L = [F410, F1610, F2853, F2828]) ⟨_, _, _, rfl, ovr_eq _ _ rfl, rfl⟩ ?_
          rintro _ _ _ ⟨x2879, x2880, e79, rfl, rfl, rfl⟩ X83 hp hx84
          replace hp : dom_Nearest.bd84 x2827 x2852 x2871 x2879 x2880 = some X83 := hp
          refine sr <| tv (blt rfl rfl) rfl <| nz <| TC.seq fun K91 k92 => cD rfl hp (fun hc93 hp => ?_) fun hc93 hp => ?_
          · refine sk k92 rfl <| TC.seq fun K94 k95 => ?_
            have J97 {x2894 e96} (hp : dom_Nearest.jn97 x2880 x2894 = some X83) : ∀ w, St E H [F410, F1610, F2853, F2828] w → K94 (ovr e96 [(3, v409), (4, v1609), (5, v2809), (6, v2813), (10, .bool x2855), (12, .int .i64 x2865), (13, .int .i64 x2894), (56, v2850), (57, .int .i64 (len x2849)), (58, .int .i64 x2856), (65, v2877), (66, .int .i64 (len x2871)), (67, .int .i64 x2880)]) w := by
             exact tg k95 <| TC.region <| tv (bad rfl rfl) rfl <| tm rfl <| nl <| gk hp [0, 1, 2, 3] ⟨_, _, _, rfl, ovr_eq _ _ rfl, rfl⟩
            refine TC.block <| sr <| ti u25 i3 h2878 hp rfl rfl rfl rfl ?_
            rintro x2895 b2896 o2897 _ hp rfl h2900
            refine tv (lr s3 (Src.at_ 1 rfl) h2900 0 rfl rfl) rfl <| ta rfl <| nz <| TC.block <| sr <| tm rfl <| tm rfl <| ti u25 i3 (h2854).ro hp rfl rfl rfl rfl ?_
            rintro x2901 b2902 o2903 _ hp rfl h2906
            refine tv (lr s3 (Src.at_ 2 rfl) h2906 0 rfl rfl) rfl <| tv (blt rfl rfl) rfl <| ta rfl <| nz <| cD rfl hp (fun hc100 hp => ?_) fun hc100 hp => ?_
            · exact TC.skip <| jn [0, 1, 2, 3] (J97 hp)
            · refine sr <| tm rfl <| tv (blt rfl rfl) rfl <| ta rfl <| nz <| cD rfl hp (fun hc101 hp => ?_) fun hc101 hp => ?_
              · exact TC.region <| tm rfl <| ta rfl <| nl <| jn [0, 1, 2, 3] (J97 hp)
              · refine TC.region <| tm rfl <| tm rfl <| tm rfl <| tm rfl <| bE hp fun x2907 hy102 hp => tc 0 [_,_,_,_] rfl c68 (fun _ => dom_meet_ok (a1 := x2852) (a4 := x2827) (a7 := x2895) (a8 := x2879) (h2854.ro.mono (subB 2 rfl)) (h2829.ro.mono (subB 3 rfl)) hy102) rfl ?_
                rintro _ _ ⟨rfl, rfl⟩
                exact ta rfl <| nl <| jn [0, 1, 2, 3] (J97 hp)
          · exact TC.exit <| jn [0, 1, 2, 3] (J89 (ex_ret hp hx84))
        · exact TC.exit <| jn [0, 1, 2, 3] (J66 h2854 (ex_ret hp hx64))
      · exact TC.exit <| jn [2] (J51 h2838 (ex_ret hp hx48))
   refine lp hz32 [0, 1, 2, 3] rfl (fun s e L => ∃ x2823 x2826 F2824 e30, s = (x2823, x2826) ∧ SlO 3 (kInt .i64) x2823 v2813 F2824 ∧ e = ovr e30 [(3, v409), (4, v1609), (5, v2809), (6, v2813), (36, v409), (37, .int .i64 (len x408)), (38, .int .i64 x2826)] ∧ L = [F410, F1610, F2821, F2824]) ⟨_, _, F2814, _, rfl, h2815, ovr_eq _ _ rfl, rfl⟩ ?_
   rintro _ _ _ ⟨x2823, x2826, F2824, e30, rfl, h2825, rfl, rfl⟩ X34 hp hx35
   replace hp : dom_Nearest.bd35 x408 x2823 x2826 = some X34 := hp
   refine sr <| tv (blt rfl rfl) rfl <| nz <| TC.seq fun K112 k113 => cD rfl hp (fun hc114 hp => ?_) fun hc114 hp => ?_
   · refine sk k113 rfl <| TC.seq fun K115 k116 => TC.block <| sr <| tm rfl <| ti u25 i3 (h411).ro hp rfl rfl rfl rfl ?_
     rintro x2908 b2909 o2910 _ hp rfl h2913
     exact tv (lr s3 (Src.at_ 0 rfl) h2913 0 rfl rfl) rfl <| ta rfl <| ta rfl <| nz <| TC.region <| tm rfl <| tm rfl <| tm rfl <| tO u25 i3 h2825 hp rfl rfl rfl rfl fun x2914 b2915 o2916 h2917 hp => tp [3, 0, 1, 2] [_,_,_,_] rfl rfl <| tE h2825 h2917 m3 rfl ⟨rfl, rfl⟩ w1 fun F2918 h2919 => nl <| tg k116 <| TC.region <| tv (bad rfl rfl) rfl <| tm rfl <| nl <| gk hp [1, 2, 3, 0] ⟨_, _, F2918, _, rfl, h2919, ovr_eq _ _ rfl, rfl⟩
   · exact TC.exit <| jn [0, 1, 2, 3] (J110 h2825 (ex_ret hp hx35))
  refine lp hz23 [0, 1, 2, 3] rfl (fun s e L => ∃ x2816 x2819 F2817 e21, s = (x2816, x2819) ∧ SlO 3 (kInt .i64) x2816 v2809 F2817 ∧ e = ovr e21 [(3, v409), (4, v1609), (5, v2809), (6, v2813), (28, .int .i64 (len x2808)), (29, .int .i64 x2819)] ∧ L = [F410, F1610, F2817, F2814]) ⟨_, _, F2810, _, rfl, h2811, ovr_eq _ _ rfl, rfl⟩ ?_
  rintro _ _ _ ⟨x2816, x2819, F2817, e21, rfl, h2818, rfl, rfl⟩ X25 hp hx26
  replace hp : dom_Nearest.bd26 x2808 x2816 x2819 = some X25 := hp
  refine sr <| tv (blt rfl rfl) rfl <| nz <| TC.seq fun K123 k124 => cD rfl hp (fun hc125 hp => ?_) fun hc125 hp => ?_
  · exact sk k124 rfl <| TC.seq fun K126 k127 => TC.block <| sr <| tm rfl <| ta rfl <| nz <| TC.region <| tm rfl <| tm rfl <| tO u25 i3 h2818 hp rfl rfl rfl rfl fun x2920 b2921 o2922 h2923 hp => tp [2, 0, 1, 3] [_,_,_,_] rfl rfl <| tE h2818 h2923 m3 rfl ⟨rfl, rfl⟩ w1 fun F2924 h2925 => nl <| tg k127 <| TC.region <| tv (bad rfl rfl) rfl <| tm rfl <| nl <| gk hp [1, 2, 0, 3] ⟨_, _, F2924, _, rfl, h2925, ovr_eq _ _ rfl, rfl⟩
  · exact TC.exit <| jn [0, 1, 2, 3] (J121 h2818 (ex_ret hp hx26))
 refine bE hp fun x3727 hY2_2 hp => bE hp fun x4927 hY2_5 hp => ch mix [F1610, F1210, F410, bx b6 41 [.int .i64 a1.params, .int .i64 a1.result, v2, v4]] (srcG 0 rfl (srcG 1 rfl (srcG 2 rfl (srcG 3 rfl srcG0)))) <| hv 0 rfl mv (by kernel_rfl) rfl <| hv 1 rfl (ln u73 h1611.ro rfl) (by kernel_rfl) rfl <| hv 3 rfl mv (by kernel_rfl) rfl <| hv 4 rfl (ln u73 h1611.ro rfl) (by kernel_rfl) rfl <| HL.all [2, 5] (by kernel_rfl) (by simp) (HL.al ⟨_, rfl, fun K131 k132 => ?_⟩ (HL.al ⟨_, rfl, fun K137 k138 => ?_⟩ HL.al0))
 · exact tk0 (k := (kInt .i64)) u25 i3 hY2_2 ⟨rfl, rfl⟩ rfl rfl rfl rfl rfl rfl fun v3728 F3729 h3730 => hk k132 (srcG 1 rfl (srcG 2 rfl (srcG 3 rfl (srcG 4 rfl srcG0)))) <| hv 6 rfl sg (by kernel_rfl) rfl <| ho 5 rfl (by kernel_rfl) fun K134 k135 => tk0 (k := (kInt .i64)) u25 i3 hY2_5 ⟨rfl, rfl⟩ rfl rfl rfl rfl rfl rfl fun v4928 F4929 h4930 => hk k135 (srcG 2 rfl (srcG 3 rfl (srcG 4 rfl (srcG 5 rfl srcG0)))) <| hv 7 rfl sg (by kernel_rfl) rfl <| hz (by kernel_rfl) <| jn [4, 2, 1, 0] (J18 h3730 h4930 hp)
 · exact tk0 (k := (kInt .i64)) u25 i3 hY2_5 ⟨rfl, rfl⟩ rfl rfl rfl rfl rfl rfl fun v4928 F4929 h4930 => hk k138 (srcG 1 rfl (srcG 2 rfl (srcG 3 rfl (srcG 4 rfl srcG0)))) <| ho 2 rfl (by kernel_rfl) fun K140 k141 => tk0 (k := (kInt .i64)) u25 i3 hY2_2 ⟨rfl, rfl⟩ rfl rfl rfl rfl rfl rfl fun v3728 F3729 h3730 => hk k141 (srcG 2 rfl (srcG 3 rfl (srcG 4 rfl (srcG 5 rfl srcG0)))) <| hv 6 rfl sg (by kernel_rfl) rfl <| hv 7 rfl sg (by kernel_rfl) rfl <| hz (by kernel_rfl) <| jn [4, 2, 0, 1] (J18 h3730 h4930 hp)

/-! ### fettle/dom.Dominates -/
abbrev dom_Dominates.R (r : List (List Bool)) (v : Value) (A : List FP) : Prop := ∃ (w1 : Value) (G1 : FP), w1 = v ∧ A = [G1] ∧ SlO 58 (kSl 4 kBool) r w1 G1
def dom_Dominates.nx28  (x2423 : List (List Bool)) : Option (List (List Bool)) :=
  some x2423
def dom_Dominates.nx42 (x2422 : Int) (x2430 : List (List Bool)) : Option (Ex (List (List Bool)) (List (List Bool) × Int)) :=
  some (.go (x2430, (w64 (x2422 + 1))))
def dom_Dominates.bd42 (x408 : List Int) (x1208 : List Bool) (x2422 : Int) (x2426 : List (List Bool)) (x2429 : Int) : Option (Ex (List (List Bool)) (List (List Bool) × Int)) :=
  (idx x1208 x2422).bind fun x2433 =>
  if x2433 = true ∧ x2429 ≥ 0 then
    (idx x2426 x2429).bind fun x2439 =>
    (idx x2439 x2422).bind fun x2448 =>
    (idx x408 x2429).bind fun x2454 =>
    some (.go ((x2426.set (x2429).toNat (x2439.set (x2422).toNat true)), x2454))
  else
    some (.ret x2426)
def dom_Dominates.bd28 (x408 : List Int) (x1208 : List Bool) (x2416 : List (List Bool)) (x2419 : List (List Bool)) (x2422 : Int) : Option (Ex (List (List Bool)) (List (List Bool) × Int)) :=
  if x2422 < (len x2416) then
    (whl (fun (s : (List (List Bool) × Int)) => dom_Dominates.bd42 x408 x1208 x2422 s.1 s.2) FUEL (x2419, x2422)).bind fun z =>
    dom_Dominates.nx42 x2422 z
  else
    some (.ret x2419)
def dom_Dominates.nx19 (x408 : List Int) (x1208 : List Bool) (x2416 : List (List Bool)) : Option (List (List Bool)) :=
  (whl (fun (s : (List (List Bool) × Int)) => dom_Dominates.bd28 x408 x1208 x2416 s.1 s.2) FUEL (x2416, 0)).bind fun z =>
  dom_Dominates.nx28 z
def dom_Dominates.bd19 (x408 : List Int) (x2408 : List (List Bool)) (x2412 : List (List Bool)) (x2415 : Int) : Option (Ex (List (List Bool)) (List (List Bool) × Int)) :=
  if x2415 < (len x2408) then
    (mkl (len x408) false).bind fun x2462 =>
    (idx x2412 x2415).bind fun x2466 =>
    some (.go ((x2412.set (x2415).toNat x2462), (w64 (x2415 + 1))))
  else
    some (.ret x2412)
def dom_Dominates (a1 : PFunc) : Option (List (List Bool)) :=
  (dom_Nearest a1).bind fun x408 =>
  (graph_Reached a1).bind fun x1208 =>
  (mkl (len x408) ([] : List Bool)).bind fun x2408 =>
  (whl (fun (s : (List (List Bool) × Int)) => dom_Dominates.bd19 x408 x2408 s.1 s.2) FUEL (x2408, 0)).bind fun z =>
  dom_Dominates.nx19 x408 x1208 z
set_option maxHeartbeats 4000000 in
theorem dom_Dominates_ok {E : World} {H : FP} {w : World} {a1 : PFunc} {v2 : Value} {v4 : Value} {r : List (List Bool)} (h3 : SlI (kInt .i64) H a1.regs v2) (h5 : SlI kBlock H a1.blocks v4) (hp : dom_Dominates a1 = some r) (hst : St E H [] w) :
    Fn Try.prog 50 #[.agg #[.int .i64 a1.params, .int .i64 a1.result, v2, v4]] w fun v w' => ∃ A, dom_Dominates.R r v A ∧ St E H A w' := by
 refine fb 54 [.tmp 2] Try.func50 rfl rfl rfl rfl rfl hst <| sr <| tb [.int .i64 a1.params, .int .i64 a1.result, v2, v4] rfl rfl fun b6 => ta rfl <| nz <| TC.seq fun K1 k2 => ch mix [bx b6 41 [.int .i64 a1.params, .int .i64 a1.result, v2, v4]] (srcG 0 rfl srcG0) <| hv 0 rfl (lAG (ds := [.int .i64 a1.params, .int .i64 a1.result, v2, v4]) ag_41 0 rfl rfl rfl rfl) (by kernel_rfl) rfl <| hv 2 rfl (lAG (ds := [.int .i64 a1.params, .int .i64 a1.result, v2, v4]) ag_41 0 rfl rfl rfl rfl) (by kernel_rfl) rfl <| ho 1 rfl (by kernel_rfl) fun K3 k4 => bE hp fun x408 hy5 hp => tc 0 [_] rfl c42 (fun _ => dom_Nearest_ok (a1 := a1) (h3.mono subH) (h5.mono subH) hy5) rfl ?_
 rintro _ _ ⟨v409, F410, rfl, rfl, h411⟩
 refine hk k4 (srcG 1 rfl srcG0) <| ho 3 rfl (by kernel_rfl) fun K7 k8 => bE hp fun x1208 hy9 hp => tc 0 [_,_] rfl c48 (fun _ => graph_Reached_ok (a1 := a1) (h3.mono subH) (h5.mono subH) hy9) rfl ?_
 rintro _ _ ⟨v1209, F1210, rfl, rfl, h1211⟩
 refine hk k8 (srcG 2 rfl srcG0) <| hv 4 rfl sg (by kernel_rfl) rfl <| hv 5 rfl sg (by kernel_rfl) rfl <| hz (by kernel_rfl) <| tg k2 <| sr <| tm rfl <| tv (ln u25 h411.ro rfl) rfl <| tk (k := (kSl 4 kBool)) u85 i58 hp ⟨_, rfl, SlO.nil 4⟩ rfl rfl rfl rfl rfl rfl fun x2408 v2409 F2410 h2411 hp => ta rfl <| nz <| TC.seq fun K12 k13 => sr <| tm rfl <| tv (ln u85 h2411.ro rfl) rfl <| tm rfl <| nz <| TC.block <| bE hp fun z_15 hz16 hr17 => ?_
 have J64 {x2416 F2417 e20} (h2418 : SlO 58 (kSl 4 kBool) x2416 v2409 F2417) (hq65 : x2416 = z_15) : ∀ w, St E H [F410, F1210, F2417] w → K12 (ovr e20 [(3, v409), (4, v1209), (5, v2409)]) w := by
  subst hq65
  replace hp : dom_Dominates.nx19 x408 x1208 x2416 = some r := hr17
  refine tg k13 <| TC.seq fun K21 k22 => sr <| tm rfl <| tv (ln u85 h2418.ro rfl) rfl <| tm rfl <| nz <| TC.block <| bE hp fun z_24 hz25 hr26 => ?_
  have J30 {x2423 F2424 e29} (h2425 : SlO 58 (kSl 4 kBool) x2423 v2409 F2424) (hq31 : x2423 = z_24) : ∀ w, St E H [F2424] w → K21 (ovr e29 [(5, v2409)]) w := by
   subst hq31
   replace hp : dom_Dominates.nx28 x2423 = some r := hr26
   exact tg k22 <| sr <| tm rfl <| ta rfl <| nz <| TC.ret <| rt hp [0] ⟨v2409, F2424, rfl, rfl, h2425⟩
  refine lp hz25 [0, 1, 2] rfl (fun s e L => ∃ x2419 x2422 F2420 e23, s = (x2419, x2422) ∧ SlO 58 (kSl 4 kBool) x2419 v2409 F2420 ∧ e = ovr e23 [(3, v409), (4, v1209), (5, v2409), (29, .int .i64 (len x2416)), (30, .int .i64 x2422)] ∧ L = [F410, F1210, F2420]) ⟨_, _, F2417, _, rfl, h2418, ovr_eq _ _ rfl, rfl⟩ ?_
  rintro _ _ _ ⟨x2419, x2422, F2420, e23, rfl, h2421, rfl, rfl⟩ X27 hp hx28
  replace hp : dom_Dominates.bd28 x408 x1208 x2416 x2419 x2422 = some X27 := hp
  refine sr <| tv (blt rfl rfl) rfl <| nz <| TC.seq fun K32 k33 => cD rfl hp (fun hc34 hp => ?_) fun hc34 hp => ?_
  · refine sk k33 rfl <| TC.seq fun K35 k36 => TC.block <| sr <| tm rfl <| ta rfl <| nz <| sr <| tm rfl <| ta rfl <| nz <| TC.block <| bE hp fun z_38 hz39 hr40 => ?_
    have J44 {x2430 F2431 e43} (h2432 : SlO 58 (kSl 4 kBool) x2430 v2409 F2431) (hq45 : x2430 = z_38) : ∀ w, St E H [F410, F1210, F2431] w → K35 (ovr e43 [(3, v409), (4, v1209), (5, v2409), (29, .int .i64 (len x2416)), (30, .int .i64 x2422)]) w := by
     subst hq45
     replace hp : dom_Dominates.nx42 x2422 x2430 = some X27 := hr40
     exact tg k36 <| TC.region <| tv (bad rfl rfl) rfl <| tm rfl <| nl <| gk hp [0, 1, 2] ⟨_, _, F2431, _, rfl, h2432, ovr_eq _ _ rfl, rfl⟩
    refine lp hz39 [0, 1, 2] rfl (fun s e L => ∃ x2426 x2429 F2427 e37, s = (x2426, x2429) ∧ SlO 58 (kSl 4 kBool) x2426 v2409 F2427 ∧ e = ovr e37 [(3, v409), (4, v1209), (5, v2409), (7, .int .i64 x2422), (8, .int .i64 x2429), (29, .int .i64 (len x2416)), (30, .int .i64 x2422)] ∧ L = [F410, F1210, F2427]) ⟨_, _, F2420, _, rfl, h2421, ovr_eq _ _ rfl, rfl⟩ ?_
    rintro _ _ _ ⟨x2426, x2429, F2427, e37, rfl, h2428, rfl, rfl⟩ X41 hp hx42
    replace hp : dom_Dominates.bd42 x408 x1208 x2422 x2426 x2429 = some X41 := hp
    refine TC.seq fun K46 k47 => sr <| tm rfl <| tm rfl <| ti u58 i4 (h1211).ro hp rfl rfl rfl rfl ?_
    rintro x2433 b2434 o2435 _ hp rfl h2438
    refine tv (lr s4 (Src.at_ 1 rfl) h2438 0 rfl rfl) rfl <| tm rfl <| TL.cut 3 fun K49 k50 => ?_
    have J51 {e53} : ∀ w, St E H [F410, F1210, F2427] w → K49 (ovr e53 [(41, .bool (decide (x2433 = true ∧ x2429 ≥ 0))), (3, v409), (4, v1209), (5, v2409), (7, .int .i64 x2422), (8, .int .i64 x2429), (29, .int .i64 (len x2416)), (30, .int .i64 x2422)]) w := by
     refine tlg k50 <| nz <| cD rfl hp (fun hc54 hp => ?_) fun hc54 hp => ?_
     · refine sk k47 rfl <| TC.seq fun K55 k56 => TC.block <| TC.region <| tm rfl <| tm rfl <| tp [2, 0, 1] [_,_,_] rfl rfl <| bE hp fun x2439 hx57 hp => TL.open_ h2428 hx57 ?_
       rintro b2440 _ F2442 F2443 h2444 ⟨v2446, rfl, h2447⟩
       refine tv (rv_ixH u85 i58 rfl rfl (idx_some hx57).1 h2444) rfl <| tv (lr s58 (Src.at_ 0 rfl) (Hole.cells h2444) 0 rfl rfl) rfl <| tm rfl <| tO u58 i4 h2447 hp rfl rfl rfl rfl fun x2448 b2449 o2450 h2451 hp => tp [1, 0, 2, 3] [_,_,_,_] rfl rfl <| tE h2447 h2451 m4 rfl ⟨rfl, rfl⟩ w1 fun F2452 h2453 => nl <| tg k56 <| TC.region <| tm rfl <| tm rfl <| ti u25 i3 (h411).ro hp rfl rfl rfl rfl ?_
       rintro x2454 b2455 o2456 _ hp rfl h2459
       exact tv (lr s3 (Src.at_ 2 rfl) h2459 0 rfl rfl) rfl <| ta rfl <| nl <| wp [1, 0, 2, 3] [_,_,_,_] rfl rfl <| W.shut (a := (x2439.set (x2422).toNat true)) h2444 ⟨_, rfl, h2453⟩ fun F2460 h2461 => gk hp [1, 2, 0] ⟨_, _, F2460, _, rfl, h2461, ovr_eq _ _ rfl, rfl⟩
     · exact TC.exit <| jn [0, 1, 2] (J44 h2428 (ex_ret hp hx42))
    by_cases hc52 : x2433 = true
    · exact gy rfl (bbT hc52) <| tm rfl <| gy rfl (bbT hc52) <| tv (bge rfl rfl) rfl <| tv (pT (bbT hc52)) rfl <| nj J51 (bAt hc52)
    · exact gn rfl (bbF hc52) rfl rfl <| gn rfl (bbF hc52) rfl rfl <| tv (pF (bbF hc52)) rfl <| nj J51 (bAf hc52)
  · exact TC.exit <| jn [2] (J30 h2421 (ex_ret hp hx28))
 refine lp hz16 [2, 1, 0] rfl (fun s e L => ∃ x2412 x2415 F2413 e14, s = (x2412, x2415) ∧ SlO 58 (kSl 4 kBool) x2412 v2409 F2413 ∧ e = ovr e14 [(3, v409), (4, v1209), (5, v2409), (17, .int .i64 (len x2408)), (18, .int .i64 x2415)] ∧ L = [F410, F1210, F2413]) ⟨_, _, F2410, _, rfl, h2411, ovr_eq _ _ rfl, rfl⟩ ?_
 rintro _ _ _ ⟨x2412, x2415, F2413, e14, rfl, h2414, rfl, rfl⟩ X18 hp hx19
 replace hp : dom_Dominates.bd19 x408 x2408 x2412 x2415 = some X18 := hp
 refine sr <| tv (blt rfl rfl) rfl <| nz <| TC.seq fun K66 k67 => cD rfl hp (fun hc68 hp => ?_) fun hc68 hp => ?_
 · exact sk k67 rfl <| TC.seq fun K69 k70 => TC.block <| sr <| tm rfl <| ta rfl <| nz <| TC.region <| tm rfl <| tm rfl <| tm rfl <| tv (ln u25 h411.ro rfl) rfl <| tk (k := kBool) u58 i4 hp ⟨rfl, rfl⟩ rfl rfl rfl rfl rfl rfl fun x2462 v2463 F2464 h2465 hp => tO u85 i58 h2414 hp rfl rfl rfl rfl fun x2466 b2467 o2468 h2469 hp => tp [3, 0, 1, 2] [_,_,_,_] rfl rfl <| TL.stE (ds := [v2463]) (u := v2463) (a := x2462) h2414 h2469 m58 rfl rfl (SlO.cells h2465) ⟨_, rfl, h2465⟩ fun F2470 h2471 => nl <| tg k70 <| TC.region <| tv (bad rfl rfl) rfl <| tm rfl <| nl <| gk hp [1, 2, 0] ⟨_, _, F2470, _, rfl, h2471, ovr_eq _ _ rfl, rfl⟩
 · exact TC.exit <| jn [0, 1, 2] (J64 h2414 (ex_ret hp hx19))

/-! ### (*fettle/proper.looker).use -/
abbrev proper_looker_use.R (b1 : Nat) (a2 : PProperLooker) (v3 : Value) (v5 : Value) (v7 : Value) (v9 : Value) (r : Int) (v : Value) (A : List FP) : Prop := .tuple #[] = v ∧ A = [bx b1 112 [.int .i64 a2.f.params, .int .i64 a2.f.result, v3, v5, v7, v9, .int .i64 r]]
def proper_looker_use (a2 : PProperLooker) (a12 : Int) (a13 : Int) (a14 : Int) : Option Int :=
  (idx a2.makers a12).bind fun x15 =>
  (if a12 < a2.f.params then some true else (if x15.block ≥ 0 then (if ¬ x15.block = a13 then (idx a2.over x15.block).bind fun x25 =>
  (idx x25 a13).bind fun x33 =>
  some x33 else some false).bind fun t24 =>
  some (decide (t24 = true ∨ (x15.block = a13 ∧ x15.at_ < a14))) else some false).bind fun t23 =>
  some t23).bind fun t22 =>
  if (!t22) = true ∧ (a2.lowest < 0 ∨ a12 < a2.lowest) then
    some a12
  else
    some a2.lowest
set_option maxHeartbeats 4000000 in
theorem proper_looker_use_ok {E : World} {H : FP} {w : World} {a2 : PProperLooker} {a12 : Int} {a13 : Int} {a14 : Int} {b1 : Nat} {v3 : Value} {v5 : Value} {v7 : Value} {v9 : Value} {r : Int} (h4 : SlI (kInt .i64) H a2.f.regs v3) (h6 : SlI kBlock H a2.f.blocks v5) (h8 : SlI kMaker H a2.makers v7) (h10 : SlI (kSl 4 kBool) H a2.over v9) (hp : proper_looker_use a2 a12 a13 a14 = some r) (hst : St E H [bx b1 112 [.int .i64 a2.f.params, .int .i64 a2.f.result, v3, v5, v7, v9, .int .i64 a2.lowest]] w) :
    Fn Try.prog 75 #[.pointer (some ⟨b1, 0, none⟩), .int .i64 a12, .int .i64 a13, .int .i64 a14] w fun v w' => ∃ A, proper_looker_use.R b1 a2 v3 v5 v7 v9 r v A ∧ St E H A w' := by
 refine fb 81 [] Try.func75 rfl rfl rfl rfl rfl hst <| sr <| tm rfl <| tv (rv_nilCheck rfl) rfl <| tv (fa f112_1 rfl) rfl <| tv (lb s103 0 rfl rfl rfl) rfl <| tm rfl <| ti u103 i133 h8 hp rfl rfl rfl rfl ?_
 rintro x15 b16 o17 _ hp rfl h20
 refine tv (lR (ds := [.int .i64 x15.block, .int .i64 x15.at_]) ag_133 sH h20 0 rfl rfl rfl) rfl <| tl i133 rfl fun b21 => tS 0 m133 rfl rfl [.int .i64 x15.block, .int .i64 x15.at_] rfl (oc rfl (oc rfl oc0)) rfl rfl <| nz <| TC.seq fun K2 k3 => cq mix (by kernel_rfl) <| qv mv rfl <| qv mv rfl <| qv (rv_nilCheck rfl) rfl <| qv (fa f112_0 rfl) rfl <| qv (fa f41_0 rfl) rfl <| qv (lb s3 1 rfl rfl rfl) rfl <| qv (blt rfl rfl) rfl <| qv mv rfl <| bE hp fun t22 ht20 hp => QL.cut 35 fun K4 k5 => ?_
 have J6 {e8} : K4 (ovr e8 [(59, .bool t22), (0, .pointer (some ⟨b1, 0, none⟩)), (1, .int .i64 a12)]) := by
  refine k5 _ <| qv sg rfl <| QL.nil <| tg k3 <| sr <| tm rfl <| tv (rv_not rfl) rfl <| tm rfl <| TL.cut 14 fun K9 k10 => ?_
  have J11 {e13} : ∀ w, St E H [bx b21 133 [.int .i64 x15.block, .int .i64 x15.at_], bx b1 112 [.int .i64 a2.f.params, .int .i64 a2.f.result, v3, v5, v7, v9, .int .i64 a2.lowest]] w → K9 (ovr e13 [(76, .bool (decide ((!t22) = true ∧ (a2.lowest < 0 ∨ a12 < a2.lowest)))), (0, .pointer (some ⟨b1, 0, none⟩)), (1, .int .i64 a12)]) w := by
   refine tlg k10 <| nz <| cD rfl hp (fun hc14 hp => ?_) fun hc14 hp => ?_
   · exact TC.region <| tm rfl <| tm rfl <| tv (rv_nilCheck rfl) rfl <| tv (fa f112_3 rfl) rfl <| ts 1 m3 rfl rfl w1 rfl <| nl <| rt hp [1] ⟨rfl, rfl⟩
   · exact TC.skip <| rt hp [1] ⟨rfl, rfl⟩
  by_cases hc12 : (!t22) = true
  · refine gy rfl (bbT hc12) <| tm rfl <| gy rfl (bbT hc12) <| tv (rv_nilCheck rfl) rfl <| gy rfl (bbT hc12) <| tv (fa f112_3 rfl) rfl <| gy rfl (bbT hc12) <| tv (lb s3 1 rfl rfl rfl) rfl <| gy rfl (bbT hc12) <| tv (blt rfl rfl) rfl <| gy rfl (bbT hc12) <| tm rfl <| TL.cut 7 fun K15 k16 => ?_
    have J17 {e19} : ∀ w, St E H [bx b21 133 [.int .i64 x15.block, .int .i64 x15.at_], bx b1 112 [.int .i64 a2.f.params, .int .i64 a2.f.result, v3, v5, v7, v9, .int .i64 a2.lowest]] w → K15 (ovr e19 [(75, .bool (decide (a2.lowest < 0 ∨ a12 < a2.lowest))), (0, .pointer (some ⟨b1, 0, none⟩)), (1, .int .i64 a12), (62, .bool (!t22))]) w := by
     exact tlg k16 <| tv (pT (bbT hc12)) rfl <| nj J11 (bAt hc12)
    by_cases hc18 : a2.lowest < 0
    · exact gn rfl (bT hc18) rfl rfl <| gn rfl (bT hc18) rfl rfl <| gn rfl (bT hc18) rfl rfl <| gn rfl (bT hc18) rfl rfl <| gn rfl (bT hc18) rfl rfl <| gn rfl (bT hc18) rfl rfl <| gy rfl (bbT hc12) <| tv (pT (bT hc18)) rfl <| nj J17 (bOt hc18)
    · exact gy rfl (bF hc18) <| tm rfl <| gy rfl (bF hc18) <| tm rfl <| gy rfl (bF hc18) <| tv (rv_nilCheck rfl) rfl <| gy rfl (bF hc18) <| tv (fa f112_3 rfl) rfl <| gy rfl (bF hc18) <| tv (lb s3 1 rfl rfl rfl) rfl <| gy rfl (bF hc18) <| tv (blt rfl rfl) rfl <| gy rfl (bbT hc12) <| tv (pF (bF hc18)) rfl <| nj J17 (bOf hc18)
  · exact gn rfl (bbF hc12) rfl rfl <| gn rfl (bbF hc12) rfl rfl <| gn rfl (bbF hc12) rfl rfl <| gn rfl (bbF hc12) rfl rfl <| gn rfl (bbF hc12) rfl rfl <| gn rfl (bbF hc12) rfl rfl <| gu rfl rfl rfl <| gu rfl rfl rfl <| gu rfl rfl rfl <| gu rfl rfl rfl <| gu rfl rfl rfl <| gu rfl rfl rfl <| gn rfl (bbF hc12) rfl rfl <| tv (pF (bbF hc12)) rfl <| nj J11 (bAf hc12)
 refine ifE ht20 (fun hc7 hp => ?_) fun hc7 hp => ?_
 · refine qgn rfl (bT hc7) rfl rfl <| qgn rfl (bT hc7) rfl rfl <| qgn rfl (bT hc7) rfl rfl <| qgn rfl (bT hc7) rfl rfl <| qgu rfl rfl rfl <| qgu rfl rfl rfl <| qgu rfl rfl rfl <| qgu rfl rfl rfl <| qgu rfl rfl rfl <| qgu rfl rfl rfl <| qgu rfl rfl rfl <| qgu rfl rfl rfl <| qgu rfl rfl rfl <| qgu rfl rfl rfl <| qgu rfl rfl rfl <| qgu rfl rfl rfl <| qgu rfl rfl rfl <| qgu rfl rfl rfl <| qgu rfl rfl rfl <| qgu rfl rfl rfl <| qgu rfl rfl rfl <| qgu rfl rfl rfl <| qgu rfl rfl rfl <| qgu rfl rfl rfl <| qgu rfl rfl rfl <| qgu rfl rfl rfl <| qgu rfl rfl rfl <| qgu rfl rfl rfl <| qgu rfl rfl rfl <| qgu rfl rfl rfl <| qgu rfl rfl rfl <| qgu rfl rfl rfl <| qgu rfl rfl rfl <| qgn rfl (bT hc7) rfl rfl <| qv (pT (bT hc7)) rfl ?_
   obtain rfl := Option.some.inj hp
   exact qj J6 rfl
 · refine qgy rfl (bF hc7) <| qv (fa f133_0 rfl) rfl <| qgy rfl (bF hc7) <| qv (lb s3 0 rfl rfl rfl) rfl <| qgy rfl (bF hc7) <| qv (bge rfl rfl) rfl <| qgy rfl (bF hc7) <| qv mv rfl <| bE hp fun t23 ht26 hp => QL.cut 30 fun K21 k22 => ?_
   have J23 {e25} : K21 (ovr e25 [(58, .bool t23), (0, .pointer (some ⟨b1, 0, none⟩)), (1, .int .i64 a12), (24, .bool (decide (a12 < a2.f.params)))]) := by
    refine k22 _ <| qv (pF (bF hc7)) rfl ?_
    obtain rfl := Option.some.inj hp
    exact qj J6 rfl
   refine ifE ht26 (fun hc24 hp => ?_) fun hc24 hp => ?_
   · refine qgy rfl (bT hc24) <| qv (fa f133_0 rfl) rfl <| qgy rfl (bT hc24) <| qv (lb s3 0 rfl rfl rfl) rfl <| qgy rfl (bT hc24) <| qv mv rfl <| qgy rfl (bT hc24) <| qv (bne rfl rfl) rfl <| qgy rfl (bT hc24) <| qv mv rfl <| bE hp fun t24 ht42 hp => QL.cut 12 fun K27 k28 => ?_
     have J29 {e31} : K27 (ovr e31 [(45, .bool t24), (0, .pointer (some ⟨b1, 0, none⟩)), (1, .int .i64 a12), (2, .int .i64 a13), (3, .int .i64 a14), (8, .pointer (some ⟨b21, 0, none⟩)), (24, .bool (decide (a12 < a2.f.params))), (28, .bool (decide (x15.block ≥ 0)))]) := by
      refine k28 _ <| qgy rfl (bT hc24) <| qv mv rfl <| QL.cut 11 fun K32 k33 => ?_
      have J34 {e36} : K32 (ovr e36 [(57, .bool (decide (t24 = true ∨ (x15.block = a13 ∧ x15.at_ < a14)))), (0, .pointer (some ⟨b1, 0, none⟩)), (1, .int .i64 a12), (24, .bool (decide (a12 < a2.f.params))), (28, .bool (decide (x15.block ≥ 0)))]) := by
       refine k33 _ <| qgy rfl (bF hc7) <| qv (pT (bT hc24)) rfl ?_
       obtain rfl := Option.some.inj hp
       exact qj J23 rfl
      by_cases hc35 : t24 = true
      · exact qgn rfl (bbT hc35) rfl rfl <| qgn rfl (bbT hc35) rfl rfl <| qgn rfl (bbT hc35) rfl rfl <| qgn rfl (bbT hc35) rfl rfl <| qgn rfl (bbT hc35) rfl rfl <| qgu rfl rfl rfl <| qgu rfl rfl rfl <| qgu rfl rfl rfl <| qgu rfl rfl rfl <| qgn rfl (bbT hc35) rfl rfl <| qgy rfl (bT hc24) <| qv (pT (bbT hc35)) rfl <| qj J34 (bOt hc35)
      · refine qgy rfl (bbF hc35) <| qv (fa f133_0 rfl) rfl <| qgy rfl (bbF hc35) <| qv (lb s3 0 rfl rfl rfl) rfl <| qgy rfl (bbF hc35) <| qv mv rfl <| qgy rfl (bbF hc35) <| qv (beq rfl rfl) rfl <| qgy rfl (bbF hc35) <| qv mv rfl <| QL.cut 5 fun K37 k38 => ?_
        have J39 {e41} : K37 (ovr e41 [(56, .bool (decide (x15.block = a13 ∧ x15.at_ < a14))), (0, .pointer (some ⟨b1, 0, none⟩)), (1, .int .i64 a12), (24, .bool (decide (a12 < a2.f.params))), (28, .bool (decide (x15.block ≥ 0))), (46, .bool t24)]) := by
         exact k38 _ <| qgy rfl (bT hc24) <| qv (pF (bbF hc35)) rfl <| qj J34 (bOf hc35)
        by_cases hc40 : x15.block = a13
        · exact qgy rfl (bT hc40) <| qv (fa f133_1 rfl) rfl <| qgy rfl (bT hc40) <| qv (lb s3 0 rfl rfl rfl) rfl <| qgy rfl (bT hc40) <| qv mv rfl <| qgy rfl (bT hc40) <| qv (blt rfl rfl) rfl <| qgy rfl (bbF hc35) <| qv (pT (bT hc40)) rfl <| qj J39 (bAt hc40)
        · exact qgn rfl (bF hc40) rfl rfl <| qgn rfl (bF hc40) rfl rfl <| qgn rfl (bF hc40) rfl rfl <| qgn rfl (bF hc40) rfl rfl <| qgy rfl (bbF hc35) <| qv (pF (bF hc40)) rfl <| qj J39 (bAf hc40)
     refine ifE ht42 (fun hc30 hp => ?_) fun hc30 hp => ?_
     · refine qgy rfl (bT hc30) <| qv mv rfl <| qgy rfl (bT hc30) <| qv (rv_nilCheck rfl) rfl <| qgy rfl (bT hc30) <| qv (fa f112_2 rfl) rfl <| qgy rfl (bT hc30) <| qv (lb s85 1 rfl rfl rfl) rfl <| qgy rfl (bT hc30) <| qv (fa f133_0 rfl) rfl <| qgy rfl (bT hc30) <| qv (lb s3 0 rfl rfl rfl) rfl <| qgy rfl (bT hc30) <| qi u85 i58 h10 hp rfl rfl rfl rfl ?_
       rintro x25 b26 o27 _ hp ⟨v31, rfl, h32⟩ h30
       refine qgy rfl (bT hc30) <| qv (lr s58 sH h30 0 rfl rfl) rfl <| qgy rfl (bT hc30) <| qv mv rfl <| qgy rfl (bT hc30) <| qi u58 i4 h32 hp rfl rfl rfl rfl ?_
       rintro x33 b34 o35 _ hp rfl h38
       refine qgy rfl (bT hc30) <| qv (lr s4 sH h38 0 rfl rfl) rfl <| qgy rfl (bT hc24) <| qv (pT (bT hc30)) rfl ?_
       obtain rfl := Option.some.inj hp
       exact qj J29 rfl
     · refine qgn rfl (bF hc30) rfl rfl <| qgn rfl (bF hc30) rfl rfl <| qgn rfl (bF hc30) rfl rfl <| qgn rfl (bF hc30) rfl rfl <| qgn rfl (bF hc30) rfl rfl <| qgn rfl (bF hc30) rfl rfl <| qgn rfl (bF hc30) rfl rfl <| qgn rfl (bF hc30) rfl rfl <| qgn rfl (bF hc30) rfl rfl <| qgn rfl (bF hc30) rfl rfl <| qgn rfl (bF hc30) rfl rfl <| qgy rfl (bT hc24) <| qv (pF (bF hc30)) rfl ?_
       obtain rfl := Option.some.inj hp
       exact qj J29 rfl
   · refine qgn rfl (bF hc24) rfl rfl <| qgn rfl (bF hc24) rfl rfl <| qgn rfl (bF hc24) rfl rfl <| qgn rfl (bF hc24) rfl rfl <| qgn rfl (bF hc24) rfl rfl <| qgu rfl rfl rfl <| qgu rfl rfl rfl <| qgu rfl rfl rfl <| qgu rfl rfl rfl <| qgu rfl rfl rfl <| qgu rfl rfl rfl <| qgu rfl rfl rfl <| qgu rfl rfl rfl <| qgu rfl rfl rfl <| qgu rfl rfl rfl <| qgu rfl rfl rfl <| qgn rfl (bF hc24) rfl rfl <| qgn rfl (bF hc24) rfl rfl <| qgu rfl rfl rfl <| qgu rfl rfl rfl <| qgu rfl rfl rfl <| qgu rfl rfl rfl <| qgu rfl rfl rfl <| qgu rfl rfl rfl <| qgu rfl rfl rfl <| qgu rfl rfl rfl <| qgu rfl rfl rfl <| qgu rfl rfl rfl <| qgn rfl (bF hc24) rfl rfl <| qgy rfl (bF hc7) <| qv (pF (bF hc24)) rfl ?_
     obtain rfl := Option.some.inj hp
     exact qj J23 rfl

/-! ### (*fettle/proper.looker).all -/
abbrev proper_looker_all.R (b1 : Nat) (a2 : PProperLooker) (v3 : Value) (v5 : Value) (v7 : Value) (v9 : Value) (r : Int) (v : Value) (A : List FP) : Prop := .tuple #[] = v ∧ A = [bx b1 112 [.int .i64 a2.f.params, .int .i64 a2.f.result, v3, v5, v7, v9, .int .i64 r]]
def proper_looker_all.nx10  (x18 : Int) : Option Int :=
  some x18
def proper_looker_all.jn20 (x17 : Int) (x19 : Int) : Option (Ex Int (Int × Int)) :=
  some (.go (x19, (w64 (x17 + 1))))
def proper_looker_all.nx38 (a2 : PProperLooker) (x17 : Int) (x20 : PBlock) (x38 : Int) : Option (Ex Int (Int × Int)) :=
  if x20.term.arg ≥ 0 then
    (proper_looker_use (⟨(⟨a2.f.params, a2.f.result, a2.f.regs, a2.f.blocks⟩ : PFunc), a2.makers, a2.over, x38⟩ : PProperLooker) x20.term.arg x17 (len x20.ins)).bind fun x39 =>
    proper_looker_all.jn20 x17 x39
  else
    proper_looker_all.jn20 x17 x38
def proper_looker_all.nx56 (x37 : Int) (x51 : Int) : Option (Ex Int (Int × Int)) :=
  some (.go (x51, (w64 (x37 + 1))))
def proper_looker_all.bd56 (a2 : PProperLooker) (x17 : Int) (x37 : Int) (x40 : PInstr) (x49 : Int) (x50 : Int) : Option (Ex Int (Int × Int)) :=
  if x50 < (len x40.args) then
    (idx x40.args x50).bind fun x52 =>
    (proper_looker_use (⟨(⟨a2.f.params, a2.f.result, a2.f.regs, a2.f.blocks⟩ : PFunc), a2.makers, a2.over, x49⟩ : PProperLooker) x52 x17 x37).bind fun x58 =>
    some (.go (x58, (w64 (x50 + 1))))
  else
    some (.ret x49)
def proper_looker_all.bd38 (a2 : PProperLooker) (x17 : Int) (x20 : PBlock) (x36 : Int) (x37 : Int) : Option (Ex Int (Int × Int)) :=
  if x37 < (len x20.ins) then
    (idx x20.ins x37).bind fun x40 =>
    (whl (fun (s : (Int × Int)) => proper_looker_all.bd56 a2 x17 x37 x40 s.1 s.2) FUEL (x36, 0)).bind fun z =>
    proper_looker_all.nx56 x37 z
  else
    some (.ret x36)
def proper_looker_all.nx29 (a2 : PProperLooker) (x17 : Int) (x20 : PBlock) (x35 : Int) : Option (Ex Int (Int × Int)) :=
  (whl (fun (s : (Int × Int)) => proper_looker_all.bd38 a2 x17 x20 s.1 s.2) FUEL (x35, 0)).bind fun z =>
  proper_looker_all.nx38 a2 x17 x20 z
def proper_looker_all.nx85 (x34 : Int) (x70 : Int) : Option (Ex Int (Int × Int)) :=
  some (.go (x70, (w64 (x34 + 1))))
def proper_looker_all.bd85 (a2 : PProperLooker) (x12 : List (List Int)) (x17 : Int) (x59 : PPhi) (x68 : Int) (x69 : Int) : Option (Ex Int (Int × Int)) :=
  if x69 < (len x59.args) then
    (idx x59.args x69).bind fun x71 =>
    (idx x12 x17).bind fun x77 =>
    (idx x77 x69).bind fun x85 =>
    (idx a2.f.blocks x85).bind fun x91 =>
    (proper_looker_use (⟨(⟨a2.f.params, a2.f.result, a2.f.regs, a2.f.blocks⟩ : PFunc), a2.makers, a2.over, x68⟩ : PProperLooker) x71 x85 (len x91.ins)).bind fun x103 =>
    some (.go (x103, (w64 (x69 + 1))))
  else
    some (.ret x68)
def proper_looker_all.bd29 (a2 : PProperLooker) (x12 : List (List Int)) (x17 : Int) (x20 : PBlock) (x33 : Int) (x34 : Int) : Option (Ex Int (Int × Int)) :=
  if x34 < (len x20.phis) then
    (idx x20.phis x34).bind fun x59 =>
    (whl (fun (s : (Int × Int)) => proper_looker_all.bd85 a2 x12 x17 x59 s.1 s.2) FUEL (x33, 0)).bind fun z =>
    proper_looker_all.nx85 x34 z
  else
    some (.ret x33)
def proper_looker_all.bd10 (a2 : PProperLooker) (x12 : List (List Int)) (x16 : Int) (x17 : Int) : Option (Ex Int (Int × Int)) :=
  if x17 < (len a2.f.blocks) then
    (idx a2.f.blocks x17).bind fun x20 =>
    (whl (fun (s : (Int × Int)) => proper_looker_all.bd29 a2 x12 x17 x20 s.1 s.2) FUEL (x16, 0)).bind fun z =>
    proper_looker_all.nx29 a2 x17 x20 z
  else
    some (.ret x16)
def proper_looker_all (a2 : PProperLooker) : Option Int :=
  (check_Ahead a2.f).bind fun x12 =>
  (whl (fun (s : (Int × Int)) => proper_looker_all.bd10 a2 x12 s.1 s.2) FUEL (a2.lowest, 0)).bind fun z =>
  proper_looker_all.nx10 z
set_option maxHeartbeats 4000000 in
theorem proper_looker_all_ok {E : World} {H : FP} {w : World} {a2 : PProperLooker} {b1 : Nat} {v3 : Value} {v5 : Value} {v7 : Value} {v9 : Value} {r : Int} (h4 : SlI (kInt .i64) H a2.f.regs v3) (h6 : SlI kBlock H a2.f.blocks v5) (h8 : SlI kMaker H a2.makers v7) (h10 : SlI (kSl 4 kBool) H a2.over v9) (hp : proper_looker_all a2 = some r) (hst : St E H [bx b1 112 [.int .i64 a2.f.params, .int .i64 a2.f.result, v3, v5, v7, v9, .int .i64 a2.lowest]] w) :
    Fn Try.prog 51 #[.pointer (some ⟨b1, 0, none⟩)] w fun v w' => ∃ A, proper_looker_all.R b1 a2 v3 v5 v7 v9 r v A ∧ St E H A w' := by
 refine fb 104 [] Try.func51 rfl rfl rfl rfl rfl hst <| sr <| tm rfl <| tv (rv_nilCheck rfl) rfl <| tv (fa f112_0 rfl) rfl <| tv (lA (ds := [.int .i64 a2.f.params, .int .i64 a2.f.result, v3, v5]) ag_41 0 rfl rfl rfl rfl) rfl <| bE hp fun x12 hy1 hp => tc 0 [_] rfl c27 (fun _ => check_Ahead_ok (a1 := a2.f) (h4.mono subH) (h6.mono subH) hy1) rfl ?_
 rintro _ _ ⟨v13, F14, rfl, rfl, h15⟩
 refine ta rfl <| nz <| sr <| tm rfl <| tv (rv_nilCheck rfl) rfl <| tv (fa f112_0 rfl) rfl <| tv (fa f41_3 rfl) rfl <| tv (lb s39 1 rfl rfl rfl) rfl <| tv (ln u39 h6 rfl) rfl <| tm rfl <| nz <| TC.named fun K3 k4 => TC.block <| bE hp fun z_6 hz7 hr8 => ?_
 have J12 {x18 e11} (hq13 : x18 = z_6) : ∀ w, St E H [bx b1 112 [.int .i64 a2.f.params, .int .i64 a2.f.result, v3, v5, v7, v9, .int .i64 x18]] w → K3 (ovr e11 []) w := by
  subst hq13
  replace hp : proper_looker_all.nx10 x18 = some r := hr8
  exact viaK k4 <| rt hp [0] ⟨rfl, rfl⟩
 refine lp hz7 [1, 0] rfl (fun s e L => ∃ x16 x17 e5, s = (x16, x17) ∧ e = ovr e5 [(0, .pointer (some ⟨b1, 0, none⟩)), (2, v13), (23, v5), (24, .int .i64 (len a2.f.blocks)), (25, .int .i64 x17)] ∧ L = [bx b1 112 [.int .i64 a2.f.params, .int .i64 a2.f.result, v3, v5, v7, v9, .int .i64 x16], F14]) ⟨_, _, _, rfl, ovr_eq _ _ rfl, rfl⟩ ?_
 rintro _ _ _ ⟨x16, x17, e5, rfl, rfl, rfl⟩ X9 hp hx10
 replace hp : proper_looker_all.bd10 a2 x12 x16 x17 = some X9 := hp
 refine sr <| tv (blt rfl rfl) rfl <| nz <| TC.seq fun K14 k15 => cD rfl hp (fun hc16 hp => ?_) fun hc16 hp => ?_
 · refine sk k15 rfl <| TC.seq fun K17 k18 => ?_
   have J20 {x19 e19} (hp : proper_looker_all.jn20 x17 x19 = some X9) : ∀ w, St E H [bx b1 112 [.int .i64 a2.f.params, .int .i64 a2.f.result, v3, v5, v7, v9, .int .i64 x19], F14] w → K17 (ovr e19 [(0, .pointer (some ⟨b1, 0, none⟩)), (2, v13), (23, v5), (24, .int .i64 (len a2.f.blocks)), (25, .int .i64 x17)]) w := by
    exact tg k18 <| TC.region <| tv (bad rfl rfl) rfl <| tm rfl <| nl <| gk hp [0, 1] ⟨_, _, _, rfl, ovr_eq _ _ rfl, rfl⟩
   refine TC.block <| sr <| tm rfl <| ti u39 i50 h6 hp rfl rfl rfl rfl ?_
   rintro x20 b21 o22 _ hp ⟨v26, v28, v30, rfl, h27, h29, h31⟩ h25
   refine tv (lR (ds := [v26, v28, .int .i64 x20.term.kind, .int .i64 x20.term.arg, v30]) ag_50 sH h25 0 rfl rfl rfl) rfl <| tl i50 rfl fun b32 => ta rfl <| tS 0 m50 rfl rfl [v26, v28, .int .i64 x20.term.kind, .int .i64 x20.term.arg, v30] rfl (oc (h27).one (oc (h29).one (oc rfl (oc rfl (oc (h31).one oc0))))) rfl rfl <| nz <| TC.seq fun K22 k23 => sr <| tv (fa f50_0 rfl) rfl <| tv (lb s47 0 rfl rfl rfl) rfl <| tv (ln u47 h27 rfl) rfl <| tm rfl <| nz <| TC.block <| bE hp fun z_25 hz26 hr27 => ?_
   have J72 {x35 e30} (hq73 : x35 = z_25) : ∀ w, St E H [bx b1 112 [.int .i64 a2.f.params, .int .i64 a2.f.result, v3, v5, v7, v9, .int .i64 x35], F14, bx b32 50 [v26, v28, .int .i64 x20.term.kind, .int .i64 x20.term.arg, v30]] w → K22 (ovr e30 [(0, .pointer (some ⟨b1, 0, none⟩)), (2, v13), (3, .int .i64 x17), (4, .pointer (some ⟨b32, 0, none⟩)), (23, v5), (24, .int .i64 (len a2.f.blocks)), (25, .int .i64 x17)]) w := by
    subst hq73
    replace hp : proper_looker_all.nx29 a2 x17 x20 x35 = some X9 := hr27
    refine tg k23 <| TC.seq fun K31 k32 => sr <| tv (fa f50_1 rfl) rfl <| tv (lb s48 2 rfl rfl rfl) rfl <| tv (ln u48 h29 rfl) rfl <| tm rfl <| nz <| TC.block <| bE hp fun z_34 hz35 hr36 => ?_
    have J43 {x38 e39} (hq44 : x38 = z_34) : ∀ w, St E H [bx b1 112 [.int .i64 a2.f.params, .int .i64 a2.f.result, v3, v5, v7, v9, .int .i64 x38], F14, bx b32 50 [v26, v28, .int .i64 x20.term.kind, .int .i64 x20.term.arg, v30]] w → K31 (ovr e39 [(0, .pointer (some ⟨b1, 0, none⟩)), (2, v13), (3, .int .i64 x17), (4, .pointer (some ⟨b32, 0, none⟩)), (23, v5), (24, .int .i64 (len a2.f.blocks)), (25, .int .i64 x17)]) w := by
     subst hq44
     replace hp : proper_looker_all.nx38 a2 x17 x20 x38 = some X9 := hr36
     refine tg k32 <| sr <| tv (fa f50_2 rfl) rfl <| tv (fa f46_1 rfl) rfl <| tv (lb s3 2 rfl rfl rfl) rfl <| tv (bge rfl rfl) rfl <| nz <| cD rfl hp (fun hc40 hp => ?_) fun hc40 hp => ?_
     · refine TC.region <| tm rfl <| tv (fa f50_2 rfl) rfl <| tv (fa f46_1 rfl) rfl <| tv (lb s3 2 rfl rfl rfl) rfl <| tm rfl <| tv (fa f50_1 rfl) rfl <| tv (lb s48 2 rfl rfl rfl) rfl <| tv (ln u48 h29 rfl) rfl <| bE hp fun x39 hy41 hp => tc 1 [_,_] rfl c75 (fun _ => proper_looker_use_ok (a2 := (⟨(⟨a2.f.params, a2.f.result, a2.f.regs, a2.f.blocks⟩ : PFunc), a2.makers, a2.over, x38⟩ : PProperLooker)) (a12 := x20.term.arg) (a13 := x17) (a14 := (len x20.ins)) (h4.mono subH) (h6.mono subH) (h8.mono subH) (h10.mono subH) hy41) rfl ?_
       rintro _ _ ⟨rfl, rfl⟩
       exact nl <| jn [0, 1] (J20 hp)
     · exact TC.skip <| jn [0, 1] (J20 hp)
    refine lp hz35 [0, 1, 2] rfl (fun s e L => ∃ x36 x37 e33, s = (x36, x37) ∧ e = ovr e33 [(0, .pointer (some ⟨b1, 0, none⟩)), (2, v13), (3, .int .i64 x17), (4, .pointer (some ⟨b32, 0, none⟩)), (23, v5), (24, .int .i64 (len a2.f.blocks)), (25, .int .i64 x17), (69, v28), (70, .int .i64 (len x20.ins)), (71, .int .i64 x37)] ∧ L = [bx b1 112 [.int .i64 a2.f.params, .int .i64 a2.f.result, v3, v5, v7, v9, .int .i64 x36], F14, bx b32 50 [v26, v28, .int .i64 x20.term.kind, .int .i64 x20.term.arg, v30]]) ⟨_, _, _, rfl, ovr_eq _ _ rfl, rfl⟩ ?_
    rintro _ _ _ ⟨x36, x37, e33, rfl, rfl, rfl⟩ X37 hp hx38
    replace hp : proper_looker_all.bd38 a2 x17 x20 x36 x37 = some X37 := hp
    refine sr <| tv (blt rfl rfl) rfl <| nz <| TC.seq fun K45 k46 => cD rfl hp (fun hc47 hp => ?_) fun hc47 hp => ?_
    · refine sk k46 rfl <| TC.seq fun K48 k49 => TC.block <| sr <| tm rfl <| ti u48 i52 h29 hp rfl rfl rfl rfl ?_
      rintro x40 b41 o42 _ hp ⟨v46, rfl, h47⟩ h45
      refine tv (lR (ds := [.int .i64 x40.op, .int .i64 x40.dst, v46, .int .i64 x40.imm, .int .i64 x40.fn]) ag_52 sH h45 0 rfl rfl rfl) rfl <| tl i52 rfl fun b48 => ta rfl <| tS 0 m52 rfl rfl [.int .i64 x40.op, .int .i64 x40.dst, v46, .int .i64 x40.imm, .int .i64 x40.fn] rfl (oc rfl (oc rfl (oc (h47).one (oc rfl (oc rfl oc0))))) rfl rfl <| nz <| sr <| tv (fa f52_2 rfl) rfl <| tv (lb s25 0 rfl rfl rfl) rfl <| tv (ln u25 h47 rfl) rfl <| tm rfl <| nz <| TC.block <| bE hp fun z_52 hz53 hr54 => ?_
      have J58 {x51 e57} (hq59 : x51 = z_52) : ∀ w, St E H [bx b1 112 [.int .i64 a2.f.params, .int .i64 a2.f.result, v3, v5, v7, v9, .int .i64 x51], F14, bx b32 50 [v26, v28, .int .i64 x20.term.kind, .int .i64 x20.term.arg, v30]] w → K48 (ovr e57 [(0, .pointer (some ⟨b1, 0, none⟩)), (2, v13), (3, .int .i64 x17), (4, .pointer (some ⟨b32, 0, none⟩)), (23, v5), (24, .int .i64 (len a2.f.blocks)), (25, .int .i64 x17), (69, v28), (70, .int .i64 (len x20.ins)), (71, .int .i64 x37)]) w := by
       subst hq59
       replace hp : proper_looker_all.nx56 x37 x51 = some X37 := hr54
       exact tg k49 <| TC.region <| tv (bad rfl rfl) rfl <| tm rfl <| nl <| gk hp [0, 1, 2] ⟨_, _, _, rfl, ovr_eq _ _ rfl, rfl⟩
      refine lp hz53 [1, 2, 3] rfl (fun s e L => ∃ x49 x50 e51, s = (x49, x50) ∧ e = ovr e51 [(0, .pointer (some ⟨b1, 0, none⟩)), (2, v13), (3, .int .i64 x17), (4, .pointer (some ⟨b32, 0, none⟩)), (10, .int .i64 x37), (23, v5), (24, .int .i64 (len a2.f.blocks)), (25, .int .i64 x17), (69, v28), (70, .int .i64 (len x20.ins)), (71, .int .i64 x37), (77, v46), (78, .int .i64 (len x40.args)), (79, .int .i64 x50)] ∧ L = [bx b1 112 [.int .i64 a2.f.params, .int .i64 a2.f.result, v3, v5, v7, v9, .int .i64 x49], F14, bx b32 50 [v26, v28, .int .i64 x20.term.kind, .int .i64 x20.term.arg, v30]]) ⟨_, _, _, rfl, ovr_eq _ _ rfl, rfl⟩ ?_
      rintro _ _ _ ⟨x49, x50, e51, rfl, rfl, rfl⟩ X55 hp hx56
      replace hp : proper_looker_all.bd56 a2 x17 x37 x40 x49 x50 = some X55 := hp
      refine sr <| tv (blt rfl rfl) rfl <| nz <| TC.seq fun K60 k61 => cD rfl hp (fun hc62 hp => ?_) fun hc62 hp => ?_
      · refine sk k61 rfl <| TC.seq fun K63 k64 => TC.block <| sr <| ti u25 i3 h47 hp rfl rfl rfl rfl ?_
        rintro x52 b53 o54 _ hp rfl h57
        refine tv (lr s3 sH h57 0 rfl rfl) rfl <| ta rfl <| nz <| TC.region <| tm rfl <| tm rfl <| tm rfl <| tm rfl <| bE hp fun x58 hy66 hp => tc 1 [_,_] rfl c75 (fun _ => proper_looker_use_ok (a2 := (⟨(⟨a2.f.params, a2.f.result, a2.f.regs, a2.f.blocks⟩ : PFunc), a2.makers, a2.over, x49⟩ : PProperLooker)) (a12 := x52) (a13 := x17) (a14 := x37) (h4.mono subH) (h6.mono subH) (h8.mono subH) (h10.mono subH) hy66) rfl ?_
        rintro _ _ ⟨rfl, rfl⟩
        exact nl <| tg k64 <| TC.region <| tv (bad rfl rfl) rfl <| tm rfl <| nl <| gk hp [0, 1, 2] ⟨_, _, _, rfl, ovr_eq _ _ rfl, rfl⟩
      · exact TC.exit <| jn [0, 1, 2] (J58 (ex_ret hp hx56))
    · exact TC.exit <| jn [0, 1, 2] (J43 (ex_ret hp hx38))
   refine lp hz26 [1, 2, 0] rfl (fun s e L => ∃ x33 x34 e24, s = (x33, x34) ∧ e = ovr e24 [(0, .pointer (some ⟨b1, 0, none⟩)), (2, v13), (3, .int .i64 x17), (4, .pointer (some ⟨b32, 0, none⟩)), (23, v5), (24, .int .i64 (len a2.f.blocks)), (25, .int .i64 x17), (31, v26), (32, .int .i64 (len x20.phis)), (33, .int .i64 x34)] ∧ L = [bx b1 112 [.int .i64 a2.f.params, .int .i64 a2.f.result, v3, v5, v7, v9, .int .i64 x33], F14, bx b32 50 [v26, v28, .int .i64 x20.term.kind, .int .i64 x20.term.arg, v30]]) ⟨_, _, _, rfl, ovr_eq _ _ rfl, rfl⟩ ?_
   rintro _ _ _ ⟨x33, x34, e24, rfl, rfl, rfl⟩ X28 hp hx29
   replace hp : proper_looker_all.bd29 a2 x12 x17 x20 x33 x34 = some X28 := hp
   refine sr <| tv (blt rfl rfl) rfl <| nz <| TC.seq fun K74 k75 => cD rfl hp (fun hc76 hp => ?_) fun hc76 hp => ?_
   · refine sk k75 rfl <| TC.seq fun K77 k78 => TC.block <| sr <| ti u47 i70 h27 hp rfl rfl rfl rfl ?_
     rintro x59 b60 o61 _ hp ⟨v65, rfl, h66⟩ h64
     refine tv (lR (ds := [.int .i64 x59.dst, v65]) ag_70 sH h64 0 rfl rfl rfl) rfl <| tl i70 rfl fun b67 => tS 0 m70 rfl rfl [.int .i64 x59.dst, v65] rfl (oc rfl (oc (h66).one oc0)) rfl rfl <| nz <| sr <| tv (fa f70_1 rfl) rfl <| tv (lb s25 0 rfl rfl rfl) rfl <| tv (ln u25 h66 rfl) rfl <| tm rfl <| nz <| TC.block <| bE hp fun z_81 hz82 hr83 => ?_
     have J87 {x70 e86} (hq88 : x70 = z_81) : ∀ w, St E H [bx b1 112 [.int .i64 a2.f.params, .int .i64 a2.f.result, v3, v5, v7, v9, .int .i64 x70], F14, bx b32 50 [v26, v28, .int .i64 x20.term.kind, .int .i64 x20.term.arg, v30]] w → K77 (ovr e86 [(0, .pointer (some ⟨b1, 0, none⟩)), (2, v13), (3, .int .i64 x17), (4, .pointer (some ⟨b32, 0, none⟩)), (23, v5), (24, .int .i64 (len a2.f.blocks)), (25, .int .i64 x17), (31, v26), (32, .int .i64 (len x20.phis)), (33, .int .i64 x34)]) w := by
      subst hq88
      replace hp : proper_looker_all.nx85 x34 x70 = some X28 := hr83
      exact tg k78 <| TC.region <| tv (bad rfl rfl) rfl <| tm rfl <| nl <| gk hp [0, 1, 2] ⟨_, _, _, rfl, ovr_eq _ _ rfl, rfl⟩
     refine lp hz82 [1, 2, 3] rfl (fun s e L => ∃ x68 x69 e80, s = (x68, x69) ∧ e = ovr e80 [(0, .pointer (some ⟨b1, 0, none⟩)), (2, v13), (3, .int .i64 x17), (4, .pointer (some ⟨b32, 0, none⟩)), (23, v5), (24, .int .i64 (len a2.f.blocks)), (25, .int .i64 x17), (31, v26), (32, .int .i64 (len x20.phis)), (33, .int .i64 x34), (38, v65), (39, .int .i64 (len x59.args)), (40, .int .i64 x69)] ∧ L = [bx b1 112 [.int .i64 a2.f.params, .int .i64 a2.f.result, v3, v5, v7, v9, .int .i64 x68], F14, bx b32 50 [v26, v28, .int .i64 x20.term.kind, .int .i64 x20.term.arg, v30]]) ⟨_, _, _, rfl, ovr_eq _ _ rfl, rfl⟩ ?_
     rintro _ _ _ ⟨x68, x69, e80, rfl, rfl, rfl⟩ X84 hp hx85
     replace hp : proper_looker_all.bd85 a2 x12 x17 x59 x68 x69 = some X84 := hp
     refine sr <| tv (blt rfl rfl) rfl <| nz <| TC.seq fun K89 k90 => cD rfl hp (fun hc91 hp => ?_) fun hc91 hp => ?_
     · refine sk k90 rfl <| TC.seq fun K92 k93 => TC.block <| sr <| tm rfl <| ti u25 i3 h66 hp rfl rfl rfl rfl ?_
       rintro x71 b72 o73 _ hp rfl h76
       refine tv (lr s3 sH h76 0 rfl rfl) rfl <| ta rfl <| ta rfl <| nz <| sr <| tm rfl <| tm rfl <| ti u73 i25 (h15).ro hp rfl rfl rfl rfl ?_
       rintro x77 b78 o79 _ hp ⟨v83, rfl, h84⟩ h82
       refine tv (lr s25 (Src.at_ 1 rfl) h82 0 rfl rfl) rfl <| tm rfl <| ti u25 i3 h84 hp rfl rfl rfl rfl ?_
       rintro x85 b86 o87 _ hp rfl h90
       refine tv (lr s3 (Src.at_ 1 rfl) h90 0 rfl rfl) rfl <| ta rfl <| nz <| TC.region <| tm rfl <| tm rfl <| tm rfl <| tm rfl <| tv (rv_nilCheck rfl) rfl <| tv (fa f112_0 rfl) rfl <| tv (fa f41_3 rfl) rfl <| tv (lb s39 0 rfl rfl rfl) rfl <| tm rfl <| ti u39 i50 h6 hp rfl rfl rfl rfl ?_
       rintro x91 b92 o93 _ hp ⟨v97, v99, v101, rfl, h98, h100, h102⟩ h96
       refine tv (fa f50_1 rfl) rfl <| tv (lr s48 sH h96 1 rfl rfl) rfl <| tv (ln u48 h100 rfl) rfl <| bE hp fun x103 hy98 hp => tc 1 [_,_] rfl c75 (fun _ => proper_looker_use_ok (a2 := (⟨(⟨a2.f.params, a2.f.result, a2.f.regs, a2.f.blocks⟩ : PFunc), a2.makers, a2.over, x68⟩ : PProperLooker)) (a12 := x71) (a13 := x85) (a14 := (len x91.ins)) (h4.mono subH) (h6.mono subH) (h8.mono subH) (h10.mono subH) hy98) rfl ?_
       rintro _ _ ⟨rfl, rfl⟩
       exact nl <| tg k93 <| TC.region <| tv (bad rfl rfl) rfl <| tm rfl <| nl <| gk hp [0, 1, 2] ⟨_, _, _, rfl, ovr_eq _ _ rfl, rfl⟩
     · exact TC.exit <| jn [0, 1, 2] (J87 (ex_ret hp hx85))
   · exact TC.exit <| jn [0, 1, 2] (J72 (ex_ret hp hx29))
 · exact TC.exit <| jn [0] (J12 (ex_ret hp hx10))
end Go.Proofs.Ytpmcbahahjelnaa
