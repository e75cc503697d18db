/- The walk through the program's functions: each one's pure reading, and that a call does what it says. No conditions. -/
import Derived.Test.YteaknconpkklhaaC2
set_option linter.unusedVariables false
set_option linter.unusedSimpArgs false
namespace Go.Proofs.Yteaknconpkklhaa
open Go Go.Proofs

/-! ### fettle/calls.found -/
abbrev calls_found.R (r : List (List Int)) (v : Value) (A : List FP) : Prop := ∃ (w1 : Value) (G1 : FP), w1 = v ∧ A = [G1] ∧ SlO 25 (kSl 3 (kInt .i64)) r w1 G1
def calls_found.nx12  (x44 : List Int) (x48 : List Int) (x52 : List Bool) (x56 : List Int) (x60 : List (List Int)) (x64 : Int) : Option (List (List Int)) :=
  some x60
def calls_found.jn22 (x43 : Int) (x65 : List Int) (x69 : List Int) (x73 : List Bool) (x77 : List Int) (x81 : List (List Int)) (x85 : Int) : Option (Ex (List Int × List Int × List Bool × List Int × List (List Int) × Int) (List Int × List Int × List Bool × List Int × List (List Int) × Int × Int)) :=
  some (.go (x65, x69, x73, x77, x81, x85, (w64 (x43 + 1))))
def calls_found.bd12 (a1 : PModule) (x6 : List (List Int)) (x22 : List Int) (x26 : List Int) (x30 : List Bool) (x34 : List Int) (x38 : List (List Int)) (x42 : Int) (x43 : Int) : Option (Ex (List Int × List Int × List Bool × List Int × List (List Int) × Int) (List Int × List Int × List Bool × List Int × List (List Int) × Int × Int)) :=
  if x43 < (len a1.funcs) then
    (idx x22 x43).bind fun x86 =>
    if x86 = 0 then
      (calls_finder_visit (⟨x6, x22, x26, x30, x34, x38, x42⟩ : PFinder) x43).bind fun x92 =>
      calls_found.jn22 x43 x92.1 x92.2.1 x92.2.2.1 x92.2.2.2.1 x92.2.2.2.2.1 x92.2.2.2.2.2
    else
      calls_found.jn22 x43 x22 x26 x30 x34 x38 x42
  else
    some (.ret (x22, x26, x30, x34, x38, x42))
def calls_found.jn4 (a1 : PModule) (x6 : List (List Int)) (x10 : List Int) (x14 : List Int) (x18 : List Bool) : Option (List (List Int)) :=
  (whl (fun (s : (List Int × List Int × List Bool × List Int × List (List Int) × Int × Int)) => calls_found.bd12 a1 x6 s.1 s.2.1 s.2.2.1 s.2.2.2.1 s.2.2.2.2.1 s.2.2.2.2.2.1 s.2.2.2.2.2.2) FUEL (x10, x14, x18, ([] : List Int), ([] : List (List Int)), 0, 0)).bind fun z =>
  calls_found.nx12 z.1 z.2.1 z.2.2.1 z.2.2.2.1 z.2.2.2.2.1 z.2.2.2.2.2
def calls_found (a1 : PModule) : Option (List (List Int)) :=
  (calls_Calls a1).bind fun x511 =>
  (mkl (len a1.funcs) (0 : Int)).bind fun x1311 =>
  (mkl (len a1.funcs) (0 : Int)).bind fun x2111 =>
  (mkl (len a1.funcs) false).bind fun x2911 =>
  calls_found.jn4 a1 x511 x1311 x2111 x2911
set_option maxHeartbeats 4000000 in
theorem calls_found_ok {E : World} {H : FP} {w : World} {a1 : PModule} {v2 : Value} {r : List (List Int)} (h3 : SlI kFunc H a1.funcs v2) (hp : calls_found a1 = some r) (hst : St E H [] w) :
    Fn Try.prog 61 #[.agg #[v2]] w fun v w' => ∃ A, calls_found.R r v A ∧ St E H A w' := by
 refine fb 39 [.tmp 2] Try.func61 rfl rfl rfl rfl rfl hst <| sr <| tb [v2] rfl rfl fun b4 => ta rfl <| nz <| sr <| tv (fa f35_0 rfl) rfl <| tv (lb s33 0 rfl rfl rfl) rfl <| tv (ln u33 h3 rfl) rfl <| ta rfl <| nz <| TC.seq fun K1 k2 => ?_
 have J4 {x6 x10 x14 x18 b5 v7 F8 v11 F12 v15 F16 v19 F20 e3} (h9 : SlO 25 (kSl 3 (kInt .i64)) x6 v7 F8) (h13 : SlO 3 (kInt .i64) x10 v11 F12) (h17 : SlO 3 (kInt .i64) x14 v15 F16) (h21 : SlO 4 kBool x18 v19 F20) (hp : calls_found.jn4 a1 x6 x10 x14 x18 = some r) : ∀ w, St E H [bx b5 129 [v7, v11, v15, v19, .slice none 0 0, .slice none 0 0, .int .i64 0], F8, F12, F16, F20] w → K1 (ovr e3 [(3, .int .i64 (len a1.funcs)), (4, .pointer (some ⟨b5, 0, none⟩))]) w := by
  refine tg k2 <| TC.seq fun K5 k6 => sr <| tm rfl <| tm rfl <| nz <| TC.block <| bE hp fun z_8 hz9 hr10 => ?_
  have J14 {x44 x48 x52 x56 x60 x64 v45 F46 v49 F50 v53 F54 v57 F58 v61 F62 e13} (h47 : SlO 3 (kInt .i64) x44 v45 F46) (h51 : SlO 3 (kInt .i64) x48 v49 F50) (h55 : SlO 4 kBool x52 v53 F54) (h59 : SlO 3 (kInt .i64) x56 v57 F58) (h63 : SlO 25 (kSl 3 (kInt .i64)) x60 v61 F62) (hq15 : (x44, x48, x52, x56, x60, x64) = z_8) : ∀ w, St E H [bx b5 129 [v7, v45, v49, v53, v57, v61, .int .i64 x64], F8, F46, F50, F54, F58, F62] w → K5 (ovr e13 [(4, .pointer (some ⟨b5, 0, none⟩))]) w := by
   subst hq15
   replace hp : calls_found.nx12 x44 x48 x52 x56 x60 x64 = some r := hr10
   exact tg k6 <| sr <| tm rfl <| tv (rv_nilCheck rfl) rfl <| tv (fa f129_5 rfl) rfl <| tv (lb s60 0 rfl rfl rfl) rfl <| ta rfl <| nz <| TC.ret <| rt hp [6] ⟨v61, F62, rfl, rfl, h63⟩
  refine W.new0 <| W.new0 <| lp hz9 [2, 3, 4, 5, 6, 1, 0] rfl (fun s e L => ∃ x22 x26 x30 x34 x38 x42 x43 v23 F24 v27 F28 v31 F32 v35 F36 v39 F40 e7, s = (x22, x26, x30, x34, x38, x42, x43) ∧ SlO 3 (kInt .i64) x22 v23 F24 ∧ SlO 3 (kInt .i64) x26 v27 F28 ∧ SlO 4 kBool x30 v31 F32 ∧ SlO 3 (kInt .i64) x34 v35 F36 ∧ SlO 25 (kSl 3 (kInt .i64)) x38 v39 F40 ∧ e = ovr e7 [(4, .pointer (some ⟨b5, 0, none⟩)), (19, .int .i64 (len a1.funcs)), (20, .int .i64 x43)] ∧ L = [bx b5 129 [v7, v23, v27, v31, v35, v39, .int .i64 x42], F8, F24, F28, F32, F36, F40]) ⟨_, _, _, _, _, _, _, v11, F12, v15, F16, v19, F20, (.slice none 0 0), ([] : FP), (.slice none 0 0), ([] : FP), _, rfl, h13, h17, h21, (SlO.nil 3), (SlO.nil 25), ovr_eq _ _ rfl, rfl⟩ ?_
  rintro _ _ _ ⟨x22, x26, x30, x34, x38, x42, x43, v23, F24, v27, F28, v31, F32, v35, F36, v39, F40, e7, rfl, h25, h29, h33, h37, h41, rfl, rfl⟩ X11 hp hx12
  replace hp : calls_found.bd12 a1 x6 x22 x26 x30 x34 x38 x42 x43 = some X11 := hp
  refine sr <| tv (blt rfl rfl) rfl <| nz <| TC.seq fun K16 k17 => cD rfl hp (fun hc18 hp => ?_) fun hc18 hp => ?_
  · refine sk k17 rfl <| TC.seq fun K19 k20 => ?_
    have J22 {x65 x69 x73 x77 x81 x85 v66 F67 v70 F71 v74 F75 v78 F79 v82 F83 e21} (h68 : SlO 3 (kInt .i64) x65 v66 F67) (h72 : SlO 3 (kInt .i64) x69 v70 F71) (h76 : SlO 4 kBool x73 v74 F75) (h80 : SlO 3 (kInt .i64) x77 v78 F79) (h84 : SlO 25 (kSl 3 (kInt .i64)) x81 v82 F83) (hp : calls_found.jn22 x43 x65 x69 x73 x77 x81 x85 = some X11) : ∀ w, St E H [bx b5 129 [v7, v66, v70, v74, v78, v82, .int .i64 x85], F8, F67, F71, F75, F79, F83] w → K19 (ovr e21 [(4, .pointer (some ⟨b5, 0, none⟩)), (19, .int .i64 (len a1.funcs)), (20, .int .i64 x43)]) w := by
     exact tg k20 <| TC.region <| tv (bad rfl rfl) rfl <| tm rfl <| nl <| gk hp [0, 1, 2, 3, 4, 5, 6] ⟨_, _, _, _, _, _, _, v66, F67, v70, F71, v74, F75, v78, F79, v82, F83, _, rfl, h68, h72, h76, h80, h84, ovr_eq _ _ rfl, rfl⟩
    refine TC.block <| sr <| tm rfl <| ta rfl <| nz <| sr <| tm rfl <| tv (rv_nilCheck rfl) rfl <| tv (fa f129_1 rfl) rfl <| tv (lb s25 0 rfl rfl rfl) rfl <| tm rfl <| ti u25 i3 (h25).ro hp rfl rfl rfl rfl ?_
    rintro x86 b87 o88 _ hp rfl h91
    refine tv (lr s3 (Src.at_ 2 rfl) h91 0 rfl rfl) rfl <| tv (beq rfl rfl) rfl <| nz <| cD rfl hp (fun hc24 hp => ?_) fun hc24 hp => ?_
    · refine TC.region <| tm rfl <| tm rfl <| tp [0, 2, 3, 4, 5, 6, 1] [_,_,_,_,_,_,_] rfl rfl <| bE hp fun x92 hy25 hp => tc 6 [_] rfl c86 (fun _ => calls_finder_visit_ok (a2 := (⟨x6, x22, x26, x30, x34, x38, x42⟩ : PFinder)) (a21 := x43) (h9.ro.mono (subB 0 rfl)) h25 h29 h33 h37 h41 hy25) rfl ?_
      rintro _ _ ⟨v93, F94, v96, F97, v99, F100, v102, F103, v105, F106, rfl, rfl, h95, h98, h101, h104, h107⟩
      exact nl <| jn [0, 6, 1, 2, 3, 4, 5] (J22 h95 h98 h101 h104 h107 hp)
    · exact TC.skip <| jn [0, 1, 2, 3, 4, 5, 6] (J22 h25 h29 h33 h37 h41 hp)
  · exact TC.exit <| jn [0, 1, 2, 3, 4, 5, 6] (J14 h25 h29 h33 h37 h41 (ex_ret hp hx12))
 refine bE hp fun x511 hY2_1 hp => bE hp fun x1311 hY2_3 hp => bE hp fun x2111 hY2_5 hp => bE hp fun x2911 hY2_7 hp => ch mix [bx b4 35 [v2]] (srcG 0 rfl srcG0) <| hv 0 rfl (lAG (ds := [v2]) ag_35 0 rfl rfl rfl rfl) (by kernel_rfl) rfl <| hv 2 rfl mv (by kernel_rfl) rfl <| hv 4 rfl mv (by kernel_rfl) rfl <| hv 6 rfl mv (by kernel_rfl) rfl <| HL.all [1, 3, 5, 7] (by kernel_rfl) (by simp) (HL.al ⟨_, rfl, fun K29 k30 => ?_⟩ (HL.al ⟨_, rfl, fun K90 k91 => ?_⟩ (HL.al ⟨_, rfl, fun K155 k156 => ?_⟩ (HL.al ⟨_, rfl, fun K220 k221 => ?_⟩ HL.al0))))
 · refine tc 0 [_] rfl c26 (fun _ => calls_Calls_ok (a1 := a1) (h3.mono subH) hY2_1) rfl ?_
   rintro _ _ ⟨v512, F513, rfl, rfl, h514⟩
   refine hk k30 (srcG 1 rfl srcG0) <| HL.all [3, 5, 7] (by kernel_rfl) (by simp) (HL.al ⟨_, rfl, fun K33 k34 => ?_⟩ (HL.al ⟨_, rfl, fun K52 k53 => ?_⟩ (HL.al ⟨_, rfl, fun K71 k72 => ?_⟩ HL.al0)))
   · refine tk0 (k := (kInt .i64)) u25 i3 hY2_3 ⟨rfl, rfl⟩ rfl rfl rfl rfl rfl rfl fun v1312 F1313 h1314 => hk k34 (srcG 2 rfl srcG0) <| HL.all [5, 7] (by kernel_rfl) (by simp) (HL.al ⟨_, rfl, fun K36 k37 => ?_⟩ (HL.al ⟨_, rfl, fun K44 k45 => ?_⟩ HL.al0))
     · exact tk0 (k := (kInt .i64)) u25 i3 hY2_5 ⟨rfl, rfl⟩ rfl rfl rfl rfl rfl rfl fun v2112 F2113 h2114 => hk k37 (srcG 3 rfl srcG0) <| ho 7 rfl (by kernel_rfl) fun K39 k40 => tk0 (k := kBool) u88 i4 hY2_7 ⟨rfl, rfl⟩ rfl rfl rfl rfl rfl rfl fun v2912 F2913 h2914 => hk k40 (srcG 4 rfl srcG0) <| hv 8 rfl (rv_bv (vs := [(0, v512), (1, v1312), (2, v2112), (3, v2912)]) (ds := [v512, v1312, v2112, v2912, .slice none 0 0, .slice none 0 0, .int .i64 0]) rfl (fun w => by obtain ⟨_, _, rfl⟩ := (h514).len; obtain ⟨_, _, rfl⟩ := (h1314).len; obtain ⟨_, _, rfl⟩ := (h2114).len; obtain ⟨_, _, rfl⟩ := (h2914).len; kernel_rfl)) (by kernel_rfl) rfl <| ho 9 rfl (by kernel_rfl) fun K42 k43 => tb [v512, v1312, v2112, v2912, .slice none 0 0, .slice none 0 0, .int .i64 0] rfl rfl fun b3711 => hk k43 (srcG 5 rfl srcG0) <| hv 10 rfl sg (by kernel_rfl) rfl <| hz (by kernel_rfl) <| jn [0, 4, 3, 2, 1] (J4 h514 h1314 h2114 h2914 hp)
     · exact tk0 (k := kBool) u88 i4 hY2_7 ⟨rfl, rfl⟩ rfl rfl rfl rfl rfl rfl fun v2912 F2913 h2914 => hk k45 (srcG 3 rfl srcG0) <| ho 5 rfl (by kernel_rfl) fun K47 k48 => tk0 (k := (kInt .i64)) u25 i3 hY2_5 ⟨rfl, rfl⟩ rfl rfl rfl rfl rfl rfl fun v2112 F2113 h2114 => hk k48 (srcG 4 rfl srcG0) <| hv 8 rfl (rv_bv (vs := [(0, v512), (1, v1312), (2, v2112), (3, v2912)]) (ds := [v512, v1312, v2112, v2912, .slice none 0 0, .slice none 0 0, .int .i64 0]) rfl (fun w => by obtain ⟨_, _, rfl⟩ := (h514).len; obtain ⟨_, _, rfl⟩ := (h1314).len; obtain ⟨_, _, rfl⟩ := (h2114).len; obtain ⟨_, _, rfl⟩ := (h2914).len; kernel_rfl)) (by kernel_rfl) rfl <| ho 9 rfl (by kernel_rfl) fun K50 k51 => tb [v512, v1312, v2112, v2912, .slice none 0 0, .slice none 0 0, .int .i64 0] rfl rfl fun b3711 => hk k51 (srcG 5 rfl srcG0) <| hv 10 rfl sg (by kernel_rfl) rfl <| hz (by kernel_rfl) <| jn [0, 4, 3, 1, 2] (J4 h514 h1314 h2114 h2914 hp)
   · refine tk0 (k := (kInt .i64)) u25 i3 hY2_5 ⟨rfl, rfl⟩ rfl rfl rfl rfl rfl rfl fun v2112 F2113 h2114 => hk k53 (srcG 2 rfl srcG0) <| HL.all [3, 7] (by kernel_rfl) (by simp) (HL.al ⟨_, rfl, fun K55 k56 => ?_⟩ (HL.al ⟨_, rfl, fun K63 k64 => ?_⟩ HL.al0))
     · exact tk0 (k := (kInt .i64)) u25 i3 hY2_3 ⟨rfl, rfl⟩ rfl rfl rfl rfl rfl rfl fun v1312 F1313 h1314 => hk k56 (srcG 3 rfl srcG0) <| ho 7 rfl (by kernel_rfl) fun K58 k59 => tk0 (k := kBool) u88 i4 hY2_7 ⟨rfl, rfl⟩ rfl rfl rfl rfl rfl rfl fun v2912 F2913 h2914 => hk k59 (srcG 4 rfl srcG0) <| hv 8 rfl (rv_bv (vs := [(0, v512), (1, v1312), (2, v2112), (3, v2912)]) (ds := [v512, v1312, v2112, v2912, .slice none 0 0, .slice none 0 0, .int .i64 0]) rfl (fun w => by obtain ⟨_, _, rfl⟩ := (h514).len; obtain ⟨_, _, rfl⟩ := (h1314).len; obtain ⟨_, _, rfl⟩ := (h2114).len; obtain ⟨_, _, rfl⟩ := (h2914).len; kernel_rfl)) (by kernel_rfl) rfl <| ho 9 rfl (by kernel_rfl) fun K61 k62 => tb [v512, v1312, v2112, v2912, .slice none 0 0, .slice none 0 0, .int .i64 0] rfl rfl fun b3711 => hk k62 (srcG 5 rfl srcG0) <| hv 10 rfl sg (by kernel_rfl) rfl <| hz (by kernel_rfl) <| jn [0, 4, 2, 3, 1] (J4 h514 h1314 h2114 h2914 hp)
     · exact tk0 (k := kBool) u88 i4 hY2_7 ⟨rfl, rfl⟩ rfl rfl rfl rfl rfl rfl fun v2912 F2913 h2914 => hk k64 (srcG 3 rfl srcG0) <| ho 3 rfl (by kernel_rfl) fun K66 k67 => tk0 (k := (kInt .i64)) u25 i3 hY2_3 ⟨rfl, rfl⟩ rfl rfl rfl rfl rfl rfl fun v1312 F1313 h1314 => hk k67 (srcG 4 rfl srcG0) <| hv 8 rfl (rv_bv (vs := [(0, v512), (1, v1312), (2, v2112), (3, v2912)]) (ds := [v512, v1312, v2112, v2912, .slice none 0 0, .slice none 0 0, .int .i64 0]) rfl (fun w => by obtain ⟨_, _, rfl⟩ := (h514).len; obtain ⟨_, _, rfl⟩ := (h1314).len; obtain ⟨_, _, rfl⟩ := (h2114).len; obtain ⟨_, _, rfl⟩ := (h2914).len; kernel_rfl)) (by kernel_rfl) rfl <| ho 9 rfl (by kernel_rfl) fun K69 k70 => tb [v512, v1312, v2112, v2912, .slice none 0 0, .slice none 0 0, .int .i64 0] rfl rfl fun b3711 => hk k70 (srcG 5 rfl srcG0) <| hv 10 rfl sg (by kernel_rfl) rfl <| hz (by kernel_rfl) <| jn [0, 4, 1, 3, 2] (J4 h514 h1314 h2114 h2914 hp)
   · refine tk0 (k := kBool) u88 i4 hY2_7 ⟨rfl, rfl⟩ rfl rfl rfl rfl rfl rfl fun v2912 F2913 h2914 => hk k72 (srcG 2 rfl srcG0) <| HL.all [3, 5] (by kernel_rfl) (by simp) (HL.al ⟨_, rfl, fun K74 k75 => ?_⟩ (HL.al ⟨_, rfl, fun K82 k83 => ?_⟩ HL.al0))
     · exact tk0 (k := (kInt .i64)) u25 i3 hY2_3 ⟨rfl, rfl⟩ rfl rfl rfl rfl rfl rfl fun v1312 F1313 h1314 => hk k75 (srcG 3 rfl srcG0) <| ho 5 rfl (by kernel_rfl) fun K77 k78 => tk0 (k := (kInt .i64)) u25 i3 hY2_5 ⟨rfl, rfl⟩ rfl rfl rfl rfl rfl rfl fun v2112 F2113 h2114 => hk k78 (srcG 4 rfl srcG0) <| hv 8 rfl (rv_bv (vs := [(0, v512), (1, v1312), (2, v2112), (3, v2912)]) (ds := [v512, v1312, v2112, v2912, .slice none 0 0, .slice none 0 0, .int .i64 0]) rfl (fun w => by obtain ⟨_, _, rfl⟩ := (h514).len; obtain ⟨_, _, rfl⟩ := (h1314).len; obtain ⟨_, _, rfl⟩ := (h2114).len; obtain ⟨_, _, rfl⟩ := (h2914).len; kernel_rfl)) (by kernel_rfl) rfl <| ho 9 rfl (by kernel_rfl) fun K80 k81 => tb [v512, v1312, v2112, v2912, .slice none 0 0, .slice none 0 0, .int .i64 0] rfl rfl fun b3711 => hk k81 (srcG 5 rfl srcG0) <| hv 10 rfl sg (by kernel_rfl) rfl <| hz (by kernel_rfl) <| jn [0, 4, 2, 1, 3] (J4 h514 h1314 h2114 h2914 hp)
     · exact tk0 (k := (kInt .i64)) u25 i3 hY2_5 ⟨rfl, rfl⟩ rfl rfl rfl rfl rfl rfl fun v2112 F2113 h2114 => hk k83 (srcG 3 rfl srcG0) <| ho 3 rfl (by kernel_rfl) fun K85 k86 => tk0 (k := (kInt .i64)) u25 i3 hY2_3 ⟨rfl, rfl⟩ rfl rfl rfl rfl rfl rfl fun v1312 F1313 h1314 => hk k86 (srcG 4 rfl srcG0) <| hv 8 rfl (rv_bv (vs := [(0, v512), (1, v1312), (2, v2112), (3, v2912)]) (ds := [v512, v1312, v2112, v2912, .slice none 0 0, .slice none 0 0, .int .i64 0]) rfl (fun w => by obtain ⟨_, _, rfl⟩ := (h514).len; obtain ⟨_, _, rfl⟩ := (h1314).len; obtain ⟨_, _, rfl⟩ := (h2114).len; obtain ⟨_, _, rfl⟩ := (h2914).len; kernel_rfl)) (by kernel_rfl) rfl <| ho 9 rfl (by kernel_rfl) fun K88 k89 => tb [v512, v1312, v2112, v2912, .slice none 0 0, .slice none 0 0, .int .i64 0] rfl rfl fun b3711 => hk k89 (srcG 5 rfl srcG0) <| hv 10 rfl sg (by kernel_rfl) rfl <| hz (by kernel_rfl) <| jn [0, 4, 1, 2, 3] (J4 h514 h1314 h2114 h2914 hp)
 · refine tk0 (k := (kInt .i64)) u25 i3 hY2_3 ⟨rfl, rfl⟩ rfl rfl rfl rfl rfl rfl fun v1312 F1313 h1314 => hk k91 (srcG 1 rfl srcG0) <| HL.all [1, 5, 7] (by kernel_rfl) (by simp) (HL.al ⟨_, rfl, fun K93 k94 => ?_⟩ (HL.al ⟨_, rfl, fun K113 k114 => ?_⟩ (HL.al ⟨_, rfl, fun K134 k135 => ?_⟩ HL.al0)))
   · refine tc 0 [_,_] rfl c26 (fun _ => calls_Calls_ok (a1 := a1) (h3.mono subH) hY2_1) rfl ?_
     rintro _ _ ⟨v512, F513, rfl, rfl, h514⟩
     refine hk k94 (srcG 2 rfl srcG0) <| HL.all [5, 7] (by kernel_rfl) (by simp) (HL.al ⟨_, rfl, fun K97 k98 => ?_⟩ (HL.al ⟨_, rfl, fun K105 k106 => ?_⟩ HL.al0))
     · exact tk0 (k := (kInt .i64)) u25 i3 hY2_5 ⟨rfl, rfl⟩ rfl rfl rfl rfl rfl rfl fun v2112 F2113 h2114 => hk k98 (srcG 3 rfl srcG0) <| ho 7 rfl (by kernel_rfl) fun K100 k101 => tk0 (k := kBool) u88 i4 hY2_7 ⟨rfl, rfl⟩ rfl rfl rfl rfl rfl rfl fun v2912 F2913 h2914 => hk k101 (srcG 4 rfl srcG0) <| hv 8 rfl (rv_bv (vs := [(0, v512), (1, v1312), (2, v2112), (3, v2912)]) (ds := [v512, v1312, v2112, v2912, .slice none 0 0, .slice none 0 0, .int .i64 0]) rfl (fun w => by obtain ⟨_, _, rfl⟩ := (h514).len; obtain ⟨_, _, rfl⟩ := (h1314).len; obtain ⟨_, _, rfl⟩ := (h2114).len; obtain ⟨_, _, rfl⟩ := (h2914).len; kernel_rfl)) (by kernel_rfl) rfl <| ho 9 rfl (by kernel_rfl) fun K103 k104 => tb [v512, v1312, v2112, v2912, .slice none 0 0, .slice none 0 0, .int .i64 0] rfl rfl fun b3711 => hk k104 (srcG 5 rfl srcG0) <| hv 10 rfl sg (by kernel_rfl) rfl <| hz (by kernel_rfl) <| jn [0, 3, 4, 2, 1] (J4 h514 h1314 h2114 h2914 hp)
     · exact tk0 (k := kBool) u88 i4 hY2_7 ⟨rfl, rfl⟩ rfl rfl rfl rfl rfl rfl fun v2912 F2913 h2914 => hk k106 (srcG 3 rfl srcG0) <| ho 5 rfl (by kernel_rfl) fun K108 k109 => tk0 (k := (kInt .i64)) u25 i3 hY2_5 ⟨rfl, rfl⟩ rfl rfl rfl rfl rfl rfl fun v2112 F2113 h2114 => hk k109 (srcG 4 rfl srcG0) <| hv 8 rfl (rv_bv (vs := [(0, v512), (1, v1312), (2, v2112), (3, v2912)]) (ds := [v512, v1312, v2112, v2912, .slice none 0 0, .slice none 0 0, .int .i64 0]) rfl (fun w => by obtain ⟨_, _, rfl⟩ := (h514).len; obtain ⟨_, _, rfl⟩ := (h1314).len; obtain ⟨_, _, rfl⟩ := (h2114).len; obtain ⟨_, _, rfl⟩ := (h2914).len; kernel_rfl)) (by kernel_rfl) rfl <| ho 9 rfl (by kernel_rfl) fun K111 k112 => tb [v512, v1312, v2112, v2912, .slice none 0 0, .slice none 0 0, .int .i64 0] rfl rfl fun b3711 => hk k112 (srcG 5 rfl srcG0) <| hv 10 rfl sg (by kernel_rfl) rfl <| hz (by kernel_rfl) <| jn [0, 3, 4, 1, 2] (J4 h514 h1314 h2114 h2914 hp)
   · refine tk0 (k := (kInt .i64)) u25 i3 hY2_5 ⟨rfl, rfl⟩ rfl rfl rfl rfl rfl rfl fun v2112 F2113 h2114 => hk k114 (srcG 2 rfl srcG0) <| HL.all [1, 7] (by kernel_rfl) (by simp) (HL.al ⟨_, rfl, fun K116 k117 => ?_⟩ (HL.al ⟨_, rfl, fun K125 k126 => ?_⟩ HL.al0))
     · refine tc 0 [_,_,_] rfl c26 (fun _ => calls_Calls_ok (a1 := a1) (h3.mono subH) hY2_1) rfl ?_
       rintro _ _ ⟨v512, F513, rfl, rfl, h514⟩
       exact hk k117 (srcG 3 rfl srcG0) <| ho 7 rfl (by kernel_rfl) fun K120 k121 => tk0 (k := kBool) u88 i4 hY2_7 ⟨rfl, rfl⟩ rfl rfl rfl rfl rfl rfl fun v2912 F2913 h2914 => hk k121 (srcG 4 rfl srcG0) <| hv 8 rfl (rv_bv (vs := [(0, v512), (1, v1312), (2, v2112), (3, v2912)]) (ds := [v512, v1312, v2112, v2912, .slice none 0 0, .slice none 0 0, .int .i64 0]) rfl (fun w => by obtain ⟨_, _, rfl⟩ := (h514).len; obtain ⟨_, _, rfl⟩ := (h1314).len; obtain ⟨_, _, rfl⟩ := (h2114).len; obtain ⟨_, _, rfl⟩ := (h2914).len; kernel_rfl)) (by kernel_rfl) rfl <| ho 9 rfl (by kernel_rfl) fun K123 k124 => tb [v512, v1312, v2112, v2912, .slice none 0 0, .slice none 0 0, .int .i64 0] rfl rfl fun b3711 => hk k124 (srcG 5 rfl srcG0) <| hv 10 rfl sg (by kernel_rfl) rfl <| hz (by kernel_rfl) <| jn [0, 2, 4, 3, 1] (J4 h514 h1314 h2114 h2914 hp)
     · refine tk0 (k := kBool) u88 i4 hY2_7 ⟨rfl, rfl⟩ rfl rfl rfl rfl rfl rfl fun v2912 F2913 h2914 => hk k126 (srcG 3 rfl srcG0) <| ho 1 rfl (by kernel_rfl) fun K128 k129 => tc 0 [_,_,_,_] rfl c26 (fun _ => calls_Calls_ok (a1 := a1) (h3.mono subH) hY2_1) rfl ?_
       rintro _ _ ⟨v512, F513, rfl, rfl, h514⟩
       exact hk k129 (srcG 4 rfl srcG0) <| hv 8 rfl (rv_bv (vs := [(0, v512), (1, v1312), (2, v2112), (3, v2912)]) (ds := [v512, v1312, v2112, v2912, .slice none 0 0, .slice none 0 0, .int .i64 0]) rfl (fun w => by obtain ⟨_, _, rfl⟩ := (h514).len; obtain ⟨_, _, rfl⟩ := (h1314).len; obtain ⟨_, _, rfl⟩ := (h2114).len; obtain ⟨_, _, rfl⟩ := (h2914).len; kernel_rfl)) (by kernel_rfl) rfl <| ho 9 rfl (by kernel_rfl) fun K132 k133 => tb [v512, v1312, v2112, v2912, .slice none 0 0, .slice none 0 0, .int .i64 0] rfl rfl fun b3711 => hk k133 (srcG 5 rfl srcG0) <| hv 10 rfl sg (by kernel_rfl) rfl <| hz (by kernel_rfl) <| jn [0, 1, 4, 3, 2] (J4 h514 h1314 h2114 h2914 hp)
   · refine tk0 (k := kBool) u88 i4 hY2_7 ⟨rfl, rfl⟩ rfl rfl rfl rfl rfl rfl fun v2912 F2913 h2914 => hk k135 (srcG 2 rfl srcG0) <| HL.all [1, 5] (by kernel_rfl) (by simp) (HL.al ⟨_, rfl, fun K137 k138 => ?_⟩ (HL.al ⟨_, rfl, fun K146 k147 => ?_⟩ HL.al0))
     · refine tc 0 [_,_,_] rfl c26 (fun _ => calls_Calls_ok (a1 := a1) (h3.mono subH) hY2_1) rfl ?_
       rintro _ _ ⟨v512, F513, rfl, rfl, h514⟩
       exact hk k138 (srcG 3 rfl srcG0) <| ho 5 rfl (by kernel_rfl) fun K141 k142 => tk0 (k := (kInt .i64)) u25 i3 hY2_5 ⟨rfl, rfl⟩ rfl rfl rfl rfl rfl rfl fun v2112 F2113 h2114 => hk k142 (srcG 4 rfl srcG0) <| hv 8 rfl (rv_bv (vs := [(0, v512), (1, v1312), (2, v2112), (3, v2912)]) (ds := [v512, v1312, v2112, v2912, .slice none 0 0, .slice none 0 0, .int .i64 0]) rfl (fun w => by obtain ⟨_, _, rfl⟩ := (h514).len; obtain ⟨_, _, rfl⟩ := (h1314).len; obtain ⟨_, _, rfl⟩ := (h2114).len; obtain ⟨_, _, rfl⟩ := (h2914).len; kernel_rfl)) (by kernel_rfl) rfl <| ho 9 rfl (by kernel_rfl) fun K144 k145 => tb [v512, v1312, v2112, v2912, .slice none 0 0, .slice none 0 0, .int .i64 0] rfl rfl fun b3711 => hk k145 (srcG 5 rfl srcG0) <| hv 10 rfl sg (by kernel_rfl) rfl <| hz (by kernel_rfl) <| jn [0, 2, 4, 1, 3] (J4 h514 h1314 h2114 h2914 hp)
     · refine tk0 (k := (kInt .i64)) u25 i3 hY2_5 ⟨rfl, rfl⟩ rfl rfl rfl rfl rfl rfl fun v2112 F2113 h2114 => hk k147 (srcG 3 rfl srcG0) <| ho 1 rfl (by kernel_rfl) fun K149 k150 => tc 0 [_,_,_,_] rfl c26 (fun _ => calls_Calls_ok (a1 := a1) (h3.mono subH) hY2_1) rfl ?_
       rintro _ _ ⟨v512, F513, rfl, rfl, h514⟩
       exact hk k150 (srcG 4 rfl srcG0) <| hv 8 rfl (rv_bv (vs := [(0, v512), (1, v1312), (2, v2112), (3, v2912)]) (ds := [v512, v1312, v2112, v2912, .slice none 0 0, .slice none 0 0, .int .i64 0]) rfl (fun w => by obtain ⟨_, _, rfl⟩ := (h514).len; obtain ⟨_, _, rfl⟩ := (h1314).len; obtain ⟨_, _, rfl⟩ := (h2114).len; obtain ⟨_, _, rfl⟩ := (h2914).len; kernel_rfl)) (by kernel_rfl) rfl <| ho 9 rfl (by kernel_rfl) fun K153 k154 => tb [v512, v1312, v2112, v2912, .slice none 0 0, .slice none 0 0, .int .i64 0] rfl rfl fun b3711 => hk k154 (srcG 5 rfl srcG0) <| hv 10 rfl sg (by kernel_rfl) rfl <| hz (by kernel_rfl) <| jn [0, 1, 4, 2, 3] (J4 h514 h1314 h2114 h2914 hp)
 · refine tk0 (k := (kInt .i64)) u25 i3 hY2_5 ⟨rfl, rfl⟩ rfl rfl rfl rfl rfl rfl fun v2112 F2113 h2114 => hk k156 (srcG 1 rfl srcG0) <| HL.all [1, 3, 7] (by kernel_rfl) (by simp) (HL.al ⟨_, rfl, fun K158 k159 => ?_⟩ (HL.al ⟨_, rfl, fun K178 k179 => ?_⟩ (HL.al ⟨_, rfl, fun K199 k200 => ?_⟩ HL.al0)))
   · refine tc 0 [_,_] rfl c26 (fun _ => calls_Calls_ok (a1 := a1) (h3.mono subH) hY2_1) rfl ?_
     rintro _ _ ⟨v512, F513, rfl, rfl, h514⟩
     refine hk k159 (srcG 2 rfl srcG0) <| HL.all [3, 7] (by kernel_rfl) (by simp) (HL.al ⟨_, rfl, fun K162 k163 => ?_⟩ (HL.al ⟨_, rfl, fun K170 k171 => ?_⟩ HL.al0))
     · exact tk0 (k := (kInt .i64)) u25 i3 hY2_3 ⟨rfl, rfl⟩ rfl rfl rfl rfl rfl rfl fun v1312 F1313 h1314 => hk k163 (srcG 3 rfl srcG0) <| ho 7 rfl (by kernel_rfl) fun K165 k166 => tk0 (k := kBool) u88 i4 hY2_7 ⟨rfl, rfl⟩ rfl rfl rfl rfl rfl rfl fun v2912 F2913 h2914 => hk k166 (srcG 4 rfl srcG0) <| hv 8 rfl (rv_bv (vs := [(0, v512), (1, v1312), (2, v2112), (3, v2912)]) (ds := [v512, v1312, v2112, v2912, .slice none 0 0, .slice none 0 0, .int .i64 0]) rfl (fun w => by obtain ⟨_, _, rfl⟩ := (h514).len; obtain ⟨_, _, rfl⟩ := (h1314).len; obtain ⟨_, _, rfl⟩ := (h2114).len; obtain ⟨_, _, rfl⟩ := (h2914).len; kernel_rfl)) (by kernel_rfl) rfl <| ho 9 rfl (by kernel_rfl) fun K168 k169 => tb [v512, v1312, v2112, v2912, .slice none 0 0, .slice none 0 0, .int .i64 0] rfl rfl fun b3711 => hk k169 (srcG 5 rfl srcG0) <| hv 10 rfl sg (by kernel_rfl) rfl <| hz (by kernel_rfl) <| jn [0, 3, 2, 4, 1] (J4 h514 h1314 h2114 h2914 hp)
     · exact tk0 (k := kBool) u88 i4 hY2_7 ⟨rfl, rfl⟩ rfl rfl rfl rfl rfl rfl fun v2912 F2913 h2914 => hk k171 (srcG 3 rfl srcG0) <| ho 3 rfl (by kernel_rfl) fun K173 k174 => tk0 (k := (kInt .i64)) u25 i3 hY2_3 ⟨rfl, rfl⟩ rfl rfl rfl rfl rfl rfl fun v1312 F1313 h1314 => hk k174 (srcG 4 rfl srcG0) <| hv 8 rfl (rv_bv (vs := [(0, v512), (1, v1312), (2, v2112), (3, v2912)]) (ds := [v512, v1312, v2112, v2912, .slice none 0 0, .slice none 0 0, .int .i64 0]) rfl (fun w => by obtain ⟨_, _, rfl⟩ := (h514).len; obtain ⟨_, _, rfl⟩ := (h1314).len; obtain ⟨_, _, rfl⟩ := (h2114).len; obtain ⟨_, _, rfl⟩ := (h2914).len; kernel_rfl)) (by kernel_rfl) rfl <| ho 9 rfl (by kernel_rfl) fun K176 k177 => tb [v512, v1312, v2112, v2912, .slice none 0 0, .slice none 0 0, .int .i64 0] rfl rfl fun b3711 => hk k177 (srcG 5 rfl srcG0) <| hv 10 rfl sg (by kernel_rfl) rfl <| hz (by kernel_rfl) <| jn [0, 3, 1, 4, 2] (J4 h514 h1314 h2114 h2914 hp)
   · refine tk0 (k := (kInt .i64)) u25 i3 hY2_3 ⟨rfl, rfl⟩ rfl rfl rfl rfl rfl rfl fun v1312 F1313 h1314 => hk k179 (srcG 2 rfl srcG0) <| HL.all [1, 7] (by kernel_rfl) (by simp) (HL.al ⟨_, rfl, fun K181 k182 => ?_⟩ (HL.al ⟨_, rfl, fun K190 k191 => ?_⟩ HL.al0))
     · refine tc 0 [_,_,_] rfl c26 (fun _ => calls_Calls_ok (a1 := a1) (h3.mono subH) hY2_1) rfl ?_
       rintro _ _ ⟨v512, F513, rfl, rfl, h514⟩
       exact hk k182 (srcG 3 rfl srcG0) <| ho 7 rfl (by kernel_rfl) fun K185 k186 => tk0 (k := kBool) u88 i4 hY2_7 ⟨rfl, rfl⟩ rfl rfl rfl rfl rfl rfl fun v2912 F2913 h2914 => hk k186 (srcG 4 rfl srcG0) <| hv 8 rfl (rv_bv (vs := [(0, v512), (1, v1312), (2, v2112), (3, v2912)]) (ds := [v512, v1312, v2112, v2912, .slice none 0 0, .slice none 0 0, .int .i64 0]) rfl (fun w => by obtain ⟨_, _, rfl⟩ := (h514).len; obtain ⟨_, _, rfl⟩ := (h1314).len; obtain ⟨_, _, rfl⟩ := (h2114).len; obtain ⟨_, _, rfl⟩ := (h2914).len; kernel_rfl)) (by kernel_rfl) rfl <| ho 9 rfl (by kernel_rfl) fun K188 k189 => tb [v512, v1312, v2112, v2912, .slice none 0 0, .slice none 0 0, .int .i64 0] rfl rfl fun b3711 => hk k189 (srcG 5 rfl srcG0) <| hv 10 rfl sg (by kernel_rfl) rfl <| hz (by kernel_rfl) <| jn [0, 2, 3, 4, 1] (J4 h514 h1314 h2114 h2914 hp)
     · refine tk0 (k := kBool) u88 i4 hY2_7 ⟨rfl, rfl⟩ rfl rfl rfl rfl rfl rfl fun v2912 F2913 h2914 => hk k191 (srcG 3 rfl srcG0) <| ho 1 rfl (by kernel_rfl) fun K193 k194 => tc 0 [_,_,_,_] rfl c26 (fun _ => calls_Calls_ok (a1 := a1) (h3.mono subH) hY2_1) rfl ?_
       rintro _ _ ⟨v512, F513, rfl, rfl, h514⟩
       exact hk k194 (srcG 4 rfl srcG0) <| hv 8 rfl (rv_bv (vs := [(0, v512), (1, v1312), (2, v2112), (3, v2912)]) (ds := [v512, v1312, v2112, v2912, .slice none 0 0, .slice none 0 0, .int .i64 0]) rfl (fun w => by obtain ⟨_, _, rfl⟩ := (h514).len; obtain ⟨_, _, rfl⟩ := (h1314).len; obtain ⟨_, _, rfl⟩ := (h2114).len; obtain ⟨_, _, rfl⟩ := (h2914).len; kernel_rfl)) (by kernel_rfl) rfl <| ho 9 rfl (by kernel_rfl) fun K197 k198 => tb [v512, v1312, v2112, v2912, .slice none 0 0, .slice none 0 0, .int .i64 0] rfl rfl fun b3711 => hk k198 (srcG 5 rfl srcG0) <| hv 10 rfl sg (by kernel_rfl) rfl <| hz (by kernel_rfl) <| jn [0, 1, 3, 4, 2] (J4 h514 h1314 h2114 h2914 hp)
   · refine tk0 (k := kBool) u88 i4 hY2_7 ⟨rfl, rfl⟩ rfl rfl rfl rfl rfl rfl fun v2912 F2913 h2914 => hk k200 (srcG 2 rfl srcG0) <| HL.all [1, 3] (by kernel_rfl) (by simp) (HL.al ⟨_, rfl, fun K202 k203 => ?_⟩ (HL.al ⟨_, rfl, fun K211 k212 => ?_⟩ HL.al0))
     · refine tc 0 [_,_,_] rfl c26 (fun _ => calls_Calls_ok (a1 := a1) (h3.mono subH) hY2_1) rfl ?_
       rintro _ _ ⟨v512, F513, rfl, rfl, h514⟩
       exact hk k203 (srcG 3 rfl srcG0) <| ho 3 rfl (by kernel_rfl) fun K206 k207 => tk0 (k := (kInt .i64)) u25 i3 hY2_3 ⟨rfl, rfl⟩ rfl rfl rfl rfl rfl rfl fun v1312 F1313 h1314 => hk k207 (srcG 4 rfl srcG0) <| hv 8 rfl (rv_bv (vs := [(0, v512), (1, v1312), (2, v2112), (3, v2912)]) (ds := [v512, v1312, v2112, v2912, .slice none 0 0, .slice none 0 0, .int .i64 0]) rfl (fun w => by obtain ⟨_, _, rfl⟩ := (h514).len; obtain ⟨_, _, rfl⟩ := (h1314).len; obtain ⟨_, _, rfl⟩ := (h2114).len; obtain ⟨_, _, rfl⟩ := (h2914).len; kernel_rfl)) (by kernel_rfl) rfl <| ho 9 rfl (by kernel_rfl) fun K209 k210 => tb [v512, v1312, v2112, v2912, .slice none 0 0, .slice none 0 0, .int .i64 0] rfl rfl fun b3711 => hk k210 (srcG 5 rfl srcG0) <| hv 10 rfl sg (by kernel_rfl) rfl <| hz (by kernel_rfl) <| jn [0, 2, 1, 4, 3] (J4 h514 h1314 h2114 h2914 hp)
     · refine tk0 (k := (kInt .i64)) u25 i3 hY2_3 ⟨rfl, rfl⟩ rfl rfl rfl rfl rfl rfl fun v1312 F1313 h1314 => hk k212 (srcG 3 rfl srcG0) <| ho 1 rfl (by kernel_rfl) fun K214 k215 => tc 0 [_,_,_,_] rfl c26 (fun _ => calls_Calls_ok (a1 := a1) (h3.mono subH) hY2_1) rfl ?_
       rintro _ _ ⟨v512, F513, rfl, rfl, h514⟩
       exact hk k215 (srcG 4 rfl srcG0) <| hv 8 rfl (rv_bv (vs := [(0, v512), (1, v1312), (2, v2112), (3, v2912)]) (ds := [v512, v1312, v2112, v2912, .slice none 0 0, .slice none 0 0, .int .i64 0]) rfl (fun w => by obtain ⟨_, _, rfl⟩ := (h514).len; obtain ⟨_, _, rfl⟩ := (h1314).len; obtain ⟨_, _, rfl⟩ := (h2114).len; obtain ⟨_, _, rfl⟩ := (h2914).len; kernel_rfl)) (by kernel_rfl) rfl <| ho 9 rfl (by kernel_rfl) fun K218 k219 => tb [v512, v1312, v2112, v2912, .slice none 0 0, .slice none 0 0, .int .i64 0] rfl rfl fun b3711 => hk k219 (srcG 5 rfl srcG0) <| hv 10 rfl sg (by kernel_rfl) rfl <| hz (by kernel_rfl) <| jn [0, 1, 2, 4, 3] (J4 h514 h1314 h2114 h2914 hp)
 · refine tk0 (k := kBool) u88 i4 hY2_7 ⟨rfl, rfl⟩ rfl rfl rfl rfl rfl rfl fun v2912 F2913 h2914 => hk k221 (srcG 1 rfl srcG0) <| HL.all [1, 3, 5] (by kernel_rfl) (by simp) (HL.al ⟨_, rfl, fun K223 k224 => ?_⟩ (HL.al ⟨_, rfl, fun K243 k244 => ?_⟩ (HL.al ⟨_, rfl, fun K264 k265 => ?_⟩ HL.al0)))
   · refine tc 0 [_,_] rfl c26 (fun _ => calls_Calls_ok (a1 := a1) (h3.mono subH) hY2_1) rfl ?_
     rintro _ _ ⟨v512, F513, rfl, rfl, h514⟩
     refine hk k224 (srcG 2 rfl srcG0) <| HL.all [3, 5] (by kernel_rfl) (by simp) (HL.al ⟨_, rfl, fun K227 k228 => ?_⟩ (HL.al ⟨_, rfl, fun K235 k236 => ?_⟩ HL.al0))
     · exact tk0 (k := (kInt .i64)) u25 i3 hY2_3 ⟨rfl, rfl⟩ rfl rfl rfl rfl rfl rfl fun v1312 F1313 h1314 => hk k228 (srcG 3 rfl srcG0) <| ho 5 rfl (by kernel_rfl) fun K230 k231 => tk0 (k := (kInt .i64)) u25 i3 hY2_5 ⟨rfl, rfl⟩ rfl rfl rfl rfl rfl rfl fun v2112 F2113 h2114 => hk k231 (srcG 4 rfl srcG0) <| hv 8 rfl (rv_bv (vs := [(0, v512), (1, v1312), (2, v2112), (3, v2912)]) (ds := [v512, v1312, v2112, v2912, .slice none 0 0, .slice none 0 0, .int .i64 0]) rfl (fun w => by obtain ⟨_, _, rfl⟩ := (h514).len; obtain ⟨_, _, rfl⟩ := (h1314).len; obtain ⟨_, _, rfl⟩ := (h2114).len; obtain ⟨_, _, rfl⟩ := (h2914).len; kernel_rfl)) (by kernel_rfl) rfl <| ho 9 rfl (by kernel_rfl) fun K233 k234 => tb [v512, v1312, v2112, v2912, .slice none 0 0, .slice none 0 0, .int .i64 0] rfl rfl fun b3711 => hk k234 (srcG 5 rfl srcG0) <| hv 10 rfl sg (by kernel_rfl) rfl <| hz (by kernel_rfl) <| jn [0, 3, 2, 1, 4] (J4 h514 h1314 h2114 h2914 hp)
     · exact tk0 (k := (kInt .i64)) u25 i3 hY2_5 ⟨rfl, rfl⟩ rfl rfl rfl rfl rfl rfl fun v2112 F2113 h2114 => hk k236 (srcG 3 rfl srcG0) <| ho 3 rfl (by kernel_rfl) fun K238 k239 => tk0 (k := (kInt .i64)) u25 i3 hY2_3 ⟨rfl, rfl⟩ rfl rfl rfl rfl rfl rfl fun v1312 F1313 h1314 => hk k239 (srcG 4 rfl srcG0) <| hv 8 rfl (rv_bv (vs := [(0, v512), (1, v1312), (2, v2112), (3, v2912)]) (ds := [v512, v1312, v2112, v2912, .slice none 0 0, .slice none 0 0, .int .i64 0]) rfl (fun w => by obtain ⟨_, _, rfl⟩ := (h514).len; obtain ⟨_, _, rfl⟩ := (h1314).len; obtain ⟨_, _, rfl⟩ := (h2114).len; obtain ⟨_, _, rfl⟩ := (h2914).len; kernel_rfl)) (by kernel_rfl) rfl <| ho 9 rfl (by kernel_rfl) fun K241 k242 => tb [v512, v1312, v2112, v2912, .slice none 0 0, .slice none 0 0, .int .i64 0] rfl rfl fun b3711 => hk k242 (srcG 5 rfl srcG0) <| hv 10 rfl sg (by kernel_rfl) rfl <| hz (by kernel_rfl) <| jn [0, 3, 1, 2, 4] (J4 h514 h1314 h2114 h2914 hp)
   · refine tk0 (k := (kInt .i64)) u25 i3 hY2_3 ⟨rfl, rfl⟩ rfl rfl rfl rfl rfl rfl fun v1312 F1313 h1314 => hk k244 (srcG 2 rfl srcG0) <| HL.all [1, 5] (by kernel_rfl) (by simp) (HL.al ⟨_, rfl, fun K246 k247 => ?_⟩ (HL.al ⟨_, rfl, fun K255 k256 => ?_⟩ HL.al0))
     · refine tc 0 [_,_,_] rfl c26 (fun _ => calls_Calls_ok (a1 := a1) (h3.mono subH) hY2_1) rfl ?_
       rintro _ _ ⟨v512, F513, rfl, rfl, h514⟩
       exact hk k247 (srcG 3 rfl srcG0) <| ho 5 rfl (by kernel_rfl) fun K250 k251 => tk0 (k := (kInt .i64)) u25 i3 hY2_5 ⟨rfl, rfl⟩ rfl rfl rfl rfl rfl rfl fun v2112 F2113 h2114 => hk k251 (srcG 4 rfl srcG0) <| hv 8 rfl (rv_bv (vs := [(0, v512), (1, v1312), (2, v2112), (3, v2912)]) (ds := [v512, v1312, v2112, v2912, .slice none 0 0, .slice none 0 0, .int .i64 0]) rfl (fun w => by obtain ⟨_, _, rfl⟩ := (h514).len; obtain ⟨_, _, rfl⟩ := (h1314).len; obtain ⟨_, _, rfl⟩ := (h2114).len; obtain ⟨_, _, rfl⟩ := (h2914).len; kernel_rfl)) (by kernel_rfl) rfl <| ho 9 rfl (by kernel_rfl) fun K253 k254 => tb [v512, v1312, v2112, v2912, .slice none 0 0, .slice none 0 0, .int .i64 0] rfl rfl fun b3711 => hk k254 (srcG 5 rfl srcG0) <| hv 10 rfl sg (by kernel_rfl) rfl <| hz (by kernel_rfl) <| jn [0, 2, 3, 1, 4] (J4 h514 h1314 h2114 h2914 hp)
     · refine tk0 (k := (kInt .i64)) u25 i3 hY2_5 ⟨rfl, rfl⟩ rfl rfl rfl rfl rfl rfl fun v2112 F2113 h2114 => hk k256 (srcG 3 rfl srcG0) <| ho 1 rfl (by kernel_rfl) fun K258 k259 => tc 0 [_,_,_,_] rfl c26 (fun _ => calls_Calls_ok (a1 := a1) (h3.mono subH) hY2_1) rfl ?_
       rintro _ _ ⟨v512, F513, rfl, rfl, h514⟩
       exact hk k259 (srcG 4 rfl srcG0) <| hv 8 rfl (rv_bv (vs := [(0, v512), (1, v1312), (2, v2112), (3, v2912)]) (ds := [v512, v1312, v2112, v2912, .slice none 0 0, .slice none 0 0, .int .i64 0]) rfl (fun w => by obtain ⟨_, _, rfl⟩ := (h514).len; obtain ⟨_, _, rfl⟩ := (h1314).len; obtain ⟨_, _, rfl⟩ := (h2114).len; obtain ⟨_, _, rfl⟩ := (h2914).len; kernel_rfl)) (by kernel_rfl) rfl <| ho 9 rfl (by kernel_rfl) fun K262 k263 => tb [v512, v1312, v2112, v2912, .slice none 0 0, .slice none 0 0, .int .i64 0] rfl rfl fun b3711 => hk k263 (srcG 5 rfl srcG0) <| hv 10 rfl sg (by kernel_rfl) rfl <| hz (by kernel_rfl) <| jn [0, 1, 3, 2, 4] (J4 h514 h1314 h2114 h2914 hp)
   · refine tk0 (k := (kInt .i64)) u25 i3 hY2_5 ⟨rfl, rfl⟩ rfl rfl rfl rfl rfl rfl fun v2112 F2113 h2114 => hk k265 (srcG 2 rfl srcG0) <| HL.all [1, 3] (by kernel_rfl) (by simp) (HL.al ⟨_, rfl, fun K267 k268 => ?_⟩ (HL.al ⟨_, rfl, fun K276 k277 => ?_⟩ HL.al0))
     · refine tc 0 [_,_,_] rfl c26 (fun _ => calls_Calls_ok (a1 := a1) (h3.mono subH) hY2_1) rfl ?_
       rintro _ _ ⟨v512, F513, rfl, rfl, h514⟩
       exact hk k268 (srcG 3 rfl srcG0) <| ho 3 rfl (by kernel_rfl) fun K271 k272 => tk0 (k := (kInt .i64)) u25 i3 hY2_3 ⟨rfl, rfl⟩ rfl rfl rfl rfl rfl rfl fun v1312 F1313 h1314 => hk k272 (srcG 4 rfl srcG0) <| hv 8 rfl (rv_bv (vs := [(0, v512), (1, v1312), (2, v2112), (3, v2912)]) (ds := [v512, v1312, v2112, v2912, .slice none 0 0, .slice none 0 0, .int .i64 0]) rfl (fun w => by obtain ⟨_, _, rfl⟩ := (h514).len; obtain ⟨_, _, rfl⟩ := (h1314).len; obtain ⟨_, _, rfl⟩ := (h2114).len; obtain ⟨_, _, rfl⟩ := (h2914).len; kernel_rfl)) (by kernel_rfl) rfl <| ho 9 rfl (by kernel_rfl) fun K274 k275 => tb [v512, v1312, v2112, v2912, .slice none 0 0, .slice none 0 0, .int .i64 0] rfl rfl fun b3711 => hk k275 (srcG 5 rfl srcG0) <| hv 10 rfl sg (by kernel_rfl) rfl <| hz (by kernel_rfl) <| jn [0, 2, 1, 3, 4] (J4 h514 h1314 h2114 h2914 hp)
     · refine tk0 (k := (kInt .i64)) u25 i3 hY2_3 ⟨rfl, rfl⟩ rfl rfl rfl rfl rfl rfl fun v1312 F1313 h1314 => hk k277 (srcG 3 rfl srcG0) <| ho 1 rfl (by kernel_rfl) fun K279 k280 => tc 0 [_,_,_,_] rfl c26 (fun _ => calls_Calls_ok (a1 := a1) (h3.mono subH) hY2_1) rfl ?_
       rintro _ _ ⟨v512, F513, rfl, rfl, h514⟩
       exact hk k280 (srcG 4 rfl srcG0) <| hv 8 rfl (rv_bv (vs := [(0, v512), (1, v1312), (2, v2112), (3, v2912)]) (ds := [v512, v1312, v2112, v2912, .slice none 0 0, .slice none 0 0, .int .i64 0]) rfl (fun w => by obtain ⟨_, _, rfl⟩ := (h514).len; obtain ⟨_, _, rfl⟩ := (h1314).len; obtain ⟨_, _, rfl⟩ := (h2114).len; obtain ⟨_, _, rfl⟩ := (h2914).len; kernel_rfl)) (by kernel_rfl) rfl <| ho 9 rfl (by kernel_rfl) fun K283 k284 => tb [v512, v1312, v2112, v2912, .slice none 0 0, .slice none 0 0, .int .i64 0] rfl rfl fun b3711 => hk k284 (srcG 5 rfl srcG0) <| hv 10 rfl sg (by kernel_rfl) rfl <| hz (by kernel_rfl) <| jn [0, 1, 2, 3, 4] (J4 h514 h1314 h2114 h2914 hp)

/-! ### slices.Contains[[]int,int] -/
abbrev slices_Contains.R (r : Bool) (v : Value) (A : List FP) : Prop := .bool r = v ∧ A = []
def slices_Contains (a1 : List Int) (a4 : Int) : Option Bool :=
  (slices_Index a1 a4).bind fun x5 =>
  some (decide (x5 ≥ 0))
theorem slices_Contains_ok {E : World} {H : FP} {w : World} {a1 : List Int} {a4 : Int} {v2 : Value} {r : Bool} (h3 : SlI (kInt .i64) H a1 v2) (hp : slices_Contains a1 a4 = some r) (hst : St E H [] w) :
    Fn Try.prog 62 #[v2, .int .i64 a4] w fun v w' => ∃ A, slices_Contains.R r v A ∧ St E H A w' := by
 refine fb 9 [.tmp 4] Try.func62 rfl rfl rfl rfl rfl hst <| sr <| ta rfl <| nz <| sr <| tm rfl <| tm rfl <| bE hp fun x5 hy1 hp => tc 0 [] rfl c87 (fun _ => slices_Index_ok (a1 := a1) (a4 := a4) (h3.mono subH) hy1) rfl ?_
 rintro _ _ ⟨rfl, rfl⟩
 exact tv (bge rfl rfl) rfl <| ta rfl <| nz <| TC.ret <| rt hp [] ⟨rfl, rfl⟩

/-! ### slices.SortFunc[[][]int,[]int] -/


/-! ### fettle/calls.Waves -/
abbrev calls_Waves.R (r : List (List (List Int))) (v : Value) (A : List FP) : Prop := ∃ (w1 : Value) (G1 : FP), w1 = v ∧ A = [G1] ∧ SlO 60 (kSl 25 (kSl 3 (kInt .i64))) r w1 G1
def calls_Waves.nx22  (x36 : List (List (List Int))) : Option (List (List (List Int))) :=
  some x36
def calls_Waves.bd22 (x28 : List (List (List Int))) (x32 : List (List (List Int))) (x35 : Int) : Option (Ex (List (List (List Int))) (List (List (List Int)) × Int)) :=
  if x35 < (len x28) then
    (idx x32 x35).bind fun x39 =>
    (slices_SortFunc_int_int_calls_byFirst x39).bind fun x48 =>
    some (.go ((x32.set (x35).toNat x48), (w64 (x35 + 1))))
  else
    some (.ret x32)
def calls_Waves.nx13  (x28 : List (List (List Int))) : Option (List (List (List Int))) :=
  (whl (fun (s : (List (List (List Int)) × Int)) => calls_Waves.bd22 x28 s.1 s.2) FUEL (x28, 0)).bind fun z =>
  calls_Waves.nx22 z
def calls_Waves.nx69 (x24 : List (Option (List Int))) (x27 : Int) (x53 : List Int) (x64 : Int) (x69 : List Int) (x76 : List (List (List Int))) : Option (Ex (List (List (List Int))) (List Int × List (List (List Int)) × List (Option (List Int)) × Int)) :=
  (idx x76 x64).bind fun x80 =>
  (cat x80 [x53]).bind fun x90 =>
  some (.go (x69, (x76.set (x64).toNat x90), (x24.set (x27).toNat none), (w64 (x27 + 1))))
def calls_Waves.bd69 (x64 : Int) (x72 : List (List (List Int))) : Option (Ex (List (List (List Int))) (List (List (List Int)))) :=
  if (len x72) ≤ x64 then
    (cat x72 [([] : List (List Int))]).bind fun x102 =>
    some (.go x102)
  else
    some (.ret x72)
def calls_Waves.nx60 (x20 : List (List (List Int))) (x24 : List (Option (List Int))) (x27 : Int) (x53 : List Int) (x64 : Int) (x69 : List Int) : Option (Ex (List (List (List Int))) (List Int × List (List (List Int)) × List (Option (List Int)) × Int)) :=
  (whl (fun (s : (List (List (List Int)))) => calls_Waves.bd69 x64 s) FUEL x20).bind fun z =>
  calls_Waves.nx69 x24 x27 x53 x64 x69 z
def calls_Waves.bd60 (x53 : List Int) (x64 : Int) (x65 : List Int) (x68 : Int) : Option (Ex (List Int) (List Int × Int)) :=
  if x68 < (len x53) then
    (idx x53 x68).bind fun x107 =>
    (idx x65 x107).bind fun x113 =>
    some (.go ((x65.set (x107).toNat x64), (w64 (x68 + 1))))
  else
    some (.ret x65)
def calls_Waves.nx51 (x17 : List Int) (x20 : List (List (List Int))) (x24 : List (Option (List Int))) (x27 : Int) (x53 : List Int) (x64 : Int) : Option (Ex (List (List (List Int))) (List Int × List (List (List Int)) × List (Option (List Int)) × Int)) :=
  (whl (fun (s : (List Int × Int)) => calls_Waves.bd60 x53 x64 s.1 s.2) FUEL (x17, 0)).bind fun z =>
  calls_Waves.nx60 x20 x24 x27 x53 x64 z
def calls_Waves.nx107 (x63 : Int) (x135 : Int) : Option (Ex Int (Int × Int)) :=
  some (.go (x135, (w64 (x63 + 1))))
def calls_Waves.jn117 (x134 : Int) (x136 : Int) : Option (Ex Int (Int × Int)) :=
  some (.go (x136, (w64 (x134 + 1))))
def calls_Waves.bd107 (x17 : List Int) (x53 : List Int) (x125 : List Int) (x133 : Int) (x134 : Int) : Option (Ex Int (Int × Int)) :=
  if x134 < (len x125) then
    (idx x125 x134).bind fun x137 =>
    (slices_Contains x53 x137).bind fun x143 =>
    if (!x143) = true then
      (idx x17 x137).bind fun x144 =>
      calls_Waves.jn117 x134 (if x133 < (w64 (x144 + 1)) then (w64 (x144 + 1)) else x133)
    else
      calls_Waves.jn117 x134 x133
  else
    some (.ret x133)
def calls_Waves.bd51 (x5 : List (List Int)) (x17 : List Int) (x53 : List Int) (x62 : Int) (x63 : Int) : Option (Ex Int (Int × Int)) :=
  if x63 < (len x53) then
    (idx x53 x63).bind fun x119 =>
    (idx x5 x119).bind fun x125 =>
    (whl (fun (s : (Int × Int)) => calls_Waves.bd107 x17 x53 x125 s.1 s.2) FUEL (x62, 0)).bind fun z =>
    calls_Waves.nx107 x63 z
  else
    some (.ret x62)
def calls_Waves.bd13 (x5 : List (List Int)) (x13 : List (List Int)) (x17 : List Int) (x20 : List (List (List Int))) (x24 : List (Option (List Int))) (x27 : Int) : Option (Ex (List (List (List Int))) (List Int × List (List (List Int)) × List (Option (List Int)) × Int)) :=
  if x27 < (len x13) then
    (idxO x24 x27).bind fun x53 =>
    (whl (fun (s : (Int × Int)) => calls_Waves.bd51 x5 x17 x53 s.1 s.2) FUEL (0, 0)).bind fun z =>
    calls_Waves.nx51 x17 x20 x24 x27 x53 z
  else
    some (.ret x20)
def calls_Waves (a1 : PModule) : Option (List (List (List Int))) :=
  (calls_Calls a1).bind fun x5 =>
  (mkl (len x5) (0 : Int)).bind fun x9 =>
  (calls_found a1).bind fun x13 =>
  (whl (fun (s : (List Int × List (List (List Int)) × List (Option (List Int)) × Int)) => calls_Waves.bd13 x5 x13 s.1 s.2.1 s.2.2.1 s.2.2.2) FUEL (x9, ([] : List (List (List Int))), (List.map some x13), 0)).bind fun z =>
  calls_Waves.nx13 z
set_option maxHeartbeats 4000000 in
theorem calls_Waves_ok {E : World} {H : FP} {w : World} {a1 : PModule} {v2 : Value} {r : List (List (List Int))} (h3 : SlI kFunc H a1.funcs v2) (hp : calls_Waves a1 = some r) (hst : St E H [] w) :
    Fn Try.prog 25 #[.agg #[v2]] w fun v w' => ∃ A, calls_Waves.R r v A ∧ St E H A w' := by
 refine fb 96 [.tmp 2] Try.func25 rfl rfl rfl rfl rfl hst <| sr <| tb [v2] rfl rfl fun b4 => ta rfl <| nz <| sr <| tv (lA (ds := [v2]) ag_35 0 rfl rfl rfl rfl) rfl <| bE hp fun x5 hy1 hp => tc 0 [_] rfl c26 (fun _ => calls_Calls_ok (a1 := a1) (h3.mono subH) hy1) rfl ?_
 rintro _ _ ⟨v6, F7, rfl, rfl, h8⟩
 refine ta rfl <| nz <| sr <| tm rfl <| tv (ln u60 h8.ro rfl) rfl <| tk (k := (kInt .i64)) u25 i3 hp ⟨rfl, rfl⟩ rfl rfl rfl rfl rfl rfl fun x9 v10 F11 h12 hp => ta rfl <| nz <| sr <| ta rfl <| nz <| TC.seq fun K4 k5 => sr <| tv (lA (ds := [v2]) ag_35 2 rfl rfl rfl rfl) rfl <| bE hp fun x13 hy6 hp => tc 0 [_,_,_] rfl c61 (fun _ => calls_found_ok (a1 := a1) (h3.mono subH) hy6) rfl ?_
 rintro _ _ ⟨v14, F15, rfl, rfl, h16⟩
 refine tv (ln u60 h16.ro rfl) rfl <| tm rfl <| nz <| TC.block <| bE hp fun z_9 hz10 hr11 => ?_
 have J36 {x28 v29 F30 e14} (h31 : SlO 60 (kSl 25 (kSl 3 (kInt .i64))) x28 v29 F30) (hq37 : x28 = z_9) : ∀ w, St E H [F30] w → K4 (ovr e14 [(5, v29)]) w := by
  subst hq37
  replace hp : calls_Waves.nx13 x28 = some r := hr11
  refine tg k5 <| TC.seq fun K15 k16 => sr <| tm rfl <| tv (ln u58 h31.ro rfl) rfl <| tm rfl <| nz <| TC.block <| bE hp fun z_18 hz19 hr20 => ?_
  have J24 {x36 F37 e23} (h38 : SlO 60 (kSl 25 (kSl 3 (kInt .i64))) x36 v29 F37) (hq25 : x36 = z_18) : ∀ w, St E H [F37] w → K15 (ovr e23 [(5, v29)]) w := by
   subst hq25
   replace hp : calls_Waves.nx22 x36 = some r := hr20
   exact tg k16 <| sr <| tm rfl <| ta rfl <| nz <| TC.ret <| rt hp [0] ⟨v29, F37, rfl, rfl, h38⟩
  refine lp hz19 [0] rfl (fun s e L => ∃ x32 x35 F33 e17, s = (x32, x35) ∧ SlO 60 (kSl 25 (kSl 3 (kInt .i64))) x32 v29 F33 ∧ e = ovr e17 [(5, v29), (86, v29), (87, .int .i64 (len x28)), (88, .int .i64 x35)] ∧ L = [F33]) ⟨_, _, F30, _, rfl, h31, ovr_eq _ _ rfl, rfl⟩ ?_
  rintro _ _ _ ⟨x32, x35, F33, e17, rfl, h34, rfl, rfl⟩ X21 hp hx22
  replace hp : calls_Waves.bd22 x28 x32 x35 = some X21 := hp
  refine sr <| tv (blt rfl rfl) rfl <| nz <| TC.seq fun K26 k27 => cD rfl hp (fun hc28 hp => ?_) fun hc28 hp => ?_
  · refine sk k27 rfl <| TC.seq fun K29 k30 => TC.block <| sr <| bE hp fun x39 hx31 hp => TL.open_ h34 hx31 ?_
    rintro b40 _ F42 F43 h44 ⟨v46, rfl, h47⟩
    refine tv (rv_ixH u58 i60 rfl rfl (idx_some hx31).1 h44) rfl <| tv (lr s60 (Src.at_ 0 rfl) (Hole.cells h44) 0 rfl rfl) rfl <| ta rfl <| nz <| TC.region <| tm rfl <| tp [1, 0] [_,_] rfl rfl <| bE hp fun x48 hy32 hp => tc 1 [_] rfl c63 (fun _ => slices_SortFunc_int_int_calls_byFirst_ok (a1 := x39) h47 hy32) rfl ?_
    rintro _ _ ⟨F49, rfl, rfl, h50⟩
    exact nl <| tg k30 <| TC.region <| tv (bad rfl rfl) rfl <| tm rfl <| nl <| wp [1, 0] [_,_] rfl rfl <| W.shut (a := x48) h44 ⟨_, rfl, h50⟩ fun F51 h52 => gk hp [0] ⟨_, _, F51, _, rfl, h52, ovr_eq _ _ rfl, rfl⟩
  · exact TC.exit <| jn [0] (J24 h34 (ex_ret hp hx22))
 refine W.new0 <| lp hz10 [3, 2, 0, 1] rfl (fun s e L => ∃ x17 x20 x24 x27 F18 v21 F22 F25 e8, s = (x17, x20, x24, x27) ∧ SlO 3 (kInt .i64) x17 v10 F18 ∧ SlO 60 (kSl 25 (kSl 3 (kInt .i64))) x20 v21 F22 ∧ SlO 25 (kOpt (kSl 3 (kInt .i64))) x24 v14 F25 ∧ e = ovr e8 [(3, v6), (4, v10), (5, v21), (23, v14), (24, .int .i64 (len x13)), (25, .int .i64 x27)] ∧ L = [F7, F18, F22, F25]) ⟨_, _, _, _, F11, (.slice none 0 0), ([] : FP), F15, _, rfl, h12, (SlO.nil 60), (SlO.toOpt h16), ovr_eq _ _ rfl, rfl⟩ ?_
 rintro _ _ _ ⟨x17, x20, x24, x27, F18, v21, F22, F25, e8, rfl, h19, h23, h26, rfl, rfl⟩ X12 hp hx13
 replace hp : calls_Waves.bd13 x5 x13 x17 x20 x24 x27 = some X12 := hp
 refine sr <| tv (blt rfl rfl) rfl <| nz <| TC.seq fun K38 k39 => cD rfl hp (fun hc40 hp => ?_) fun hc40 hp => ?_
 · refine sk k39 rfl <| TC.seq fun K41 k42 => TC.block <| sr <| tp [3, 0, 1, 2] [_,_,_,_] rfl rfl <| bE hp fun x53 hx43 hp => TL.open_ h26 (idxO_some hx43) ?_
   rintro b54 _ F56 F57 h58 ⟨v60, rfl, h61⟩
   refine tv (rv_ixH u60 i25 rfl rfl (idx_some (idxO_some hx43)).1 h58) rfl <| tv (lr s25 (Src.at_ 0 rfl) (Hole.cells h58) 0 rfl rfl) rfl <| ta rfl <| nz <| sr <| ta rfl <| nz <| TC.seq fun K44 k45 => sr <| tm rfl <| tv (ln u25 h61.ro rfl) rfl <| tm rfl <| nz <| TC.block <| bE hp fun z_47 hz48 hr49 => ?_
   have J93 {x64 e52} (hq94 : x64 = z_47) : ∀ w, St E H [F57, F56, F7, F18, F22] w → K44 (ovr e52 [(3, v6), (4, v10), (5, v21), (7, v60), (8, .int .i64 x64), (23, v14), (24, .int .i64 (len x13)), (25, .int .i64 x27)]) w := by
    subst hq94
    replace hp : calls_Waves.nx51 x17 x20 x24 x27 x53 x64 = some X12 := hr49
    refine tg k45 <| TC.seq fun K53 k54 => sr <| tm rfl <| tv (ln u25 h61.ro rfl) rfl <| tm rfl <| nz <| TC.block <| bE hp fun z_56 hz57 hr58 => ?_
    have J82 {x69 F70 e61} (h71 : SlO 3 (kInt .i64) x69 v10 F70) (hq83 : x69 = z_56) : ∀ w, St E H [F57, F56, F7, F70, F22] w → K53 (ovr e61 [(3, v6), (4, v10), (5, v21), (7, v60), (8, .int .i64 x64), (23, v14), (24, .int .i64 (len x13)), (25, .int .i64 x27)]) w := by
     subst hq83
     replace hp : calls_Waves.nx60 x20 x24 x27 x53 x64 x69 = some X12 := hr58
     refine tg k54 <| TC.seq fun K62 k63 => TC.block <| bE hp fun z_65 hz66 hr67 => ?_
     have J74 {x76 v77 F78 e70} (h79 : SlO 60 (kSl 25 (kSl 3 (kInt .i64))) x76 v77 F78) (hq75 : x76 = z_65) : ∀ w, St E H [F57, F56, F7, F70, F78] w → K62 (ovr e70 [(3, v6), (4, v10), (5, v77), (7, v60), (8, .int .i64 x64), (23, v14), (24, .int .i64 (len x13)), (25, .int .i64 x27)]) w := by
      subst hq75
      replace hp : calls_Waves.nx69 x24 x27 x53 x64 x69 x76 = some X12 := hr67
      refine tg k63 <| TC.region <| tm rfl <| tm rfl <| tm rfl <| tm rfl <| tp [4, 0, 1, 2, 3] [_,_,_,_,_] rfl rfl <| bE hp fun x80 hx71 hp => TL.open_ h79 hx71 ?_
      rintro b81 _ F83 F84 h85 ⟨v87, rfl, h88⟩
      exact tv (rv_ixH u58 i60 rfl rfl (idx_some hx71).1 h85) rfl <| tv (lr s60 (Src.at_ 0 rfl) (Hole.cells h85) 0 rfl rfl) rfl <| tm rfl <| tbs [(0, v60)] [v60] u60 i25 (by obtain ⟨_, _, rfl⟩ := (h61).len; kernel_rfl) rfl rfl rfl rfl fun b89 => tp [4, 0, 1, 2, 3, 5, 6] [_,_,_,_,_,_,_] rfl rfl <| TL.empty <| TL.shut (a := none) h58 ⟨rfl, rfl, (oc (h61).one oc0)⟩ fun F91 h92 => tp [3, 1, 4, 0, 2, 5, 6] [_,_,_,_,_,_,_] rfl rfl <| tp2 u60 i25 h88 hp (RepL.to (G' := F57) (RepL.cons (k := (kSl 3 (kInt .i64))) (x := x53) ⟨_, rfl, h61⟩ RepL.nil) (by simp)) rfl rfl rfl rfl rfl rfl rfl rfl rfl fun x90 v93 F94 h95 hp => tv (rv_ixH u58 i60 rfl rfl (idx_some hx71).1 h85) rfl <| tp [2, 0, 1, 3, 4] [_,_,_,_,_] rfl rfl <| tsH h85 m60 0 rfl h95.o1 rfl fun F97 h98 => nl <| tg k42 <| TC.region <| tv (bad rfl rfl) rfl <| tm rfl <| nl <| W.shut (a := x90) h98 ⟨_, rfl, h95⟩ fun F99 h100 => gk hp [2, 3, 0, 1] ⟨_, _, _, _, F70, v77, F99, F91, _, rfl, h71, h100, h92, ovr_eq _ _ rfl, rfl⟩
     refine lp hz66 [0, 1, 2, 3, 4] rfl (fun s e L => ∃ v73 F74 e64, SlO 60 (kSl 25 (kSl 3 (kInt .i64))) s v73 F74 ∧ e = ovr e64 [(3, v6), (4, v10), (5, v73), (7, v60), (8, .int .i64 x64), (23, v14), (24, .int .i64 (len x13)), (25, .int .i64 x27)] ∧ L = [F57, F56, F7, F70, F74]) ⟨v21, F22, _, h23, ovr_eq _ _ rfl, rfl⟩ ?_
     rintro x72 _ _ ⟨v73, F74, e64, h75, rfl, rfl⟩ X68 hp hx69
     replace hp : calls_Waves.bd69 x64 x72 = some X68 := hp
     refine TC.seq fun K76 k77 => sr <| tm rfl <| tv (ln u58 h75.ro rfl) rfl <| tm rfl <| tv (ble rfl rfl) rfl <| nz <| cD rfl hp (fun hc78 hp => ?_) fun hc78 hp => ?_
     · exact sk k77 rfl <| TC.block <| TC.region <| tm rfl <| tbs [(0, .slice none 0 0)] [.slice none 0 0] u58 i60 (by kernel_rfl) rfl rfl rfl rfl fun b101 => TL.new0 <| tp [6, 1, 0, 2, 3, 4, 5] [_,_,_,_,_,_,_] rfl rfl <| tp2 u58 i60 h75 hp (RepL.to (G' := ([] : FP)) (RepL.cons (k := (kSl 25 (kSl 3 (kInt .i64)))) (x := ([] : List (List Int))) ⟨_, rfl, (SlO.nil 25)⟩ RepL.nil) (by simp)) rfl rfl rfl rfl rfl rfl rfl rfl rfl fun x102 v104 F105 h106 hp => ta rfl <| nl <| gk hp [1, 2, 3, 4, 0] ⟨v104, F105, _, h106, ovr_eq _ _ rfl, rfl⟩
     · exact TC.exit <| jn [0, 1, 2, 3, 4] (J74 h75 (ex_ret hp hx69))
    refine lp hz57 [0, 1, 2, 3, 4] rfl (fun s e L => ∃ x65 x68 F66 e55, s = (x65, x68) ∧ SlO 3 (kInt .i64) x65 v10 F66 ∧ e = ovr e55 [(3, v6), (4, v10), (5, v21), (7, v60), (8, .int .i64 x64), (23, v14), (24, .int .i64 (len x13)), (25, .int .i64 x27), (57, v60), (58, .int .i64 (len x53)), (59, .int .i64 x68)] ∧ L = [F57, F56, F7, F66, F22]) ⟨_, _, F18, _, rfl, h19, ovr_eq _ _ rfl, rfl⟩ ?_
    rintro _ _ _ ⟨x65, x68, F66, e55, rfl, h67, rfl, rfl⟩ X59 hp hx60
    replace hp : calls_Waves.bd60 x53 x64 x65 x68 = some X59 := hp
    refine sr <| tv (blt rfl rfl) rfl <| nz <| TC.seq fun K84 k85 => cD rfl hp (fun hc86 hp => ?_) fun hc86 hp => ?_
    · refine sk k85 rfl <| TC.seq fun K87 k88 => TC.block <| sr <| ti u25 i3 (h61).ro hp rfl rfl rfl rfl ?_
      rintro x107 b108 o109 _ hp rfl h112
      exact tv (lr s3 (Src.at_ 0 rfl) h112 0 rfl rfl) rfl <| ta rfl <| nz <| TC.region <| tm rfl <| tm rfl <| tm rfl <| tO u25 i3 h67 hp rfl rfl rfl rfl fun x113 b114 o115 h116 hp => tp [3, 0, 1, 2, 4] [_,_,_,_,_] rfl rfl <| tE h67 h116 m3 rfl ⟨rfl, rfl⟩ w1 fun F117 h118 => nl <| tg k88 <| TC.region <| tv (bad rfl rfl) rfl <| tm rfl <| nl <| gk hp [1, 2, 3, 0, 4] ⟨_, _, F117, _, rfl, h118, ovr_eq _ _ rfl, rfl⟩
    · exact TC.exit <| jn [0, 1, 2, 3, 4] (J82 h67 (ex_ret hp hx60))
   refine lp hz48 [1, 0, 2, 3, 4] rfl (fun s e L => ∃ x62 x63 e46, s = (x62, x63) ∧ e = ovr e46 [(3, v6), (4, v10), (5, v21), (7, v60), (8, .int .i64 x62), (23, v14), (24, .int .i64 (len x13)), (25, .int .i64 x27), (29, v60), (30, .int .i64 (len x53)), (31, .int .i64 x63)] ∧ L = [F57, F56, F7, F18, F22]) ⟨_, _, _, rfl, ovr_eq _ _ rfl, rfl⟩ ?_
   rintro _ _ _ ⟨x62, x63, e46, rfl, rfl, rfl⟩ X50 hp hx51
   replace hp : calls_Waves.bd51 x5 x17 x53 x62 x63 = some X50 := hp
   refine sr <| tv (blt rfl rfl) rfl <| nz <| TC.seq fun K95 k96 => cD rfl hp (fun hc97 hp => ?_) fun hc97 hp => ?_
   · refine sk k96 rfl <| TC.seq fun K98 k99 => TC.block <| sr <| ti u25 i3 (h61).ro hp rfl rfl rfl rfl ?_
     rintro x119 b120 o121 _ hp rfl h124
     refine tv (lr s3 (Src.at_ 0 rfl) h124 0 rfl rfl) rfl <| ta rfl <| nz <| sr <| tm rfl <| tm rfl <| ti u60 i25 (h8).ro hp rfl rfl rfl rfl ?_
     rintro x125 b126 o127 _ hp ⟨v131, rfl, h132⟩ h130
     refine tv (lr s25 (Src.at_ 2 rfl) h130 0 rfl rfl) rfl <| tv (ln u25 h132 rfl) rfl <| tm rfl <| nz <| TC.block <| bE hp fun z_103 hz104 hr105 => ?_
     have J109 {x135 e108} (hq110 : x135 = z_103) : ∀ w, St E H [F57, F56, F7, F18, F22] w → K98 (ovr e108 [(3, v6), (4, v10), (5, v21), (7, v60), (8, .int .i64 x135), (23, v14), (24, .int .i64 (len x13)), (25, .int .i64 x27), (29, v60), (30, .int .i64 (len x53)), (31, .int .i64 x63)]) w := by
      subst hq110
      replace hp : calls_Waves.nx107 x63 x135 = some X50 := hr105
      exact tg k99 <| TC.region <| tv (bad rfl rfl) rfl <| tm rfl <| nl <| gk hp [0, 1, 2, 3, 4] ⟨_, _, _, rfl, ovr_eq _ _ rfl, rfl⟩
     refine lp hz104 [0, 1, 2, 3, 4] rfl (fun s e L => ∃ x133 x134 e102, s = (x133, x134) ∧ e = ovr e102 [(3, v6), (4, v10), (5, v21), (7, v60), (8, .int .i64 x133), (23, v14), (24, .int .i64 (len x13)), (25, .int .i64 x27), (29, v60), (30, .int .i64 (len x53)), (31, .int .i64 x63), (38, v131), (39, .int .i64 (len x125)), (40, .int .i64 x134)] ∧ L = [F57, F56, F7, F18, F22]) ⟨_, _, _, rfl, ovr_eq _ _ rfl, rfl⟩ ?_
     rintro _ _ _ ⟨x133, x134, e102, rfl, rfl, rfl⟩ X106 hp hx107
     replace hp : calls_Waves.bd107 x17 x53 x125 x133 x134 = some X106 := hp
     refine sr <| tv (blt rfl rfl) rfl <| nz <| TC.seq fun K111 k112 => cD rfl hp (fun hc113 hp => ?_) fun hc113 hp => ?_
     · refine sk k112 rfl <| TC.seq fun K114 k115 => ?_
       have J117 {x136 e116} (hp : calls_Waves.jn117 x134 x136 = some X106) : ∀ w, St E H [F57, F56, F7, F18, F22] w → K114 (ovr e116 [(3, v6), (4, v10), (5, v21), (7, v60), (8, .int .i64 x136), (23, v14), (24, .int .i64 (len x13)), (25, .int .i64 x27), (29, v60), (30, .int .i64 (len x53)), (31, .int .i64 x63), (38, v131), (39, .int .i64 (len x125)), (40, .int .i64 x134)]) w := by
        exact tg k115 <| TC.region <| tv (bad rfl rfl) rfl <| tm rfl <| nl <| gk hp [0, 1, 2, 3, 4] ⟨_, _, _, rfl, ovr_eq _ _ rfl, rfl⟩
       refine TC.block <| sr <| ti u25 i3 h132 hp rfl rfl rfl rfl ?_
       rintro x137 b138 o139 _ hp rfl h142
       refine tv (lr s3 (Src.at_ 2 rfl) h142 0 rfl rfl) rfl <| ta rfl <| nz <| sr <| tm rfl <| tm rfl <| bE hp fun x143 hy119 hp => tc 0 [_,_,_,_,_] rfl c62 (fun _ => slices_Contains_ok (a1 := x53) (a4 := x137) (h61.ro.mono (subB 0 rfl)) hy119) rfl ?_
       rintro _ _ ⟨rfl, rfl⟩
       refine tv (rv_not rfl) rfl <| nz <| cB rfl hp (fun hc121 hp => ?_) fun hc121 hp => ?_
       · refine TC.region <| tm rfl <| tm rfl <| tm rfl <| ti u25 i3 (h19).ro hp rfl rfl rfl rfl ?_
         rintro x144 b145 o146 _ hp rfl h149
         exact tv (lr s3 (Src.at_ 3 rfl) h149 0 rfl rfl) rfl <| tv (bad rfl rfl) rfl <| tv (bmax rfl rfl) rfl <| ta rfl <| nl <| jn [0, 1, 2, 3, 4] (J117 hp)
       · exact TC.skip <| jn [0, 1, 2, 3, 4] (J117 hp)
     · exact TC.exit <| jn [0, 1, 2, 3, 4] (J109 (ex_ret hp hx107))
   · exact TC.exit <| jn [0, 1, 2, 3, 4] (J93 (ex_ret hp hx51))
 · exact TC.exit <| jn [2] (J36 h23 (ex_ret hp hx13))

/-! ### fettle/fettlelaw05.Ints -/
abbrev fettlelaw05_Ints.R (r : Bool) (v : Value) (A : List FP) : Prop := .bool r = v ∧ A = []
def fettlelaw05_Ints.nx11  : Option Bool :=
  some true
def fettlelaw05_Ints.bd11 (a1 : List Int) (a4 : List Int) (x7 : Int) : Option (Ex (Ex Bool Unit) Int) :=
  if x7 < (len a1) then
    (idx a1 x7).bind fun x8 =>
    (idx a4 x7).bind fun x14 =>
    if ¬ x8 = x14 then
      some (.ret (.ret false))
    else
      some (.go (w64 (x7 + 1)))
  else
    some (.ret (.go ()))
def fettlelaw05_Ints (a1 : List Int) (a4 : List Int) : Option Bool :=
  if ¬ (len a1) = (len a4) then
    some false
  else
    (whl (fun (s : Int) => fettlelaw05_Ints.bd11 a1 a4 s) FUEL 0).bind fun z =>
    match z with
      | .ret r => some r
      | .go p => fettlelaw05_Ints.nx11
theorem fettlelaw05_Ints_ok {E : World} {H : FP} {w : World} {a1 : List Int} {a4 : List Int} {v2 : Value} {v5 : Value} {r : Bool} (h3 : SlI (kInt .i64) H a1 v2) (h6 : SlI (kInt .i64) H a4 v5) (hp : fettlelaw05_Ints a1 a4 = some r) (hst : St E H [] w) :
    Fn Try.prog 32 #[v2, v5] w fun v w' => ∃ A, fettlelaw05_Ints.R r v A ∧ St E H A w' := by
 refine fb 26 [.tmp 4] Try.func32 rfl rfl rfl rfl rfl hst <| sr <| ta rfl <| nz <| TC.seq fun K1 k2 => sr <| tm rfl <| tv (ln u25 h3 rfl) rfl <| tm rfl <| tv (ln u25 h6 rfl) rfl <| tv (bne rfl rfl) rfl <| nz <| cD rfl hp (fun hc3 hp => ?_) fun hc3 hp => ?_
 · exact sr <| ta rfl <| nz <| TC.ret <| rt hp [] ⟨rfl, rfl⟩
 · refine sk k2 rfl <| TC.seq fun K4 k5 => sr <| ta rfl <| nz <| TC.block <| bE hp fun z_7 hz8 hr9 => ?_
   have J13 {e12} (hq14 : .go () = z_7) : ∀ w, St E H [] w → K4 (ovr e12 []) w := by
    subst hq14
    replace hp : fettlelaw05_Ints.nx11 = some r := hr9
    exact tg k5 <| sr <| ta rfl <| nz <| TC.ret <| rt hp [] ⟨rfl, rfl⟩
   refine lp hz8 [] rfl (fun s e L => ∃ e6, e = ovr e6 [(0, v2), (1, v5), (5, .int .i64 s)] ∧ L = []) ⟨_, ovr_eq _ _ rfl, rfl⟩ ?_
   rintro x7 _ _ ⟨e6, rfl, rfl⟩ X10 hp hx11
   replace hp : fettlelaw05_Ints.bd11 a1 a4 x7 = some X10 := hp
   refine TC.seq fun K15 k16 => sr <| tm rfl <| tm rfl <| tv (ln u25 h3 rfl) rfl <| tv (blt rfl rfl) rfl <| nz <| cD rfl hp (fun hc17 hp => ?_) fun hc17 hp => ?_
   · refine sk k16 rfl <| TC.seq fun K18 k19 => TC.block <| TC.seq fun K20 k21 => cq mix (by kernel_rfl) <| qv mv rfl <| qv mv rfl <| qi u25 i3 h3 hp rfl rfl rfl rfl ?_
     rintro x8 b9 o10 _ hp rfl h13
     refine qv (lr s3 sH h13 0 rfl rfl) rfl <| qv mv rfl <| qv mv rfl <| qi u25 i3 h6 hp rfl rfl rfl rfl ?_
     rintro x14 b15 o16 _ hp rfl h19
     refine qv (lr s3 sH h19 0 rfl rfl) rfl <| qv (bne rfl rfl) rfl <| QL.nil <| tg k21 <| cD rfl hp (fun hc24 hp => ?_) fun hc24 hp => ?_
     · refine sr <| ta rfl <| nz <| TC.ret ?_
       obtain rfl := ex_ret hp hx11
       exact rt hr9 [] ⟨rfl, rfl⟩
     · exact sk k19 rfl <| TC.region <| tm rfl <| tv (bad rfl rfl) rfl <| ta rfl <| nl <| gk hp [] ⟨_, ovr_eq _ _ rfl, rfl⟩
   · exact TC.exit <| jn [] (J13 (ex_ret hp hx11))
end Go.Proofs.Yteaknconpkklhaa
