/- The walk through the program's functions: each one's pure reading, and that a call does what it says. No conditions. -/
import Derived.Test.YtpmcbahahjelnaaM4
set_option linter.unusedVariables false
set_option linter.unusedSimpArgs false
namespace Go.Proofs.Ytpmcbahahjelnaa
open Go Go.Proofs

/-! ### fettle/proper.made -/
abbrev proper_made.R (r : List PMaker × List Int) (v : Value) (A : List FP) : Prop := ∃ (w1 : Value) (G1 : FP) (w2 : Value) (G2 : FP), .tuple #[w1, w2] = v ∧ A = [G1, G2] ∧ SlO 133 kMaker r.1 w1 G1 ∧ SlO 3 (kInt .i64) r.2 w2 G2
def proper_made.nx21  (x33 : List PMaker) (x37 : List Int) : Option (List PMaker × List Int) :=
  some (x33, x37)
def proper_made.nx47 (x32 : Int) (x80 : List PMaker) (x84 : List Int) : Option (Ex (List PMaker × List Int) (List PMaker × List Int × Int)) :=
  some (.go (x80, x84, (w64 (x32 + 1))))
def proper_made.bd47 (x32 : Int) (x41 : PBlock) (x71 : List PMaker) (x75 : List Int) (x79 : Int) : Option (Ex (List PMaker × List Int) (List PMaker × List Int × Int)) :=
  if x79 < (len x41.ins) then
    (idx x41.ins x79).bind fun x88 =>
    (proper_made_1 x88.dst x32 x79 x71 x75).bind fun x97 =>
    some (.go (x97.1, x97.2, (w64 (x79 + 1))))
  else
    some (.ret (x71, x75))
def proper_made.nx40 (x32 : Int) (x41 : PBlock) (x63 : List PMaker) (x67 : List Int) : Option (Ex (List PMaker × List Int) (List PMaker × List Int × Int)) :=
  (whl (fun (s : (List PMaker × List Int × Int)) => proper_made.bd47 x32 x41 s.1 s.2.1 s.2.2) FUEL (x63, x67, 0)).bind fun z =>
  proper_made.nx47 x32 z.1 z.2
def proper_made.bd40 (x32 : Int) (x41 : PBlock) (x54 : List PMaker) (x58 : List Int) (x62 : Int) : Option (Ex (List PMaker × List Int) (List PMaker × List Int × Int)) :=
  if x62 < (len x41.phis) then
    (idx x41.phis x62).bind fun x104 =>
    (proper_made_1 x104.dst x32 (-1) x54 x58).bind fun x113 =>
    some (.go (x113.1, x113.2, (w64 (x62 + 1))))
  else
    some (.ret (x54, x58))
def proper_made.bd21 (a1 : PFunc) (x24 : List PMaker) (x28 : List Int) (x32 : Int) : Option (Ex (List PMaker × List Int) (List PMaker × List Int × Int)) :=
  if x32 < (len a1.blocks) then
    (idx a1.blocks x32).bind fun x41 =>
    (whl (fun (s : (List PMaker × List Int × Int)) => proper_made.bd40 x32 x41 s.1 s.2.1 s.2.2) FUEL (x24, x28, 0)).bind fun z =>
    proper_made.nx40 x32 x41 z.1 z.2
  else
    some (.ret (x24, x28))
def proper_made.nx12 (a1 : PFunc) (x13 : List Int) (x21 : List PMaker) : Option (List PMaker × List Int) :=
  (whl (fun (s : (List PMaker × List Int × Int)) => proper_made.bd21 a1 s.1 s.2.1 s.2.2) FUEL (x21, x13, 0)).bind fun z =>
  proper_made.nx21 z.1 z.2
def proper_made.bd12 (x8 : List PMaker) (x17 : List PMaker) (x20 : Int) : Option (Ex (List PMaker) (List PMaker × Int)) :=
  if x20 < (len x8) then
    (idx x17 x20).bind fun x120 =>
    some (.go ((x17.set (x20).toNat (⟨-1, -2⟩ : PMaker)), (w64 (x20 + 1))))
  else
    some (.ret x17)
def proper_made.jn4 (a1 : PFunc) (x8 : List PMaker) (x13 : List Int) : Option (List PMaker × List Int) :=
  (whl (fun (s : (List PMaker × Int)) => proper_made.bd12 x8 s.1 s.2) FUEL (x8, 0)).bind fun z =>
  proper_made.nx12 a1 x13 z
def proper_made (a1 : PFunc) : Option (List PMaker × List Int) :=
  (mkl (len a1.regs) PMaker.zero).bind fun x1327 =>
  (mkl (len a1.regs) (0 : Int)).bind fun x2927 =>
  proper_made.jn4 a1 x1327 x2927
set_option maxHeartbeats 4000000 in
theorem proper_made_ok {E : World} {H : FP} {w : World} {a1 : PFunc} {v2 : Value} {v4 : Value} {r : List PMaker × List Int} (h3 : SlI (kInt .i64) H a1.regs v2) (h5 : SlI kBlock H a1.blocks v4) (hp : proper_made a1 = some r) (hst : St E H [] w) :
    Fn Try.prog 49 #[.agg #[.int .i64 a1.params, .int .i64 a1.result, v2, v4]] w fun v w' => ∃ A, proper_made.R r v A ∧ St E H A w' := by
 refine fb 72 [.tmp 2, .tmp 3] Try.func49 rfl rfl rfl rfl rfl hst <| sr <| tb [.int .i64 a1.params, .int .i64 a1.result, v2, v4] rfl rfl fun b6 => ta rfl <| ta rfl <| nz <| TC.seq fun K1 k2 => ?_
 have J4 {x8 x13 b7 v9 F10 b12 v14 F15 e3} (h11 : SlO 133 kMaker x8 v9 F10) (h16 : SlO 3 (kInt .i64) x13 v14 F15) (hp : proper_made.jn4 a1 x8 x13 = some r) : ∀ w, St E H [bx b6 41 [.int .i64 a1.params, .int .i64 a1.result, v2, v4], bx b7 103 [v9], F10, bx b12 25 [v14], F15] w → K1 (ovr e3 [(1, .pointer (some ⟨b6, 0, none⟩)), (4, .pointer (some ⟨b7, 0, none⟩)), (5, .pointer (some ⟨b12, 0, none⟩))]) w := by
  refine tg k2 <| TC.seq fun K5 k6 => sr <| tv (lb s103 1 rfl rfl rfl) rfl <| tv (ln u103 h11.ro rfl) rfl <| tm rfl <| nz <| TC.block <| bE hp fun z_8 hz9 hr10 => ?_
  have J75 {x21 F22 e13} (h23 : SlO 133 kMaker x21 v9 F22) (hq76 : x21 = z_8) : ∀ w, St E H [bx b6 41 [.int .i64 a1.params, .int .i64 a1.result, v2, v4], bx b7 103 [v9], F22, bx b12 25 [v14], F15] w → K5 (ovr e13 [(1, .pointer (some ⟨b6, 0, none⟩)), (4, .pointer (some ⟨b7, 0, none⟩)), (5, .pointer (some ⟨b12, 0, none⟩))]) w := by
   subst hq76
   replace hp : proper_made.nx12 a1 x13 x21 = some r := hr10
   refine tg k6 <| sr <| tv mF rfl <| ta rfl <| nz <| TC.seq fun K14 k15 => sr <| tv (fa f41_3 rfl) rfl <| tv (lb s39 0 rfl rfl rfl) rfl <| tv (ln u39 h5 rfl) rfl <| tm rfl <| nz <| TC.block <| bE hp fun z_17 hz18 hr19 => ?_
   have J25 {x33 x37 v34 F35 v38 F39 e22} (h36 : SlO 133 kMaker x33 v34 F35) (h40 : SlO 3 (kInt .i64) x37 v38 F39) (hq26 : (x33, x37) = z_17) : ∀ w, St E H [bx b7 103 [v34], F35, bx b12 25 [v38], F39] w → K14 (ovr e22 [(4, .pointer (some ⟨b7, 0, none⟩)), (5, .pointer (some ⟨b12, 0, none⟩))]) w := by
    subst hq26
    replace hp : proper_made.nx21 x33 x37 = some r := hr19
    exact tg k15 <| TC.seq fun K23 k24 => cq mix (by kernel_rfl) <| qv (lb s103 0 rfl rfl rfl) rfl <| qv (lb s25 2 rfl rfl rfl) rfl <| qv sg rfl <| qv sg rfl <| QL.nil <| tg k24 <| TC.ret <| rt hp [1, 3] ⟨v34, F35, v38, F39, rfl, rfl, h36, h40⟩
   refine lp hz18 [1, 2, 3, 4] rfl (fun s e L => ∃ x24 x28 x32 v25 F26 v29 F30 e16, s = (x24, x28, x32) ∧ SlO 133 kMaker x24 v25 F26 ∧ SlO 3 (kInt .i64) x28 v29 F30 ∧ e = ovr e16 [(4, .pointer (some ⟨b7, 0, none⟩)), (5, .pointer (some ⟨b12, 0, none⟩)), (7, .func (.func 74) #[] #[.pointer (some ⟨b7, 0, none⟩), .pointer (some ⟨b12, 0, none⟩)]), (34, v4), (35, .int .i64 (len a1.blocks)), (36, .int .i64 x32)] ∧ L = [bx b7 103 [v25], F26, bx b12 25 [v29], F30]) ⟨_, _, _, v9, F22, v14, F15, _, rfl, h23, h16, ovr_eq _ _ rfl, rfl⟩ ?_
   rintro _ _ _ ⟨x24, x28, x32, v25, F26, v29, F30, e16, rfl, h27, h31, rfl, rfl⟩ X20 hp hx21
   replace hp : proper_made.bd21 a1 x24 x28 x32 = some X20 := hp
   refine sr <| tv (blt rfl rfl) rfl <| nz <| TC.seq fun K27 k28 => cD rfl hp (fun hc29 hp => ?_) fun hc29 hp => ?_
   · refine sk k28 rfl <| TC.seq fun K30 k31 => TC.block <| sr <| tm rfl <| ti u39 i50 h5 hp rfl rfl rfl rfl ?_
     rintro x41 b42 o43 _ hp ⟨v47, v49, v51, rfl, h48, h50, h52⟩ h46
     refine tv (lR (ds := [v47, v49, .int .i64 x41.term.kind, .int .i64 x41.term.arg, v51]) ag_50 sH h46 0 rfl rfl rfl) rfl <| tl i50 rfl fun b53 => ta rfl <| tS 0 m50 rfl rfl [v47, v49, .int .i64 x41.term.kind, .int .i64 x41.term.arg, v51] rfl (oc (h48).one (oc (h50).one (oc rfl (oc rfl (oc (h52).one oc0))))) rfl rfl <| nz <| TC.seq fun K33 k34 => sr <| tv (fa f50_0 rfl) rfl <| tv (lb s47 0 rfl rfl rfl) rfl <| tv (ln u47 h48 rfl) rfl <| tm rfl <| nz <| TC.block <| bE hp fun z_36 hz37 hr38 => ?_
     have J61 {x63 x67 v64 F65 v68 F69 e41} (h66 : SlO 133 kMaker x63 v64 F65) (h70 : SlO 3 (kInt .i64) x67 v68 F69) (hq62 : (x63, x67) = z_36) : ∀ w, St E H [bx b7 103 [v64], F65, bx b12 25 [v68], F69, bx b53 50 [v47, v49, .int .i64 x41.term.kind, .int .i64 x41.term.arg, v51]] w → K33 (ovr e41 [(4, .pointer (some ⟨b7, 0, none⟩)), (5, .pointer (some ⟨b12, 0, none⟩)), (7, .func (.func 74) #[] #[.pointer (some ⟨b7, 0, none⟩), .pointer (some ⟨b12, 0, none⟩)]), (8, .int .i64 x32), (9, .pointer (some ⟨b53, 0, none⟩)), (34, v4), (35, .int .i64 (len a1.blocks)), (36, .int .i64 x32)]) w := by
      subst hq62
      replace hp : proper_made.nx40 x32 x41 x63 x67 = some X20 := hr38
      refine tg k34 <| sr <| tv (fa f50_1 rfl) rfl <| tv (lb s48 4 rfl rfl rfl) rfl <| tv (ln u48 h50 rfl) rfl <| tm rfl <| nz <| TC.block <| bE hp fun z_43 hz44 hr45 => ?_
      have J49 {x80 x84 v81 F82 v85 F86 e48} (h83 : SlO 133 kMaker x80 v81 F82) (h87 : SlO 3 (kInt .i64) x84 v85 F86) (hq50 : (x80, x84) = z_43) : ∀ w, St E H [bx b7 103 [v81], F82, bx b12 25 [v85], F86] w → K30 (ovr e48 [(4, .pointer (some ⟨b7, 0, none⟩)), (5, .pointer (some ⟨b12, 0, none⟩)), (7, .func (.func 74) #[] #[.pointer (some ⟨b7, 0, none⟩), .pointer (some ⟨b12, 0, none⟩)]), (34, v4), (35, .int .i64 (len a1.blocks)), (36, .int .i64 x32)]) w := by
       subst hq50
       replace hp : proper_made.nx47 x32 x80 x84 = some X20 := hr45
       exact tg k31 <| TC.region <| tv (bad rfl rfl) rfl <| tm rfl <| nl <| gk hp [0, 1, 2, 3] ⟨_, _, _, v81, F82, v85, F86, _, rfl, h83, h87, ovr_eq _ _ rfl, rfl⟩
      refine lp hz44 [0, 1, 2, 3] rfl (fun s e L => ∃ x71 x75 x79 v72 F73 v76 F77 e42, s = (x71, x75, x79) ∧ SlO 133 kMaker x71 v72 F73 ∧ SlO 3 (kInt .i64) x75 v76 F77 ∧ e = ovr e42 [(4, .pointer (some ⟨b7, 0, none⟩)), (5, .pointer (some ⟨b12, 0, none⟩)), (7, .func (.func 74) #[] #[.pointer (some ⟨b7, 0, none⟩), .pointer (some ⟨b12, 0, none⟩)]), (8, .int .i64 x32), (34, v4), (35, .int .i64 (len a1.blocks)), (36, .int .i64 x32), (55, v49), (56, .int .i64 (len x41.ins)), (57, .int .i64 x79)] ∧ L = [bx b7 103 [v72], F73, bx b12 25 [v76], F77]) ⟨_, _, _, v64, F65, v68, F69, _, rfl, h66, h70, ovr_eq _ _ rfl, rfl⟩ ?_
      rintro _ _ _ ⟨x71, x75, x79, v72, F73, v76, F77, e42, rfl, h74, h78, rfl, rfl⟩ X46 hp hx47
      replace hp : proper_made.bd47 x32 x41 x71 x75 x79 = some X46 := hp
      refine sr <| tv (blt rfl rfl) rfl <| nz <| TC.seq fun K51 k52 => cD rfl hp (fun hc53 hp => ?_) fun hc53 hp => ?_
      · refine sk k52 rfl <| TC.seq fun K54 k55 => TC.block <| sr <| tm rfl <| ti u48 i52 h50 hp rfl rfl rfl rfl ?_
        rintro x88 b89 o90 _ hp ⟨v94, rfl, h95⟩ h93
        refine tv (lR (ds := [.int .i64 x88.op, .int .i64 x88.dst, v94, .int .i64 x88.imm, .int .i64 x88.fn]) ag_52 sH h93 0 rfl rfl rfl) rfl <| tl i52 rfl fun b96 => ta rfl <| tS 0 m52 rfl rfl [.int .i64 x88.op, .int .i64 x88.dst, v94, .int .i64 x88.imm, .int .i64 x88.fn] rfl (oc rfl (oc rfl (oc (h95).one (oc rfl (oc rfl oc0))))) rfl rfl <| nz <| TC.region <| tm rfl <| tv (fa f52_1 rfl) rfl <| tv (lb s3 0 rfl rfl rfl) rfl <| tm rfl <| tm rfl <| tp [1, 2, 3, 4, 0] [_,_,_,_,_] rfl rfl <| bE hp fun x97 hy57 hp => tcv 4 [_] rfl c74 rfl (fun _ => proper_made_1_ok (a1 := x88.dst) (a2 := x32) (a3 := x79) (a5 := x71) (a11 := x75) h74 h78 hy57) rfl ?_
        rintro _ _ ⟨v98, F99, v101, F102, rfl, rfl, h100, h103⟩
        exact nl <| tg k55 <| TC.region <| tv (bad rfl rfl) rfl <| tm rfl <| nl <| gk hp [0, 1, 2, 3] ⟨_, _, _, v98, F99, v101, F102, _, rfl, h100, h103, ovr_eq _ _ rfl, rfl⟩
      · exact TC.exit <| jn [0, 1, 2, 3] (J49 h74 h78 (ex_ret hp hx47))
     refine lp hz37 [1, 2, 3, 4, 0] rfl (fun s e L => ∃ x54 x58 x62 v55 F56 v59 F60 e35, s = (x54, x58, x62) ∧ SlO 133 kMaker x54 v55 F56 ∧ SlO 3 (kInt .i64) x58 v59 F60 ∧ e = ovr e35 [(4, .pointer (some ⟨b7, 0, none⟩)), (5, .pointer (some ⟨b12, 0, none⟩)), (7, .func (.func 74) #[] #[.pointer (some ⟨b7, 0, none⟩), .pointer (some ⟨b12, 0, none⟩)]), (8, .int .i64 x32), (9, .pointer (some ⟨b53, 0, none⟩)), (34, v4), (35, .int .i64 (len a1.blocks)), (36, .int .i64 x32), (42, v47), (43, .int .i64 (len x41.phis)), (44, .int .i64 x62)] ∧ L = [bx b7 103 [v55], F56, bx b12 25 [v59], F60, bx b53 50 [v47, v49, .int .i64 x41.term.kind, .int .i64 x41.term.arg, v51]]) ⟨_, _, _, v25, F26, v29, F30, _, rfl, h27, h31, ovr_eq _ _ rfl, rfl⟩ ?_
     rintro _ _ _ ⟨x54, x58, x62, v55, F56, v59, F60, e35, rfl, h57, h61, rfl, rfl⟩ X39 hp hx40
     replace hp : proper_made.bd40 x32 x41 x54 x58 x62 = some X39 := hp
     refine sr <| tv (blt rfl rfl) rfl <| nz <| TC.seq fun K63 k64 => cD rfl hp (fun hc65 hp => ?_) fun hc65 hp => ?_
     · refine sk k64 rfl <| TC.seq fun K66 k67 => TC.block <| sr <| ti u47 i70 h48 hp rfl rfl rfl rfl ?_
       rintro x104 b105 o106 _ hp ⟨v110, rfl, h111⟩ h109
       refine tv (lR (ds := [.int .i64 x104.dst, v110]) ag_70 sH h109 0 rfl rfl rfl) rfl <| tl i70 rfl fun b112 => tS 0 m70 rfl rfl [.int .i64 x104.dst, v110] rfl (oc rfl (oc (h111).one oc0)) rfl rfl <| nz <| TC.region <| tm rfl <| tv (fa f70_0 rfl) rfl <| tv (lb s3 0 rfl rfl rfl) rfl <| tm rfl <| tp [1, 2, 3, 4, 0, 5] [_,_,_,_,_,_] rfl rfl <| bE hp fun x113 hy69 hp => tcv 4 [_,_] rfl c74 rfl (fun _ => proper_made_1_ok (a1 := x104.dst) (a2 := x32) (a3 := -1) (a5 := x54) (a11 := x58) h57 h61 hy69) rfl ?_
       rintro _ _ ⟨v114, F115, v117, F118, rfl, rfl, h116, h119⟩
       exact nl <| tg k67 <| TC.region <| tv (bad rfl rfl) rfl <| tm rfl <| nl <| gk hp [0, 1, 2, 3, 5] ⟨_, _, _, v114, F115, v117, F118, _, rfl, h116, h119, ovr_eq _ _ rfl, rfl⟩
     · exact TC.exit <| jn [0, 1, 2, 3, 4] (J61 h57 h61 (ex_ret hp hx40))
   · exact TC.exit <| jn [0, 1, 2, 3] (J25 h27 h31 (ex_ret hp hx21))
  refine lp hz9 [0, 1, 2, 3, 4] rfl (fun s e L => ∃ x17 x20 F18 e7, s = (x17, x20) ∧ SlO 133 kMaker x17 v9 F18 ∧ e = ovr e7 [(1, .pointer (some ⟨b6, 0, none⟩)), (4, .pointer (some ⟨b7, 0, none⟩)), (5, .pointer (some ⟨b12, 0, none⟩)), (23, .int .i64 (len x8)), (24, .int .i64 x20)] ∧ L = [bx b6 41 [.int .i64 a1.params, .int .i64 a1.result, v2, v4], bx b7 103 [v9], F18, bx b12 25 [v14], F15]) ⟨_, _, F10, _, rfl, h11, ovr_eq _ _ rfl, rfl⟩ ?_
  rintro _ _ _ ⟨x17, x20, F18, e7, rfl, h19, rfl, rfl⟩ X11 hp hx12
  replace hp : proper_made.bd12 x8 x17 x20 = some X11 := hp
  refine sr <| tv (blt rfl rfl) rfl <| nz <| TC.seq fun K77 k78 => cD rfl hp (fun hc79 hp => ?_) fun hc79 hp => ?_
  · exact sk k78 rfl <| TC.seq fun K80 k81 => TC.block <| sr <| tm rfl <| ta rfl <| nz <| TC.region <| tv (lb s103 1 rfl rfl rfl) rfl <| tm rfl <| tv (rv_bv (vs := [(0, .int .i64 (-1)), (1, .int .i64 (-2))]) (ds := [.int .i64 (-1), .int .i64 (-2)]) rfl (fun w => by kernel_rfl)) rfl <| tO u103 i133 h19 hp rfl rfl rfl rfl fun x120 b121 o122 h123 hp => tp [2, 0, 1, 3, 4] [_,_,_,_,_] rfl rfl <| TL.stE0 (ds := [.int .i64 (-1), .int .i64 (-2)]) (u := .agg #[.int .i64 (-1), .int .i64 (-2)]) (a := (⟨-1, -2⟩ : PMaker)) h19 h123 m133 rfl rfl rfl ⟨rfl, rfl⟩ fun F124 h125 => nl <| tg k81 <| TC.region <| tv (bad rfl rfl) rfl <| tm rfl <| nl <| gk hp [1, 2, 0, 3, 4] ⟨_, _, F124, _, rfl, h125, ovr_eq _ _ rfl, rfl⟩
  · exact TC.exit <| jn [0, 1, 2, 3, 4] (J75 h19 (ex_ret hp hx12))
 refine bE hp fun x1327 hY1_3 hp => bE hp fun x2927 hY1_7 hp => ch mix [bx b6 41 [.int .i64 a1.params, .int .i64 a1.result, v2, v4]] (srcG 0 rfl srcG0) <| hv 0 rfl (fa f41_2 rfl) (by kernel_rfl) rfl <| hv 1 rfl (lbG s25 0 rfl rfl rfl) (by kernel_rfl) rfl <| hv 2 rfl (ln u25 h3 rfl) (by kernel_rfl) rfl <| hv 4 rfl (fa f41_2 rfl) (by kernel_rfl) rfl <| hv 5 rfl (lbG s25 0 rfl rfl rfl) (by kernel_rfl) rfl <| hv 6 rfl (ln u25 h3 rfl) (by kernel_rfl) rfl <| HL.all [3, 7, 8, 9] (by kernel_rfl) (by simp) (HL.al ⟨_, rfl, fun K85 k86 => ?_⟩ (HL.al ⟨_, rfl, fun K161 k162 => ?_⟩ (HL.al ⟨_, rfl, fun K223 k224 => ?_⟩ (HL.al ⟨_, rfl, fun K303 k304 => ?_⟩ HL.al0))))
 · refine tk0 (k := kMaker) u103 i133 hY1_3 ⟨rfl, rfl⟩ rfl rfl rfl rfl rfl rfl fun v1328 F1329 h1330 => hk k86 (srcG 1 rfl srcG0) <| HL.all [7, 8, 9] (by kernel_rfl) (by simp) (HL.al ⟨_, rfl, fun K88 k89 => ?_⟩ (HL.al ⟨_, rfl, fun K107 k108 => ?_⟩ (HL.al ⟨_, rfl, fun K134 k135 => ?_⟩ HL.al0)))
   · refine tk0 (k := (kInt .i64)) u25 i3 hY1_7 ⟨rfl, rfl⟩ rfl rfl rfl rfl rfl rfl fun v2928 F2929 h2930 => hk k89 (srcG 2 rfl srcG0) <| HL.all [8, 9] (by kernel_rfl) (by simp) (HL.al ⟨_, rfl, fun K91 k92 => ?_⟩ (HL.al ⟨_, rfl, fun K99 k100 => ?_⟩ HL.al0))
     · exact tl i103 rfl fun b3327 => hk k92 (srcG 3 rfl srcG0) <| ho 9 rfl (by kernel_rfl) fun K93 k94 => tl i25 rfl fun b3727 => hk k94 (srcG 4 rfl srcG0) <| ho 10 rfl (by kernel_rfl) fun K95 k96 => ts 1 m103 rfl rfl h1330.o1 rfl <| hk k96 (srcG 4 rfl srcG0) <| ho 11 rfl (by kernel_rfl) fun K97 k98 => ts 0 m25 rfl rfl h2930.o1 rfl <| hk k98 (srcG 4 rfl srcG0) <| hz (by kernel_rfl) <| jn [4, 1, 3, 0, 2] (J4 h1330 h2930 hp)
     · exact tl i25 rfl fun b3727 => hk k100 (srcG 3 rfl srcG0) <| ho 8 rfl (by kernel_rfl) fun K101 k102 => tl i103 rfl fun b3327 => hk k102 (srcG 4 rfl srcG0) <| ho 10 rfl (by kernel_rfl) fun K103 k104 => ts 0 m103 rfl rfl h1330.o1 rfl <| hk k104 (srcG 4 rfl srcG0) <| ho 11 rfl (by kernel_rfl) fun K105 k106 => ts 1 m25 rfl rfl h2930.o1 rfl <| hk k106 (srcG 4 rfl srcG0) <| hz (by kernel_rfl) <| jn [4, 0, 3, 1, 2] (J4 h1330 h2930 hp)
   · refine tl i103 rfl fun b3327 => hk k108 (srcG 2 rfl srcG0) <| HL.all [7, 9] (by kernel_rfl) (by simp) (HL.al ⟨_, rfl, fun K109 k110 => ?_⟩ (HL.al ⟨_, rfl, fun K118 k119 => ?_⟩ HL.al0))
     · exact tk0 (k := (kInt .i64)) u25 i3 hY1_7 ⟨rfl, rfl⟩ rfl rfl rfl rfl rfl rfl fun v2928 F2929 h2930 => hk k110 (srcG 3 rfl srcG0) <| ho 9 rfl (by kernel_rfl) fun K112 k113 => tl i25 rfl fun b3727 => hk k113 (srcG 4 rfl srcG0) <| ho 10 rfl (by kernel_rfl) fun K114 k115 => ts 2 m103 rfl rfl h1330.o1 rfl <| hk k115 (srcG 4 rfl srcG0) <| ho 11 rfl (by kernel_rfl) fun K116 k117 => ts 0 m25 rfl rfl h2930.o1 rfl <| hk k117 (srcG 4 rfl srcG0) <| hz (by kernel_rfl) <| jn [4, 2, 3, 0, 1] (J4 h1330 h2930 hp)
     · refine tl i25 rfl fun b3727 => hk k119 (srcG 3 rfl srcG0) <| HL.all [7, 10] (by kernel_rfl) (by simp) (HL.al ⟨_, rfl, fun K120 k121 => ?_⟩ (HL.al ⟨_, rfl, fun K127 k128 => ?_⟩ HL.al0))
       · exact tk0 (k := (kInt .i64)) u25 i3 hY1_7 ⟨rfl, rfl⟩ rfl rfl rfl rfl rfl rfl fun v2928 F2929 h2930 => hk k121 (srcG 4 rfl srcG0) <| ho 10 rfl (by kernel_rfl) fun K123 k124 => ts 2 m103 rfl rfl h1330.o1 rfl <| hk k124 (srcG 4 rfl srcG0) <| ho 11 rfl (by kernel_rfl) fun K125 k126 => ts 1 m25 rfl rfl h2930.o1 rfl <| hk k126 (srcG 4 rfl srcG0) <| hz (by kernel_rfl) <| jn [4, 2, 3, 1, 0] (J4 h1330 h2930 hp)
       · exact ts 1 m103 rfl rfl h1330.o1 rfl <| hk k128 (srcG 3 rfl srcG0) <| ho 7 rfl (by kernel_rfl) fun K129 k130 => tk0 (k := (kInt .i64)) u25 i3 hY1_7 ⟨rfl, rfl⟩ rfl rfl rfl rfl rfl rfl fun v2928 F2929 h2930 => hk k130 (srcG 4 rfl srcG0) <| ho 11 rfl (by kernel_rfl) fun K132 k133 => ts 1 m25 rfl rfl h2930.o1 rfl <| hk k133 (srcG 4 rfl srcG0) <| hz (by kernel_rfl) <| jn [4, 2, 3, 1, 0] (J4 h1330 h2930 hp)
   · refine tl i25 rfl fun b3727 => hk k135 (srcG 2 rfl srcG0) <| HL.all [7, 8] (by kernel_rfl) (by simp) (HL.al ⟨_, rfl, fun K136 k137 => ?_⟩ (HL.al ⟨_, rfl, fun K145 k146 => ?_⟩ HL.al0))
     · exact tk0 (k := (kInt .i64)) u25 i3 hY1_7 ⟨rfl, rfl⟩ rfl rfl rfl rfl rfl rfl fun v2928 F2929 h2930 => hk k137 (srcG 3 rfl srcG0) <| ho 8 rfl (by kernel_rfl) fun K139 k140 => tl i103 rfl fun b3327 => hk k140 (srcG 4 rfl srcG0) <| ho 10 rfl (by kernel_rfl) fun K141 k142 => ts 0 m103 rfl rfl h1330.o1 rfl <| hk k142 (srcG 4 rfl srcG0) <| ho 11 rfl (by kernel_rfl) fun K143 k144 => ts 2 m25 rfl rfl h2930.o1 rfl <| hk k144 (srcG 4 rfl srcG0) <| hz (by kernel_rfl) <| jn [4, 0, 3, 2, 1] (J4 h1330 h2930 hp)
     · refine tl i103 rfl fun b3327 => hk k146 (srcG 3 rfl srcG0) <| HL.all [7, 10] (by kernel_rfl) (by simp) (HL.al ⟨_, rfl, fun K147 k148 => ?_⟩ (HL.al ⟨_, rfl, fun K154 k155 => ?_⟩ HL.al0))
       · exact tk0 (k := (kInt .i64)) u25 i3 hY1_7 ⟨rfl, rfl⟩ rfl rfl rfl rfl rfl rfl fun v2928 F2929 h2930 => hk k148 (srcG 4 rfl srcG0) <| ho 10 rfl (by kernel_rfl) fun K150 k151 => ts 1 m103 rfl rfl h1330.o1 rfl <| hk k151 (srcG 4 rfl srcG0) <| ho 11 rfl (by kernel_rfl) fun K152 k153 => ts 2 m25 rfl rfl h2930.o1 rfl <| hk k153 (srcG 4 rfl srcG0) <| hz (by kernel_rfl) <| jn [4, 1, 3, 2, 0] (J4 h1330 h2930 hp)
       · exact ts 0 m103 rfl rfl h1330.o1 rfl <| hk k155 (srcG 3 rfl srcG0) <| ho 7 rfl (by kernel_rfl) fun K156 k157 => tk0 (k := (kInt .i64)) u25 i3 hY1_7 ⟨rfl, rfl⟩ rfl rfl rfl rfl rfl rfl fun v2928 F2929 h2930 => hk k157 (srcG 4 rfl srcG0) <| ho 11 rfl (by kernel_rfl) fun K159 k160 => ts 2 m25 rfl rfl h2930.o1 rfl <| hk k160 (srcG 4 rfl srcG0) <| hz (by kernel_rfl) <| jn [4, 1, 3, 2, 0] (J4 h1330 h2930 hp)
 · refine tk0 (k := (kInt .i64)) u25 i3 hY1_7 ⟨rfl, rfl⟩ rfl rfl rfl rfl rfl rfl fun v2928 F2929 h2930 => hk k162 (srcG 1 rfl srcG0) <| HL.all [3, 8, 9] (by kernel_rfl) (by simp) (HL.al ⟨_, rfl, fun K164 k165 => ?_⟩ (HL.al ⟨_, rfl, fun K183 k184 => ?_⟩ (HL.al ⟨_, rfl, fun K203 k204 => ?_⟩ HL.al0)))
   · refine tk0 (k := kMaker) u103 i133 hY1_3 ⟨rfl, rfl⟩ rfl rfl rfl rfl rfl rfl fun v1328 F1329 h1330 => hk k165 (srcG 2 rfl srcG0) <| HL.all [8, 9] (by kernel_rfl) (by simp) (HL.al ⟨_, rfl, fun K167 k168 => ?_⟩ (HL.al ⟨_, rfl, fun K175 k176 => ?_⟩ HL.al0))
     · exact tl i103 rfl fun b3327 => hk k168 (srcG 3 rfl srcG0) <| ho 9 rfl (by kernel_rfl) fun K169 k170 => tl i25 rfl fun b3727 => hk k170 (srcG 4 rfl srcG0) <| ho 10 rfl (by kernel_rfl) fun K171 k172 => ts 1 m103 rfl rfl h1330.o1 rfl <| hk k172 (srcG 4 rfl srcG0) <| ho 11 rfl (by kernel_rfl) fun K173 k174 => ts 0 m25 rfl rfl h2930.o1 rfl <| hk k174 (srcG 4 rfl srcG0) <| hz (by kernel_rfl) <| jn [4, 1, 2, 0, 3] (J4 h1330 h2930 hp)
     · exact tl i25 rfl fun b3727 => hk k176 (srcG 3 rfl srcG0) <| ho 8 rfl (by kernel_rfl) fun K177 k178 => tl i103 rfl fun b3327 => hk k178 (srcG 4 rfl srcG0) <| ho 10 rfl (by kernel_rfl) fun K179 k180 => ts 0 m103 rfl rfl h1330.o1 rfl <| hk k180 (srcG 4 rfl srcG0) <| ho 11 rfl (by kernel_rfl) fun K181 k182 => ts 1 m25 rfl rfl h2930.o1 rfl <| hk k182 (srcG 4 rfl srcG0) <| hz (by kernel_rfl) <| jn [4, 0, 2, 1, 3] (J4 h1330 h2930 hp)
   · refine tl i103 rfl fun b3327 => hk k184 (srcG 2 rfl srcG0) <| HL.all [3, 9] (by kernel_rfl) (by simp) (HL.al ⟨_, rfl, fun K185 k186 => ?_⟩ (HL.al ⟨_, rfl, fun K194 k195 => ?_⟩ HL.al0))
     · exact tk0 (k := kMaker) u103 i133 hY1_3 ⟨rfl, rfl⟩ rfl rfl rfl rfl rfl rfl fun v1328 F1329 h1330 => hk k186 (srcG 3 rfl srcG0) <| ho 9 rfl (by kernel_rfl) fun K188 k189 => tl i25 rfl fun b3727 => hk k189 (srcG 4 rfl srcG0) <| ho 10 rfl (by kernel_rfl) fun K190 k191 => ts 2 m103 rfl rfl h1330.o1 rfl <| hk k191 (srcG 4 rfl srcG0) <| ho 11 rfl (by kernel_rfl) fun K192 k193 => ts 0 m25 rfl rfl h2930.o1 rfl <| hk k193 (srcG 4 rfl srcG0) <| hz (by kernel_rfl) <| jn [4, 2, 1, 0, 3] (J4 h1330 h2930 hp)
     · exact tl i25 rfl fun b3727 => hk k195 (srcG 3 rfl srcG0) <| ho 3 rfl (by kernel_rfl) fun K196 k197 => tk0 (k := kMaker) u103 i133 hY1_3 ⟨rfl, rfl⟩ rfl rfl rfl rfl rfl rfl fun v1328 F1329 h1330 => hk k197 (srcG 4 rfl srcG0) <| ho 10 rfl (by kernel_rfl) fun K199 k200 => ts 2 m103 rfl rfl h1330.o1 rfl <| hk k200 (srcG 4 rfl srcG0) <| ho 11 rfl (by kernel_rfl) fun K201 k202 => ts 1 m25 rfl rfl h2930.o1 rfl <| hk k202 (srcG 4 rfl srcG0) <| hz (by kernel_rfl) <| jn [4, 2, 0, 1, 3] (J4 h1330 h2930 hp)
   · refine tl i25 rfl fun b3727 => hk k204 (srcG 2 rfl srcG0) <| HL.all [3, 8] (by kernel_rfl) (by simp) (HL.al ⟨_, rfl, fun K205 k206 => ?_⟩ (HL.al ⟨_, rfl, fun K214 k215 => ?_⟩ HL.al0))
     · exact tk0 (k := kMaker) u103 i133 hY1_3 ⟨rfl, rfl⟩ rfl rfl rfl rfl rfl rfl fun v1328 F1329 h1330 => hk k206 (srcG 3 rfl srcG0) <| ho 8 rfl (by kernel_rfl) fun K208 k209 => tl i103 rfl fun b3327 => hk k209 (srcG 4 rfl srcG0) <| ho 10 rfl (by kernel_rfl) fun K210 k211 => ts 0 m103 rfl rfl h1330.o1 rfl <| hk k211 (srcG 4 rfl srcG0) <| ho 11 rfl (by kernel_rfl) fun K212 k213 => ts 2 m25 rfl rfl h2930.o1 rfl <| hk k213 (srcG 4 rfl srcG0) <| hz (by kernel_rfl) <| jn [4, 0, 1, 2, 3] (J4 h1330 h2930 hp)
     · exact tl i103 rfl fun b3327 => hk k215 (srcG 3 rfl srcG0) <| ho 3 rfl (by kernel_rfl) fun K216 k217 => tk0 (k := kMaker) u103 i133 hY1_3 ⟨rfl, rfl⟩ rfl rfl rfl rfl rfl rfl fun v1328 F1329 h1330 => hk k217 (srcG 4 rfl srcG0) <| ho 10 rfl (by kernel_rfl) fun K219 k220 => ts 1 m103 rfl rfl h1330.o1 rfl <| hk k220 (srcG 4 rfl srcG0) <| ho 11 rfl (by kernel_rfl) fun K221 k222 => ts 2 m25 rfl rfl h2930.o1 rfl <| hk k222 (srcG 4 rfl srcG0) <| hz (by kernel_rfl) <| jn [4, 1, 0, 2, 3] (J4 h1330 h2930 hp)
 · refine tl i103 rfl fun b3327 => hk k224 (srcG 1 rfl srcG0) <| HL.all [3, 7, 9] (by kernel_rfl) (by simp) (HL.al ⟨_, rfl, fun K225 k226 => ?_⟩ (HL.al ⟨_, rfl, fun K253 k254 => ?_⟩ (HL.al ⟨_, rfl, fun K274 k275 => ?_⟩ HL.al0)))
   · refine tk0 (k := kMaker) u103 i133 hY1_3 ⟨rfl, rfl⟩ rfl rfl rfl rfl rfl rfl fun v1328 F1329 h1330 => hk k226 (srcG 2 rfl srcG0) <| HL.all [7, 9] (by kernel_rfl) (by simp) (HL.al ⟨_, rfl, fun K228 k229 => ?_⟩ (HL.al ⟨_, rfl, fun K237 k238 => ?_⟩ HL.al0))
     · exact tk0 (k := (kInt .i64)) u25 i3 hY1_7 ⟨rfl, rfl⟩ rfl rfl rfl rfl rfl rfl fun v2928 F2929 h2930 => hk k229 (srcG 3 rfl srcG0) <| ho 9 rfl (by kernel_rfl) fun K231 k232 => tl i25 rfl fun b3727 => hk k232 (srcG 4 rfl srcG0) <| ho 10 rfl (by kernel_rfl) fun K233 k234 => ts 3 m103 rfl rfl h1330.o1 rfl <| hk k234 (srcG 4 rfl srcG0) <| ho 11 rfl (by kernel_rfl) fun K235 k236 => ts 0 m25 rfl rfl h2930.o1 rfl <| hk k236 (srcG 4 rfl srcG0) <| hz (by kernel_rfl) <| jn [4, 3, 2, 0, 1] (J4 h1330 h2930 hp)
     · refine tl i25 rfl fun b3727 => hk k238 (srcG 3 rfl srcG0) <| HL.all [7, 10] (by kernel_rfl) (by simp) (HL.al ⟨_, rfl, fun K239 k240 => ?_⟩ (HL.al ⟨_, rfl, fun K246 k247 => ?_⟩ HL.al0))
       · exact tk0 (k := (kInt .i64)) u25 i3 hY1_7 ⟨rfl, rfl⟩ rfl rfl rfl rfl rfl rfl fun v2928 F2929 h2930 => hk k240 (srcG 4 rfl srcG0) <| ho 10 rfl (by kernel_rfl) fun K242 k243 => ts 3 m103 rfl rfl h1330.o1 rfl <| hk k243 (srcG 4 rfl srcG0) <| ho 11 rfl (by kernel_rfl) fun K244 k245 => ts 1 m25 rfl rfl h2930.o1 rfl <| hk k245 (srcG 4 rfl srcG0) <| hz (by kernel_rfl) <| jn [4, 3, 2, 1, 0] (J4 h1330 h2930 hp)
       · exact ts 2 m103 rfl rfl h1330.o1 rfl <| hk k247 (srcG 3 rfl srcG0) <| ho 7 rfl (by kernel_rfl) fun K248 k249 => tk0 (k := (kInt .i64)) u25 i3 hY1_7 ⟨rfl, rfl⟩ rfl rfl rfl rfl rfl rfl fun v2928 F2929 h2930 => hk k249 (srcG 4 rfl srcG0) <| ho 11 rfl (by kernel_rfl) fun K251 k252 => ts 1 m25 rfl rfl h2930.o1 rfl <| hk k252 (srcG 4 rfl srcG0) <| hz (by kernel_rfl) <| jn [4, 3, 2, 1, 0] (J4 h1330 h2930 hp)
   · refine tk0 (k := (kInt .i64)) u25 i3 hY1_7 ⟨rfl, rfl⟩ rfl rfl rfl rfl rfl rfl fun v2928 F2929 h2930 => hk k254 (srcG 2 rfl srcG0) <| HL.all [3, 9] (by kernel_rfl) (by simp) (HL.al ⟨_, rfl, fun K256 k257 => ?_⟩ (HL.al ⟨_, rfl, fun K265 k266 => ?_⟩ HL.al0))
     · exact tk0 (k := kMaker) u103 i133 hY1_3 ⟨rfl, rfl⟩ rfl rfl rfl rfl rfl rfl fun v1328 F1329 h1330 => hk k257 (srcG 3 rfl srcG0) <| ho 9 rfl (by kernel_rfl) fun K259 k260 => tl i25 rfl fun b3727 => hk k260 (srcG 4 rfl srcG0) <| ho 10 rfl (by kernel_rfl) fun K261 k262 => ts 3 m103 rfl rfl h1330.o1 rfl <| hk k262 (srcG 4 rfl srcG0) <| ho 11 rfl (by kernel_rfl) fun K263 k264 => ts 0 m25 rfl rfl h2930.o1 rfl <| hk k264 (srcG 4 rfl srcG0) <| hz (by kernel_rfl) <| jn [4, 3, 1, 0, 2] (J4 h1330 h2930 hp)
     · exact tl i25 rfl fun b3727 => hk k266 (srcG 3 rfl srcG0) <| ho 3 rfl (by kernel_rfl) fun K267 k268 => tk0 (k := kMaker) u103 i133 hY1_3 ⟨rfl, rfl⟩ rfl rfl rfl rfl rfl rfl fun v1328 F1329 h1330 => hk k268 (srcG 4 rfl srcG0) <| ho 10 rfl (by kernel_rfl) fun K270 k271 => ts 3 m103 rfl rfl h1330.o1 rfl <| hk k271 (srcG 4 rfl srcG0) <| ho 11 rfl (by kernel_rfl) fun K272 k273 => ts 1 m25 rfl rfl h2930.o1 rfl <| hk k273 (srcG 4 rfl srcG0) <| hz (by kernel_rfl) <| jn [4, 3, 0, 1, 2] (J4 h1330 h2930 hp)
   · refine tl i25 rfl fun b3727 => hk k275 (srcG 2 rfl srcG0) <| HL.all [3, 7] (by kernel_rfl) (by simp) (HL.al ⟨_, rfl, fun K276 k277 => ?_⟩ (HL.al ⟨_, rfl, fun K293 k294 => ?_⟩ HL.al0))
     · refine tk0 (k := kMaker) u103 i133 hY1_3 ⟨rfl, rfl⟩ rfl rfl rfl rfl rfl rfl fun v1328 F1329 h1330 => hk k277 (srcG 3 rfl srcG0) <| HL.all [7, 10] (by kernel_rfl) (by simp) (HL.al ⟨_, rfl, fun K279 k280 => ?_⟩ (HL.al ⟨_, rfl, fun K286 k287 => ?_⟩ HL.al0))
       · exact tk0 (k := (kInt .i64)) u25 i3 hY1_7 ⟨rfl, rfl⟩ rfl rfl rfl rfl rfl rfl fun v2928 F2929 h2930 => hk k280 (srcG 4 rfl srcG0) <| ho 10 rfl (by kernel_rfl) fun K282 k283 => ts 3 m103 rfl rfl h1330.o1 rfl <| hk k283 (srcG 4 rfl srcG0) <| ho 11 rfl (by kernel_rfl) fun K284 k285 => ts 2 m25 rfl rfl h2930.o1 rfl <| hk k285 (srcG 4 rfl srcG0) <| hz (by kernel_rfl) <| jn [4, 3, 1, 2, 0] (J4 h1330 h2930 hp)
       · exact ts 2 m103 rfl rfl h1330.o1 rfl <| hk k287 (srcG 3 rfl srcG0) <| ho 7 rfl (by kernel_rfl) fun K288 k289 => tk0 (k := (kInt .i64)) u25 i3 hY1_7 ⟨rfl, rfl⟩ rfl rfl rfl rfl rfl rfl fun v2928 F2929 h2930 => hk k289 (srcG 4 rfl srcG0) <| ho 11 rfl (by kernel_rfl) fun K291 k292 => ts 2 m25 rfl rfl h2930.o1 rfl <| hk k292 (srcG 4 rfl srcG0) <| hz (by kernel_rfl) <| jn [4, 3, 1, 2, 0] (J4 h1330 h2930 hp)
     · exact tk0 (k := (kInt .i64)) u25 i3 hY1_7 ⟨rfl, rfl⟩ rfl rfl rfl rfl rfl rfl fun v2928 F2929 h2930 => hk k294 (srcG 3 rfl srcG0) <| ho 3 rfl (by kernel_rfl) fun K296 k297 => tk0 (k := kMaker) u103 i133 hY1_3 ⟨rfl, rfl⟩ rfl rfl rfl rfl rfl rfl fun v1328 F1329 h1330 => hk k297 (srcG 4 rfl srcG0) <| ho 10 rfl (by kernel_rfl) fun K299 k300 => ts 3 m103 rfl rfl h1330.o1 rfl <| hk k300 (srcG 4 rfl srcG0) <| ho 11 rfl (by kernel_rfl) fun K301 k302 => ts 2 m25 rfl rfl h2930.o1 rfl <| hk k302 (srcG 4 rfl srcG0) <| hz (by kernel_rfl) <| jn [4, 3, 0, 2, 1] (J4 h1330 h2930 hp)
 · refine tl i25 rfl fun b3727 => hk k304 (srcG 1 rfl srcG0) <| HL.all [3, 7, 8] (by kernel_rfl) (by simp) (HL.al ⟨_, rfl, fun K305 k306 => ?_⟩ (HL.al ⟨_, rfl, fun K333 k334 => ?_⟩ (HL.al ⟨_, rfl, fun K354 k355 => ?_⟩ HL.al0)))
   · refine tk0 (k := kMaker) u103 i133 hY1_3 ⟨rfl, rfl⟩ rfl rfl rfl rfl rfl rfl fun v1328 F1329 h1330 => hk k306 (srcG 2 rfl srcG0) <| HL.all [7, 8] (by kernel_rfl) (by simp) (HL.al ⟨_, rfl, fun K308 k309 => ?_⟩ (HL.al ⟨_, rfl, fun K317 k318 => ?_⟩ HL.al0))
     · exact tk0 (k := (kInt .i64)) u25 i3 hY1_7 ⟨rfl, rfl⟩ rfl rfl rfl rfl rfl rfl fun v2928 F2929 h2930 => hk k309 (srcG 3 rfl srcG0) <| ho 8 rfl (by kernel_rfl) fun K311 k312 => tl i103 rfl fun b3327 => hk k312 (srcG 4 rfl srcG0) <| ho 10 rfl (by kernel_rfl) fun K313 k314 => ts 0 m103 rfl rfl h1330.o1 rfl <| hk k314 (srcG 4 rfl srcG0) <| ho 11 rfl (by kernel_rfl) fun K315 k316 => ts 3 m25 rfl rfl h2930.o1 rfl <| hk k316 (srcG 4 rfl srcG0) <| hz (by kernel_rfl) <| jn [4, 0, 2, 3, 1] (J4 h1330 h2930 hp)
     · refine tl i103 rfl fun b3327 => hk k318 (srcG 3 rfl srcG0) <| HL.all [7, 10] (by kernel_rfl) (by simp) (HL.al ⟨_, rfl, fun K319 k320 => ?_⟩ (HL.al ⟨_, rfl, fun K326 k327 => ?_⟩ HL.al0))
       · exact tk0 (k := (kInt .i64)) u25 i3 hY1_7 ⟨rfl, rfl⟩ rfl rfl rfl rfl rfl rfl fun v2928 F2929 h2930 => hk k320 (srcG 4 rfl srcG0) <| ho 10 rfl (by kernel_rfl) fun K322 k323 => ts 1 m103 rfl rfl h1330.o1 rfl <| hk k323 (srcG 4 rfl srcG0) <| ho 11 rfl (by kernel_rfl) fun K324 k325 => ts 3 m25 rfl rfl h2930.o1 rfl <| hk k325 (srcG 4 rfl srcG0) <| hz (by kernel_rfl) <| jn [4, 1, 2, 3, 0] (J4 h1330 h2930 hp)
       · exact ts 0 m103 rfl rfl h1330.o1 rfl <| hk k327 (srcG 3 rfl srcG0) <| ho 7 rfl (by kernel_rfl) fun K328 k329 => tk0 (k := (kInt .i64)) u25 i3 hY1_7 ⟨rfl, rfl⟩ rfl rfl rfl rfl rfl rfl fun v2928 F2929 h2930 => hk k329 (srcG 4 rfl srcG0) <| ho 11 rfl (by kernel_rfl) fun K331 k332 => ts 3 m25 rfl rfl h2930.o1 rfl <| hk k332 (srcG 4 rfl srcG0) <| hz (by kernel_rfl) <| jn [4, 1, 2, 3, 0] (J4 h1330 h2930 hp)
   · refine tk0 (k := (kInt .i64)) u25 i3 hY1_7 ⟨rfl, rfl⟩ rfl rfl rfl rfl rfl rfl fun v2928 F2929 h2930 => hk k334 (srcG 2 rfl srcG0) <| HL.all [3, 8] (by kernel_rfl) (by simp) (HL.al ⟨_, rfl, fun K336 k337 => ?_⟩ (HL.al ⟨_, rfl, fun K345 k346 => ?_⟩ HL.al0))
     · exact tk0 (k := kMaker) u103 i133 hY1_3 ⟨rfl, rfl⟩ rfl rfl rfl rfl rfl rfl fun v1328 F1329 h1330 => hk k337 (srcG 3 rfl srcG0) <| ho 8 rfl (by kernel_rfl) fun K339 k340 => tl i103 rfl fun b3327 => hk k340 (srcG 4 rfl srcG0) <| ho 10 rfl (by kernel_rfl) fun K341 k342 => ts 0 m103 rfl rfl h1330.o1 rfl <| hk k342 (srcG 4 rfl srcG0) <| ho 11 rfl (by kernel_rfl) fun K343 k344 => ts 3 m25 rfl rfl h2930.o1 rfl <| hk k344 (srcG 4 rfl srcG0) <| hz (by kernel_rfl) <| jn [4, 0, 1, 3, 2] (J4 h1330 h2930 hp)
     · exact tl i103 rfl fun b3327 => hk k346 (srcG 3 rfl srcG0) <| ho 3 rfl (by kernel_rfl) fun K347 k348 => tk0 (k := kMaker) u103 i133 hY1_3 ⟨rfl, rfl⟩ rfl rfl rfl rfl rfl rfl fun v1328 F1329 h1330 => hk k348 (srcG 4 rfl srcG0) <| ho 10 rfl (by kernel_rfl) fun K350 k351 => ts 1 m103 rfl rfl h1330.o1 rfl <| hk k351 (srcG 4 rfl srcG0) <| ho 11 rfl (by kernel_rfl) fun K352 k353 => ts 3 m25 rfl rfl h2930.o1 rfl <| hk k353 (srcG 4 rfl srcG0) <| hz (by kernel_rfl) <| jn [4, 1, 0, 3, 2] (J4 h1330 h2930 hp)
   · refine tl i103 rfl fun b3327 => hk k355 (srcG 2 rfl srcG0) <| HL.all [3, 7] (by kernel_rfl) (by simp) (HL.al ⟨_, rfl, fun K356 k357 => ?_⟩ (HL.al ⟨_, rfl, fun K373 k374 => ?_⟩ HL.al0))
     · refine tk0 (k := kMaker) u103 i133 hY1_3 ⟨rfl, rfl⟩ rfl rfl rfl rfl rfl rfl fun v1328 F1329 h1330 => hk k357 (srcG 3 rfl srcG0) <| HL.all [7, 10] (by kernel_rfl) (by simp) (HL.al ⟨_, rfl, fun K359 k360 => ?_⟩ (HL.al ⟨_, rfl, fun K366 k367 => ?_⟩ HL.al0))
       · exact tk0 (k := (kInt .i64)) u25 i3 hY1_7 ⟨rfl, rfl⟩ rfl rfl rfl rfl rfl rfl fun v2928 F2929 h2930 => hk k360 (srcG 4 rfl srcG0) <| ho 10 rfl (by kernel_rfl) fun K362 k363 => ts 2 m103 rfl rfl h1330.o1 rfl <| hk k363 (srcG 4 rfl srcG0) <| ho 11 rfl (by kernel_rfl) fun K364 k365 => ts 3 m25 rfl rfl h2930.o1 rfl <| hk k365 (srcG 4 rfl srcG0) <| hz (by kernel_rfl) <| jn [4, 2, 1, 3, 0] (J4 h1330 h2930 hp)
       · exact ts 1 m103 rfl rfl h1330.o1 rfl <| hk k367 (srcG 3 rfl srcG0) <| ho 7 rfl (by kernel_rfl) fun K368 k369 => tk0 (k := (kInt .i64)) u25 i3 hY1_7 ⟨rfl, rfl⟩ rfl rfl rfl rfl rfl rfl fun v2928 F2929 h2930 => hk k369 (srcG 4 rfl srcG0) <| ho 11 rfl (by kernel_rfl) fun K371 k372 => ts 3 m25 rfl rfl h2930.o1 rfl <| hk k372 (srcG 4 rfl srcG0) <| hz (by kernel_rfl) <| jn [4, 2, 1, 3, 0] (J4 h1330 h2930 hp)
     · exact tk0 (k := (kInt .i64)) u25 i3 hY1_7 ⟨rfl, rfl⟩ rfl rfl rfl rfl rfl rfl fun v2928 F2929 h2930 => hk k374 (srcG 3 rfl srcG0) <| ho 3 rfl (by kernel_rfl) fun K376 k377 => tk0 (k := kMaker) u103 i133 hY1_3 ⟨rfl, rfl⟩ rfl rfl rfl rfl rfl rfl fun v1328 F1329 h1330 => hk k377 (srcG 4 rfl srcG0) <| ho 10 rfl (by kernel_rfl) fun K379 k380 => ts 2 m103 rfl rfl h1330.o1 rfl <| hk k380 (srcG 4 rfl srcG0) <| ho 11 rfl (by kernel_rfl) fun K381 k382 => ts 3 m25 rfl rfl h2930.o1 rfl <| hk k382 (srcG 4 rfl srcG0) <| hz (by kernel_rfl) <| jn [4, 2, 0, 3, 1] (J4 h1330 h2930 hp)

/-! ### fettle/graph.Order -/
abbrev graph_Order.R (r : List Int) (v : Value) (A : List FP) : Prop := ∃ (w1 : Value) (G1 : FP), w1 = v ∧ A = [G1] ∧ SlO 3 (kInt .i64) r w1 G1
def graph_Order (a1 : PFunc) : Option (List Int) :=
  (graph_order a1).bind fun x7 =>
  some x7.1
theorem graph_Order_ok {E : World} {H : FP} {w : World} {a1 : PFunc} {v2 : Value} {v4 : Value} {r : List Int} (h3 : SlI (kInt .i64) H a1.regs v2) (h5 : SlI kBlock H a1.blocks v4) (hp : graph_Order a1 = some r) (hst : St E H [] w) :
    Fn Try.prog 66 #[.agg #[.int .i64 a1.params, .int .i64 a1.result, v2, v4]] w fun v w' => ∃ A, graph_Order.R r v A ∧ St E H A w' := by
 refine fb 11 [.tmp 2] Try.func66 rfl rfl rfl rfl rfl hst <| sr <| tb [.int .i64 a1.params, .int .i64 a1.result, v2, v4] rfl rfl fun b6 => ta rfl <| nz <| sr <| tv (lA (ds := [.int .i64 a1.params, .int .i64 a1.result, v2, v4]) ag_41 0 rfl rfl rfl rfl) rfl <| bE hp fun x7 hy1 hp => tc 0 [_] rfl c73 (fun _ => graph_order_ok (a1 := a1) (h3.mono subH) (h5.mono subH) hy1) rfl ?_
 rintro _ _ ⟨v8, F9, v11, F12, rfl, rfl, h10, h13⟩
 exact tm rfl <| tv (xt rfl rfl) rfl <| tv (xt rfl rfl) rfl <| ta rfl <| ta rfl <| nz <| sr <| tm rfl <| ta rfl <| nz <| TC.ret <| rt hp [0] ⟨v8, F9, rfl, rfl, h10⟩

/-! ### fettle/dom.ahead -/
abbrev dom_ahead.R (r : List (List Int)) (v : Value) (A : List FP) : Prop := ∃ (w1 : Value) (G1 : FP), w1 = v ∧ A = [G1] ∧ SlO 25 (kSl 3 (kInt .i64)) r w1 G1
def dom_ahead.nx9  (x12 : List (List Int)) : Option (List (List Int)) :=
  some x12
def dom_ahead.nx24 (x11 : Int) (x27 : List (List Int)) : Option (Ex (List (List Int)) (List (List Int) × Int)) :=
  some (.go (x27, (w64 (x11 + 1))))
def dom_ahead.bd24 (x11 : Int) (x15 : List Int) (x23 : List (List Int)) (x26 : Int) : Option (Ex (List (List Int)) (List (List Int) × Int)) :=
  if x26 < (len x15) then
    (idx x15 x26).bind fun x30 =>
    (idx x23 x30).bind fun x36 =>
    (cat x36 [x11]).bind fun x46 =>
    some (.go ((x23.set (x30).toNat x46), (w64 (x26 + 1))))
  else
    some (.ret x23)
def dom_ahead.bd9 (a1 : List (List Int)) (x8 : List (List Int)) (x11 : Int) : Option (Ex (List (List Int)) (List (List Int) × Int)) :=
  if x11 < (len a1) then
    (idx a1 x11).bind fun x15 =>
    (whl (fun (s : (List (List Int) × Int)) => dom_ahead.bd24 x11 x15 s.1 s.2) FUEL (x8, 0)).bind fun z =>
    dom_ahead.nx24 x11 z
  else
    some (.ret x8)
def dom_ahead (a1 : List (List Int)) : Option (List (List Int)) :=
  (mkl (len a1) ([] : List Int)).bind fun x4 =>
  (whl (fun (s : (List (List Int) × Int)) => dom_ahead.bd9 a1 s.1 s.2) FUEL (x4, 0)).bind fun z =>
  dom_ahead.nx9 z
set_option maxHeartbeats 4000000 in
theorem dom_ahead_ok {E : World} {H : FP} {w : World} {a1 : List (List Int)} {v2 : Value} {r : List (List Int)} (h3 : SlI (kSl 3 (kInt .i64)) H a1 v2) (hp : dom_ahead a1 = some r) (hst : St E H [] w) :
    Fn Try.prog 67 #[v2] w fun v w' => ∃ A, dom_ahead.R r v A ∧ St E H A w' := by
 refine fb 37 [.tmp 2] Try.func67 rfl rfl rfl rfl rfl hst <| sr <| ta rfl <| nz <| sr <| tm rfl <| tv (ln u73 h3 rfl) rfl <| tk (k := (kSl 3 (kInt .i64))) u73 i25 hp ⟨_, rfl, SlO.nil 3⟩ rfl rfl rfl rfl rfl rfl fun x4 v5 F6 h7 hp => ta rfl <| nz <| TC.seq fun K2 k3 => sr <| tm rfl <| tv (ln u73 h3 rfl) rfl <| tm rfl <| nz <| TC.block <| bE hp fun z_5 hz6 hr7 => ?_
 have J11 {x12 F13 e10} (h14 : SlO 25 (kSl 3 (kInt .i64)) x12 v5 F13) (hq12 : x12 = z_5) : ∀ w, St E H [F13] w → K2 (ovr e10 [(3, v5)]) w := by
  subst hq12
  replace hp : dom_ahead.nx9 x12 = some r := hr7
  exact tg k3 <| sr <| tm rfl <| ta rfl <| nz <| TC.ret <| rt hp [0] ⟨v5, F13, rfl, rfl, h14⟩
 refine lp hz6 [0] rfl (fun s e L => ∃ x8 x11 F9 e4, s = (x8, x11) ∧ SlO 25 (kSl 3 (kInt .i64)) x8 v5 F9 ∧ e = ovr e4 [(3, v5), (11, v2), (12, .int .i64 (len a1)), (13, .int .i64 x11)] ∧ L = [F9]) ⟨_, _, F6, _, rfl, h7, ovr_eq _ _ rfl, rfl⟩ ?_
 rintro _ _ _ ⟨x8, x11, F9, e4, rfl, h10, rfl, rfl⟩ X8 hp hx9
 replace hp : dom_ahead.bd9 a1 x8 x11 = some X8 := hp
 refine sr <| tv (blt rfl rfl) rfl <| nz <| TC.seq fun K13 k14 => cD rfl hp (fun hc15 hp => ?_) fun hc15 hp => ?_
 · refine sk k14 rfl <| TC.seq fun K16 k17 => TC.block <| sr <| tm rfl <| ti u73 i25 h3 hp rfl rfl rfl rfl ?_
   rintro x15 b16 o17 _ hp ⟨v21, rfl, h22⟩ h20
   refine tv (lr s25 sH h20 0 rfl rfl) rfl <| ta rfl <| ta rfl <| nz <| sr <| tm rfl <| tv (ln u25 h22 rfl) rfl <| tm rfl <| nz <| TC.block <| bE hp fun z_20 hz21 hr22 => ?_
   have J26 {x27 F28 e25} (h29 : SlO 25 (kSl 3 (kInt .i64)) x27 v5 F28) (hq27 : x27 = z_20) : ∀ w, St E H [F28] w → K16 (ovr e25 [(3, v5), (11, v2), (12, .int .i64 (len a1)), (13, .int .i64 x11)]) w := by
    subst hq27
    replace hp : dom_ahead.nx24 x11 x27 = some X8 := hr22
    exact tg k17 <| TC.region <| tv (bad rfl rfl) rfl <| tm rfl <| nl <| gk hp [0] ⟨_, _, F28, _, rfl, h29, ovr_eq _ _ rfl, rfl⟩
   refine lp hz21 [0] rfl (fun s e L => ∃ x23 x26 F24 e19, s = (x23, x26) ∧ SlO 25 (kSl 3 (kInt .i64)) x23 v5 F24 ∧ e = ovr e19 [(3, v5), (4, .int .i64 x11), (11, v2), (12, .int .i64 (len a1)), (13, .int .i64 x11), (18, v21), (19, .int .i64 (len x15)), (20, .int .i64 x26)] ∧ L = [F24]) ⟨_, _, F9, _, rfl, h10, ovr_eq _ _ rfl, rfl⟩ ?_
   rintro _ _ _ ⟨x23, x26, F24, e19, rfl, h25, rfl, rfl⟩ X23 hp hx24
   replace hp : dom_ahead.bd24 x11 x15 x23 x26 = some X23 := hp
   refine sr <| tv (blt rfl rfl) rfl <| nz <| TC.seq fun K28 k29 => cD rfl hp (fun hc30 hp => ?_) fun hc30 hp => ?_
   · refine sk k29 rfl <| TC.seq fun K31 k32 => TC.block <| sr <| ti u25 i3 h22 hp rfl rfl rfl rfl ?_
     rintro x30 b31 o32 _ hp rfl h35
     refine tv (lr s3 sH h35 0 rfl rfl) rfl <| ta rfl <| nz <| TC.region <| tm rfl <| tm rfl <| tm rfl <| tm rfl <| bE hp fun x36 hx34 hp => TL.open_ h25 hx34 ?_
     rintro b37 _ F39 F40 h41 ⟨v43, rfl, h44⟩
     exact tv (rv_ixH u73 i25 rfl rfl (idx_some hx34).1 h41) rfl <| tv (lr s25 (Src.at_ 0 rfl) (Hole.cells h41) 0 rfl rfl) rfl <| tm rfl <| tbs [(0, .int .i64 x11)] [.int .i64 x11] u25 i3 (by kernel_rfl) rfl rfl rfl rfl fun b45 => tp [2, 0, 1] [_,_,_] rfl rfl <| tf 2 0 [_,_,_,_] rfl <| tp2 u25 i3 h44 hp (RepL.to (RepL.cons (k := (kInt .i64)) (x := x11) ⟨rfl, rfl⟩ RepL.nil) rfl) rfl rfl rfl rfl rfl rfl rfl rfl rfl fun x46 v47 F48 h49 hp => tv (rv_ixH u73 i25 rfl rfl (idx_some hx34).1 h41) rfl <| tp [1, 0] [_,_] rfl rfl <| tsH h41 m25 0 rfl h49.o1 rfl fun F51 h52 => nl <| tg k32 <| TC.region <| tv (bad rfl rfl) rfl <| tm rfl <| nl <| W.shut (a := x46) h52 ⟨_, rfl, h49⟩ fun F53 h54 => gk hp [0] ⟨_, _, F53, _, rfl, h54, ovr_eq _ _ rfl, rfl⟩
   · exact TC.exit <| jn [0] (J26 h25 (ex_ret hp hx24))
 · exact TC.exit <| jn [0] (J11 h10 (ex_ret hp hx9))

/-! ### fettle/dom.meet -/
abbrev dom_meet.R (r : Int) (v : Value) (A : List FP) : Prop := .int .i64 r = v ∧ A = []
def dom_meet.nx8  (x11 : Int) : Option Int :=
  some x11
def dom_meet.nx31 (x13 : Int) (x15 : Int) : Option (Ex Int (Int × Int)) :=
  some (.go (x13, x15))
def dom_meet.bd31 (a1 : List Int) (a4 : List Int) (x13 : Int) (x14 : Int) : Option (Ex Int Int) :=
  (idx a4 x14).bind fun x16 =>
  (idx a4 x13).bind fun x22 =>
  if x16 > x22 then
    (idx a1 x14).bind fun x28 =>
    some (.go x28)
  else
    some (.ret x14)
def dom_meet.nx24 (a1 : List Int) (a4 : List Int) (x10 : Int) (x13 : Int) : Option (Ex Int (Int × Int)) :=
  (whl (fun (s : Int) => dom_meet.bd31 a1 a4 x13 s) FUEL x10).bind fun z =>
  dom_meet.nx31 x13 z
def dom_meet.bd24 (a1 : List Int) (a4 : List Int) (x10 : Int) (x12 : Int) : Option (Ex Int Int) :=
  (idx a4 x12).bind fun x34 =>
  (idx a4 x10).bind fun x40 =>
  if x34 > x40 then
    (idx a1 x12).bind fun x46 =>
    some (.go x46)
  else
    some (.ret x12)
def dom_meet.bd8 (a1 : List Int) (a4 : List Int) (x9 : Int) (x10 : Int) : Option (Ex Int (Int × Int)) :=
  if ¬ x9 = x10 then
    (whl (fun (s : Int) => dom_meet.bd24 a1 a4 x10 s) FUEL x9).bind fun z =>
    dom_meet.nx24 a1 a4 x10 z
  else
    some (.ret x9)
def dom_meet (a1 : List Int) (a4 : List Int) (a7 : Int) (a8 : Int) : Option Int :=
  (whl (fun (s : (Int × Int)) => dom_meet.bd8 a1 a4 s.1 s.2) FUEL (a7, a8)).bind fun z =>
  dom_meet.nx8 z
set_option maxHeartbeats 4000000 in
theorem dom_meet_ok {E : World} {H : FP} {w : World} {a1 : List Int} {a4 : List Int} {a7 : Int} {a8 : Int} {v2 : Value} {v5 : Value} {r : Int} (h3 : SlI (kInt .i64) H a1 v2) (h6 : SlI (kInt .i64) H a4 v5) (hp : dom_meet a1 a4 a7 a8 = some r) (hst : St E H [] w) :
    Fn Try.prog 68 #[v2, v5, .int .i64 a7, .int .i64 a8] w fun v w' => ∃ A, dom_meet.R r v A ∧ St E H A w' := by
 refine fb 39 [.tmp 8] Try.func68 rfl rfl rfl rfl rfl hst <| sr <| ta rfl <| nz <| TC.seq fun K1 k2 => TC.block <| bE hp fun z_4 hz5 hr6 => ?_
 have J10 {x11 e9} (hq11 : x11 = z_4) : ∀ w, St E H [] w → K1 (ovr e9 [(2, .int .i64 x11)]) w := by
  subst hq11
  replace hp : dom_meet.nx8 x11 = some r := hr6
  exact tg k2 <| sr <| tm rfl <| ta rfl <| nz <| TC.ret <| rt hp [] ⟨rfl, rfl⟩
 refine lp hz5 [] rfl (fun s e L => ∃ x9 x10 e3, s = (x9, x10) ∧ e = ovr e3 [(0, v2), (1, v5), (2, .int .i64 x9), (3, .int .i64 x10)] ∧ L = []) ⟨_, _, _, rfl, ovr_eq _ _ rfl, rfl⟩ ?_
 rintro _ _ _ ⟨x9, x10, e3, rfl, rfl, rfl⟩ X7 hp hx8
 replace hp : dom_meet.bd8 a1 a4 x9 x10 = some X7 := hp
 refine TC.seq fun K12 k13 => sr <| tm rfl <| tm rfl <| tv (bne rfl rfl) rfl <| nz <| cD rfl hp (fun hc14 hp => ?_) fun hc14 hp => ?_
 · refine sk k13 rfl <| TC.named fun K15 k16 => TC.block <| TC.seq fun K17 k18 => TC.block <| bE hp fun z_20 hz21 hr22 => ?_
   have J45 {x13 e25} (hq46 : x13 = z_20) : ∀ w, St E H [] w → K17 (ovr e25 [(0, v2), (1, v5), (2, .int .i64 x13), (3, .int .i64 x10)]) w := by
    subst hq46
    replace hp : dom_meet.nx24 a1 a4 x10 x13 = some X7 := hr22
    refine tg k18 <| TC.block <| bE hp fun z_27 hz28 hr29 => ?_
    have J33 {x15 e32} (hq34 : x15 = z_27) : ∀ w, St E H [] w → K15 (ovr e32 [(0, v2), (1, v5), (2, .int .i64 x13), (3, .int .i64 x15)]) w := by
     subst hq34
     replace hp : dom_meet.nx31 x13 x15 = some X7 := hr29
     exact viaK k16 <| gk hp [] ⟨_, _, _, rfl, ovr_eq _ _ rfl, rfl⟩
    refine lp hz28 [] rfl (fun s e L => ∃ e26, e = ovr e26 [(0, v2), (1, v5), (2, .int .i64 x13), (3, .int .i64 s)] ∧ L = []) ⟨_, ovr_eq _ _ rfl, rfl⟩ ?_
    rintro x14 _ _ ⟨e26, rfl, rfl⟩ X30 hp hx31
    replace hp : dom_meet.bd31 a1 a4 x13 x14 = some X30 := hp
    refine TC.seq fun K35 k36 => TC.seq fun K37 k38 => cq mix (by kernel_rfl) <| qv mv rfl <| qv mv rfl <| qi u25 i3 h6 hp rfl rfl rfl rfl ?_
    rintro x16 b17 o18 _ hp rfl h21
    refine qv (lr s3 sH h21 0 rfl rfl) rfl <| qv mv rfl <| qv mv rfl <| qi u25 i3 h6 hp rfl rfl rfl rfl ?_
    rintro x22 b23 o24 _ hp rfl h27
    refine qv (lr s3 sH h27 0 rfl rfl) rfl <| qv (bgt rfl rfl) rfl <| QL.nil <| tg k38 <| cD rfl hp (fun hc41 hp => ?_) fun hc41 hp => ?_
    · refine sk k36 rfl <| TC.block <| TC.region <| tm rfl <| tm rfl <| ti u25 i3 h3 hp rfl rfl rfl rfl ?_
      rintro x28 b29 o30 _ hp rfl h33
      exact tv (lr s3 sH h33 0 rfl rfl) rfl <| ta rfl <| nl <| gk hp [] ⟨_, ovr_eq _ _ rfl, rfl⟩
    · exact TC.exit <| jn [] (J33 (ex_ret hp hx31))
   refine lp hz21 [] rfl (fun s e L => ∃ e19, e = ovr e19 [(0, v2), (1, v5), (2, .int .i64 s), (3, .int .i64 x10)] ∧ L = []) ⟨_, ovr_eq _ _ rfl, rfl⟩ ?_
   rintro x12 _ _ ⟨e19, rfl, rfl⟩ X23 hp hx24
   replace hp : dom_meet.bd24 a1 a4 x10 x12 = some X23 := hp
   refine TC.seq fun K47 k48 => TC.seq fun K49 k50 => cq mix (by kernel_rfl) <| qv mv rfl <| qv mv rfl <| qi u25 i3 h6 hp rfl rfl rfl rfl ?_
   rintro x34 b35 o36 _ hp rfl h39
   refine qv (lr s3 sH h39 0 rfl rfl) rfl <| qv mv rfl <| qv mv rfl <| qi u25 i3 h6 hp rfl rfl rfl rfl ?_
   rintro x40 b41 o42 _ hp rfl h45
   refine qv (lr s3 sH h45 0 rfl rfl) rfl <| qv (bgt rfl rfl) rfl <| QL.nil <| tg k50 <| cD rfl hp (fun hc53 hp => ?_) fun hc53 hp => ?_
   · refine sk k48 rfl <| TC.block <| TC.region <| tm rfl <| tm rfl <| ti u25 i3 h3 hp rfl rfl rfl rfl ?_
     rintro x46 b47 o48 _ hp rfl h51
     exact tv (lr s3 sH h51 0 rfl rfl) rfl <| ta rfl <| nl <| gk hp [] ⟨_, ovr_eq _ _ rfl, rfl⟩
   · exact TC.exit <| jn [] (J45 (ex_ret hp hx24))
 · exact TC.exit <| jn [] (J10 (ex_ret hp hx8))
end Go.Proofs.Ytpmcbahahjelnaa
