/- The walk through the program's functions: each one's pure reading, and that a call does what it says. No conditions. -/
import Derived.Test.YteaknconpkklhaaSoF
set_option linter.unusedVariables false
set_option linter.unusedSimpArgs false
namespace Go.Proofs.Yteaknconpkklhaa
open Go Go.Proofs

/-! ### fettle/fettlelaw09.call -/
abbrev fettlelaw09_call.R (r : PFunc) (v : Value) (A : List FP) : Prop := ∃ (w1 : Value) (G1 : FP) (w2 : Value) (G2 : FP), .agg #[.int .i64 r.params, .int .i64 r.result, w1, w2] = v ∧ A = [G1, G2] ∧ SlO 3 (kInt .i64) r.regs w1 G1 ∧ SlO 50 kBlock r.blocks w2 G2
def fettlelaw09_call (a1 : Int) : Option PFunc :=
  some (⟨0, 0, ([] : List Int), [(⟨([] : List PPhi), [(⟨17, 0, ([] : List Int), 0, a1⟩ : PInstr)], (⟨0, 0, ([] : List Int)⟩ : PTerm)⟩ : PBlock)]⟩ : PFunc)
theorem fettlelaw09_call_ok {E : World} {H : FP} {w : World} {a1 : Int} {r : PFunc}  (hp : fettlelaw09_call a1 = some r) (hst : St E H [] w) :
    Fn Try.prog 60 #[.int .i64 a1] w fun v w' => ∃ A, fettlelaw09_call.R r v A ∧ St E H A w' := by
 refine Fn.bodyV (fn := Try.f60) (args := [.int .i64 a1]) E H [] 9 Try.func60 rfl rfl (leb rfl) hst <| sr <| tl i40 rfl fun b2 => nz <| sr <| tm rfl <| tv (rv_bv (vs := [(0, .int .i64 17), (4, .int .i64 a1)]) (ds := [.int .i64 17, .int .i64 0, .slice none 0 0, .int .i64 0, .int .i64 a1]) rfl (fun w => by kernel_rfl)) rfl <| tbs [(0, .agg #[.int .i64 17, .int .i64 0, .slice none 0 0, .int .i64 0, .int .i64 a1])] [.int .i64 17, .int .i64 0, .slice none 0 0, .int .i64 0, .int .i64 a1] u48 i52 (by kernel_rfl) rfl rfl rfl rfl fun b3 => tv (rv_bv (vs := [(1, .slice (some ⟨b3, 0, none⟩) 1 1)]) (ds := [.slice none 0 0, .slice (some ⟨b3, 0, none⟩) 1 1, .int .i64 0, .int .i64 0, .slice none 0 0]) rfl (fun w => by kernel_rfl)) rfl <| tbs [(0, .agg #[.slice none 0 0, .slice (some ⟨b3, 0, none⟩) 1 1, .int .i64 0, .int .i64 0, .slice none 0 0])] [.slice none 0 0, .slice (some ⟨b3, 0, none⟩) 1 1, .int .i64 0, .int .i64 0, .slice none 0 0] u38 i50 (by kernel_rfl) rfl rfl rfl rfl fun b4 => tv (rv_bv (vs := [(3, .slice (some ⟨b4, 0, none⟩) 1 1)]) (ds := [.int .i64 0, .int .i64 0, .slice none 0 0, .slice (some ⟨b4, 0, none⟩) 1 1]) rfl (fun w => by kernel_rfl)) rfl <| TL.new0 <| TL.new0 <| tp [3, 0, 1, 2, 4] [_,_,_,_,_] rfl rfl <| TL.litOwn (n := 1) (xs := [(⟨17, 0, ([] : List Int), 0, a1⟩ : PInstr)]) (RepL.to (G' := ([] : FP)) (RepL.cons (k := kInstr) (x := (⟨17, 0, ([] : List Int), 0, a1⟩ : PInstr)) ⟨_, _, rfl, rfl, (SlO.nil 3)⟩ RepL.nil) (by simp)) rfl rfl (ltb rfl) fun F7 h8 => TL.new0 <| tp [3, 2, 1, 0, 4] [_,_,_,_,_] rfl rfl <| tf 1 3 [_,_,_] rfl <| TL.litOwn (n := 1) (xs := [(⟨([] : List PPhi), [(⟨17, 0, ([] : List Int), 0, a1⟩ : PInstr)], (⟨0, 0, ([] : List Int)⟩ : PTerm)⟩ : PBlock)]) (RepL.to (G' := ([] : FP) ++ (F7 ++ (([] : FP)))) (RepL.cons (k := kBlock) (x := (⟨([] : List PPhi), [(⟨17, 0, ([] : List Int), 0, a1⟩ : PInstr)], (⟨0, 0, ([] : List Int)⟩ : PTerm)⟩ : PBlock)) ⟨_, _, _, _, _, _, rfl, rfl, (SlO.nil 76), h8, (SlO.nil 3)⟩ RepL.nil) (by simp)) rfl rfl (ltb rfl) fun F10 h11 => tS 1 m40 rfl rfl [.int .i64 0, .int .i64 0, .slice none 0 0, (.slice (some ⟨b4, 0, none⟩) 1 1)] rfl (oc rfl (oc rfl (oc rfl (oc (h11).one oc0)))) rfl rfl <| nz <| TC.ret <| W.new0 ?_
 obtain rfl := Option.some.inj hp
 exact fun w hw => retC1 hw rfl rfl ag_40 2 rfl rfl ⟨(.slice none 0 0), ([] : FP), (.slice (some ⟨b4, 0, none⟩) 1 1), F10, rfl, rfl, (SlO.nil 3), h11⟩ (hw.pickA [0, 1] rfl)

/-! ### slices.Sort[[]int,int] -/


/-! ### slices.Compact[[]int,int] -/


/-! ### fettle/calls.Calls -/
abbrev calls_Calls.R (r : List (List Int)) (v : Value) (A : List FP) : Prop := ∃ (w1 : Value) (G1 : FP), w1 = v ∧ A = [G1] ∧ SlO 25 (kSl 3 (kInt .i64)) r w1 G1
def calls_Calls.nx9  (x13 : List (List Int)) : Option (List (List Int)) :=
  some x13
def calls_Calls.nx26 (x12 : Int) (x31 : List (List Int)) : Option (Ex (List (List Int)) (List (List Int) × Int)) :=
  (idx x31 x12).bind fun x34 =>
  (slices_Sort x34).bind fun x43 =>
  (slices_Compact x43).bind fun x47 =>
  some (.go ((x31.set (x12).toNat x47), (w64 (x12 + 1))))
def calls_Calls.nx48 (x30 : Int) (x73 : List (List Int)) : Option (Ex (List (List Int)) (List (List Int) × Int)) :=
  some (.go (x73, (w64 (x30 + 1))))
def calls_Calls.jn58 (x72 : Int) (x76 : List (List Int)) : Option (Ex (List (List Int)) (List (List Int) × Int)) :=
  some (.go (x76, (w64 (x72 + 1))))
def calls_Calls.bd48 (x12 : Int) (x56 : PBlock) (x69 : List (List Int)) (x72 : Int) : Option (Ex (List (List Int)) (List (List Int) × Int)) :=
  if x72 < (len x56.ins) then
    (idx x56.ins x72).bind fun x79 =>
    if (x79.op = 17 ∧ x79.fn ≥ 0) ∧ x79.fn < (len x69) then
      (idx x69 x12).bind fun x1689 =>
      (cat x1689 [x79.fn]).bind fun x3689 =>
      calls_Calls.jn58 x72 (x69.set (x12).toNat x3689)
    else
      calls_Calls.jn58 x72 x69
  else
    some (.ret x69)
def calls_Calls.bd26 (x12 : Int) (x16 : PFunc) (x27 : List (List Int)) (x30 : Int) : Option (Ex (List (List Int)) (List (List Int) × Int)) :=
  if x30 < (len x16.blocks) then
    (idx x16.blocks x30).bind fun x56 =>
    (whl (fun (s : (List (List Int) × Int)) => calls_Calls.bd48 x12 x56 s.1 s.2) FUEL (x27, 0)).bind fun z =>
    calls_Calls.nx48 x30 z
  else
    some (.ret x27)
def calls_Calls.bd9 (a1 : PModule) (x9 : List (List Int)) (x12 : Int) : Option (Ex (List (List Int)) (List (List Int) × Int)) :=
  if x12 < (len a1.funcs) then
    (idx a1.funcs x12).bind fun x16 =>
    (whl (fun (s : (List (List Int) × Int)) => calls_Calls.bd26 x12 x16 s.1 s.2) FUEL (x9, 0)).bind fun z =>
    calls_Calls.nx26 x12 z
  else
    some (.ret x9)
def calls_Calls (a1 : PModule) : Option (List (List Int)) :=
  (mkl (len a1.funcs) ([] : List Int)).bind fun x5 =>
  (whl (fun (s : (List (List Int) × Int)) => calls_Calls.bd9 a1 s.1 s.2) FUEL (x5, 0)).bind fun z =>
  calls_Calls.nx9 z
set_option maxHeartbeats 4000000 in
theorem calls_Calls_ok {E : World} {H : FP} {w : World} {a1 : PModule} {v2 : Value} {r : List (List Int)} (h3 : SlI kFunc H a1.funcs v2) (hp : calls_Calls a1 = some r) (hst : St E H [] w) :
    Fn Try.prog 26 #[.agg #[v2]] w fun v w' => ∃ A, calls_Calls.R r v A ∧ St E H A w' := by
 refine fb 79 [.tmp 2] Try.func26 rfl rfl rfl rfl rfl hst <| sr <| tb [v2] rfl rfl fun b4 => ta rfl <| nz <| sr <| tv (fa f35_0 rfl) rfl <| tv (lb s33 0 rfl rfl rfl) rfl <| tv (ln u33 h3 rfl) rfl <| tk (k := (kSl 3 (kInt .i64))) u60 i25 hp ⟨_, rfl, SlO.nil 3⟩ rfl rfl rfl rfl rfl rfl fun x5 v6 F7 h8 hp => ta rfl <| nz <| TC.seq fun K2 k3 => sr <| tv (fa f35_0 rfl) rfl <| tv (lb s33 1 rfl rfl rfl) rfl <| tv (ln u33 h3 rfl) rfl <| tm rfl <| nz <| TC.block <| bE hp fun z_5 hz6 hr7 => ?_
 have J11 {x13 F14 e10} (h15 : SlO 25 (kSl 3 (kInt .i64)) x13 v6 F14) (hq12 : x13 = z_5) : ∀ w, St E H [F14] w → K2 (ovr e10 [(3, v6)]) w := by
  subst hq12
  replace hp : calls_Calls.nx9 x13 = some r := hr7
  exact tg k3 <| sr <| tm rfl <| ta rfl <| nz <| TC.ret <| rt hp [0] ⟨v6, F14, rfl, rfl, h15⟩
 refine lp hz6 [0] rfl (fun s e L => ∃ x9 x12 F10 e4, s = (x9, x12) ∧ SlO 25 (kSl 3 (kInt .i64)) x9 v6 F10 ∧ e = ovr e4 [(3, v6), (15, v2), (16, .int .i64 (len a1.funcs)), (17, .int .i64 x12)] ∧ L = [F10]) ⟨_, _, F7, _, rfl, h8, ovr_eq _ _ rfl, rfl⟩ ?_
 rintro _ _ _ ⟨x9, x12, F10, e4, rfl, h11, rfl, rfl⟩ X8 hp hx9
 replace hp : calls_Calls.bd9 a1 x9 x12 = some X8 := hp
 refine sr <| tv (blt rfl rfl) rfl <| nz <| TC.seq fun K13 k14 => cD rfl hp (fun hc15 hp => ?_) fun hc15 hp => ?_
 · refine sk k14 rfl <| TC.seq fun K16 k17 => TC.block <| sr <| tm rfl <| ti u33 i40 h3 hp rfl rfl rfl rfl ?_
   rintro x16 b17 o18 _ hp ⟨v22, v24, rfl, h23, h25⟩ h21
   refine tv (lR (ds := [.int .i64 x16.params, .int .i64 x16.result, v22, v24]) ag_40 sH h21 0 rfl rfl rfl) rfl <| tl i40 rfl fun b26 => ta rfl <| tS 0 m40 rfl rfl [.int .i64 x16.params, .int .i64 x16.result, v22, v24] rfl (oc rfl (oc rfl (oc (h23).one (oc (h25).one oc0)))) rfl rfl <| nz <| TC.seq fun K19 k20 => sr <| tv (fa f40_3 rfl) rfl <| tv (lb s38 0 rfl rfl rfl) rfl <| tv (ln u38 h25 rfl) rfl <| tm rfl <| nz <| TC.block <| bE hp fun z_22 hz23 hr24 => ?_
   have J35 {x31 F32 e27} (h33 : SlO 25 (kSl 3 (kInt .i64)) x31 v6 F32) (hq36 : x31 = z_22) : ∀ w, St E H [F32] w → K19 (ovr e27 [(3, v6), (4, .int .i64 x12), (15, v2), (16, .int .i64 (len a1.funcs)), (17, .int .i64 x12)]) w := by
    subst hq36
    replace hp : calls_Calls.nx26 x12 x31 = some X8 := hr24
    refine tg k20 <| sr <| tm rfl <| tm rfl <| bE hp fun x34 hx28 hp => TL.open_ h33 hx28 ?_
    rintro b35 _ F37 F38 h39 ⟨v41, rfl, h42⟩
    refine tv (rv_ixH u60 i25 rfl rfl (idx_some hx28).1 h39) rfl <| tv (lr s25 (Src.at_ 0 rfl) (Hole.cells h39) 0 rfl rfl) rfl <| tp [1, 0] [_,_] rfl rfl <| bE hp fun x43 hy29 hp => tc 1 [_] rfl c65 (fun _ => slices_Sort_ok (a1 := x34) h42 hy29) rfl ?_
    rintro _ _ ⟨F44, rfl, rfl, h45⟩
    refine nz <| TC.region <| tm rfl <| tm rfl <| tm rfl <| tm rfl <| tv (rv_ixH u60 i25 rfl rfl (idx_some hx28).1 h39) rfl <| tv (lr s25 (Src.at_ 1 rfl) (Hole.cells h39) 0 rfl rfl) rfl <| bE hp fun x47 hy32 hp => tc 1 [_] rfl c66 (fun _ => slices_Compact_ok (a1 := x43) h45 hy32) rfl ?_
    rintro _ _ ⟨v48, F49, rfl, rfl, h50⟩
    exact tv (rv_ixH u60 i25 rfl rfl (idx_some hx28).1 h39) rfl <| tp [1, 0] [_,_] rfl rfl <| tsH h39 m25 0 rfl h50.o1 rfl fun F52 h53 => nl <| tg k17 <| TC.region <| tv (bad rfl rfl) rfl <| tm rfl <| nl <| W.shut (a := x47) h53 ⟨_, rfl, h50⟩ fun F54 h55 => gk hp [0] ⟨_, _, F54, _, rfl, h55, ovr_eq _ _ rfl, rfl⟩
   refine lp hz23 [1] rfl (fun s e L => ∃ x27 x30 F28 e21, s = (x27, x30) ∧ SlO 25 (kSl 3 (kInt .i64)) x27 v6 F28 ∧ e = ovr e21 [(3, v6), (4, .int .i64 x12), (15, v2), (16, .int .i64 (len a1.funcs)), (17, .int .i64 x12), (23, v24), (24, .int .i64 (len x16.blocks)), (25, .int .i64 x30)] ∧ L = [F28]) ⟨_, _, F10, _, rfl, h11, ovr_eq _ _ rfl, rfl⟩ ?_
   rintro _ _ _ ⟨x27, x30, F28, e21, rfl, h29, rfl, rfl⟩ X25 hp hx26
   replace hp : calls_Calls.bd26 x12 x16 x27 x30 = some X25 := hp
   refine sr <| tv (blt rfl rfl) rfl <| nz <| TC.seq fun K37 k38 => cD rfl hp (fun hc39 hp => ?_) fun hc39 hp => ?_
   · refine sk k38 rfl <| TC.seq fun K40 k41 => TC.block <| sr <| ti u38 i50 h25 hp rfl rfl rfl rfl ?_
     rintro x56 b57 o58 _ hp ⟨v62, v64, v66, rfl, h63, h65, h67⟩ h61
     refine tv (lR (ds := [v62, v64, .int .i64 x56.term.kind, .int .i64 x56.term.arg, v66]) ag_50 sH h61 0 rfl rfl rfl) rfl <| tl i50 rfl fun b68 => tS 0 m50 rfl rfl [v62, v64, .int .i64 x56.term.kind, .int .i64 x56.term.arg, v66] rfl (oc (h63).one (oc (h65).one (oc rfl (oc rfl (oc (h67).one oc0))))) rfl rfl <| nz <| sr <| tv (fa f50_1 rfl) rfl <| tv (lb s48 0 rfl rfl rfl) rfl <| tv (ln u48 h65 rfl) rfl <| tm rfl <| nz <| TC.block <| bE hp fun z_44 hz45 hr46 => ?_
     have J50 {x73 F74 e49} (h75 : SlO 25 (kSl 3 (kInt .i64)) x73 v6 F74) (hq51 : x73 = z_44) : ∀ w, St E H [F74] w → K40 (ovr e49 [(3, v6), (4, .int .i64 x12), (15, v2), (16, .int .i64 (len a1.funcs)), (17, .int .i64 x12), (23, v24), (24, .int .i64 (len x16.blocks)), (25, .int .i64 x30)]) w := by
      subst hq51
      replace hp : calls_Calls.nx48 x30 x73 = some X25 := hr46
      exact tg k41 <| TC.region <| tv (bad rfl rfl) rfl <| tm rfl <| nl <| gk hp [0] ⟨_, _, F74, _, rfl, h75, ovr_eq _ _ rfl, rfl⟩
     refine lp hz45 [1] rfl (fun s e L => ∃ x69 x72 F70 e43, s = (x69, x72) ∧ SlO 25 (kSl 3 (kInt .i64)) x69 v6 F70 ∧ e = ovr e43 [(3, v6), (4, .int .i64 x12), (15, v2), (16, .int .i64 (len a1.funcs)), (17, .int .i64 x12), (23, v24), (24, .int .i64 (len x16.blocks)), (25, .int .i64 x30), (30, v64), (31, .int .i64 (len x56.ins)), (32, .int .i64 x72)] ∧ L = [F70]) ⟨_, _, F28, _, rfl, h29, ovr_eq _ _ rfl, rfl⟩ ?_
     rintro _ _ _ ⟨x69, x72, F70, e43, rfl, h71, rfl, rfl⟩ X47 hp hx48
     replace hp : calls_Calls.bd48 x12 x56 x69 x72 = some X47 := hp
     refine sr <| tv (blt rfl rfl) rfl <| nz <| TC.seq fun K52 k53 => cD rfl hp (fun hc54 hp => ?_) fun hc54 hp => ?_
     · refine sk k53 rfl <| TC.seq fun K55 k56 => ?_
       have J58 {x76 F77 e57} (h78 : SlO 25 (kSl 3 (kInt .i64)) x76 v6 F77) (hp : calls_Calls.jn58 x72 x76 = some X47) : ∀ w, St E H [F77] w → K55 (ovr e57 [(3, v6), (4, .int .i64 x12), (15, v2), (16, .int .i64 (len a1.funcs)), (17, .int .i64 x12), (23, v24), (24, .int .i64 (len x16.blocks)), (25, .int .i64 x30), (30, v64), (31, .int .i64 (len x56.ins)), (32, .int .i64 x72)]) w := by
        exact tg k56 <| TC.region <| tv (bad rfl rfl) rfl <| tm rfl <| nl <| gk hp [0] ⟨_, _, F77, _, rfl, h78, ovr_eq _ _ rfl, rfl⟩
       refine TC.block <| sr <| ti u48 i52 h65 hp rfl rfl rfl rfl ?_
       rintro x79 b80 o81 _ hp ⟨v85, rfl, h86⟩ h84
       refine tv (lR (ds := [.int .i64 x79.op, .int .i64 x79.dst, v85, .int .i64 x79.imm, .int .i64 x79.fn]) ag_52 sH h84 0 rfl rfl rfl) rfl <| tl i52 rfl fun b87 => tS 0 m52 rfl rfl [.int .i64 x79.op, .int .i64 x79.dst, v85, .int .i64 x79.imm, .int .i64 x79.fn] rfl (oc rfl (oc rfl (oc (h86).one (oc rfl (oc rfl oc0))))) rfl rfl <| nz <| sr <| tv (fa f52_0 rfl) rfl <| tv (lb s3 0 rfl rfl rfl) rfl <| tv (beq rfl rfl) rfl <| tm rfl <| TL.cut 4 fun K60 k61 => ?_
       have J62 {e64} : ∀ w, St E H [bx b87 52 [.int .i64 x79.op, .int .i64 x79.dst, v85, .int .i64 x79.imm, .int .i64 x79.fn], F70] w → K60 (ovr e64 [(43, .bool (decide (x79.op = 17 ∧ x79.fn ≥ 0))), (3, v6), (4, .int .i64 x12), (9, .pointer (some ⟨b87, 0, none⟩)), (15, v2), (16, .int .i64 (len a1.funcs)), (17, .int .i64 x12), (23, v24), (24, .int .i64 (len x16.blocks)), (25, .int .i64 x30), (30, v64), (31, .int .i64 (len x56.ins)), (32, .int .i64 x72)]) w := by
        refine tlg k61 <| tm rfl <| TL.cut 6 fun K65 k66 => ?_
        have J67 {e69} : ∀ w, St E H [bx b87 52 [.int .i64 x79.op, .int .i64 x79.dst, v85, .int .i64 x79.imm, .int .i64 x79.fn], F70] w → K65 (ovr e69 [(50, .bool (decide ((x79.op = 17 ∧ x79.fn ≥ 0) ∧ x79.fn < (len x69)))), (3, v6), (4, .int .i64 x12), (9, .pointer (some ⟨b87, 0, none⟩)), (15, v2), (16, .int .i64 (len a1.funcs)), (17, .int .i64 x12), (23, v24), (24, .int .i64 (len x16.blocks)), (25, .int .i64 x30), (30, v64), (31, .int .i64 (len x56.ins)), (32, .int .i64 x72)]) w := by
         refine tlg k66 <| nz <| cD rfl hp (fun hc70 hp => ?_) fun hc70 hp => ?_
         · refine ch mix [bx b87 52 [.int .i64 x79.op, .int .i64 x79.dst, v85, .int .i64 x79.imm, .int .i64 x79.fn]] (srcG 0 rfl srcG0) <| hv 0 rfl mv (by kernel_rfl) rfl <| hv 1 rfl mv (by kernel_rfl) rfl <| hv 2 rfl mv (by kernel_rfl) rfl <| hv 3 rfl mv (by kernel_rfl) rfl <| hv 6 rfl (fa f52_4 rfl) (by kernel_rfl) rfl <| hv 7 rfl (lbG s3 0 rfl rfl rfl) (by kernel_rfl) rfl <| HL.all [4, 8] (by kernel_rfl) (by simp) (HL.al ⟨_, rfl, fun K71 k72 => ?_⟩ (HL.al ⟨_, rfl, fun K94 k95 => ?_⟩ HL.al0))
           · refine tp [1, 0] [_,_] rfl rfl <| bE hp fun x1689 hx73 hp => TL.open_ h71 hx73 ?_
             rintro b1690 _ F1692 F1693 h1694 ⟨v1696, rfl, h1697⟩
             refine tv (rv_ixH u60 i25 rfl rfl (idx_some hx73).1 h1694) rfl <| hk k72 (srcG 2 rfl srcG0) <| HL.all [5, 8] (by kernel_rfl) (by simp) (HL.al ⟨_, rfl, fun K74 k75 => ?_⟩ (HL.al ⟨_, rfl, fun K84 k85 => ?_⟩ HL.al0))
             · exact tv (lr s25 (Src.at_ 0 rfl) (Hole.cells h1694) 0 rfl rfl) rfl <| hk k75 (srcG 2 rfl srcG0) <| ho 8 rfl (by kernel_rfl) fun K76 k77 => tbs [(0, .int .i64 x79.fn)] [.int .i64 x79.fn] u25 i3 (by kernel_rfl) rfl rfl rfl rfl fun b3289 => hk k77 (srcG 3 rfl srcG0) <| ho 9 rfl (by kernel_rfl) fun K78 k79 => tp [2, 0, 1, 3] [_,_,_,_] rfl rfl <| tf 2 0 [_,_,_,_,_] rfl <| tp2 u25 i3 h1697 hp (RepL.to (RepL.cons (k := (kInt .i64)) (x := x79.fn) ⟨rfl, rfl⟩ RepL.nil) rfl) rfl rfl rfl rfl rfl rfl rfl rfl rfl fun x3689 v3690 F3691 h3692 hp => hk k79 (srcG 2 rfl srcG0) <| hv 10 rfl (rv_ixH u60 i25 rfl rfl (idx_some hx73).1 h1694) (by kernel_rfl) rfl <| ho 11 rfl (by kernel_rfl) fun K82 k83 => tp [1, 0, 2] [_,_,_] rfl rfl <| tsH h1694 m25 0 rfl h3692.o1 rfl fun F4489 h4490 => hk k83 (srcG 2 rfl srcG0) <| hz (by kernel_rfl) <| W.shut (a := x3689) h4490 ⟨_, rfl, h3692⟩ fun F4889 h4890 => jn [0] (J58 h4890 hp)
             · exact tbs [(0, .int .i64 x79.fn)] [.int .i64 x79.fn] u25 i3 (by kernel_rfl) rfl rfl rfl rfl fun b3289 => hk k85 (srcG 3 rfl srcG0) <| ho 5 rfl (by kernel_rfl) fun K86 k87 => tv (lr s25 (Src.at_ 1 rfl) (Hole.cells h1694) 0 rfl rfl) rfl <| hk k87 (srcG 3 rfl srcG0) <| ho 9 rfl (by kernel_rfl) fun K88 k89 => tp [2, 0, 1, 3] [_,_,_,_] rfl rfl <| tf 2 0 [_,_,_,_,_] rfl <| tp2 u25 i3 h1697 hp (RepL.to (RepL.cons (k := (kInt .i64)) (x := x79.fn) ⟨rfl, rfl⟩ RepL.nil) rfl) rfl rfl rfl rfl rfl rfl rfl rfl rfl fun x3689 v3690 F3691 h3692 hp => hk k89 (srcG 2 rfl srcG0) <| hv 10 rfl (rv_ixH u60 i25 rfl rfl (idx_some hx73).1 h1694) (by kernel_rfl) rfl <| ho 11 rfl (by kernel_rfl) fun K92 k93 => tp [1, 0, 2] [_,_,_] rfl rfl <| tsH h1694 m25 0 rfl h3692.o1 rfl fun F4489 h4490 => hk k93 (srcG 2 rfl srcG0) <| hz (by kernel_rfl) <| W.shut (a := x3689) h4490 ⟨_, rfl, h3692⟩ fun F4889 h4890 => jn [0] (J58 h4890 hp)
           · refine tbs [(0, .int .i64 x79.fn)] [.int .i64 x79.fn] u25 i3 (by kernel_rfl) rfl rfl rfl rfl fun b3289 => hk k95 (srcG 1 rfl srcG0) <| ho 4 rfl (by kernel_rfl) fun K96 k97 => tp [2, 0, 1] [_,_,_] rfl rfl <| bE hp fun x1689 hx98 hp => TL.open_ h71 hx98 ?_
             rintro b1690 _ F1692 F1693 h1694 ⟨v1696, rfl, h1697⟩
             exact tv (rv_ixH u60 i25 rfl rfl (idx_some hx98).1 h1694) rfl <| hk k97 (srcG 3 rfl srcG0) <| ho 5 rfl (by kernel_rfl) fun K99 k100 => tv (lr s25 (Src.at_ 0 rfl) (Hole.cells h1694) 0 rfl rfl) rfl <| hk k100 (srcG 3 rfl srcG0) <| ho 9 rfl (by kernel_rfl) fun K101 k102 => tp [1, 2, 0, 3] [_,_,_,_] rfl rfl <| tf 2 0 [_,_,_,_,_] rfl <| tp2 u25 i3 h1697 hp (RepL.to (RepL.cons (k := (kInt .i64)) (x := x79.fn) ⟨rfl, rfl⟩ RepL.nil) rfl) rfl rfl rfl rfl rfl rfl rfl rfl rfl fun x3689 v3690 F3691 h3692 hp => hk k102 (srcG 2 rfl srcG0) <| hv 10 rfl (rv_ixH u60 i25 rfl rfl (idx_some hx98).1 h1694) (by kernel_rfl) rfl <| ho 11 rfl (by kernel_rfl) fun K105 k106 => tp [1, 0, 2] [_,_,_] rfl rfl <| tsH h1694 m25 0 rfl h3692.o1 rfl fun F4489 h4490 => hk k106 (srcG 2 rfl srcG0) <| hz (by kernel_rfl) <| W.shut (a := x3689) h4490 ⟨_, rfl, h3692⟩ fun F4889 h4890 => jn [0] (J58 h4890 hp)
         · exact TC.skip <| jn [1] (J58 h71 hp)
        by_cases hc68 : x79.op = 17 ∧ x79.fn ≥ 0
        · exact gy rfl (bT hc68) <| tv (fa f52_4 rfl) rfl <| gy rfl (bT hc68) <| tv (lb s3 0 rfl rfl rfl) rfl <| gy rfl (bT hc68) <| tm rfl <| gy rfl (bT hc68) <| tv (ln u60 h71.ro rfl) rfl <| gy rfl (bT hc68) <| tv (blt rfl rfl) rfl <| tv (pT (bT hc68)) rfl <| nj J67 (bAt hc68)
        · exact gn rfl (bF hc68) rfl rfl <| gn rfl (bF hc68) rfl rfl <| gn rfl (bF hc68) rfl rfl <| gn rfl (bF hc68) rfl rfl <| gn rfl (bF hc68) rfl rfl <| tv (pF (bF hc68)) rfl <| nj J67 (bAf hc68)
       by_cases hc63 : x79.op = 17
       · exact gy rfl (bT hc63) <| tv (fa f52_4 rfl) rfl <| gy rfl (bT hc63) <| tv (lb s3 0 rfl rfl rfl) rfl <| gy rfl (bT hc63) <| tv (bge rfl rfl) rfl <| tv (pT (bT hc63)) rfl <| nj J62 (bAt hc63)
       · exact gn rfl (bF hc63) rfl rfl <| gn rfl (bF hc63) rfl rfl <| gn rfl (bF hc63) rfl rfl <| tv (pF (bF hc63)) rfl <| nj J62 (bAf hc63)
     · exact TC.exit <| jn [0] (J50 h71 (ex_ret hp hx48))
   · exact TC.exit <| jn [0] (J35 h29 (ex_ret hp hx26))
 · exact TC.exit <| jn [0] (J11 h11 (ex_ret hp hx9))

/-! ### slices.Index[[]int,int] -/
abbrev slices_Index.R (r : Int) (v : Value) (A : List FP) : Prop := .int .i64 r = v ∧ A = []
def slices_Index.nx8  : Option Int :=
  some (-1)
def slices_Index.bd8 (a1 : List Int) (a4 : Int) (x5 : Int) : Option (Ex (Ex Int Unit) Int) :=
  if x5 < (len a1) then
    (idx a1 x5).bind fun x6 =>
    if a4 = x6 then
      some (.ret (.ret x5))
    else
      some (.go (w64 (x5 + 1)))
  else
    some (.ret (.go ()))
def slices_Index (a1 : List Int) (a4 : Int) : Option Int :=
  (whl (fun (s : Int) => slices_Index.bd8 a1 a4 s) FUEL 0).bind fun z =>
  match z with
    | .ret r => some r
    | .go p => slices_Index.nx8
theorem slices_Index_ok {E : World} {H : FP} {w : World} {a1 : List Int} {a4 : Int} {v2 : Value} {r : Int} (h3 : SlI (kInt .i64) H a1 v2) (hp : slices_Index a1 a4 = some r) (hst : St E H [] w) :
    Fn Try.prog 87 #[v2, .int .i64 a4] w fun v w' => ∃ A, slices_Index.R r v A ∧ St E H A w' := by
 refine fb 19 [.tmp 4] Try.func87 rfl rfl rfl rfl rfl hst <| sr <| ta rfl <| nz <| TC.seq fun K1 k2 => sr <| tm rfl <| tv (ln u25 h3 rfl) rfl <| tm rfl <| nz <| TC.block <| bE hp fun z_4 hz5 hr6 => ?_
 have J10 {e9} (hq11 : .go () = z_4) : ∀ w, St E H [] w → K1 (ovr e9 []) w := by
  subst hq11
  replace hp : slices_Index.nx8 = some r := hr6
  exact tg k2 <| sr <| ta rfl <| nz <| TC.ret <| rt hp [] ⟨rfl, rfl⟩
 refine lp hz5 [] rfl (fun s e L => ∃ e3, e = ovr e3 [(0, v2), (1, .int .i64 a4), (7, .int .i64 (len a1)), (8, .int .i64 s)] ∧ L = []) ⟨_, ovr_eq _ _ rfl, rfl⟩ ?_
 rintro x5 _ _ ⟨e3, rfl, rfl⟩ X7 hp hx8
 replace hp : slices_Index.bd8 a1 a4 x5 = some X7 := hp
 refine sr <| tv (blt rfl rfl) rfl <| nz <| TC.seq fun K12 k13 => cD rfl hp (fun hc14 hp => ?_) fun hc14 hp => ?_
 · refine sk k13 rfl <| TC.seq fun K15 k16 => TC.block <| sr <| tm rfl <| ta rfl <| nz <| sr <| tm rfl <| tm rfl <| tm rfl <| ti u25 i3 h3 hp rfl rfl rfl rfl ?_
   rintro x6 b7 o8 _ hp rfl h11
   refine tv (lr s3 sH h11 0 rfl rfl) rfl <| tv (beq rfl rfl) rfl <| nz <| cD rfl hp (fun hc18 hp => ?_) fun hc18 hp => ?_
   · refine sr <| tm rfl <| ta rfl <| nz <| TC.ret ?_
     obtain rfl := ex_ret hp hx8
     exact rt hr6 [] ⟨rfl, rfl⟩
   · exact sk k16 rfl <| TC.region <| tv (bad rfl rfl) rfl <| tm rfl <| nl <| gk hp [] ⟨_, ovr_eq _ _ rfl, rfl⟩
 · exact TC.exit <| jn [] (J10 (ex_ret hp hx8))

/-! ### slices.Clone[[]int,int] -/
abbrev slices_Clone.R (r : List Int) (v : Value) (A : List FP) : Prop := ∃ (w1 : Value) (G1 : FP), w1 = v ∧ A = [G1] ∧ SlO 3 (kInt .i64) r w1 G1
def slices_Clone (a1 : List Int) : Option (List Int) :=
  (cat ([] : List Int) a1).bind fun x7 =>
  some x7
theorem slices_Clone_ok {E : World} {H : FP} {w : World} {a1 : List Int} {v2 : Value} {r : List Int} (h3 : SlI (kInt .i64) H a1 v2) (hp : slices_Clone a1 = some r) (hst : St E H [] w) :
    Fn Try.prog 54 #[v2] w fun v w' => ∃ A, slices_Clone.R r v A ∧ St E H A w' := by
 refine fb 8 [.tmp 2] Try.func54 rfl rfl rfl rfl rfl hst <| sr <| ta rfl <| nz <| TC.seq fun K1 k2 => sr <| tm rfl ?_
 obtain ⟨q4, hq3, hv4⟩ := nilEq (P := Try.prog) Try.underlying25 h3
 refine tv (rv_nil rfl hv4) rfl <| nz ?_
 by_cases hc5 : q4 = true
 · replace hp : ((cat ([] : List Int) a1).bind fun x7 => some x7) = some r := hp
   have hx7 := hq3 hc5
   replace hp : (some ([] : List Int)) = some r := by rw [hx7] at hp; simpa [cat, LIM] using hp
   exact TC.condT (bbT hc5) <| sr <| ta rfl <| nz <| TC.ret <| W.new0 <| rt hp [0] ⟨(.slice none 0 0), ([] : FP), rfl, rfl, (SlO.nil 3)⟩
 · exact TC.condF (bbF hc5) <| sk k2 rfl <| sr <| TL.bs0 u25 i3 (ltb rfl) fun b6 => tm rfl <| tpI (fInt .i64) u25 i3 (SlO.lit0 (k := (kInt .i64)) b6) h3 sH hp rfl rfl rfl rfl rfl rfl rfl fun x7 v8 F9 h10 hp => ta rfl <| nz <| TC.ret <| rt hp [0] ⟨v8, F9, rfl, rfl, h10⟩
end Go.Proofs.Yteaknconpkklhaa
