/- The walk through the program's functions: each one's pure reading, and that a call does what it says. No conditions. -/
import Derived.Test.YteaknconpkklhaaDoorV12
set_option linter.unusedVariables false
set_option linter.unusedSimpArgs false
namespace Go.Proofs.YteaknconpkklhaaDoor
open Go Go.Proofs
/-! ### fettle/fettleref13.Maker -/
abbrev fettleref13_Maker.R (r : PMaker × Int) (v : Value) (A : List FP) : Prop := .tuple #[.agg #[.int .i64 r.1.block, .int .i64 r.1.at_], .int .i64 r.2] = v ∧ A = []
def fettleref13_Maker.nx8  (x14 : Int) (x15 : Int) (x16 : Int) : Option (PMaker × Int) :=
  some ((⟨x14, x15⟩ : PMaker), x16)
def fettleref13_Maker.nx31 (x13 : Int) (x28 : Int) (x29 : Int) (x30 : Int) : Option (Ex (Int × Int × Int) (Int × Int × Int × Int)) :=
  some (.go (x28, x29, x30, (w64 (x13 + 1))))
def fettleref13_Maker.jn42 (x27 : Int) (x43 : Int) (x44 : Int) (x45 : Int) : Option (Ex (Int × Int × Int) (Int × Int × Int × Int)) :=
  some (.go (x43, x44, x45, (w64 (x27 + 1))))
def fettleref13_Maker.jn49 (x26 : Int) (x27 : Int) (x66 : Int) (x67 : Int) : Option (Ex (Int × Int × Int) (Int × Int × Int × Int)) :=
  fettleref13_Maker.jn42 x27 x66 x67 (w64 (x26 + 1))
def fettleref13_Maker.bd31 (a1 : PFunc) (a6 : Int) (x13 : Int) (x24 : Int) (x25 : Int) (x26 : Int) (x27 : Int) : Option (Ex (Int × Int × Int) (Int × Int × Int × Int)) :=
  (idx a1.blocks x13).bind fun x31 =>
  if x27 < (len x31.ins) then
    (idx a1.blocks x13).bind fun x46 =>
    (idx x46.ins x27).bind fun x58 =>
    if x58.dst = a6 then
      if x26 = 0 then
        fettleref13_Maker.jn49 x26 x27 x13 x27
      else
        fettleref13_Maker.jn49 x26 x27 x24 x25
    else
      fettleref13_Maker.jn42 x27 x24 x25 x26
  else
    some (.ret (x24, x25, x26))
def fettleref13_Maker.nx24 (a1 : PFunc) (a6 : Int) (x13 : Int) (x21 : Int) (x22 : Int) (x23 : Int) : Option (Ex (Int × Int × Int) (Int × Int × Int × Int)) :=
  (whl (fun (s : (Int × Int × Int × Int)) => fettleref13_Maker.bd31 a1 a6 x13 s.1 s.2.1 s.2.2.1 s.2.2.2) FUEL (x21, x22, x23, 0)).bind fun z =>
  fettleref13_Maker.nx31 x13 z.1 z.2.1 z.2.2
def fettleref13_Maker.jn62 (x20 : Int) (x80 : Int) (x81 : Int) (x82 : Int) : Option (Ex (Int × Int × Int) (Int × Int × Int × Int)) :=
  some (.go (x80, x81, x82, (w64 (x20 + 1))))
def fettleref13_Maker.jn69 (x19 : Int) (x20 : Int) (x103 : Int) (x104 : Int) : Option (Ex (Int × Int × Int) (Int × Int × Int × Int)) :=
  fettleref13_Maker.jn62 x20 x103 x104 (w64 (x19 + 1))
def fettleref13_Maker.bd24 (a1 : PFunc) (a6 : Int) (x13 : Int) (x17 : Int) (x18 : Int) (x19 : Int) (x20 : Int) : Option (Ex (Int × Int × Int) (Int × Int × Int × Int)) :=
  (idx a1.blocks x13).bind fun x68 =>
  if x20 < (len x68.phis) then
    (idx a1.blocks x13).bind fun x83 =>
    (idx x83.phis x20).bind fun x95 =>
    if x95.dst = a6 then
      if x19 = 0 then
        fettleref13_Maker.jn69 x19 x20 x13 (-1)
      else
        fettleref13_Maker.jn69 x19 x20 x17 x18
    else
      fettleref13_Maker.jn62 x20 x17 x18 x19
  else
    some (.ret (x17, x18, x19))
def fettleref13_Maker.bd8 (a1 : PFunc) (a6 : Int) (x10 : Int) (x11 : Int) (x12 : Int) (x13 : Int) : Option (Ex (Int × Int × Int) (Int × Int × Int × Int)) :=
  if x13 < (len a1.blocks) then
    (whl (fun (s : (Int × Int × Int × Int)) => fettleref13_Maker.bd24 a1 a6 x13 s.1 s.2.1 s.2.2.1 s.2.2.2) FUEL (x10, x11, x12, 0)).bind fun z =>
    fettleref13_Maker.nx24 a1 a6 x13 z.1 z.2.1 z.2.2
  else
    some (.ret (x10, x11, x12))
def fettleref13_Maker (a1 : PFunc) (a6 : Int) : Option (PMaker × Int) :=
  (whl (fun (s : (Int × Int × Int × Int)) => fettleref13_Maker.bd8 a1 a6 s.1 s.2.1 s.2.2.1 s.2.2.2) FUEL (-1, -2, 0, 0)).bind fun z =>
  fettleref13_Maker.nx8 z.1 z.2.1 z.2.2
set_option maxHeartbeats 4000000 in
theorem fettleref13_Maker_ok {E : World} {H : FP} {w : World} {a1 : PFunc} {a6 : Int} {v2 : Value} {v4 : Value} {r : PMaker × Int} (h3 : SlI (kInt .i64) H a1.regs v2) (h5 : SlI kBlock H a1.blocks v4) (hp : fettleref13_Maker a1 a6 = some r) (hst : St E H [] w) :
    Fn Tryd.prog 39 #[.agg #[.int .i64 a1.params, .int .i64 a1.result, v2, v4], .int .i64 a6] w fun v w' => ∃ A, fettleref13_Maker.R r v A ∧ St E H A w' := by
 refine Fn.bodyV (fn := Tryd.f39) (args := [.agg #[.int .i64 a1.params, .int .i64 a1.result, v2, v4], .int .i64 a6]) E H [] 80 Tryd.func39 rfl rfl (leb rfl) hst <| sr <| tb [.int .i64 a1.params, .int .i64 a1.result, v2, v4] rfl rfl fun b7 => tl i54 rfl fun b8 => ta rfl <| nz <| sr <| tv (rv_bv (vs := [(0, .int .i64 (-1)), (1, .int .i64 (-2))]) (ds := [.int .i64 (-1), .int .i64 (-2)]) rfl (fun w => by kernel_rfl)) rfl <| tl i54 rfl fun b9 => tS 0 m54 rfl rfl [.int .i64 (-1), .int .i64 (-2)] rfl (oc rfl (oc rfl oc0)) rfl rfl <| nz <| sr <| ta rfl <| nz <| TC.seq fun K1 k2 => sr <| ta rfl <| nz <| TC.block <| bE hp fun z_4 hz5 hr6 => ?_
 have J10 {x14 x15 x16 e9} (hq11 : (x14, x15, x16) = z_4) : ∀ w, St E H [bx b8 54 [.int .i64 0, .int .i64 0], bx b9 54 [.int .i64 x14, .int .i64 x15]] w → K1 (ovr e9 [(4, .pointer (some ⟨b8, 0, none⟩)), (6, .pointer (some ⟨b9, 0, none⟩)), (7, .int .i64 x16)]) w := by
  subst hq11
  replace hp : fettleref13_Maker.nx8 x14 x15 x16 = some r := hr6
  refine tg k2 <| sr <| tv (lA (ds := [.int .i64 x14, .int .i64 x15]) ag_54 1 rfl rfl rfl rfl) rfl <| tm rfl <| tS 0 m54 rfl rfl [.int .i64 x14, .int .i64 x15] rfl (oc rfl (oc rfl oc0)) rfl rfl <| ta rfl <| nz <| TC.ret ?_
  obtain rfl := Option.some.inj hp
  exact fun w hw => retC2 hw rfl rfl rfl ag_54 0 rfl rfl ⟨rfl, rfl⟩ (hw.pickA [] rfl)
 refine lp hz5 [2, 1, 0] rfl (fun s e L => ∃ x10 x11 x12 x13 e3, s = (x10, x11, x12, x13) ∧ e = ovr e3 [(1, .int .i64 a6), (2, .pointer (some ⟨b7, 0, none⟩)), (4, .pointer (some ⟨b8, 0, none⟩)), (6, .pointer (some ⟨b9, 0, none⟩)), (7, .int .i64 x12), (8, .int .i64 x13)] ∧ L = [bx b7 41 [.int .i64 a1.params, .int .i64 a1.result, v2, v4], bx b8 54 [.int .i64 0, .int .i64 0], bx b9 54 [.int .i64 x10, .int .i64 x11]]) ⟨_, _, _, _, _, rfl, ovr_eq _ _ rfl, rfl⟩ ?_
 rintro _ _ _ ⟨x10, x11, x12, x13, e3, rfl, rfl, rfl⟩ X7 hp hx8
 replace hp : fettleref13_Maker.bd8 a1 a6 x10 x11 x12 x13 = some X7 := hp
 refine TC.seq fun K12 k13 => sr <| tm rfl <| tv (fa f41_3 rfl) rfl <| tv (lb s39 0 rfl rfl rfl) rfl <| tv (ln u39 h5 rfl) rfl <| tv (blt rfl rfl) rfl <| nz <| cD rfl hp (fun hc14 hp => ?_) fun hc14 hp => ?_
 · refine sk k13 rfl <| TC.seq fun K15 k16 => TC.block <| TC.seq fun K17 k18 => sr <| ta rfl <| nz <| TC.block <| bE hp fun z_20 hz21 hr22 => ?_
   have J53 {x21 x22 x23 e25} (hq54 : (x21, x22, x23) = z_20) : ∀ w, St E H [bx b7 41 [.int .i64 a1.params, .int .i64 a1.result, v2, v4], bx b8 54 [.int .i64 0, .int .i64 0], bx b9 54 [.int .i64 x21, .int .i64 x22]] w → K17 (ovr e25 [(1, .int .i64 a6), (2, .pointer (some ⟨b7, 0, none⟩)), (4, .pointer (some ⟨b8, 0, none⟩)), (6, .pointer (some ⟨b9, 0, none⟩)), (7, .int .i64 x23), (8, .int .i64 x13)]) w := by
    subst hq54
    replace hp : fettleref13_Maker.nx24 a1 a6 x13 x21 x22 x23 = some X7 := hr22
    refine tg k18 <| sr <| ta rfl <| nz <| TC.block <| bE hp fun z_27 hz28 hr29 => ?_
    have J33 {x28 x29 x30 e32} (hq34 : (x28, x29, x30) = z_27) : ∀ w, St E H [bx b7 41 [.int .i64 a1.params, .int .i64 a1.result, v2, v4], bx b8 54 [.int .i64 0, .int .i64 0], bx b9 54 [.int .i64 x28, .int .i64 x29]] w → K15 (ovr e32 [(1, .int .i64 a6), (2, .pointer (some ⟨b7, 0, none⟩)), (4, .pointer (some ⟨b8, 0, none⟩)), (6, .pointer (some ⟨b9, 0, none⟩)), (7, .int .i64 x30), (8, .int .i64 x13)]) w := by
     subst hq34
     replace hp : fettleref13_Maker.nx31 x13 x28 x29 x30 = some X7 := hr29
     exact tg k16 <| TC.region <| tm rfl <| tv (bad rfl rfl) rfl <| ta rfl <| nl <| gk hp [0, 1, 2] ⟨_, _, _, _, _, rfl, ovr_eq _ _ rfl, rfl⟩
    refine lp hz28 [0, 1, 2] rfl (fun s e L => ∃ x24 x25 x26 x27 e26, s = (x24, x25, x26, x27) ∧ e = ovr e26 [(1, .int .i64 a6), (2, .pointer (some ⟨b7, 0, none⟩)), (4, .pointer (some ⟨b8, 0, none⟩)), (6, .pointer (some ⟨b9, 0, none⟩)), (7, .int .i64 x26), (8, .int .i64 x13), (10, .int .i64 x27)] ∧ L = [bx b7 41 [.int .i64 a1.params, .int .i64 a1.result, v2, v4], bx b8 54 [.int .i64 0, .int .i64 0], bx b9 54 [.int .i64 x24, .int .i64 x25]]) ⟨_, _, _, _, _, rfl, ovr_eq _ _ rfl, rfl⟩ ?_
    rintro _ _ _ ⟨x24, x25, x26, x27, e26, rfl, rfl, rfl⟩ X30 hp hx31
    replace hp : fettleref13_Maker.bd31 a1 a6 x13 x24 x25 x26 x27 = some X30 := hp
    refine TC.seq fun K35 k36 => sr <| tm rfl <| tv (fa f41_3 rfl) rfl <| tv (lb s39 0 rfl rfl rfl) rfl <| tm rfl <| ti u39 i60 h5 hp rfl rfl rfl rfl ?_
    rintro x31 b32 o33 _ hp ⟨v37, v39, v41, rfl, h38, h40, h42⟩ h36
    refine tv (fa f60_1 rfl) rfl <| tv (lr s58 sH h36 1 rfl rfl) rfl <| tv (ln u58 h40 rfl) rfl <| tv (blt rfl rfl) rfl <| nz <| cD rfl hp (fun hc38 hp => ?_) fun hc38 hp => ?_
    · refine sk k36 rfl <| TC.seq fun K39 k40 => ?_
      have J42 {x43 x44 x45 e41} (hp : fettleref13_Maker.jn42 x27 x43 x44 x45 = some X30) : ∀ w, St E H [bx b7 41 [.int .i64 a1.params, .int .i64 a1.result, v2, v4], bx b8 54 [.int .i64 0, .int .i64 0], bx b9 54 [.int .i64 x43, .int .i64 x44]] w → K39 (ovr e41 [(1, .int .i64 a6), (2, .pointer (some ⟨b7, 0, none⟩)), (4, .pointer (some ⟨b8, 0, none⟩)), (6, .pointer (some ⟨b9, 0, none⟩)), (7, .int .i64 x45), (8, .int .i64 x13), (10, .int .i64 x27)]) w := by
       exact tg k40 <| TC.region <| tm rfl <| tv (bad rfl rfl) rfl <| ta rfl <| nl <| gk hp [0, 1, 2] ⟨_, _, _, _, _, rfl, ovr_eq _ _ rfl, rfl⟩
      refine TC.block <| sr <| tv (fa f41_3 rfl) rfl <| tv (lb s39 0 rfl rfl rfl) rfl <| tm rfl <| ti u39 i60 h5 hp rfl rfl rfl rfl ?_
      rintro x46 b47 o48 _ hp ⟨v52, v54, v56, rfl, h53, h55, h57⟩ h51
      refine tv (fa f60_1 rfl) rfl <| tv (lr s58 sH h51 1 rfl rfl) rfl <| tm rfl <| ti u58 i62 h55 hp rfl rfl rfl rfl ?_
      rintro x58 b59 o60 _ hp ⟨v64, rfl, h65⟩ h63
      refine tv (fa f62_1 rfl) rfl <| tv (lr s3 sH h63 1 rfl rfl) rfl <| tm rfl <| tv (beq rfl rfl) rfl <| nz <| cD rfl hp (fun hc45 hp => ?_) fun hc45 hp => ?_
      · refine TC.seq fun K46 k47 => ?_
        have J49 {x66 x67 e48} (hp : fettleref13_Maker.jn49 x26 x27 x66 x67 = some X30) : ∀ w, St E H [bx b7 41 [.int .i64 a1.params, .int .i64 a1.result, v2, v4], bx b8 54 [.int .i64 0, .int .i64 0], bx b9 54 [.int .i64 x66, .int .i64 x67]] w → K46 (ovr e48 [(1, .int .i64 a6), (2, .pointer (some ⟨b7, 0, none⟩)), (4, .pointer (some ⟨b8, 0, none⟩)), (6, .pointer (some ⟨b9, 0, none⟩)), (7, .int .i64 x26), (8, .int .i64 x13), (10, .int .i64 x27)]) w := by
         exact tg k47 <| TC.region <| tm rfl <| tv (bad rfl rfl) rfl <| ta rfl <| nl <| jn [0, 1, 2] (J42 hp)
        refine sr <| tm rfl <| tv (beq rfl rfl) rfl <| nz <| cD rfl hp (fun hc50 hp => ?_) fun hc50 hp => ?_
        · exact TC.region <| tm rfl <| tm rfl <| tv (rv_bv (vs := [(0, .int .i64 x13), (1, .int .i64 x27)]) (ds := [.int .i64 x13, .int .i64 x27]) rfl (fun w => by kernel_rfl)) rfl <| tS 2 m54 rfl rfl [.int .i64 x13, .int .i64 x27] rfl (oc rfl (oc rfl oc0)) rfl rfl <| nl <| jn [0, 1, 2] (J49 hp)
        · exact TC.skip <| jn [0, 1, 2] (J49 hp)
      · exact TC.skip <| jn [0, 1, 2] (J42 hp)
    · exact TC.exit <| jn [0, 1, 2] (J33 (ex_ret hp hx31))
   refine lp hz21 [0, 1, 2] rfl (fun s e L => ∃ x17 x18 x19 x20 e19, s = (x17, x18, x19, x20) ∧ e = ovr e19 [(1, .int .i64 a6), (2, .pointer (some ⟨b7, 0, none⟩)), (4, .pointer (some ⟨b8, 0, none⟩)), (6, .pointer (some ⟨b9, 0, none⟩)), (7, .int .i64 x19), (8, .int .i64 x13), (9, .int .i64 x20)] ∧ L = [bx b7 41 [.int .i64 a1.params, .int .i64 a1.result, v2, v4], bx b8 54 [.int .i64 0, .int .i64 0], bx b9 54 [.int .i64 x17, .int .i64 x18]]) ⟨_, _, _, _, _, rfl, ovr_eq _ _ rfl, rfl⟩ ?_
   rintro _ _ _ ⟨x17, x18, x19, x20, e19, rfl, rfl, rfl⟩ X23 hp hx24
   replace hp : fettleref13_Maker.bd24 a1 a6 x13 x17 x18 x19 x20 = some X23 := hp
   refine TC.seq fun K55 k56 => sr <| tm rfl <| tv (fa f41_3 rfl) rfl <| tv (lb s39 0 rfl rfl rfl) rfl <| tm rfl <| ti u39 i60 h5 hp rfl rfl rfl rfl ?_
   rintro x68 b69 o70 _ hp ⟨v74, v76, v78, rfl, h75, h77, h79⟩ h73
   refine tv (fa f60_0 rfl) rfl <| tv (lr s57 sH h73 0 rfl rfl) rfl <| tv (ln u57 h75 rfl) rfl <| tv (blt rfl rfl) rfl <| nz <| cD rfl hp (fun hc58 hp => ?_) fun hc58 hp => ?_
   · refine sk k56 rfl <| TC.seq fun K59 k60 => ?_
     have J62 {x80 x81 x82 e61} (hp : fettleref13_Maker.jn62 x20 x80 x81 x82 = some X23) : ∀ w, St E H [bx b7 41 [.int .i64 a1.params, .int .i64 a1.result, v2, v4], bx b8 54 [.int .i64 0, .int .i64 0], bx b9 54 [.int .i64 x80, .int .i64 x81]] w → K59 (ovr e61 [(1, .int .i64 a6), (2, .pointer (some ⟨b7, 0, none⟩)), (4, .pointer (some ⟨b8, 0, none⟩)), (6, .pointer (some ⟨b9, 0, none⟩)), (7, .int .i64 x82), (8, .int .i64 x13), (9, .int .i64 x20)]) w := by
      exact tg k60 <| TC.region <| tm rfl <| tv (bad rfl rfl) rfl <| ta rfl <| nl <| gk hp [0, 1, 2] ⟨_, _, _, _, _, rfl, ovr_eq _ _ rfl, rfl⟩
     refine TC.block <| sr <| tv (fa f41_3 rfl) rfl <| tv (lb s39 0 rfl rfl rfl) rfl <| tm rfl <| ti u39 i60 h5 hp rfl rfl rfl rfl ?_
     rintro x83 b84 o85 _ hp ⟨v89, v91, v93, rfl, h90, h92, h94⟩ h88
     refine tv (fa f60_0 rfl) rfl <| tv (lr s57 sH h88 0 rfl rfl) rfl <| tm rfl <| ti u57 i64 h90 hp rfl rfl rfl rfl ?_
     rintro x95 b96 o97 _ hp ⟨v101, rfl, h102⟩ h100
     refine tv (fa f64_0 rfl) rfl <| tv (lr s3 sH h100 0 rfl rfl) rfl <| tm rfl <| tv (beq rfl rfl) rfl <| nz <| cD rfl hp (fun hc65 hp => ?_) fun hc65 hp => ?_
     · refine TC.seq fun K66 k67 => ?_
       have J69 {x103 x104 e68} (hp : fettleref13_Maker.jn69 x19 x20 x103 x104 = some X23) : ∀ w, St E H [bx b7 41 [.int .i64 a1.params, .int .i64 a1.result, v2, v4], bx b8 54 [.int .i64 0, .int .i64 0], bx b9 54 [.int .i64 x103, .int .i64 x104]] w → K66 (ovr e68 [(1, .int .i64 a6), (2, .pointer (some ⟨b7, 0, none⟩)), (4, .pointer (some ⟨b8, 0, none⟩)), (6, .pointer (some ⟨b9, 0, none⟩)), (7, .int .i64 x19), (8, .int .i64 x13), (9, .int .i64 x20)]) w := by
        exact tg k67 <| TC.region <| tm rfl <| tv (bad rfl rfl) rfl <| ta rfl <| nl <| jn [0, 1, 2] (J62 hp)
       refine sr <| tm rfl <| tv (beq rfl rfl) rfl <| nz <| cD rfl hp (fun hc70 hp => ?_) fun hc70 hp => ?_
       · exact TC.region <| tm rfl <| tv (rv_bv (vs := [(0, .int .i64 x13), (1, .int .i64 (-1))]) (ds := [.int .i64 x13, .int .i64 (-1)]) rfl (fun w => by kernel_rfl)) rfl <| tS 2 m54 rfl rfl [.int .i64 x13, .int .i64 (-1)] rfl (oc rfl (oc rfl oc0)) rfl rfl <| nl <| jn [0, 1, 2] (J69 hp)
       · exact TC.skip <| jn [0, 1, 2] (J69 hp)
     · exact TC.skip <| jn [0, 1, 2] (J62 hp)
   · exact TC.exit <| jn [0, 1, 2] (J53 (ex_ret hp hx24))
 · exact TC.exit <| jn [1, 2] (J10 (ex_ret hp hx8))
/-! ### fettle/fettleref06.Dominates -/
abbrev fettleref06_Dominates.R (r : List (List Bool)) (v : Value) (A : List FP) : Prop := ∃ (w1 : Value) (G1 : FP), w1 = v ∧ A = [G1] ∧ SlO 42 (kSl 4 kBool) r w1 G1
def fettleref06_Dominates.nx10  (x16 : List (List Bool)) : Option (List (List Bool)) :=
  some x16
def fettleref06_Dominates.nx29 (x11 : List (List Bool)) (x15 : Int) (x32 : List Bool) : Option (Ex (List (List Bool)) (List (List Bool) × Int)) :=
  (cat x11 [x32]).bind fun x36 =>
  some (.go (x36, (w64 (x15 + 1))))
def fettleref06_Dominates.bd29 (x7 : List Bool) (x15 : Int) (x20 : List Bool) (x28 : List Bool) (x31 : Int) : Option (Ex (List Bool) (List Bool × Int)) :=
  if x31 < (len x7) then
    (idx x7 x31).bind fun x40 =>
    (if x40 = true then (if x15 = x31 then some true else (idx x20 x31).bind fun x54 =>
    some (!x54)).bind fun t53 =>
    some t53 else some false).bind fun t46 =>
    (idx x28 x31).bind fun x47 =>
    some (.go ((x28.set (x31).toNat t46), (w64 (x31 + 1))))
  else
    some (.ret x28)
def fettleref06_Dominates.bd10 (a1 : PFunc) (x7 : List Bool) (x11 : List (List Bool)) (x15 : Int) : Option (Ex (List (List Bool)) (List (List Bool) × Int)) :=
  if x15 < (len x7) then
    (fettleref05_From a1 0 x15).bind fun x20 =>
    (mkl (len x7) false).bind fun x24 =>
    (whl (fun (s : (List Bool × Int)) => fettleref06_Dominates.bd29 x7 x15 x20 s.1 s.2) FUEL (x24, 0)).bind fun z =>
    fettleref06_Dominates.nx29 x11 x15 z
  else
    some (.ret x11)
def fettleref06_Dominates (a1 : PFunc) : Option (List (List Bool)) :=
  (fettleref05_From a1 0 (-1)).bind fun x7 =>
  (whl (fun (s : (List (List Bool) × Int)) => fettleref06_Dominates.bd10 a1 x7 s.1 s.2) FUEL (([] : List (List Bool)), 0)).bind fun z =>
  fettleref06_Dominates.nx10 z
set_option maxHeartbeats 4000000 in
theorem fettleref06_Dominates_ok {E : World} {H : FP} {w : World} {a1 : PFunc} {v2 : Value} {v4 : Value} {r : List (List Bool)} (h3 : SlI (kInt .i64) H a1.regs v2) (h5 : SlI kBlock H a1.blocks v4) (hp : fettleref06_Dominates a1 = some r) (hst : St E H [] w) :
    Fn Tryd.prog 40 #[.agg #[.int .i64 a1.params, .int .i64 a1.result, v2, v4]] w fun v w' => ∃ A, fettleref06_Dominates.R r v A ∧ St E H A w' := by
 refine fb 53 [.tmp 2] Tryd.func40 rfl rfl rfl rfl rfl hst <| sr <| tb [.int .i64 a1.params, .int .i64 a1.result, v2, v4] rfl rfl fun b6 => ta rfl <| nz <| sr <| tv (lA (ds := [.int .i64 a1.params, .int .i64 a1.result, v2, v4]) ag_41 0 rfl rfl rfl rfl) rfl <| bE hp fun x7 hy1 hp => tc 0 [_] rfl c38 (fun _ => fettleref05_From_ok (a1 := a1) (a6 := 0) (a7 := -1) (h3.mono subH) (h5.mono subH) hy1) rfl ?_
 rintro _ _ ⟨v8, F9, rfl, rfl, h10⟩
 refine ta rfl <| nz <| sr <| ta rfl <| nz <| TC.seq fun K3 k4 => sr <| ta rfl <| nz <| TC.block <| bE hp fun z_6 hz7 hr8 => ?_
 have J12 {x16 v17 F18 e11} (h19 : SlO 42 (kSl 4 kBool) x16 v17 F18) (hq13 : x16 = z_6) : ∀ w, St E H [F18] w → K3 (ovr e11 [(4, v17)]) w := by
  subst hq13
  replace hp : fettleref06_Dominates.nx10 x16 = some r := hr8
  exact tg k4 <| sr <| tm rfl <| ta rfl <| nz <| TC.ret <| rt hp [0] ⟨v17, F18, rfl, rfl, h19⟩
 refine W.new0 <| lp hz7 [2, 1, 0] rfl (fun s e L => ∃ x11 x15 v12 F13 e5, s = (x11, x15) ∧ SlO 42 (kSl 4 kBool) x11 v12 F13 ∧ e = ovr e5 [(1, .pointer (some ⟨b6, 0, none⟩)), (3, v8), (4, v12), (5, .int .i64 x15)] ∧ L = [bx b6 41 [.int .i64 a1.params, .int .i64 a1.result, v2, v4], F9, F13]) ⟨_, _, (.slice none 0 0), ([] : FP), _, rfl, (SlO.nil 42), ovr_eq _ _ rfl, rfl⟩ ?_
 rintro _ _ _ ⟨x11, x15, v12, F13, e5, rfl, h14, rfl, rfl⟩ X9 hp hx10
 replace hp : fettleref06_Dominates.bd10 a1 x7 x11 x15 = some X9 := hp
 refine TC.seq fun K14 k15 => sr <| tm rfl <| tm rfl <| tv (ln u42 h10.ro rfl) rfl <| tv (blt rfl rfl) rfl <| nz <| cD rfl hp (fun hc16 hp => ?_) fun hc16 hp => ?_
 · refine sk k15 rfl <| TC.seq fun K17 k18 => TC.block <| sr <| tv (lA (ds := [.int .i64 a1.params, .int .i64 a1.result, v2, v4]) ag_41 0 rfl rfl rfl rfl) rfl <| tm rfl <| bE hp fun x20 hy19 hp => tc 0 [_,_,_] rfl c38 (fun _ => fettleref05_From_ok (a1 := a1) (a6 := 0) (a7 := x15) (h3.mono subH) (h5.mono subH) hy19) rfl ?_
   rintro _ _ ⟨v21, F22, rfl, rfl, h23⟩
   refine ta rfl <| nz <| sr <| tm rfl <| tv (ln u42 h10.ro rfl) rfl <| tk (k := kBool) u42 i4 hp ⟨rfl, rfl⟩ rfl rfl rfl rfl rfl rfl fun x24 v25 F26 h27 hp => ta rfl <| nz <| TC.seq fun K22 k23 => sr <| ta rfl <| nz <| TC.block <| bE hp fun z_25 hz26 hr27 => ?_
   have J32 {x32 F33 e30} (h34 : SlO 4 kBool x32 v25 F33) (hq33 : x32 = z_25) : ∀ w, St E H [bx b6 41 [.int .i64 a1.params, .int .i64 a1.result, v2, v4], F9, F13, F33] w → K22 (ovr e30 [(1, .pointer (some ⟨b6, 0, none⟩)), (3, v8), (4, v12), (5, .int .i64 x15), (7, v25)]) w := by
    subst hq33
    replace hp : fettleref06_Dominates.nx29 x11 x15 x32 = some X9 := hr27
    exact tg k23 <| TC.region <| tm rfl <| tm rfl <| tbs [(0, v25)] [v25] u27 i42 (by obtain ⟨_, _, rfl⟩ := (h34).len; kernel_rfl) rfl rfl rfl rfl fun b35 => tp [3, 0, 4, 1, 2] [_,_,_,_,_] rfl rfl <| tp2 u27 i42 h14 hp (RepL.to (G' := F33) (RepL.cons (k := (kSl 4 kBool)) (x := x32) ⟨_, rfl, h34⟩ RepL.nil) (by simp)) rfl rfl rfl rfl rfl rfl rfl rfl rfl fun x36 v37 F38 h39 hp => ta rfl <| nl <| tg k18 <| TC.region <| tm rfl <| tv (bad rfl rfl) rfl <| ta rfl <| nl <| gk hp [1, 2, 0] ⟨_, _, v37, F38, _, rfl, h39, ovr_eq _ _ rfl, rfl⟩
   refine lp hz26 [2, 3, 4, 1, 0] rfl (fun s e L => ∃ x28 x31 F29 e24, s = (x28, x31) ∧ SlO 4 kBool x28 v25 F29 ∧ e = ovr e24 [(1, .pointer (some ⟨b6, 0, none⟩)), (3, v8), (4, v12), (5, .int .i64 x15), (6, v21), (7, v25), (8, .int .i64 x31)] ∧ L = [bx b6 41 [.int .i64 a1.params, .int .i64 a1.result, v2, v4], F9, F13, F22, F29]) ⟨_, _, F26, _, rfl, h27, ovr_eq _ _ rfl, rfl⟩ ?_
   rintro _ _ _ ⟨x28, x31, F29, e24, rfl, h30, rfl, rfl⟩ X28 hp hx29
   replace hp : fettleref06_Dominates.bd29 x7 x15 x20 x28 x31 = some X28 := hp
   refine TC.seq fun K34 k35 => sr <| tm rfl <| tm rfl <| tv (ln u42 h10.ro rfl) rfl <| tv (blt rfl rfl) rfl <| nz <| cD rfl hp (fun hc36 hp => ?_) fun hc36 hp => ?_
   · refine sk k35 rfl <| TC.seq fun K37 k38 => TC.block <| TC.region <| tm rfl <| tm rfl <| tm rfl <| tm rfl <| ti u42 i4 (h10).ro hp rfl rfl rfl rfl ?_
     rintro x40 b41 o42 _ hp rfl h45
     refine tv (lr s4 (Src.at_ 1 rfl) h45 0 rfl rfl) rfl <| tm rfl <| bE hp fun t46 ht46 hp => TL.cut 11 fun K40 k41 => ?_
     have J42 {e44} : ∀ w, St E H [bx b6 41 [.int .i64 a1.params, .int .i64 a1.result, v2, v4], F9, F13, F22, F29] w → K40 (ovr e44 [(46, .bool t46), (1, .pointer (some ⟨b6, 0, none⟩)), (3, v8), (4, v12), (5, .int .i64 x15), (6, v21), (7, v25), (8, .int .i64 x31), (29, v25), (30, .int .i64 x31)]) w := by
      exact tlg k41 <| tO u42 i4 h30 hp rfl rfl rfl rfl fun x47 b48 o49 h50 hp => tp [4, 0, 1, 2, 3] [_,_,_,_,_] rfl rfl <| tE h30 h50 m4 rfl ⟨rfl, rfl⟩ w1 fun F51 h52 => nl <| tg k38 <| TC.region <| tm rfl <| tv (bad rfl rfl) rfl <| ta rfl <| nl <| gk hp [1, 2, 3, 4, 0] ⟨_, _, F51, _, rfl, h52, ovr_eq _ _ rfl, rfl⟩
     refine ifE ht46 (fun hc43 hp => ?_) fun hc43 hp => ?_
     · refine gy rfl (bbT hc43) <| tm rfl <| gy rfl (bbT hc43) <| tm rfl <| gy rfl (bbT hc43) <| tv (beq rfl rfl) rfl <| gy rfl (bbT hc43) <| tm rfl <| bE hp fun t53 ht52 hp => TL.cut 6 fun K47 k48 => ?_
       have J49 {e51} : ∀ w, St E H [bx b6 41 [.int .i64 a1.params, .int .i64 a1.result, v2, v4], F9, F13, F22, F29] w → K47 (ovr e51 [(45, .bool t53), (1, .pointer (some ⟨b6, 0, none⟩)), (3, v8), (4, v12), (5, .int .i64 x15), (6, v21), (7, v25), (8, .int .i64 x31), (29, v25), (30, .int .i64 x31), (35, .bool x40), (36, .int .i64 x15), (37, .int .i64 x31), (38, .bool (decide (x15 = x31))), (39, .bool (decide (x15 = x31)))]) w := by
        refine tlg k48 <| tv (pT (bbT hc43)) rfl ?_
        obtain rfl := Option.some.inj hp
        exact nj J42 rfl
       refine ifE ht52 (fun hc50 hp => ?_) fun hc50 hp => ?_
       · refine gn rfl (bT hc50) rfl rfl <| gn rfl (bT hc50) rfl rfl <| gn rfl (bT hc50) rfl rfl <| gn rfl (bT hc50) rfl rfl <| gn rfl (bT hc50) rfl rfl <| gy rfl (bbT hc43) <| tv (pT (bT hc50)) rfl ?_
         obtain rfl := Option.some.inj hp
         exact nj J49 rfl
       · refine gy rfl (bF hc50) <| tm rfl <| gy rfl (bF hc50) <| tm rfl <| gy rfl (bF hc50) <| ti u42 i4 (h23).ro hp rfl rfl rfl rfl ?_
         rintro x54 b55 o56 _ hp rfl h59
         refine gy rfl (bF hc50) <| tv (lr s4 (Src.at_ 3 rfl) h59 0 rfl rfl) rfl <| gy rfl (bF hc50) <| tv (rv_not rfl) rfl <| gy rfl (bbT hc43) <| tv (pF (bF hc50)) rfl ?_
         obtain rfl := Option.some.inj hp
         exact nj J49 rfl
     · refine gn rfl (bbF hc43) rfl rfl <| gn rfl (bbF hc43) rfl rfl <| gn rfl (bbF hc43) rfl rfl <| gn rfl (bbF hc43) rfl rfl <| gu rfl rfl rfl <| gu rfl rfl rfl <| gu rfl rfl rfl <| gu rfl rfl rfl <| gu rfl rfl rfl <| gn rfl (bbF hc43) rfl rfl <| tv (pF (bbF hc43)) rfl ?_
       obtain rfl := Option.some.inj hp
       exact nj J42 rfl
   · exact TC.exit <| jn [0, 1, 2, 4] (J32 h30 (ex_ret hp hx29))
 · exact TC.exit <| jn [2] (J12 h14 (ex_ret hp hx10))
/-! ### fettle/fettleref13.ahead -/
abbrev fettleref13_ahead.R (r : Bool) (v : Value) (A : List FP) : Prop := .bool r = v ∧ A = []
def fettleref13_ahead (a1 : PFunc) (a6 : List (List Bool)) (a9 : Int) (a10 : Int) (a11 : Int) : Option Bool :=
  if a9 < a1.params then
    some true
  else
    (fettleref13_Maker a1 a9).bind fun x13 =>
    if x13.2 = 0 then
      some false
    else
      if x13.1.block = a10 then
        some (decide (x13.1.at_ < a11))
      else
        (idx a6 x13.1.block).bind fun x15 =>
        (idx x15 a10).bind fun x23 =>
        some x23
theorem fettleref13_ahead_ok {E : World} {H : FP} {w : World} {a1 : PFunc} {a6 : List (List Bool)} {a9 : Int} {a10 : Int} {a11 : Int} {v2 : Value} {v4 : Value} {v7 : Value} {r : Bool} (h3 : SlI (kInt .i64) H a1.regs v2) (h5 : SlI kBlock H a1.blocks v4) (h8 : SlI (kSl 4 kBool) H a6 v7) (hp : fettleref13_ahead a1 a6 a9 a10 a11 = some r) (hst : St E H [] w) :
    Fn Tryd.prog 61 #[.agg #[.int .i64 a1.params, .int .i64 a1.result, v2, v4], v7, .int .i64 a9, .int .i64 a10, .int .i64 a11] w fun v w' => ∃ A, fettleref13_ahead.R r v A ∧ St E H A w' := by
 refine fb 41 [.tmp 10] Tryd.func61 rfl rfl rfl rfl rfl hst <| sr <| tb [.int .i64 a1.params, .int .i64 a1.result, v2, v4] rfl rfl fun b12 => ta rfl <| nz <| TC.seq fun K1 k2 => sr <| tm rfl <| tv (fa f41_0 rfl) rfl <| tv (lb s3 0 rfl rfl rfl) rfl <| tv (blt rfl rfl) rfl <| nz <| cD rfl hp (fun hc3 hp => ?_) fun hc3 hp => ?_
 · exact sr <| ta rfl <| nz <| TC.ret <| rt hp [] ⟨rfl, rfl⟩
 · refine sk k2 rfl <| sr <| tv (lA (ds := [.int .i64 a1.params, .int .i64 a1.result, v2, v4]) ag_41 0 rfl rfl rfl rfl) rfl <| tm rfl <| bE hp fun x13 hy4 hp => tc 0 [_] rfl c39 (fun _ => fettleref13_Maker_ok (a1 := a1) (a6 := a9) (h3.mono subH) (h5.mono subH) hy4) rfl ?_
   rintro _ _ ⟨rfl, rfl⟩
   refine tm rfl <| tv (xt rfl rfl) rfl <| tv (xt rfl rfl) rfl <| tl i54 rfl fun b14 => tS 0 m54 rfl rfl [.int .i64 x13.1.block, .int .i64 x13.1.at_] rfl (oc rfl (oc rfl oc0)) rfl rfl <| ta rfl <| nz <| TC.seq fun K6 k7 => sr <| tm rfl <| tv (beq rfl rfl) rfl <| nz <| cD rfl hp (fun hc8 hp => ?_) fun hc8 hp => ?_
   · exact sr <| ta rfl <| nz <| TC.ret <| rt hp [] ⟨rfl, rfl⟩
   · refine sk k7 rfl <| TC.seq fun K9 k10 => sr <| tv (fa f54_0 rfl) rfl <| tv (lb s3 0 rfl rfl rfl) rfl <| tm rfl <| tv (beq rfl rfl) rfl <| nz <| cD rfl hp (fun hc11 hp => ?_) fun hc11 hp => ?_
     · exact sr <| tv (fa f54_1 rfl) rfl <| tv (lb s3 0 rfl rfl rfl) rfl <| tm rfl <| tv (blt rfl rfl) rfl <| ta rfl <| nz <| TC.ret <| rt hp [] ⟨rfl, rfl⟩
     · refine sk k10 rfl <| sr <| tm rfl <| tv (fa f54_0 rfl) rfl <| tv (lb s3 0 rfl rfl rfl) rfl <| ti u27 i42 h8 hp rfl rfl rfl rfl ?_
       rintro x15 b16 o17 _ hp ⟨v21, rfl, h22⟩ h20
       refine tv (lr s42 sH h20 0 rfl rfl) rfl <| tm rfl <| ti u42 i4 h22 hp rfl rfl rfl rfl ?_
       rintro x23 b24 o25 _ hp rfl h28
       exact tv (lr s4 sH h28 0 rfl rfl) rfl <| ta rfl <| nz <| TC.ret <| rt hp [] ⟨rfl, rfl⟩
/-! ### fettle/fettleref13.amiss -/
abbrev fettleref13_amiss.R (r : Bool) (v : Value) (A : List FP) : Prop := .bool r = v ∧ A = []
def fettleref13_amiss.nx8  : Option Bool :=
  some false
def fettleref13_amiss.nx36 (a1 : PFunc) (a6 : List (List Bool)) (a9 : Int) (x11 : Int) (x12 : PBlock) : Option (Ex (Ex Bool Unit) Int) :=
  (if x12.term.arg = a9 then (fettleref13_ahead a1 a6 a9 x11 (len x12.ins)).bind fun x32 =>
  some (!x32) else some false).bind fun t31 =>
  if t31 = true then
    some (.ret (.ret true))
  else
    some (.go (w64 (x11 + 1)))
def fettleref13_amiss.nx59 (x30 : Int) : Option (Ex (Ex Bool Unit) Int) :=
  some (.go (w64 (x30 + 1)))
def fettleref13_amiss.bd59 (a1 : PFunc) (a6 : List (List Bool)) (a9 : Int) (x11 : Int) (x12 : PBlock) (x30 : Int) (x33 : Int) : Option (Ex (Ex Bool Unit) Int) :=
  (idx x12.ins x30).bind fun x34 =>
  if x33 < (len x34.args) then
    (idx x12.ins x30).bind fun x42 =>
    (idx x42.args x33).bind fun x50 =>
    (if x50 = a9 then (fettleref13_ahead a1 a6 a9 x11 x30).bind fun x57 =>
    some (!x57) else some false).bind fun t56 =>
    if t56 = true then
      some (.ret (.ret true))
    else
      some (.go (w64 (x33 + 1)))
  else
    some (.ret (.go ()))
def fettleref13_amiss.bd36 (a1 : PFunc) (a6 : List (List Bool)) (a9 : Int) (x11 : Int) (x12 : PBlock) (x30 : Int) : Option (Ex (Ex Bool Unit) Int) :=
  if x30 < (len x12.ins) then
    (whl (fun (s : Int) => fettleref13_amiss.bd59 a1 a6 a9 x11 x12 x30 s) FUEL 0).bind fun z =>
    match z with
      | .ret r => some (.ret (.ret r))
      | .go p => fettleref13_amiss.nx59 x30
  else
    some (.ret (.go ()))
def fettleref13_amiss.nx27 (a1 : PFunc) (a6 : List (List Bool)) (a9 : Int) (x11 : Int) (x12 : PBlock) : Option (Ex (Ex Bool Unit) Int) :=
  (whl (fun (s : Int) => fettleref13_amiss.bd36 a1 a6 a9 x11 x12 s) FUEL 0).bind fun z =>
  match z with
    | .ret r => some (.ret (.ret r))
    | .go p => fettleref13_amiss.nx36 a1 a6 a9 x11 x12
def fettleref13_amiss.nx96 (x29 : Int) : Option (Ex (Ex Bool Unit) Int) :=
  some (.go (w64 (x29 + 1)))
def fettleref13_amiss.bd96 (a1 : PFunc) (a6 : List (List Bool)) (a9 : Int) (x12 : PBlock) (x25 : List Int) (x29 : Int) (x58 : Int) : Option (Ex (Ex Bool Unit) Int) :=
  if x58 < (len x25) then
    (idx x12.phis x29).bind fun x59 =>
    (idx x59.args x58).bind fun x67 =>
    (if x67 = a9 then (idx x25 x58).bind fun x74 =>
    (idx x25 x58).bind fun x80 =>
    (idx a1.blocks x80).bind fun x86 =>
    (fettleref13_ahead a1 a6 a9 x74 (len x86.ins)).bind fun x98 =>
    some (!x98) else some false).bind fun t73 =>
    if t73 = true then
      some (.ret (.ret true))
    else
      some (.go (w64 (x58 + 1)))
  else
    some (.ret (.go ()))
def fettleref13_amiss.bd27 (a1 : PFunc) (a6 : List (List Bool)) (a9 : Int) (x12 : PBlock) (x25 : List Int) (x29 : Int) : Option (Ex (Ex Bool Unit) Int) :=
  if x29 < (len x12.phis) then
    (whl (fun (s : Int) => fettleref13_amiss.bd96 a1 a6 a9 x12 x25 x29 s) FUEL 0).bind fun z =>
    match z with
      | .ret r => some (.ret (.ret r))
      | .go p => fettleref13_amiss.nx96 x29
  else
    some (.ret (.go ()))
def fettleref13_amiss.bd8 (a1 : PFunc) (a6 : List (List Bool)) (a9 : Int) (x11 : Int) : Option (Ex (Ex Bool Unit) Int) :=
  if x11 < (len a1.blocks) then
    (idx a1.blocks x11).bind fun x12 =>
    (fettleref02_Ahead a1 x11).bind fun x25 =>
    (whl (fun (s : Int) => fettleref13_amiss.bd27 a1 a6 a9 x12 x25 s) FUEL 0).bind fun z =>
    match z with
      | .ret r => some (.ret (.ret r))
      | .go p => fettleref13_amiss.nx27 a1 a6 a9 x11 x12
  else
    some (.ret (.go ()))
def fettleref13_amiss (a1 : PFunc) (a6 : List (List Bool)) (a9 : Int) : Option Bool :=
  (whl (fun (s : Int) => fettleref13_amiss.bd8 a1 a6 a9 s) FUEL 0).bind fun z =>
  match z with
    | .ret r => some r
    | .go p => fettleref13_amiss.nx8
set_option maxHeartbeats 4000000 in
theorem fettleref13_amiss_ok {E : World} {H : FP} {w : World} {a1 : PFunc} {a6 : List (List Bool)} {a9 : Int} {v2 : Value} {v4 : Value} {v7 : Value} {r : Bool} (h3 : SlI (kInt .i64) H a1.regs v2) (h5 : SlI kBlock H a1.blocks v4) (h8 : SlI (kSl 4 kBool) H a6 v7) (hp : fettleref13_amiss a1 a6 a9 = some r) (hst : St E H [] w) :
    Fn Tryd.prog 41 #[.agg #[.int .i64 a1.params, .int .i64 a1.result, v2, v4], v7, .int .i64 a9] w fun v w' => ∃ A, fettleref13_amiss.R r v A ∧ St E H A w' := by
 refine fb 128 [.tmp 6] Tryd.func41 rfl rfl rfl rfl rfl hst <| sr <| tb [.int .i64 a1.params, .int .i64 a1.result, v2, v4] rfl rfl fun b10 => ta rfl <| nz <| TC.seq fun K1 k2 => sr <| ta rfl <| nz <| TC.block <| bE hp fun z_4 hz5 hr6 => ?_
 have J10 {e9} (hq11 : .go () = z_4) : ∀ w, St E H [] w → K1 (ovr e9 []) w := by
  subst hq11
  replace hp : fettleref13_amiss.nx8 = some r := hr6
  exact tg k2 <| sr <| ta rfl <| nz <| TC.ret <| rt hp [] ⟨rfl, rfl⟩
 refine lp hz5 [0] rfl (fun s e L => ∃ e3, e = ovr e3 [(1, v7), (2, .int .i64 a9), (3, .pointer (some ⟨b10, 0, none⟩)), (7, .int .i64 s)] ∧ L = [bx b10 41 [.int .i64 a1.params, .int .i64 a1.result, v2, v4]]) ⟨_, ovr_eq _ _ rfl, rfl⟩ ?_
 rintro x11 _ _ ⟨e3, rfl, rfl⟩ X7 hp hx8
 replace hp : fettleref13_amiss.bd8 a1 a6 a9 x11 = some X7 := hp
 refine TC.seq fun K12 k13 => sr <| tm rfl <| tv (fa f41_3 rfl) rfl <| tv (lb s39 0 rfl rfl rfl) rfl <| tv (ln u39 h5 rfl) rfl <| tv (blt rfl rfl) rfl <| nz <| cD rfl hp (fun hc14 hp => ?_) fun hc14 hp => ?_
 · refine sk k13 rfl <| TC.seq fun K15 k16 => TC.block <| sr <| tv (fa f41_3 rfl) rfl <| tv (lb s39 0 rfl rfl rfl) rfl <| tm rfl <| ti u39 i60 h5 hp rfl rfl rfl rfl ?_
   rintro x12 b13 o14 _ hp ⟨v18, v20, v22, rfl, h19, h21, h23⟩ h17
   refine tv (lR (ds := [v18, v20, .int .i64 x12.term.kind, .int .i64 x12.term.arg, v22]) ag_60 sH h17 0 rfl rfl rfl) rfl <| tl i60 rfl fun b24 => tS 0 m60 rfl rfl [v18, v20, .int .i64 x12.term.kind, .int .i64 x12.term.arg, v22] rfl (oc (h19).one (oc (h21).one (oc rfl (oc rfl (oc (h23).one oc0))))) rfl rfl <| nz <| sr <| tv (lA (ds := [.int .i64 a1.params, .int .i64 a1.result, v2, v4]) ag_41 1 rfl rfl rfl rfl) rfl <| tm rfl <| bE hp fun x25 hy18 hp => tc 0 [_,_] rfl c54 (fun _ => fettleref02_Ahead_ok (a1 := a1) (a6 := x11) (h3.mono subH) (h5.mono subH) hy18) rfl ?_
   rintro _ _ ⟨v26, F27, rfl, rfl, h28⟩
   refine ta rfl <| nz <| TC.seq fun K20 k21 => sr <| ta rfl <| nz <| TC.block <| bE hp fun z_23 hz24 hr25 => ?_
   have J84 {e28} (hq85 : .go () = z_23) : ∀ w, St E H [bx b10 41 [.int .i64 a1.params, .int .i64 a1.result, v2, v4], bx b24 60 [v18, v20, .int .i64 x12.term.kind, .int .i64 x12.term.arg, v22]] w → K20 (ovr e28 [(1, v7), (2, .int .i64 a9), (3, .pointer (some ⟨b10, 0, none⟩)), (7, .int .i64 x11), (8, .pointer (some ⟨b24, 0, none⟩))]) w := by
    subst hq85
    replace hp : fettleref13_amiss.nx27 a1 a6 a9 x11 x12 = some X7 := hr25
    refine tg k21 <| TC.seq fun K29 k30 => sr <| ta rfl <| nz <| TC.block <| bE hp fun z_32 hz33 hr34 => ?_
    have J47 {e37} (hq48 : .go () = z_32) : ∀ w, St E H [bx b10 41 [.int .i64 a1.params, .int .i64 a1.result, v2, v4], bx b24 60 [v18, v20, .int .i64 x12.term.kind, .int .i64 x12.term.arg, v22]] w → K29 (ovr e37 [(1, v7), (2, .int .i64 a9), (3, .pointer (some ⟨b10, 0, none⟩)), (7, .int .i64 x11), (8, .pointer (some ⟨b24, 0, none⟩))]) w := by
     subst hq48
     replace hp : fettleref13_amiss.nx36 a1 a6 a9 x11 x12 = some X7 := hr34
     refine tg k30 <| sr <| tv (fa f60_2 rfl) rfl <| tv (fa f56_1 rfl) rfl <| tv (lb s3 1 rfl rfl rfl) rfl <| tm rfl <| tv (beq rfl rfl) rfl <| tm rfl <| bE hp fun t31 ht44 hp => TL.cut 10 fun K38 k39 => ?_
     have J40 {e42} : ∀ w, St E H [bx b10 41 [.int .i64 a1.params, .int .i64 a1.result, v2, v4], bx b24 60 [v18, v20, .int .i64 x12.term.kind, .int .i64 x12.term.arg, v22]] w → K38 (ovr e42 [(127, .bool t31), (1, v7), (2, .int .i64 a9), (3, .pointer (some ⟨b10, 0, none⟩)), (7, .int .i64 x11)]) w := by
      refine tlg k39 <| nz <| cB rfl hp (fun hc43 hp => ?_) fun hc43 hp => ?_
      · refine sr <| ta rfl <| nz <| TC.ret ?_
        obtain rfl := ex_ret hp hx8
        exact rt hr6 [] ⟨rfl, rfl⟩
      · exact sk k16 rfl <| TC.region <| tm rfl <| tv (bad rfl rfl) rfl <| ta rfl <| nl <| gk hp [0] ⟨_, ovr_eq _ _ rfl, rfl⟩
     refine ifE ht44 (fun hc41 hp => ?_) fun hc41 hp => ?_
     · refine gy rfl (bT hc41) <| tv (lA (ds := [.int .i64 a1.params, .int .i64 a1.result, v2, v4]) ag_41 0 rfl rfl rfl rfl) rfl <| gy rfl (bT hc41) <| tm rfl <| gy rfl (bT hc41) <| tm rfl <| gy rfl (bT hc41) <| tm rfl <| gy rfl (bT hc41) <| tv (fa f60_1 rfl) rfl <| gy rfl (bT hc41) <| tv (lb s58 1 rfl rfl rfl) rfl <| gy rfl (bT hc41) <| tv (ln u58 h21 rfl) rfl <| gy rfl (bT hc41) <| bE hp fun x32 hy45 hp => tc 0 [_,_] rfl c61 (fun _ => fettleref13_ahead_ok (a1 := a1) (a6 := a6) (a9 := a9) (a10 := x11) (a11 := (len x12.ins)) (h3.mono subH) (h5.mono subH) (h8.mono subH) hy45) rfl ?_
       rintro _ _ ⟨rfl, rfl⟩
       refine gy rfl (bT hc41) <| tv (rv_not rfl) rfl <| tv (pT (bT hc41)) rfl ?_
       obtain rfl := Option.some.inj hp
       exact nj J40 rfl
     · refine gn rfl (bF hc41) rfl rfl <| gn rfl (bF hc41) rfl rfl <| gn rfl (bF hc41) rfl rfl <| gn rfl (bF hc41) rfl rfl <| gn rfl (bF hc41) rfl rfl <| gn rfl (bF hc41) rfl rfl <| gn rfl (bF hc41) rfl rfl <| gn rfl (bF hc41) rfl rfl <| gn rfl (bF hc41) rfl rfl <| tv (pF (bF hc41)) rfl ?_
       obtain rfl := Option.some.inj hp
       exact nj J40 rfl
    refine lp hz33 [0, 1] rfl (fun s e L => ∃ e31, e = ovr e31 [(1, v7), (2, .int .i64 a9), (3, .pointer (some ⟨b10, 0, none⟩)), (7, .int .i64 x11), (8, .pointer (some ⟨b24, 0, none⟩)), (12, .int .i64 s)] ∧ L = [bx b10 41 [.int .i64 a1.params, .int .i64 a1.result, v2, v4], bx b24 60 [v18, v20, .int .i64 x12.term.kind, .int .i64 x12.term.arg, v22]]) ⟨_, ovr_eq _ _ rfl, rfl⟩ ?_
    rintro x30 _ _ ⟨e31, rfl, rfl⟩ X35 hp hx36
    replace hp : fettleref13_amiss.bd36 a1 a6 a9 x11 x12 x30 = some X35 := hp
    refine TC.seq fun K49 k50 => sr <| tm rfl <| tv (fa f60_1 rfl) rfl <| tv (lb s58 1 rfl rfl rfl) rfl <| tv (ln u58 h21 rfl) rfl <| tv (blt rfl rfl) rfl <| nz <| cD rfl hp (fun hc51 hp => ?_) fun hc51 hp => ?_
    · refine sk k50 rfl <| TC.seq fun K52 k53 => TC.block <| sr <| ta rfl <| nz <| TC.block <| bE hp fun z_55 hz56 hr57 => ?_
      have J61 {e60} (hq62 : .go () = z_55) : ∀ w, St E H [bx b10 41 [.int .i64 a1.params, .int .i64 a1.result, v2, v4], bx b24 60 [v18, v20, .int .i64 x12.term.kind, .int .i64 x12.term.arg, v22]] w → K52 (ovr e60 [(1, v7), (2, .int .i64 a9), (3, .pointer (some ⟨b10, 0, none⟩)), (7, .int .i64 x11), (8, .pointer (some ⟨b24, 0, none⟩)), (12, .int .i64 x30)]) w := by
       subst hq62
       replace hp : fettleref13_amiss.nx59 x30 = some X35 := hr57
       exact tg k53 <| TC.region <| tm rfl <| tv (bad rfl rfl) rfl <| ta rfl <| nl <| gk hp [0, 1] ⟨_, ovr_eq _ _ rfl, rfl⟩
      refine lp hz56 [0, 1] rfl (fun s e L => ∃ e54, e = ovr e54 [(1, v7), (2, .int .i64 a9), (3, .pointer (some ⟨b10, 0, none⟩)), (7, .int .i64 x11), (8, .pointer (some ⟨b24, 0, none⟩)), (12, .int .i64 x30), (13, .int .i64 s)] ∧ L = [bx b10 41 [.int .i64 a1.params, .int .i64 a1.result, v2, v4], bx b24 60 [v18, v20, .int .i64 x12.term.kind, .int .i64 x12.term.arg, v22]]) ⟨_, ovr_eq _ _ rfl, rfl⟩ ?_
      rintro x33 _ _ ⟨e54, rfl, rfl⟩ X58 hp hx59
      replace hp : fettleref13_amiss.bd59 a1 a6 a9 x11 x12 x30 x33 = some X58 := hp
      refine TC.seq fun K63 k64 => sr <| tm rfl <| tv (fa f60_1 rfl) rfl <| tv (lb s58 1 rfl rfl rfl) rfl <| tm rfl <| ti u58 i62 h21 hp rfl rfl rfl rfl ?_
      rintro x34 b35 o36 _ hp ⟨v40, rfl, h41⟩ h39
      refine tv (fa f62_2 rfl) rfl <| tv (lr s32 sH h39 2 rfl rfl) rfl <| tv (ln u32 h41 rfl) rfl <| tv (blt rfl rfl) rfl <| nz <| cD rfl hp (fun hc66 hp => ?_) fun hc66 hp => ?_
      · refine sk k64 rfl <| TC.seq fun K67 k68 => TC.block <| sr <| tv (fa f60_1 rfl) rfl <| tv (lb s58 1 rfl rfl rfl) rfl <| tm rfl <| ti u58 i62 h21 hp rfl rfl rfl rfl ?_
        rintro x42 b43 o44 _ hp ⟨v48, rfl, h49⟩ h47
        refine tv (fa f62_2 rfl) rfl <| tv (lr s32 sH h47 2 rfl rfl) rfl <| tm rfl <| ti u32 i3 h49 hp rfl rfl rfl rfl ?_
        rintro x50 b51 o52 _ hp rfl h55
        refine tv (lr s3 sH h55 0 rfl rfl) rfl <| tm rfl <| tv (beq rfl rfl) rfl <| tm rfl <| bE hp fun t56 ht77 hp => TL.cut 8 fun K71 k72 => ?_
        have J73 {e75} : ∀ w, St E H [bx b10 41 [.int .i64 a1.params, .int .i64 a1.result, v2, v4], bx b24 60 [v18, v20, .int .i64 x12.term.kind, .int .i64 x12.term.arg, v22]] w → K71 (ovr e75 [(111, .bool t56), (1, v7), (2, .int .i64 a9), (3, .pointer (some ⟨b10, 0, none⟩)), (7, .int .i64 x11), (8, .pointer (some ⟨b24, 0, none⟩)), (12, .int .i64 x30), (13, .int .i64 x33)]) w := by
         refine tlg k72 <| nz <| cB rfl hp (fun hc76 hp => ?_) fun hc76 hp => ?_
         · refine sr <| ta rfl <| nz <| TC.ret ?_
           obtain rfl := ex_ret hp hx59
           obtain rfl := ex_ret hr57 hx36
           obtain rfl := ex_ret hr34 hx8
           exact rt hr6 [] ⟨rfl, rfl⟩
         · exact sk k68 rfl <| TC.region <| tm rfl <| tv (bad rfl rfl) rfl <| ta rfl <| nl <| gk hp [0, 1] ⟨_, ovr_eq _ _ rfl, rfl⟩
        refine ifE ht77 (fun hc74 hp => ?_) fun hc74 hp => ?_
        · refine gy rfl (bT hc74) <| tv (lA (ds := [.int .i64 a1.params, .int .i64 a1.result, v2, v4]) ag_41 0 rfl rfl rfl rfl) rfl <| gy rfl (bT hc74) <| tm rfl <| gy rfl (bT hc74) <| tm rfl <| gy rfl (bT hc74) <| tm rfl <| gy rfl (bT hc74) <| tm rfl <| gy rfl (bT hc74) <| bE hp fun x57 hy78 hp => tc 0 [_,_] rfl c61 (fun _ => fettleref13_ahead_ok (a1 := a1) (a6 := a6) (a9 := a9) (a10 := x11) (a11 := x30) (h3.mono subH) (h5.mono subH) (h8.mono subH) hy78) rfl ?_
          rintro _ _ ⟨rfl, rfl⟩
          refine gy rfl (bT hc74) <| tv (rv_not rfl) rfl <| tv (pT (bT hc74)) rfl ?_
          obtain rfl := Option.some.inj hp
          exact nj J73 rfl
        · refine gn rfl (bF hc74) rfl rfl <| gn rfl (bF hc74) rfl rfl <| gn rfl (bF hc74) rfl rfl <| gn rfl (bF hc74) rfl rfl <| gn rfl (bF hc74) rfl rfl <| gn rfl (bF hc74) rfl rfl <| gn rfl (bF hc74) rfl rfl <| tv (pF (bF hc74)) rfl ?_
          obtain rfl := Option.some.inj hp
          exact nj J73 rfl
      · exact TC.exit <| jn [0, 1] (J61 (ex_ret hp hx59))
    · exact TC.exit <| jn [0, 1] (J47 (ex_ret hp hx36))
   refine lp hz24 [2, 1, 0] rfl (fun s e L => ∃ e22, e = ovr e22 [(1, v7), (2, .int .i64 a9), (3, .pointer (some ⟨b10, 0, none⟩)), (7, .int .i64 x11), (8, .pointer (some ⟨b24, 0, none⟩)), (9, v26), (10, .int .i64 s)] ∧ L = [bx b10 41 [.int .i64 a1.params, .int .i64 a1.result, v2, v4], bx b24 60 [v18, v20, .int .i64 x12.term.kind, .int .i64 x12.term.arg, v22], F27]) ⟨_, ovr_eq _ _ rfl, rfl⟩ ?_
   rintro x29 _ _ ⟨e22, rfl, rfl⟩ X26 hp hx27
   replace hp : fettleref13_amiss.bd27 a1 a6 a9 x12 x25 x29 = some X26 := hp
   refine TC.seq fun K86 k87 => sr <| tm rfl <| tv (fa f60_0 rfl) rfl <| tv (lb s57 1 rfl rfl rfl) rfl <| tv (ln u57 h19 rfl) rfl <| tv (blt rfl rfl) rfl <| nz <| cD rfl hp (fun hc88 hp => ?_) fun hc88 hp => ?_
   · refine sk k87 rfl <| TC.seq fun K89 k90 => TC.block <| sr <| ta rfl <| nz <| TC.block <| bE hp fun z_92 hz93 hr94 => ?_
     have J98 {e97} (hq99 : .go () = z_92) : ∀ w, St E H [bx b10 41 [.int .i64 a1.params, .int .i64 a1.result, v2, v4], bx b24 60 [v18, v20, .int .i64 x12.term.kind, .int .i64 x12.term.arg, v22], F27] w → K89 (ovr e97 [(1, v7), (2, .int .i64 a9), (3, .pointer (some ⟨b10, 0, none⟩)), (7, .int .i64 x11), (8, .pointer (some ⟨b24, 0, none⟩)), (9, v26), (10, .int .i64 x29)]) w := by
      subst hq99
      replace hp : fettleref13_amiss.nx96 x29 = some X26 := hr94
      exact tg k90 <| TC.region <| tm rfl <| tv (bad rfl rfl) rfl <| ta rfl <| nl <| gk hp [0, 1, 2] ⟨_, ovr_eq _ _ rfl, rfl⟩
     refine lp hz93 [0, 1, 2] rfl (fun s e L => ∃ e91, e = ovr e91 [(1, v7), (2, .int .i64 a9), (3, .pointer (some ⟨b10, 0, none⟩)), (7, .int .i64 x11), (8, .pointer (some ⟨b24, 0, none⟩)), (9, v26), (10, .int .i64 x29), (11, .int .i64 s)] ∧ L = [bx b10 41 [.int .i64 a1.params, .int .i64 a1.result, v2, v4], bx b24 60 [v18, v20, .int .i64 x12.term.kind, .int .i64 x12.term.arg, v22], F27]) ⟨_, ovr_eq _ _ rfl, rfl⟩ ?_
     rintro x58 _ _ ⟨e91, rfl, rfl⟩ X95 hp hx96
     replace hp : fettleref13_amiss.bd96 a1 a6 a9 x12 x25 x29 x58 = some X95 := hp
     refine TC.seq fun K100 k101 => sr <| tm rfl <| tm rfl <| tv (ln u32 h28.ro rfl) rfl <| tv (blt rfl rfl) rfl <| nz <| cD rfl hp (fun hc102 hp => ?_) fun hc102 hp => ?_
     · refine sk k101 rfl <| TC.seq fun K103 k104 => TC.block <| TC.seq fun K105 k106 => cq mix (by kernel_rfl) <| qv (fa f60_0 rfl) rfl <| qv (lb s57 1 rfl rfl rfl) rfl <| qv mv rfl <| qi u57 i64 h19 hp rfl rfl rfl rfl ?_
       rintro x59 b60 o61 _ hp ⟨v65, rfl, h66⟩ h64
       refine qv (fa f64_1 rfl) rfl <| qv (lr s32 sH h64 1 rfl rfl) rfl <| qv mv rfl <| qi u32 i3 h66 hp rfl rfl rfl rfl ?_
       rintro x67 b68 o69 _ hp rfl h72
       refine qv (lr s3 sH h72 0 rfl rfl) rfl <| qv mv rfl <| qv (beq rfl rfl) rfl <| qv mv rfl <| bE hp fun t73 ht115 hp => QL.cut 20 fun K109 k110 => ?_
       have J111 {e113} : K109 (ovr e113 [(73, .bool t73), (1, v7), (2, .int .i64 a9), (3, .pointer (some ⟨b10, 0, none⟩)), (7, .int .i64 x11), (8, .pointer (some ⟨b24, 0, none⟩)), (9, v26), (10, .int .i64 x29), (11, .int .i64 x58)]) := by
        refine k110 _ <| QL.nil <| tg k106 <| cB rfl hp (fun hc114 hp => ?_) fun hc114 hp => ?_
        · refine sr <| ta rfl <| nz <| TC.ret ?_
          obtain rfl := ex_ret hp hx96
          obtain rfl := ex_ret hr94 hx27
          obtain rfl := ex_ret hr25 hx8
          exact rt hr6 [] ⟨rfl, rfl⟩
        · exact sk k104 rfl <| TC.region <| tm rfl <| tv (bad rfl rfl) rfl <| ta rfl <| nl <| gk hp [0, 1, 2] ⟨_, ovr_eq _ _ rfl, rfl⟩
       refine ifE ht115 (fun hc112 hp => ?_) fun hc112 hp => ?_
       · refine qgy rfl (bT hc112) <| qv (lA (ds := [.int .i64 a1.params, .int .i64 a1.result, v2, v4]) ag_41 0 rfl rfl rfl rfl) rfl <| qgy rfl (bT hc112) <| qv mv rfl <| qgy rfl (bT hc112) <| qv mv rfl <| qgy rfl (bT hc112) <| qv mv rfl <| qgy rfl (bT hc112) <| qv mv rfl <| qgy rfl (bT hc112) <| qi u32 i3 (h28).ro hp rfl rfl rfl rfl ?_
         rintro x74 b75 o76 _ hp rfl h79
         refine qgy rfl (bT hc112) <| qv (lr s3 (Src.at_ 2 rfl) h79 0 rfl rfl) rfl <| qgy rfl (bT hc112) <| qv (fa f41_3 rfl) rfl <| qgy rfl (bT hc112) <| qv (lb s39 0 rfl rfl rfl) rfl <| qgy rfl (bT hc112) <| qv mv rfl <| qgy rfl (bT hc112) <| qv mv rfl <| qgy rfl (bT hc112) <| qi u32 i3 (h28).ro hp rfl rfl rfl rfl ?_
         rintro x80 b81 o82 _ hp rfl h85
         refine qgy rfl (bT hc112) <| qv (lr s3 (Src.at_ 2 rfl) h85 0 rfl rfl) rfl <| qgy rfl (bT hc112) <| qi u39 i60 h5 hp rfl rfl rfl rfl ?_
         rintro x86 b87 o88 _ hp ⟨v92, v94, v96, rfl, h93, h95, h97⟩ h91
         refine qgy rfl (bT hc112) <| qv (fa f60_1 rfl) rfl <| qgy rfl (bT hc112) <| qv (lr s58 sH h91 1 rfl rfl) rfl <| qgy rfl (bT hc112) <| qv (ln u58 h95 rfl) rfl <| qgy rfl (bT hc112) <| bE hp fun x98 hy119 hp => qc (.bool x98) c61 (fun _ => fettleref13_ahead_ok (a1 := a1) (a6 := a6) (a9 := a9) (a10 := x74) (a11 := (len x86.ins)) (h3.mono subH) (h5.mono subH) (h8.mono subH) hy119) (fun _ _ h => ⟨h.1.symm, h.2⟩) rfl <| qgy rfl (bT hc112) <| qv (rv_not rfl) rfl <| qv (pT (bT hc112)) rfl ?_
         obtain rfl := Option.some.inj hp
         exact qj J111 rfl
       · refine qgn rfl (bF hc112) rfl rfl <| qgn rfl (bF hc112) rfl rfl <| qgn rfl (bF hc112) rfl rfl <| qgn rfl (bF hc112) rfl rfl <| qgn rfl (bF hc112) rfl rfl <| qgn rfl (bF hc112) rfl rfl <| qgn rfl (bF hc112) rfl rfl <| qgn rfl (bF hc112) rfl rfl <| qgn rfl (bF hc112) rfl rfl <| qgn rfl (bF hc112) rfl rfl <| qgn rfl (bF hc112) rfl rfl <| qgn rfl (bF hc112) rfl rfl <| qgn rfl (bF hc112) rfl rfl <| qgn rfl (bF hc112) rfl rfl <| qgn rfl (bF hc112) rfl rfl <| qgn rfl (bF hc112) rfl rfl <| qgn rfl (bF hc112) rfl rfl <| qgn rfl (bF hc112) rfl rfl <| qgn rfl (bF hc112) rfl rfl <| qv (pF (bF hc112)) rfl ?_
         obtain rfl := Option.some.inj hp
         exact qj J111 rfl
     · exact TC.exit <| jn [0, 1, 2] (J98 (ex_ret hp hx96))
   · exact TC.exit <| jn [0, 1] (J84 (ex_ret hp hx27))
 · exact TC.exit <| jn [] (J10 (ex_ret hp hx8))
/-! ### fettle/fettleref13.Form -/
abbrev fettleref13_Form.R (r : Int × Int) (v : Value) (A : List FP) : Prop := .tuple #[.int .i64 r.1, .int .i64 r.2] = v ∧ A = []
def fettleref13_Form.nx30  : Option (Int × Int) :=
  some (0, -1)
def fettleref13_Form.bd30 (a1 : PFunc) (x13 : List (List Bool)) (x17 : Int) : Option (Ex (Ex (Int × Int) Unit) Int) :=
  if x17 < (len a1.regs) then
    (fettleref13_amiss a1 x13 x17).bind fun x18 =>
    if x18 = true then
      some (.ret (.ret (4, x17)))
    else
      some (.go (w64 (x17 + 1)))
  else
    some (.ret (.go ()))
def fettleref13_Form.nx19 (a1 : PFunc) : Option (Int × Int) :=
  (fettleref06_Dominates a1).bind fun x13 =>
  (whl (fun (s : Int) => fettleref13_Form.bd30 a1 x13 s) FUEL 0).bind fun z =>
  match z with
    | .ret r => some r
    | .go p => fettleref13_Form.nx30
def fettleref13_Form.bd19 (a1 : PFunc) (x12 : Int) : Option (Ex (Ex (Int × Int) Unit) Int) :=
  if x12 < (len a1.regs) then
    (fettleref13_Maker a1 x12).bind fun x19 =>
    if x19.2 > 1 ∨ (x19.2 > 0 ∧ x12 < a1.params) then
      some (.ret (.ret (7, x12)))
    else
      some (.go (w64 (x12 + 1)))
  else
    some (.ret (.go ()))
def fettleref13_Form.nx10 (a1 : PFunc) : Option (Int × Int) :=
  (whl (fun (s : Int) => fettleref13_Form.bd19 a1 s) FUEL 0).bind fun z =>
  match z with
    | .ret r => some r
    | .go p => fettleref13_Form.nx19 a1
def fettleref13_Form.bd10 (x7 : List Bool) (x11 : Int) : Option (Ex (Ex (Int × Int) Unit) Int) :=
  if x11 < (len x7) then
    (idx x7 x11).bind fun x21 =>
    if (!x21) = true then
      some (.ret (.ret (6, -1)))
    else
      some (.go (w64 (x11 + 1)))
  else
    some (.ret (.go ()))
def fettleref13_Form (a1 : PFunc) : Option (Int × Int) :=
  (fettleref05_From a1 0 (-1)).bind fun x7 =>
  (whl (fun (s : Int) => fettleref13_Form.bd10 x7 s) FUEL 0).bind fun z =>
  match z with
    | .ret r => some r
    | .go p => fettleref13_Form.nx10 a1
set_option maxHeartbeats 4000000 in
theorem fettleref13_Form_ok {E : World} {H : FP} {w : World} {a1 : PFunc} {v2 : Value} {v4 : Value} {r : Int × Int} (h3 : SlI (kInt .i64) H a1.regs v2) (h5 : SlI kBlock H a1.blocks v4) (hp : fettleref13_Form a1 = some r) (hst : St E H [] w) :
    Fn Tryd.prog 16 #[.agg #[.int .i64 a1.params, .int .i64 a1.result, v2, v4]] w fun v w' => ∃ A, fettleref13_Form.R r v A ∧ St E H A w' := by
 refine fb 66 [.tmp 2, .tmp 3] Tryd.func16 rfl rfl rfl rfl rfl hst <| sr <| tb [.int .i64 a1.params, .int .i64 a1.result, v2, v4] rfl rfl fun b6 => ta rfl <| ta rfl <| nz <| sr <| tv (lA (ds := [.int .i64 a1.params, .int .i64 a1.result, v2, v4]) ag_41 0 rfl rfl rfl rfl) rfl <| bE hp fun x7 hy1 hp => tc 0 [_] rfl c38 (fun _ => fettleref05_From_ok (a1 := a1) (a6 := 0) (a7 := -1) (h3.mono subH) (h5.mono subH) hy1) rfl ?_
 rintro _ _ ⟨v8, F9, rfl, rfl, h10⟩
 refine ta rfl <| nz <| TC.seq fun K3 k4 => sr <| ta rfl <| nz <| TC.block <| bE hp fun z_6 hz7 hr8 => ?_
 have J66 {e11} (hq67 : .go () = z_6) : ∀ w, St E H [bx b6 41 [.int .i64 a1.params, .int .i64 a1.result, v2, v4]] w → K3 (ovr e11 [(1, .pointer (some ⟨b6, 0, none⟩))]) w := by
  subst hq67
  replace hp : fettleref13_Form.nx10 a1 = some r := hr8
  refine tg k4 <| TC.seq fun K12 k13 => sr <| ta rfl <| nz <| TC.block <| bE hp fun z_15 hz16 hr17 => ?_
  have J44 {e20} (hq45 : .go () = z_15) : ∀ w, St E H [bx b6 41 [.int .i64 a1.params, .int .i64 a1.result, v2, v4]] w → K12 (ovr e20 [(1, .pointer (some ⟨b6, 0, none⟩))]) w := by
   subst hq45
   replace hp : fettleref13_Form.nx19 a1 = some r := hr17
   refine tg k13 <| sr <| tv (lA (ds := [.int .i64 a1.params, .int .i64 a1.result, v2, v4]) ag_41 0 rfl rfl rfl rfl) rfl <| bE hp fun x13 hy21 hp => tc 0 [_] rfl c40 (fun _ => fettleref06_Dominates_ok (a1 := a1) (h3.mono subH) (h5.mono subH) hy21) rfl ?_
   rintro _ _ ⟨v14, F15, rfl, rfl, h16⟩
   refine ta rfl <| nz <| TC.seq fun K23 k24 => sr <| ta rfl <| nz <| TC.block <| bE hp fun z_26 hz27 hr28 => ?_
   have J32 {e31} (hq33 : .go () = z_26) : ∀ w, St E H [] w → K23 (ovr e31 []) w := by
    subst hq33
    replace hp : fettleref13_Form.nx30 = some r := hr28
    exact tg k24 <| sr <| ta rfl <| ta rfl <| nz <| TC.ret <| rt hp [] ⟨rfl, rfl⟩
   refine lp hz27 [1, 0] rfl (fun s e L => ∃ e25, e = ovr e25 [(1, .pointer (some ⟨b6, 0, none⟩)), (9, v14), (10, .int .i64 s)] ∧ L = [bx b6 41 [.int .i64 a1.params, .int .i64 a1.result, v2, v4], F15]) ⟨_, ovr_eq _ _ rfl, rfl⟩ ?_
   rintro x17 _ _ ⟨e25, rfl, rfl⟩ X29 hp hx30
   replace hp : fettleref13_Form.bd30 a1 x13 x17 = some X29 := hp
   refine TC.seq fun K34 k35 => sr <| tm rfl <| tv (fa f41_2 rfl) rfl <| tv (lb s32 0 rfl rfl rfl) rfl <| tv (ln u32 h3 rfl) rfl <| tv (blt rfl rfl) rfl <| nz <| cD rfl hp (fun hc36 hp => ?_) fun hc36 hp => ?_
   · refine sk k35 rfl <| TC.seq fun K37 k38 => TC.block <| sr <| tv (lA (ds := [.int .i64 a1.params, .int .i64 a1.result, v2, v4]) ag_41 0 rfl rfl rfl rfl) rfl <| tm rfl <| tm rfl <| bE hp fun x18 hy39 hp => tc 0 [_,_] rfl c41 (fun _ => fettleref13_amiss_ok (a1 := a1) (a6 := x13) (a9 := x17) (h3.mono subH) (h5.mono subH) (h16.ro.mono (subB 1 rfl)) hy39) rfl ?_
     rintro _ _ ⟨rfl, rfl⟩
     refine ta rfl <| nz <| sr <| tm rfl <| nz <| cB rfl hp (fun hc41 hp => ?_) fun hc41 hp => ?_
     · refine sr <| tm rfl <| ta rfl <| ta rfl <| nz <| TC.ret ?_
       obtain rfl := ex_ret hp hx30
       exact rt hr28 [] ⟨rfl, rfl⟩
     · exact sk k38 rfl <| TC.region <| tm rfl <| tv (bad rfl rfl) rfl <| ta rfl <| nl <| gk hp [0, 1] ⟨_, ovr_eq _ _ rfl, rfl⟩
   · exact TC.exit <| jn [] (J32 (ex_ret hp hx30))
  refine lp hz16 [0] rfl (fun s e L => ∃ e14, e = ovr e14 [(1, .pointer (some ⟨b6, 0, none⟩)), (6, .int .i64 s)] ∧ L = [bx b6 41 [.int .i64 a1.params, .int .i64 a1.result, v2, v4]]) ⟨_, ovr_eq _ _ rfl, rfl⟩ ?_
  rintro x12 _ _ ⟨e14, rfl, rfl⟩ X18 hp hx19
  replace hp : fettleref13_Form.bd19 a1 x12 = some X18 := hp
  refine TC.seq fun K46 k47 => sr <| tm rfl <| tv (fa f41_2 rfl) rfl <| tv (lb s32 0 rfl rfl rfl) rfl <| tv (ln u32 h3 rfl) rfl <| tv (blt rfl rfl) rfl <| nz <| cD rfl hp (fun hc48 hp => ?_) fun hc48 hp => ?_
  · refine sk k47 rfl <| TC.seq fun K49 k50 => TC.block <| sr <| tv (lA (ds := [.int .i64 a1.params, .int .i64 a1.result, v2, v4]) ag_41 0 rfl rfl rfl rfl) rfl <| tm rfl <| bE hp fun x19 hy51 hp => tc 0 [_] rfl c39 (fun _ => fettleref13_Maker_ok (a1 := a1) (a6 := x12) (h3.mono subH) (h5.mono subH) hy51) rfl ?_
    rintro _ _ ⟨rfl, rfl⟩
    refine tm rfl <| tv (xt rfl rfl) rfl <| tv (xt rfl rfl) rfl <| tl i54 rfl fun b20 => tS 0 m54 rfl rfl [.int .i64 x19.1.block, .int .i64 x19.1.at_] rfl (oc rfl (oc rfl oc0)) rfl rfl <| ta rfl <| nz <| sr <| tm rfl <| tv (bgt rfl rfl) rfl <| tm rfl <| TL.cut 9 fun K53 k54 => ?_
    have J55 {e57} : ∀ w, St E H [bx b20 54 [.int .i64 x19.1.block, .int .i64 x19.1.at_], bx b6 41 [.int .i64 a1.params, .int .i64 a1.result, v2, v4]] w → K53 (ovr e57 [(49, .bool (decide (x19.2 > 1 ∨ (x19.2 > 0 ∧ x12 < a1.params)))), (1, .pointer (some ⟨b6, 0, none⟩)), (6, .int .i64 x12)]) w := by
     refine tlg k54 <| nz <| cD rfl hp (fun hc58 hp => ?_) fun hc58 hp => ?_
     · refine sr <| tm rfl <| ta rfl <| ta rfl <| nz <| TC.ret ?_
       obtain rfl := ex_ret hp hx19
       exact rt hr17 [] ⟨rfl, rfl⟩
     · exact sk k50 rfl <| TC.region <| tm rfl <| tv (bad rfl rfl) rfl <| ta rfl <| nl <| gk hp [1] ⟨_, ovr_eq _ _ rfl, rfl⟩
    by_cases hc56 : x19.2 > 1
    · exact gn rfl (bT hc56) rfl rfl <| gn rfl (bT hc56) rfl rfl <| gn rfl (bT hc56) rfl rfl <| gu rfl rfl rfl <| gu rfl rfl rfl <| gu rfl rfl rfl <| gu rfl rfl rfl <| gn rfl (bT hc56) rfl rfl <| tv (pT (bT hc56)) rfl <| nj J55 (bOt hc56)
    · refine gy rfl (bF hc56) <| tm rfl <| gy rfl (bF hc56) <| tv (bgt rfl rfl) rfl <| gy rfl (bF hc56) <| tm rfl <| TL.cut 5 fun K59 k60 => ?_
      have J61 {e63} : ∀ w, St E H [bx b20 54 [.int .i64 x19.1.block, .int .i64 x19.1.at_], bx b6 41 [.int .i64 a1.params, .int .i64 a1.result, v2, v4]] w → K59 (ovr e63 [(48, .bool (decide (x19.2 > 0 ∧ x12 < a1.params))), (1, .pointer (some ⟨b6, 0, none⟩)), (6, .int .i64 x12), (40, .bool (decide (x19.2 > 1))), (41, .int .i64 x19.2), (42, .bool (decide (x19.2 > 0))), (43, .bool (decide (x19.2 > 0)))]) w := by
       exact tlg k60 <| tv (pF (bF hc56)) rfl <| nj J55 (bOf hc56)
      by_cases hc62 : x19.2 > 0
      · exact gy rfl (bT hc62) <| tm rfl <| gy rfl (bT hc62) <| tv (fa f41_0 rfl) rfl <| gy rfl (bT hc62) <| tv (lb s3 1 rfl rfl rfl) rfl <| gy rfl (bT hc62) <| tv (blt rfl rfl) rfl <| gy rfl (bF hc56) <| tv (pT (bT hc62)) rfl <| nj J61 (bAt hc62)
      · exact gn rfl (bF hc62) rfl rfl <| gn rfl (bF hc62) rfl rfl <| gn rfl (bF hc62) rfl rfl <| gn rfl (bF hc62) rfl rfl <| gy rfl (bF hc56) <| tv (pF (bF hc62)) rfl <| nj J61 (bAf hc62)
  · exact TC.exit <| jn [0] (J44 (ex_ret hp hx19))
 refine lp hz7 [1, 0] rfl (fun s e L => ∃ e5, e = ovr e5 [(1, .pointer (some ⟨b6, 0, none⟩)), (4, v8), (5, .int .i64 s)] ∧ L = [bx b6 41 [.int .i64 a1.params, .int .i64 a1.result, v2, v4], F9]) ⟨_, ovr_eq _ _ rfl, rfl⟩ ?_
 rintro x11 _ _ ⟨e5, rfl, rfl⟩ X9 hp hx10
 replace hp : fettleref13_Form.bd10 x7 x11 = some X9 := hp
 refine TC.seq fun K68 k69 => sr <| tm rfl <| tm rfl <| tv (ln u42 h10.ro rfl) rfl <| tv (blt rfl rfl) rfl <| nz <| cD rfl hp (fun hc70 hp => ?_) fun hc70 hp => ?_
 · refine sk k69 rfl <| TC.seq fun K71 k72 => TC.block <| sr <| tm rfl <| tm rfl <| ti u42 i4 (h10).ro hp rfl rfl rfl rfl ?_
   rintro x21 b22 o23 _ hp rfl h26
   refine tv (lr s4 (Src.at_ 1 rfl) h26 0 rfl rfl) rfl <| tv (rv_not rfl) rfl <| nz <| cB rfl hp (fun hc74 hp => ?_) fun hc74 hp => ?_
   · refine sr <| ta rfl <| ta rfl <| nz <| TC.ret ?_
     obtain rfl := ex_ret hp hx10
     exact rt hr8 [] ⟨rfl, rfl⟩
   · exact sk k72 rfl <| TC.region <| tm rfl <| tv (bad rfl rfl) rfl <| ta rfl <| nl <| gk hp [0, 1] ⟨_, ovr_eq _ _ rfl, rfl⟩
 · exact TC.exit <| jn [0] (J66 (ex_ret hp hx10))
end Go.Proofs.YteaknconpkklhaaDoor
