/- The walk through the program's functions: each one's pure reading, and that a call does what it says. No conditions. -/
import Derived.Test.YteaknconpkklhaaW12
set_option linter.unusedVariables false
set_option linter.unusedSimpArgs false
namespace Go.Proofs.Yteaknconpkklhaa
open Go Go.Proofs

/-! ### fettle/fettleref02.Copy -/
abbrev fettleref02_Copy.R (r : PModule) (v : Value) (A : List FP) : Prop := ∃ (w1 : Value) (G1 : FP), .agg #[w1] = v ∧ A = [G1] ∧ SlO 40 kFunc r.funcs w1 G1
def fettleref02_Copy.nx8  (x12 : List PFunc) : Option PModule :=
  some (⟨x12⟩ : PModule)
def fettleref02_Copy.jn18 (x11 : Int) (x16 : List PFunc) : Option (Ex (List PFunc) (List PFunc × Int)) :=
  some (.go (x16, (w64 (x11 + 1))))
def fettleref02_Copy.bd8 (a1 : PModule) (x7 : List PFunc) (x11 : Int) : Option (Ex (List PFunc) (List PFunc × Int)) :=
  if x11 < (len a1.funcs) then
    (idx a1.funcs x11).bind fun x2021 =>
    (fettleref02_CopyFunc x2021).bind fun x2821 =>
    (cat x7 [x2821]).bind fun x3621 =>
    fettleref02_Copy.jn18 x11 x3621
  else
    some (.ret x7)
def fettleref02_Copy (a1 : PModule) : Option PModule :=
  (whl (fun (s : (List PFunc × Int)) => fettleref02_Copy.bd8 a1 s.1 s.2) FUEL (([] : List PFunc), 0)).bind fun z =>
  fettleref02_Copy.nx8 z
set_option maxHeartbeats 4000000 in
theorem fettleref02_Copy_ok {E : World} {H : FP} {w : World} {a1 : PModule} {v2 : Value} {r : PModule} (h3 : SlI kFunc H a1.funcs v2) (hp : fettleref02_Copy a1 = some r) (hst : St E H [] w) :
    Fn Try.prog 16 #[.agg #[v2]] w fun v w' => ∃ A, fettleref02_Copy.R r v A ∧ St E H A w' := by
 refine Fn.bodyV (fn := Try.f16) (args := [.agg #[v2]]) E H [] 24 Try.func16 rfl rfl (leb rfl) hst <| sr <| tb [v2] rfl rfl fun b4 => tl i35 rfl fun b5 => nz <| sr <| tl i35 rfl fun b6 => nz <| TC.seq fun K1 k2 => sr <| ta rfl <| nz <| TC.block <| bE hp fun z_4 hz5 hr6 => ?_
 have J10 {x12 v13 F14 e9} (h15 : SlO 40 kFunc x12 v13 F14) (hq11 : x12 = z_4) : ∀ w, St E H [bx b5 35 [.slice none 0 0], bx b6 35 [v13], F14] w → K1 (ovr e9 [(2, .pointer (some ⟨b5, 0, none⟩)), (3, .pointer (some ⟨b6, 0, none⟩))]) w := by
  subst hq11
  replace hp : fettleref02_Copy.nx8 x12 = some r := hr6
  refine tg k2 <| sr <| tv (lA (ds := [v13]) ag_35 1 rfl rfl rfl rfl) rfl <| tS 0 m35 rfl rfl [v13] rfl (oc (h15).one oc0) rfl rfl <| nz <| TC.ret ?_
  obtain rfl := Option.some.inj hp
  exact fun w hw => retC1 hw rfl rfl ag_35 0 rfl rfl ⟨v13, F14, rfl, rfl, h15⟩ (hw.pickA [2] rfl)
 refine W.new0 <| lp hz5 [3, 2, 1, 0] rfl (fun s e L => ∃ x7 x11 v8 F9 e3, s = (x7, x11) ∧ SlO 40 kFunc x7 v8 F9 ∧ e = ovr e3 [(1, .pointer (some ⟨b4, 0, none⟩)), (2, .pointer (some ⟨b5, 0, none⟩)), (3, .pointer (some ⟨b6, 0, none⟩)), (4, .int .i64 x11)] ∧ L = [bx b4 35 [v2], bx b5 35 [.slice none 0 0], bx b6 35 [v8], F9]) ⟨_, _, (.slice none 0 0), ([] : FP), _, rfl, (SlO.nil 40), ovr_eq _ _ rfl, rfl⟩ ?_
 rintro _ _ _ ⟨x7, x11, v8, F9, e3, rfl, h10, rfl, rfl⟩ X7 hp hx8
 replace hp : fettleref02_Copy.bd8 a1 x7 x11 = some X7 := hp
 refine TC.seq fun K12 k13 => sr <| tm rfl <| tv (fa f35_0 rfl) rfl <| tv (lb s33 0 rfl rfl rfl) rfl <| tv (ln u33 h3 rfl) rfl <| tv (blt rfl rfl) rfl <| nz <| cD rfl hp (fun hc14 hp => ?_) fun hc14 hp => ?_
 · refine sk k13 rfl <| TC.seq fun K15 k16 => ?_
   have J18 {x16 v17 F18 e17} (h19 : SlO 40 kFunc x16 v17 F18) (hp : fettleref02_Copy.jn18 x11 x16 = some X7) : ∀ w, St E H [bx b4 35 [v2], bx b5 35 [.slice none 0 0], bx b6 35 [v17], F18] w → K15 (ovr e17 [(1, .pointer (some ⟨b4, 0, none⟩)), (2, .pointer (some ⟨b5, 0, none⟩)), (3, .pointer (some ⟨b6, 0, none⟩)), (4, .int .i64 x11)]) w := by
    exact tg k16 <| TC.region <| tm rfl <| tv (bad rfl rfl) rfl <| ta rfl <| nl <| gk hp [0, 1, 2, 3] ⟨_, _, v17, F18, _, rfl, h19, ovr_eq _ _ rfl, rfl⟩
   refine TC.block <| ch mix [bx b4 35 [v2], bx b5 35 [.slice none 0 0]] (srcG 0 rfl (srcG 1 rfl srcG0)) <| hv 0 rfl (fa f35_0 rfl) (by kernel_rfl) rfl <| hv 2 rfl (fa f35_0 rfl) (by kernel_rfl) rfl <| hv 3 rfl (lbG s33 0 rfl rfl rfl) (by kernel_rfl) rfl <| hv 4 rfl mv (by kernel_rfl) rfl <| hi 5 rfl u33 i40 h3 hp rfl rfl rfl (by kernel_rfl) rfl ?_
   rintro x2021 b2022 o2023 _ hp ⟨v2027, v2029, rfl, h2028, h2030⟩ h2026
   refine hv 6 rfl (lR (ds := [.int .i64 x2021.params, .int .i64 x2021.result, v2027, v2029]) ag_40 srcInH h2026 0 rfl rfl rfl) (by kernel_rfl) rfl <| HL.all [1, 7] (by kernel_rfl) (by simp) (HL.al ⟨_, rfl, fun K20 k21 => ?_⟩ (HL.al ⟨_, rfl, fun K33 k34 => ?_⟩ HL.al0))
   · refine tv (lb s33 2 rfl rfl rfl) rfl <| hk k21 (srcG 0 rfl (srcG 1 rfl srcG0)) <| ho 7 rfl (by kernel_rfl) fun K22 k23 => bE hp fun x2821 hy24 hp => tc 0 [_,_,_,_] rfl c18 (fun _ => fettleref02_CopyFunc_ok (a1 := x2021) (h2028.mono subH) (h2030.mono subH) hy24) rfl ?_
     rintro _ _ ⟨v2822, F2823, v2825, F2826, rfl, rfl, h2824, h2827⟩
     exact hk k23 (srcG 2 rfl (srcG 3 rfl srcG0)) <| ho 8 rfl (by kernel_rfl) fun K26 k27 => tbs [(0, .agg #[.int .i64 x2821.params, .int .i64 x2821.result, v2822, v2825])] [.int .i64 x2821.params, .int .i64 x2821.result, v2822, v2825] u33 i40 (by kernel_rfl) rfl rfl rfl rfl fun b3221 => hk k27 (srcG 3 rfl (srcG 4 rfl srcG0)) <| ho 9 rfl (by kernel_rfl) fun K28 k29 => tp [6, 0, 1, 2, 3, 4, 5] [_,_,_,_,_,_,_] rfl rfl <| tf 2 2 [_,_,_,_,_,_] rfl <| tp2 u33 i40 h10 hp (RepL.to (G' := F2823 ++ (F2826)) (RepL.cons (k := kFunc) (x := x2821) ⟨_, _, _, _, rfl, rfl, h2824, h2827⟩ RepL.nil) (by simp)) rfl rfl rfl rfl rfl rfl rfl rfl rfl fun x3621 v3622 F3623 h3624 hp => hk k29 (srcG 1 rfl (srcG 2 rfl srcG0)) <| hv 10 rfl (fa f35_0 rfl) (by kernel_rfl) rfl <| ho 11 rfl (by kernel_rfl) fun K31 k32 => ts 3 m33 rfl rfl h3624.o1 rfl <| hk k32 (srcG 1 rfl (srcG 2 rfl srcG0)) <| hz (by kernel_rfl) <| jn [1, 2, 3, 0] (J18 h3624 hp)
   · refine bE hp fun x2821 hy35 hp => tc 0 [_,_,_,_] rfl c18 (fun _ => fettleref02_CopyFunc_ok (a1 := x2021) (h2028.mono subH) (h2030.mono subH) hy35) rfl ?_
     rintro _ _ ⟨v2822, F2823, v2825, F2826, rfl, rfl, h2824, h2827⟩
     refine hk k34 (srcG 2 rfl (srcG 3 rfl srcG0)) <| HL.all [1, 8] (by kernel_rfl) (by simp) (HL.al ⟨_, rfl, fun K37 k38 => ?_⟩ (HL.al ⟨_, rfl, fun K46 k47 => ?_⟩ HL.al0))
     · exact tv (lb s33 4 rfl rfl rfl) rfl <| hk k38 (srcG 2 rfl (srcG 3 rfl srcG0)) <| ho 8 rfl (by kernel_rfl) fun K39 k40 => tbs [(0, .agg #[.int .i64 x2821.params, .int .i64 x2821.result, v2822, v2825])] [.int .i64 x2821.params, .int .i64 x2821.result, v2822, v2825] u33 i40 (by kernel_rfl) rfl rfl rfl rfl fun b3221 => hk k40 (srcG 3 rfl (srcG 4 rfl srcG0)) <| ho 9 rfl (by kernel_rfl) fun K41 k42 => tp [6, 0, 1, 2, 3, 4, 5] [_,_,_,_,_,_,_] rfl rfl <| tf 2 2 [_,_,_,_,_,_] rfl <| tp2 u33 i40 h10 hp (RepL.to (G' := F2823 ++ (F2826)) (RepL.cons (k := kFunc) (x := x2821) ⟨_, _, _, _, rfl, rfl, h2824, h2827⟩ RepL.nil) (by simp)) rfl rfl rfl rfl rfl rfl rfl rfl rfl fun x3621 v3622 F3623 h3624 hp => hk k42 (srcG 1 rfl (srcG 2 rfl srcG0)) <| hv 10 rfl (fa f35_0 rfl) (by kernel_rfl) rfl <| ho 11 rfl (by kernel_rfl) fun K44 k45 => ts 3 m33 rfl rfl h3624.o1 rfl <| hk k45 (srcG 1 rfl (srcG 2 rfl srcG0)) <| hz (by kernel_rfl) <| jn [1, 2, 3, 0] (J18 h3624 hp)
     · exact tbs [(0, .agg #[.int .i64 x2821.params, .int .i64 x2821.result, v2822, v2825])] [.int .i64 x2821.params, .int .i64 x2821.result, v2822, v2825] u33 i40 (by kernel_rfl) rfl rfl rfl rfl fun b3221 => hk k47 (srcG 3 rfl (srcG 4 rfl srcG0)) <| ho 1 rfl (by kernel_rfl) fun K48 k49 => tv (lb s33 5 rfl rfl rfl) rfl <| hk k49 (srcG 3 rfl (srcG 4 rfl srcG0)) <| ho 9 rfl (by kernel_rfl) fun K50 k51 => tp [6, 0, 1, 2, 3, 4, 5] [_,_,_,_,_,_,_] rfl rfl <| tf 2 2 [_,_,_,_,_,_] rfl <| tp2 u33 i40 h10 hp (RepL.to (G' := F2823 ++ (F2826)) (RepL.cons (k := kFunc) (x := x2821) ⟨_, _, _, _, rfl, rfl, h2824, h2827⟩ RepL.nil) (by simp)) rfl rfl rfl rfl rfl rfl rfl rfl rfl fun x3621 v3622 F3623 h3624 hp => hk k51 (srcG 1 rfl (srcG 2 rfl srcG0)) <| hv 10 rfl (fa f35_0 rfl) (by kernel_rfl) rfl <| ho 11 rfl (by kernel_rfl) fun K53 k54 => ts 3 m33 rfl rfl h3624.o1 rfl <| hk k54 (srcG 1 rfl (srcG 2 rfl srcG0)) <| hz (by kernel_rfl) <| jn [1, 2, 3, 0] (J18 h3624 hp)
 · exact TC.exit <| jn [1, 2, 3] (J10 h10 (ex_ret hp hx8))

/-! ### fettle/fettleref02.Same -/
abbrev fettleref02_Same.R (r : Bool) (v : Value) (A : List FP) : Prop := .bool r = v ∧ A = []
def fettleref02_Same.nx11  : Option Bool :=
  some true
def fettleref02_Same.bd11 (a1 : PModule) (a4 : PModule) (x9 : Int) : Option (Ex (Ex Bool Unit) Int) :=
  if x9 < (len a1.funcs) then
    (idx a1.funcs x9).bind fun x10 =>
    (idx a4.funcs x9).bind fun x20 =>
    (fettleref02_SameFunc x10 x20).bind fun x30 =>
    if (!x30) = true then
      some (.ret (.ret false))
    else
      some (.go (w64 (x9 + 1)))
  else
    some (.ret (.go ()))
def fettleref02_Same (a1 : PModule) (a4 : PModule) : Option Bool :=
  if ¬ (len a1.funcs) = (len a4.funcs) then
    some false
  else
    (whl (fun (s : Int) => fettleref02_Same.bd11 a1 a4 s) FUEL 0).bind fun z =>
    match z with
      | .ret r => some r
      | .go p => fettleref02_Same.nx11
theorem fettleref02_Same_ok {E : World} {H : FP} {w : World} {a1 : PModule} {a4 : PModule} {v2 : Value} {v5 : Value} {r : Bool} (h3 : SlI kFunc H a1.funcs v2) (h6 : SlI kFunc H a4.funcs v5) (hp : fettleref02_Same a1 a4 = some r) (hst : St E H [] w) :
    Fn Try.prog 19 #[.agg #[v2], .agg #[v5]] w fun v w' => ∃ A, fettleref02_Same.R r v A ∧ St E H A w' := by
 refine fb 34 [.tmp 4] Try.func19 rfl rfl rfl rfl rfl hst <| sr <| tb [v2] rfl rfl fun b7 => tb [v5] rfl rfl fun b8 => ta rfl <| nz <| TC.seq fun K1 k2 => sr <| tv (fa f35_0 rfl) rfl <| tv (lb s33 1 rfl rfl rfl) rfl <| tv (ln u33 h3 rfl) rfl <| tv (fa f35_0 rfl) rfl <| tv (lb s33 0 rfl rfl rfl) rfl <| tv (ln u33 h6 rfl) rfl <| tv (bne rfl rfl) rfl <| nz <| cD rfl hp (fun hc3 hp => ?_) fun hc3 hp => ?_
 · exact sr <| ta rfl <| nz <| TC.ret <| rt hp [] ⟨rfl, rfl⟩
 · refine sk k2 rfl <| TC.seq fun K4 k5 => sr <| ta rfl <| nz <| TC.block <| bE hp fun z_7 hz8 hr9 => ?_
   have J13 {e12} (hq14 : .go () = z_7) : ∀ w, St E H [] w → K4 (ovr e12 []) w := by
    subst hq14
    replace hp : fettleref02_Same.nx11 = some r := hr9
    exact tg k5 <| sr <| ta rfl <| nz <| TC.ret <| rt hp [] ⟨rfl, rfl⟩
   refine lp hz8 [1, 0] rfl (fun s e L => ∃ e6, e = ovr e6 [(2, .pointer (some ⟨b7, 0, none⟩)), (3, .pointer (some ⟨b8, 0, none⟩)), (5, .int .i64 s)] ∧ L = [bx b7 35 [v2], bx b8 35 [v5]]) ⟨_, ovr_eq _ _ rfl, rfl⟩ ?_
   rintro x9 _ _ ⟨e6, rfl, rfl⟩ X10 hp hx11
   replace hp : fettleref02_Same.bd11 a1 a4 x9 = some X10 := hp
   refine TC.seq fun K15 k16 => sr <| tm rfl <| tv (fa f35_0 rfl) rfl <| tv (lb s33 0 rfl rfl rfl) rfl <| tv (ln u33 h3 rfl) rfl <| tv (blt rfl rfl) rfl <| nz <| cD rfl hp (fun hc17 hp => ?_) fun hc17 hp => ?_
   · refine sk k16 rfl <| TC.seq fun K18 k19 => TC.block <| TC.seq fun K20 k21 => cq mix (by kernel_rfl) <| qv (fa f35_0 rfl) rfl <| qv (lb s33 0 rfl rfl rfl) rfl <| qv mv rfl <| qi u33 i40 h3 hp rfl rfl rfl rfl ?_
     rintro x10 b11 o12 _ hp ⟨v16, v18, rfl, h17, h19⟩ h15
     refine qv (lR (ds := [.int .i64 x10.params, .int .i64 x10.result, v16, v18]) ag_40 sH h15 0 rfl rfl rfl) rfl <| qv (fa f35_0 rfl) rfl <| qv (lb s33 1 rfl rfl rfl) rfl <| qv mv rfl <| qi u33 i40 h6 hp rfl rfl rfl rfl ?_
     rintro x20 b21 o22 _ hp ⟨v26, v28, rfl, h27, h29⟩ h25
     refine qv (lR (ds := [.int .i64 x20.params, .int .i64 x20.result, v26, v28]) ag_40 sH h25 0 rfl rfl rfl) rfl <| bE hp fun x30 hy24 hp => qc (.bool x30) c20 (fun _ => fettleref02_SameFunc_ok (a1 := x10) (a6 := x20) (h17.mono subH) (h19.mono subH) (h27.mono subH) (h29.mono subH) hy24) (fun _ _ h => ⟨h.1.symm, h.2⟩) rfl <| qv sg rfl <| QL.nil <| tg k21 <| sr <| tm rfl <| tv (rv_not rfl) rfl <| nz <| cB rfl hp (fun hc25 hp => ?_) fun hc25 hp => ?_
     · refine sr <| ta rfl <| nz <| TC.ret ?_
       obtain rfl := ex_ret hp hx11
       exact rt hr9 [] ⟨rfl, rfl⟩
     · exact sk k19 rfl <| TC.region <| tm rfl <| tv (bad rfl rfl) rfl <| ta rfl <| nl <| gk hp [0, 1] ⟨_, ovr_eq _ _ rfl, rfl⟩
   · exact TC.exit <| jn [] (J13 (ex_ret hp hx11))

/-! ### fettle/fettlelaw12.SsaStays -/
abbrev fettlelaw12_SsaStays.R (r : Bool) (v : Value) (A : List FP) : Prop := .bool r = v ∧ A = []
def fettlelaw12_SsaStays.nx35 (a1 : PModule) (a4 : Int) (x6 : Bool) (x8 : PModule) (x13 : PFunc × GErr) (x24 : PFunc) : Option Bool :=
  (ssa_Build x8 a4).bind fun x44 =>
  (if x6 = true then (fettleref02_Same x8 a1).bind fun x58 =>
  some x58 else some false).bind fun t55 =>
  (if t55 = true ∧ (((decide (x13.2 = GErr.no)) == (decide (x44.2 = GErr.no))) = true) then (fettleref02_SameFunc x44.1 x24).bind fun x57 =>
  some x57 else some false).bind fun t56 =>
  some t56
def fettlelaw12_SsaStays.nx81 (x43 : Int) (x70 : List PBlock) : Option (Ex Unit (List PBlock × Int)) :=
  some (.go (x70, (w64 (x43 + 1))))
def fettlelaw12_SsaStays.nx96 (x69 : Int) (x89 : List PBlock) : Option (Ex (List PBlock) (List PBlock × Int)) :=
  some (.go (x89, (w64 (x69 + 1))))
def fettlelaw12_SsaStays.bd96 (x43 : Int) (x69 : Int) (x85 : List PBlock) (x88 : Int) : Option (Ex (List PBlock) (List PBlock × Int)) :=
  (idx x85 x43).bind fun x92 =>
  (idx x92.ins x69).bind fun x104 =>
  if x88 < (len x104.args) then
    (idx x85 x43).bind fun x112 =>
    (idx x112.ins x69).bind fun x128 =>
    (idx x128.args x88).bind fun x138 =>
    some (.go ((x85.set (x43).toNat (⟨x112.phis, (x112.ins.set (x69).toNat (⟨x128.op, x128.dst, (x128.args.set (x88).toNat 9), x128.imm, x128.fn⟩ : PInstr)), (⟨x112.term.kind, x112.term.arg, x112.term.to⟩ : PTerm)⟩ : PBlock)), (w64 (x88 + 1))))
  else
    some (.ret x85)
def fettlelaw12_SsaStays.bd81 (x43 : Int) (x66 : List PBlock) (x69 : Int) : Option (Ex (List PBlock) (List PBlock × Int)) :=
  (idx x66 x43).bind fun x73 =>
  if x69 < (len x73.ins) then
    (whl (fun (s : (List PBlock × Int)) => fettlelaw12_SsaStays.bd96 x43 x69 s.1 s.2) FUEL (x66, 0)).bind fun z =>
    fettlelaw12_SsaStays.nx96 x69 z
  else
    some (.ret x66)
def fettlelaw12_SsaStays.nx74 (x43 : Int) (x63 : List PBlock) : Option (Ex Unit (List PBlock × Int)) :=
  (whl (fun (s : (List PBlock × Int)) => fettlelaw12_SsaStays.bd81 x43 s.1 s.2) FUEL (x63, 0)).bind fun z =>
  fettlelaw12_SsaStays.nx81 x43 z
def fettlelaw12_SsaStays.bd74 (x43 : Int) (x59 : List PBlock) (x62 : Int) : Option (Ex (List PBlock) (List PBlock × Int)) :=
  (idx x59 x43).bind fun x148 =>
  if x62 < (len x148.term.to) then
    (idx x59 x43).bind fun x160 =>
    (idx x160.term.to x62).bind fun x176 =>
    some (.go ((x59.set (x43).toNat (⟨x160.phis, x160.ins, (⟨x160.term.kind, x160.term.arg, (x160.term.to.set (x62).toNat 9)⟩ : PTerm)⟩ : PBlock)), (w64 (x62 + 1))))
  else
    some (.ret x59)
def fettlelaw12_SsaStays.bd35  (x40 : List PBlock) (x43 : Int) : Option (Ex Unit (List PBlock × Int)) :=
  if x43 < (len x40) then
    (whl (fun (s : (List PBlock × Int)) => fettlelaw12_SsaStays.bd74 x43 s.1 s.2) FUEL (x40, 0)).bind fun z =>
    fettlelaw12_SsaStays.nx74 x43 z
  else
    some (.ret ())
def fettlelaw12_SsaStays.nx26 (a1 : PModule) (a4 : Int) (x6 : Bool) (x8 : PModule) (x13 : PFunc × GErr) (x24 : PFunc) (x37 : List Int) : Option Bool :=
  (whl (fun (s : (List PBlock × Int)) => fettlelaw12_SsaStays.bd35 s.1 s.2) FUEL (x13.1.blocks, 0)).bind fun z =>
  fettlelaw12_SsaStays.nx35 a1 a4 x6 x8 x13 x24
def fettlelaw12_SsaStays.bd26  (x33 : List Int) (x36 : Int) : Option (Ex (List Int) (List Int × Int)) :=
  if x36 < (len x33) then
    (idx x33 x36).bind fun x184 =>
    some (.go ((x33.set (x36).toNat 9), (w64 (x36 + 1))))
  else
    some (.ret x33)
def fettlelaw12_SsaStays (a1 : PModule) (a4 : Int) : Option Bool :=
  (fettlelaw12_up).bind fun x6 =>
  (fettleref02_Small a1).bind fun x7 =>
  if (!x7) = true then
    some x6
  else
    (fettleref02_Copy a1).bind fun x8 =>
    (ssa_Build x8 a4).bind fun x13 =>
    (fettleref02_CopyFunc x13.1).bind fun x24 =>
    (fettleref02_Same x8 a1).bind fun x32 =>
    if (!x32) = true then
      some false
    else
      (whl (fun (s : (List Int × Int)) => fettlelaw12_SsaStays.bd26 s.1 s.2) FUEL (x13.1.regs, 0)).bind fun z =>
      fettlelaw12_SsaStays.nx26 a1 a4 x6 x8 x13 x24 z
set_option maxHeartbeats 4000000 in
theorem fettlelaw12_SsaStays_ok {E : World} {H : FP} {w : World} {a1 : PModule} {a4 : Int} {v2 : Value} {r : Bool} (h3 : SlI kFunc H a1.funcs v2) (hp : fettlelaw12_SsaStays a1 a4 = some r) (hst : St E H [] w) :
    Fn Try.prog 4 #[.agg #[v2], .int .i64 a4] w fun v w' => ∃ A, fettlelaw12_SsaStays.R r v A ∧ St E H A w' := by
 refine fb 139 [.tmp 4] Try.func4 rfl rfl rfl rfl rfl hst <| sr <| tb [v2] rfl rfl fun b5 => ta rfl <| nz <| sr <| bE hp fun x6 hy1 hp => tc 0 [_] rfl c14 (fun _ => fettlelaw12_up_ok hy1) rfl ?_
 rintro _ _ ⟨rfl, rfl⟩
 refine ta rfl <| nz <| sr <| tv (lA (ds := [v2]) ag_35 0 rfl rfl rfl rfl) rfl <| bE hp fun x7 hy3 hp => tc 0 [_] rfl c15 (fun _ => fettleref02_Small_ok (a1 := a1) (h3.mono subH) hy3) rfl ?_
 rintro _ _ ⟨rfl, rfl⟩
 refine ta rfl <| nz <| TC.seq fun K5 k6 => sr <| tm rfl <| tv (rv_not rfl) rfl <| nz <| cB rfl hp (fun hc7 hp => ?_) fun hc7 hp => ?_
 · exact sr <| tm rfl <| ta rfl <| nz <| TC.ret <| rt hp [] ⟨rfl, rfl⟩
 · refine sk k6 rfl <| sr <| tv (lA (ds := [v2]) ag_35 0 rfl rfl rfl rfl) rfl <| bE hp fun x8 hy8 hp => tc 0 [_] rfl c16 (fun _ => fettleref02_Copy_ok (a1 := a1) (h3.mono subH) hy8) rfl ?_
   rintro _ _ ⟨v9, F10, rfl, rfl, h11⟩
   refine tl i35 rfl fun b12 => tS 0 m35 rfl rfl [v9] rfl (oc (h11).one oc0) rfl rfl <| nz <| sr <| tv (lA (ds := [v9]) ag_35 0 rfl rfl rfl rfl) rfl <| tm rfl <| bE hp fun x13 hy10 hp => tc 0 [_,_,_] rfl c17 (fun _ => ssa_Build_ok (a1 := x8) (a4 := a4) (h11.ro.mono (subB 1 rfl)) hy10) rfl ?_
   rintro _ _ ⟨v14, F15, v17, F18, v20, F21, rfl, rfl, h16, h19, h22⟩
   refine tm rfl <| tv (xt rfl rfl) rfl <| tv (xt rfl rfl) rfl <| tl i40 rfl fun b23 => tS 0 m40 rfl rfl [.int .i64 x13.1.params, .int .i64 x13.1.result, v14, v17] rfl (oc rfl (oc rfl (oc (h16).one (oc (h19).one oc0)))) rfl rfl <| ta rfl <| nz <| sr <| tv (lA (ds := [.int .i64 x13.1.params, .int .i64 x13.1.result, v14, v17]) ag_40 0 rfl rfl rfl rfl) rfl <| bE hp fun x24 hy12 hp => tc 0 [_,_,_,_,_,_,_] rfl c18 (fun _ => fettleref02_CopyFunc_ok (a1 := x13.1) (h16.ro.mono (subB 1 rfl)) (h19.ro.mono (subB 2 rfl)) hy12) rfl ?_
   rintro _ _ ⟨v25, F26, v28, F29, rfl, rfl, h27, h30⟩
   refine tl i40 rfl fun b31 => tS 0 m40 rfl rfl [.int .i64 x24.params, .int .i64 x24.result, v25, v28] rfl (oc rfl (oc rfl (oc (h27).one (oc (h30).one oc0)))) rfl rfl <| nz <| TC.seq fun K14 k15 => sr <| tv (lA (ds := [v9]) ag_35 7 rfl rfl rfl rfl) rfl <| tv (lA (ds := [v2]) ag_35 9 rfl rfl rfl rfl) rfl <| bE hp fun x32 hy16 hp => tc 0 [_,_,_,_,_,_,_,_,_,_] rfl c19 (fun _ => fettleref02_Same_ok (a1 := x8) (a4 := a1) (h11.ro.mono (subB 8 rfl)) (h3.mono subH) hy16) rfl ?_
   rintro _ _ ⟨rfl, rfl⟩
   refine tv (rv_not rfl) rfl <| nz <| cB rfl hp (fun hc18 hp => ?_) fun hc18 hp => ?_
   · exact sr <| ta rfl <| nz <| TC.ret <| rt hp [] ⟨rfl, rfl⟩
   · refine sk k15 rfl <| TC.seq fun K19 k20 => sr <| ta rfl <| nz <| TC.block <| bE hp fun z_22 hz23 hr24 => ?_
     have J128 {x37 F38 e27} (h39 : SlO 3 (kInt .i64) x37 v14 F38) (hq129 : x37 = z_22) : ∀ w, St E H [bx b5 35 [v2], bx b12 35 [v9], F10, bx b23 40 [.int .i64 x13.1.params, .int .i64 x13.1.result, v14, v17], F38, F18, F21, bx b31 40 [.int .i64 x24.params, .int .i64 x24.result, v25, v28], F26, F29] w → K19 (ovr e27 [(1, .int .i64 a4), (2, .pointer (some ⟨b5, 0, none⟩)), (5, .bool x6), (7, .pointer (some ⟨b12, 0, none⟩)), (8, .pointer (some ⟨b23, 0, none⟩)), (9, v20), (10, .pointer (some ⟨b31, 0, none⟩))]) w := by
      subst hq129
      replace hp : fettlelaw12_SsaStays.nx26 a1 a4 x6 x8 x13 x24 x37 = some r := hr24
      refine tg k20 <| TC.seq fun K28 k29 => sr <| ta rfl <| nz <| TC.block <| bE hp fun z_31 hz32 hr33 => ?_
      have J60 {e36} (hq61 : () = z_31) : ∀ w, St E H [bx b5 35 [v2], bx b12 35 [v9], F10, F21, bx b31 40 [.int .i64 x24.params, .int .i64 x24.result, v25, v28], F26, F29] w → K28 (ovr e36 [(1, .int .i64 a4), (2, .pointer (some ⟨b5, 0, none⟩)), (5, .bool x6), (7, .pointer (some ⟨b12, 0, none⟩)), (9, v20), (10, .pointer (some ⟨b31, 0, none⟩))]) w := by
       subst hq61
       replace hp : fettlelaw12_SsaStays.nx35 a1 a4 x6 x8 x13 x24 = some r := hr33
       refine tg k29 <| sr <| tv (lA (ds := [v9]) ag_35 1 rfl rfl rfl rfl) rfl <| tm rfl <| bE hp fun x44 hy37 hp => tc 0 [_,_,_,_,_,_,_] rfl c17 (fun _ => ssa_Build_ok (a1 := x8) (a4 := a4) (h11.ro.mono (subB 2 rfl)) hy37) rfl ?_
       rintro _ _ ⟨v45, F46, v48, F49, v51, F52, rfl, rfl, h47, h50, h53⟩
       refine tm rfl <| tv (xt rfl rfl) rfl <| tv (xt rfl rfl) rfl <| tl i40 rfl fun b54 => tS 0 m40 rfl rfl [.int .i64 x44.1.params, .int .i64 x44.1.result, v45, v48] rfl (oc rfl (oc rfl (oc (h47).one (oc (h50).one oc0)))) rfl rfl <| ta rfl <| nz <| TC.seq fun K39 k40 => cq mix (by kernel_rfl) <| qv mv rfl <| qv mv rfl <| bE hp fun t55 ht58 hp => QL.cut 4 fun K41 k42 => ?_
       have J43 {e45} : K41 (ovr e45 [(126, .bool t55), (9, v20), (10, .pointer (some ⟨b31, 0, none⟩)), (16, .pointer (some ⟨b54, 0, none⟩)), (17, v51)]) := by
        refine k42 _ <| qv mv rfl <| QL.cut 6 fun K46 k47 => ?_
        have J48 {e50} : K46 (ovr e50 [(133, .bool (decide (t55 = true ∧ (((decide (x13.2 = GErr.no)) == (decide (x44.2 = GErr.no))) = true)))), (10, .pointer (some ⟨b31, 0, none⟩)), (16, .pointer (some ⟨b54, 0, none⟩))]) := by
         refine k47 _ <| qv mv rfl <| bE hp fun t56 ht56 hp => QL.cut 4 fun K51 k52 => ?_
         have J53 {e55} : K51 (ovr e55 [(138, .bool t56)]) := by
          exact k52 _ <| qv sg rfl <| QL.nil <| tg k40 <| TC.ret <| rt hp [] ⟨rfl, rfl⟩
         refine ifE ht56 (fun hc54 hp => ?_) fun hc54 hp => ?_
         · refine qgy rfl (bT hc54) <| qv (lA (ds := [.int .i64 x44.1.params, .int .i64 x44.1.result, v45, v48]) ag_40 0 rfl rfl rfl rfl) rfl <| qgy rfl (bT hc54) <| qv (lA (ds := [.int .i64 x24.params, .int .i64 x24.result, v25, v28]) ag_40 8 rfl rfl rfl rfl) rfl <| qgy rfl (bT hc54) <| bE hp fun x57 hy57 hp => qc (.bool x57) c20 (fun _ => fettleref02_SameFunc_ok (a1 := x44.1) (a6 := x24) (h47.ro.mono (subB 1 rfl)) (h50.ro.mono (subB 2 rfl)) (h27.ro.mono (subB 9 rfl)) (h30.ro.mono (subB 10 rfl)) hy57) (fun _ _ h => ⟨h.1.symm, h.2⟩) rfl <| qv (pT (bT hc54)) rfl ?_
           obtain rfl := Option.some.inj hp
           exact qj J53 rfl
         · refine qgn rfl (bF hc54) rfl rfl <| qgn rfl (bF hc54) rfl rfl <| qgn rfl (bF hc54) rfl rfl <| qv (pF (bF hc54)) rfl ?_
           obtain rfl := Option.some.inj hp
           exact qj J53 rfl
        by_cases hc49 : t55 = true
        · exact qgy rfl (bbT hc49) <| qv mv rfl <| qgy rfl (bbT hc49) <| qv (rv_eqlEN ifc_27 h22 rfl) rfl <| qgy rfl (bbT hc49) <| qv mv rfl <| qgy rfl (bbT hc49) <| qv (rv_eqlEN ifc_27 h53 rfl) rfl <| qgy rfl (bbT hc49) <| qv (rv_eqlB (b := (decide (x13.2 = GErr.no))) (c := (decide (x44.2 = GErr.no))) Try.underlying4 rfl rfl) rfl <| qv (pT (bbT hc49)) rfl <| qj J48 (bAt' hc49)
        · exact qgn rfl (bbF hc49) rfl rfl <| qgn rfl (bbF hc49) rfl rfl <| qgn rfl (bbF hc49) rfl rfl <| qgn rfl (bbF hc49) rfl rfl <| qgn rfl (bbF hc49) rfl rfl <| qv (pF (bbF hc49)) rfl <| qj J48 (bAf hc49)
       refine ifE ht58 (fun hc44 hp => ?_) fun hc44 hp => ?_
       · refine qgy rfl (bbT hc44) <| qv (lA (ds := [v9]) ag_35 5 rfl rfl rfl rfl) rfl <| qgy rfl (bbT hc44) <| qv (lA (ds := [v2]) ag_35 4 rfl rfl rfl rfl) rfl <| qgy rfl (bbT hc44) <| bE hp fun x58 hy59 hp => qc (.bool x58) c19 (fun _ => fettleref02_Same_ok (a1 := x8) (a4 := a1) (h11.ro.mono (subB 6 rfl)) (h3.mono subH) hy59) (fun _ _ h => ⟨h.1.symm, h.2⟩) rfl <| qv (pT (bbT hc44)) rfl ?_
         obtain rfl := Option.some.inj hp
         exact qj J43 rfl
       · refine qgn rfl (bbF hc44) rfl rfl <| qgn rfl (bbF hc44) rfl rfl <| qgn rfl (bbF hc44) rfl rfl <| qv (pF (bbF hc44)) rfl ?_
         obtain rfl := Option.some.inj hp
         exact qj J43 rfl
      refine lp hz32 [0, 1, 2, 3, 4, 5, 6, 7, 8, 9] rfl (fun s e L => ∃ x40 x43 F41 e30, s = (x40, x43) ∧ SlO 50 kBlock x40 v17 F41 ∧ e = ovr e30 [(1, .int .i64 a4), (2, .pointer (some ⟨b5, 0, none⟩)), (5, .bool x6), (7, .pointer (some ⟨b12, 0, none⟩)), (8, .pointer (some ⟨b23, 0, none⟩)), (9, v20), (10, .pointer (some ⟨b31, 0, none⟩)), (12, .int .i64 x43)] ∧ L = [bx b5 35 [v2], bx b12 35 [v9], F10, bx b23 40 [.int .i64 x13.1.params, .int .i64 x13.1.result, v14, v17], F38, F41, F21, bx b31 40 [.int .i64 x24.params, .int .i64 x24.result, v25, v28], F26, F29]) ⟨_, _, F18, _, rfl, h19, ovr_eq _ _ rfl, rfl⟩ ?_
      rintro _ _ _ ⟨x40, x43, F41, e30, rfl, h42, rfl, rfl⟩ X34 hp hx35
      replace hp : fettlelaw12_SsaStays.bd35 x40 x43 = some X34 := hp
      refine TC.seq fun K62 k63 => sr <| tm rfl <| tv (fa f40_3 rfl) rfl <| tv (lb s38 3 rfl rfl rfl) rfl <| tv (ln u38 h42.ro rfl) rfl <| tv (blt rfl rfl) rfl <| nz <| cD rfl hp (fun hc64 hp => ?_) fun hc64 hp => ?_
      · refine sk k63 rfl <| TC.seq fun K65 k66 => TC.block <| TC.seq fun K67 k68 => sr <| ta rfl <| nz <| TC.block <| bE hp fun z_70 hz71 hr72 => ?_
        have J114 {x63 F64 e75} (h65 : SlO 50 kBlock x63 v17 F64) (hq115 : x63 = z_70) : ∀ w, St E H [bx b5 35 [v2], bx b12 35 [v9], F10, bx b23 40 [.int .i64 x13.1.params, .int .i64 x13.1.result, v14, v17], F38, F64, F21, bx b31 40 [.int .i64 x24.params, .int .i64 x24.result, v25, v28], F26, F29] w → K67 (ovr e75 [(1, .int .i64 a4), (2, .pointer (some ⟨b5, 0, none⟩)), (5, .bool x6), (7, .pointer (some ⟨b12, 0, none⟩)), (8, .pointer (some ⟨b23, 0, none⟩)), (9, v20), (10, .pointer (some ⟨b31, 0, none⟩)), (12, .int .i64 x43)]) w := by
         subst hq115
         replace hp : fettlelaw12_SsaStays.nx74 x43 x63 = some X34 := hr72
         refine tg k68 <| sr <| ta rfl <| nz <| TC.block <| bE hp fun z_77 hz78 hr79 => ?_
         have J83 {x70 F71 e82} (h72 : SlO 50 kBlock x70 v17 F71) (hq84 : x70 = z_77) : ∀ w, St E H [bx b5 35 [v2], bx b12 35 [v9], F10, bx b23 40 [.int .i64 x13.1.params, .int .i64 x13.1.result, v14, v17], F38, F71, F21, bx b31 40 [.int .i64 x24.params, .int .i64 x24.result, v25, v28], F26, F29] w → K65 (ovr e82 [(1, .int .i64 a4), (2, .pointer (some ⟨b5, 0, none⟩)), (5, .bool x6), (7, .pointer (some ⟨b12, 0, none⟩)), (8, .pointer (some ⟨b23, 0, none⟩)), (9, v20), (10, .pointer (some ⟨b31, 0, none⟩)), (12, .int .i64 x43)]) w := by
          subst hq84
          replace hp : fettlelaw12_SsaStays.nx81 x43 x70 = some X34 := hr79
          exact tg k66 <| TC.region <| tm rfl <| tv (bad rfl rfl) rfl <| ta rfl <| nl <| gk hp [0, 1, 2, 3, 4, 5, 6, 7, 8, 9] ⟨_, _, F71, _, rfl, h72, ovr_eq _ _ rfl, rfl⟩
         refine lp hz78 [0, 1, 2, 3, 4, 5, 6, 7, 8, 9] rfl (fun s e L => ∃ x66 x69 F67 e76, s = (x66, x69) ∧ SlO 50 kBlock x66 v17 F67 ∧ e = ovr e76 [(1, .int .i64 a4), (2, .pointer (some ⟨b5, 0, none⟩)), (5, .bool x6), (7, .pointer (some ⟨b12, 0, none⟩)), (8, .pointer (some ⟨b23, 0, none⟩)), (9, v20), (10, .pointer (some ⟨b31, 0, none⟩)), (12, .int .i64 x43), (14, .int .i64 x69)] ∧ L = [bx b5 35 [v2], bx b12 35 [v9], F10, bx b23 40 [.int .i64 x13.1.params, .int .i64 x13.1.result, v14, v17], F38, F67, F21, bx b31 40 [.int .i64 x24.params, .int .i64 x24.result, v25, v28], F26, F29]) ⟨_, _, F64, _, rfl, h65, ovr_eq _ _ rfl, rfl⟩ ?_
         rintro _ _ _ ⟨x66, x69, F67, e76, rfl, h68, rfl, rfl⟩ X80 hp hx81
         replace hp : fettlelaw12_SsaStays.bd81 x43 x66 x69 = some X80 := hp
         refine TC.seq fun K85 k86 => sr <| tm rfl <| tv (fa f40_3 rfl) rfl <| tv (lb s38 3 rfl rfl rfl) rfl <| tm rfl <| ti u38 i50 (h68).ro hp rfl rfl rfl rfl ?_
         rintro x73 b74 o75 _ hp ⟨v79, v81, v83, rfl, h80, h82, h84⟩ h78
         refine tv (fa f50_1 rfl) rfl <| tv (lr s48 (Src.at_ 5 rfl) h78 1 rfl rfl) rfl <| tv (ln u48 h82 rfl) rfl <| tv (blt rfl rfl) rfl <| nz <| cD rfl hp (fun hc88 hp => ?_) fun hc88 hp => ?_
         · refine sk k86 rfl <| TC.seq fun K89 k90 => TC.block <| sr <| ta rfl <| nz <| TC.block <| bE hp fun z_92 hz93 hr94 => ?_
           have J98 {x89 F90 e97} (h91 : SlO 50 kBlock x89 v17 F90) (hq99 : x89 = z_92) : ∀ w, St E H [bx b5 35 [v2], bx b12 35 [v9], F10, bx b23 40 [.int .i64 x13.1.params, .int .i64 x13.1.result, v14, v17], F38, F90, F21, bx b31 40 [.int .i64 x24.params, .int .i64 x24.result, v25, v28], F26, F29] w → K89 (ovr e97 [(1, .int .i64 a4), (2, .pointer (some ⟨b5, 0, none⟩)), (5, .bool x6), (7, .pointer (some ⟨b12, 0, none⟩)), (8, .pointer (some ⟨b23, 0, none⟩)), (9, v20), (10, .pointer (some ⟨b31, 0, none⟩)), (12, .int .i64 x43), (14, .int .i64 x69)]) w := by
            subst hq99
            replace hp : fettlelaw12_SsaStays.nx96 x69 x89 = some X80 := hr94
            exact tg k90 <| TC.region <| tm rfl <| tv (bad rfl rfl) rfl <| ta rfl <| nl <| gk hp [0, 1, 2, 3, 4, 5, 6, 7, 8, 9] ⟨_, _, F90, _, rfl, h91, ovr_eq _ _ rfl, rfl⟩
           refine lp hz93 [0, 1, 2, 3, 4, 5, 6, 7, 8, 9] rfl (fun s e L => ∃ x85 x88 F86 e91, s = (x85, x88) ∧ SlO 50 kBlock x85 v17 F86 ∧ e = ovr e91 [(1, .int .i64 a4), (2, .pointer (some ⟨b5, 0, none⟩)), (5, .bool x6), (7, .pointer (some ⟨b12, 0, none⟩)), (8, .pointer (some ⟨b23, 0, none⟩)), (9, v20), (10, .pointer (some ⟨b31, 0, none⟩)), (12, .int .i64 x43), (14, .int .i64 x69), (15, .int .i64 x88)] ∧ L = [bx b5 35 [v2], bx b12 35 [v9], F10, bx b23 40 [.int .i64 x13.1.params, .int .i64 x13.1.result, v14, v17], F38, F86, F21, bx b31 40 [.int .i64 x24.params, .int .i64 x24.result, v25, v28], F26, F29]) ⟨_, _, F67, _, rfl, h68, ovr_eq _ _ rfl, rfl⟩ ?_
           rintro _ _ _ ⟨x85, x88, F86, e91, rfl, h87, rfl, rfl⟩ X95 hp hx96
           replace hp : fettlelaw12_SsaStays.bd96 x43 x69 x85 x88 = some X95 := hp
           refine TC.seq fun K100 k101 => sr <| tm rfl <| tv (fa f40_3 rfl) rfl <| tv (lb s38 3 rfl rfl rfl) rfl <| tm rfl <| ti u38 i50 (h87).ro hp rfl rfl rfl rfl ?_
           rintro x92 b93 o94 _ hp ⟨v98, v100, v102, rfl, h99, h101, h103⟩ h97
           refine tv (fa f50_1 rfl) rfl <| tv (lr s48 (Src.at_ 5 rfl) h97 1 rfl rfl) rfl <| tm rfl <| ti u48 i52 h101 hp rfl rfl rfl rfl ?_
           rintro x104 b105 o106 _ hp ⟨v110, rfl, h111⟩ h109
           refine tv (fa f52_2 rfl) rfl <| tv (lr s25 (Src.at_ 5 rfl) h109 2 rfl rfl) rfl <| tv (ln u25 h111 rfl) rfl <| tv (blt rfl rfl) rfl <| nz <| cD rfl hp (fun hc104 hp => ?_) fun hc104 hp => ?_
           · refine sk k101 rfl <| TC.seq fun K105 k106 => TC.block <| TC.region <| tv (fa f40_3 rfl) rfl <| tv (lb s38 3 rfl rfl rfl) rfl <| tm rfl <| tp [5, 0, 1, 2, 3, 4, 6, 7, 8, 9] [_,_,_,_,_,_,_,_,_,_] rfl rfl <| bE hp fun x112 hx107 hp => TL.open_ h87 hx107 ?_
             rintro b113 _ F115 F116 h117 ⟨v119, F120, v122, F123, v125, F126, rfl, rfl, h121, h124, h127⟩
             refine TL.perm (L' := [F115, F120, F123, F126, bx b5 35 [v2], bx b12 35 [v9], F10, bx b23 40 [.int .i64 x13.1.params, .int .i64 x13.1.result, v14, v17], F38, F21, bx b31 40 [.int .i64 x24.params, .int .i64 x24.result, v25, v28], F26, F29]) (by simp) <| tv (rv_ixH u38 i50 rfl rfl (idx_some hx107).1 h117) rfl <| tv (fa f50_1 rfl) rfl <| tv (lr s48 (Src.at_ 0 rfl) (Hole.cells h117) 1 rfl rfl) rfl <| tm rfl <| tp [2, 0, 1, 3, 4, 5, 6, 7, 8, 9, 10, 11, 12] [_,_,_,_,_,_,_,_,_,_,_,_,_] rfl rfl <| bE hp fun x128 hx108 hp => TL.open_ h124 hx108 ?_
             rintro b129 _ F131 F132 h133 ⟨v135, F136, rfl, rfl, h137⟩
             exact tv (rv_ixH u48 i52 rfl rfl (idx_some hx108).1 h133) rfl <| tv (fa f52_2 rfl) rfl <| tv (lr s25 (Src.at_ 0 rfl) (Hole.cells h133) 2 rfl rfl) rfl <| tm rfl <| tO u25 i3 h137 hp rfl rfl rfl rfl fun x138 b139 o140 h141 hp => tp [1, 0, 2, 3, 4, 5, 6, 7, 8, 9, 10, 11, 12, 13] [_,_,_,_,_,_,_,_,_,_,_,_,_,_] rfl rfl <| tE h137 h141 m3 rfl ⟨rfl, rfl⟩ w1 fun F142 h143 => nl <| tg k106 <| TC.region <| tm rfl <| tv (bad rfl rfl) rfl <| ta rfl <| nl <| wp [1, 0, 2, 3, 4, 5, 6, 7, 8, 9, 10, 11, 12, 13] [_,_,_,_,_,_,_,_,_,_,_,_,_,_] rfl rfl <| W.shut (a := (⟨x128.op, x128.dst, (x128.args.set (x88).toNat 9), x128.imm, x128.fn⟩ : PInstr)) h133 ⟨_, _, rfl, rfl, h143⟩ fun F144 h145 => wp [1, 2, 0, 3, 4, 5, 6, 7, 8, 9, 10, 11, 12] [_,_,_,_,_,_,_,_,_,_,_,_,_] rfl rfl <| wf 1 3 [_,_,_,_,_,_,_,_,_,_,_] rfl <| W.shut (a := (⟨x112.phis, (x112.ins.set (x69).toNat (⟨x128.op, x128.dst, (x128.args.set (x88).toNat 9), x128.imm, x128.fn⟩ : PInstr)), (⟨x112.term.kind, x112.term.arg, x112.term.to⟩ : PTerm)⟩ : PBlock)) h117 ⟨_, _, _, _, _, _, rfl, rfl, h121, h145, h127⟩ fun F146 h147 => gk hp [1, 2, 3, 4, 5, 0, 6, 7, 8, 9] ⟨_, _, F146, _, rfl, h147, ovr_eq _ _ rfl, rfl⟩
           · exact TC.exit <| jn [0, 1, 2, 3, 4, 5, 6, 7, 8, 9] (J98 h87 (ex_ret hp hx96))
         · exact TC.exit <| jn [0, 1, 2, 3, 4, 5, 6, 7, 8, 9] (J83 h68 (ex_ret hp hx81))
        refine lp hz71 [0, 1, 2, 3, 4, 5, 6, 7, 8, 9] rfl (fun s e L => ∃ x59 x62 F60 e69, s = (x59, x62) ∧ SlO 50 kBlock x59 v17 F60 ∧ e = ovr e69 [(1, .int .i64 a4), (2, .pointer (some ⟨b5, 0, none⟩)), (5, .bool x6), (7, .pointer (some ⟨b12, 0, none⟩)), (8, .pointer (some ⟨b23, 0, none⟩)), (9, v20), (10, .pointer (some ⟨b31, 0, none⟩)), (12, .int .i64 x43), (13, .int .i64 x62)] ∧ L = [bx b5 35 [v2], bx b12 35 [v9], F10, bx b23 40 [.int .i64 x13.1.params, .int .i64 x13.1.result, v14, v17], F38, F60, F21, bx b31 40 [.int .i64 x24.params, .int .i64 x24.result, v25, v28], F26, F29]) ⟨_, _, F41, _, rfl, h42, ovr_eq _ _ rfl, rfl⟩ ?_
        rintro _ _ _ ⟨x59, x62, F60, e69, rfl, h61, rfl, rfl⟩ X73 hp hx74
        replace hp : fettlelaw12_SsaStays.bd74 x43 x59 x62 = some X73 := hp
        refine TC.seq fun K116 k117 => sr <| tm rfl <| tv (fa f40_3 rfl) rfl <| tv (lb s38 3 rfl rfl rfl) rfl <| tm rfl <| ti u38 i50 (h61).ro hp rfl rfl rfl rfl ?_
        rintro x148 b149 o150 _ hp ⟨v154, v156, v158, rfl, h155, h157, h159⟩ h153
        refine tv (fa f50_2 rfl) rfl <| tv (fa f46_2 rfl) rfl <| tv (lr s25 (Src.at_ 5 rfl) h153 4 rfl rfl) rfl <| tv (ln u25 h159 rfl) rfl <| tv (blt rfl rfl) rfl <| nz <| cD rfl hp (fun hc119 hp => ?_) fun hc119 hp => ?_
        · refine sk k117 rfl <| TC.seq fun K120 k121 => TC.block <| TC.region <| tv (fa f40_3 rfl) rfl <| tv (lb s38 3 rfl rfl rfl) rfl <| tm rfl <| tp [5, 0, 1, 2, 3, 4, 6, 7, 8, 9] [_,_,_,_,_,_,_,_,_,_] rfl rfl <| bE hp fun x160 hx122 hp => TL.open_ h61 hx122 ?_
          rintro b161 _ F163 F164 h165 ⟨v167, F168, v170, F171, v173, F174, rfl, rfl, h169, h172, h175⟩
          exact TL.perm (L' := [F163, F168, F171, F174, bx b5 35 [v2], bx b12 35 [v9], F10, bx b23 40 [.int .i64 x13.1.params, .int .i64 x13.1.result, v14, v17], F38, F21, bx b31 40 [.int .i64 x24.params, .int .i64 x24.result, v25, v28], F26, F29]) (by simp) <| tv (rv_ixH u38 i50 rfl rfl (idx_some hx122).1 h165) rfl <| tv (fa f50_2 rfl) rfl <| tv (fa f46_2 rfl) rfl <| tv (lr s25 (Src.at_ 0 rfl) (Hole.cells h165) 4 rfl rfl) rfl <| tm rfl <| tO u25 i3 h175 hp rfl rfl rfl rfl fun x176 b177 o178 h179 hp => tp [3, 0, 1, 2, 4, 5, 6, 7, 8, 9, 10, 11, 12] [_,_,_,_,_,_,_,_,_,_,_,_,_] rfl rfl <| tE h175 h179 m3 rfl ⟨rfl, rfl⟩ w1 fun F180 h181 => nl <| tg k121 <| TC.region <| tm rfl <| tv (bad rfl rfl) rfl <| ta rfl <| nl <| wp [1, 2, 3, 0, 4, 5, 6, 7, 8, 9, 10, 11, 12] [_,_,_,_,_,_,_,_,_,_,_,_,_] rfl rfl <| wf 1 3 [_,_,_,_,_,_,_,_,_,_,_] rfl <| W.shut (a := (⟨x160.phis, x160.ins, (⟨x160.term.kind, x160.term.arg, (x160.term.to.set (x62).toNat 9)⟩ : PTerm)⟩ : PBlock)) h165 ⟨_, _, _, _, _, _, rfl, rfl, h169, h172, h181⟩ fun F182 h183 => gk hp [1, 2, 3, 4, 5, 0, 6, 7, 8, 9] ⟨_, _, F182, _, rfl, h183, ovr_eq _ _ rfl, rfl⟩
        · exact TC.exit <| jn [0, 1, 2, 3, 4, 5, 6, 7, 8, 9] (J114 h61 (ex_ret hp hx74))
      · exact TC.exit <| jn [0, 1, 2, 6, 7, 8, 9] (J60 (ex_ret hp hx35))
     refine lp hz23 [9, 7, 8, 3, 4, 5, 6, 0, 1, 2] rfl (fun s e L => ∃ x33 x36 F34 e21, s = (x33, x36) ∧ SlO 3 (kInt .i64) x33 v14 F34 ∧ e = ovr e21 [(1, .int .i64 a4), (2, .pointer (some ⟨b5, 0, none⟩)), (5, .bool x6), (7, .pointer (some ⟨b12, 0, none⟩)), (8, .pointer (some ⟨b23, 0, none⟩)), (9, v20), (10, .pointer (some ⟨b31, 0, none⟩)), (11, .int .i64 x36)] ∧ L = [bx b5 35 [v2], bx b12 35 [v9], F10, bx b23 40 [.int .i64 x13.1.params, .int .i64 x13.1.result, v14, v17], F34, F18, F21, bx b31 40 [.int .i64 x24.params, .int .i64 x24.result, v25, v28], F26, F29]) ⟨_, _, F15, _, rfl, h16, ovr_eq _ _ rfl, rfl⟩ ?_
     rintro _ _ _ ⟨x33, x36, F34, e21, rfl, h35, rfl, rfl⟩ X25 hp hx26
     replace hp : fettlelaw12_SsaStays.bd26 x33 x36 = some X25 := hp
     refine TC.seq fun K130 k131 => sr <| tm rfl <| tv (fa f40_2 rfl) rfl <| tv (lb s25 3 rfl rfl rfl) rfl <| tv (ln u25 h35.ro rfl) rfl <| tv (blt rfl rfl) rfl <| nz <| cD rfl hp (fun hc132 hp => ?_) fun hc132 hp => ?_
     · exact sk k131 rfl <| TC.seq fun K133 k134 => TC.block <| TC.region <| tv (fa f40_2 rfl) rfl <| tv (lb s25 3 rfl rfl rfl) rfl <| tm rfl <| tO u25 i3 h35 hp rfl rfl rfl rfl fun x184 b185 o186 h187 hp => tp [4, 0, 1, 2, 3, 5, 6, 7, 8, 9] [_,_,_,_,_,_,_,_,_,_] rfl rfl <| tE h35 h187 m3 rfl ⟨rfl, rfl⟩ w1 fun F188 h189 => nl <| tg k134 <| TC.region <| tm rfl <| tv (bad rfl rfl) rfl <| ta rfl <| nl <| gk hp [1, 2, 3, 4, 0, 5, 6, 7, 8, 9] ⟨_, _, F188, _, rfl, h189, ovr_eq _ _ rfl, rfl⟩
     · exact TC.exit <| jn [0, 1, 2, 3, 4, 5, 6, 7, 8, 9] (J128 h35 (ex_ret hp hx26))

/-! ### fettle/fettlelaw12.SsaBlocks -/
abbrev fettlelaw12_SsaBlocks.R (r : Bool) (v : Value) (A : List FP) : Prop := .bool r = v ∧ A = []
def fettlelaw12_SsaBlocks.nx51 (x6 : Bool) : Option Bool :=
  some x6
def fettlelaw12_SsaBlocks.nx87 (x40 : Int) : Option (Ex (Ex Bool Unit) Int) :=
  some (.go (w64 (x40 + 1)))
def fettlelaw12_SsaBlocks.bd87 (x41 : PBlock) (x54 : PBlock) (x68 : Int) : Option (Ex (Ex Bool Unit) Int) :=
  if x68 < (len x41.term.to) then
    (idx x41.term.to x68).bind fun x69 =>
    (idx x54.term.to x68).bind fun x75 =>
    if ¬ x69 = x75 then
      some (.ret (.ret false))
    else
      some (.go (w64 (x68 + 1)))
  else
    some (.ret (.go ()))
def fettlelaw12_SsaBlocks.bd51 (x8 : PFunc × GErr) (x29 : PFunc × List Int) (x40 : Int) : Option (Ex (Ex Bool Unit) Int) :=
  if x40 < (len x29.1.blocks) then
    (idx x29.1.blocks x40).bind fun x41 =>
    (idx x8.1.blocks x40).bind fun x54 =>
    (if ((¬ x41.term.kind = x54.term.kind) ∨ (¬ (len x41.term.to) = (len x54.term.to))) ∨ ((!((decide (x41.term.arg < 0)) == (decide (x54.term.arg < 0)))) = true) then some true else (idx x8.1.blocks x40).bind fun x81 =>
    (idx x29.1.blocks x40).bind fun x93 =>
    some (decide ((len x81.ins) < (len x93.ins)))).bind fun t67 =>
    if t67 = true then
      some (.ret (.ret false))
    else
      (whl (fun (s : Int) => fettlelaw12_SsaBlocks.bd87 x41 x54 s) FUEL 0).bind fun z =>
      match z with
        | .ret r => some (.ret (.ret r))
        | .go p => fettlelaw12_SsaBlocks.nx87 x40
  else
    some (.ret (.go ()))
def fettlelaw12_SsaBlocks (a1 : PModule) (a4 : Int) : Option Bool :=
  (fettlelaw12_up).bind fun x6 =>
  (fettleref02_Small a1).bind fun x7 =>
  if (!x7) = true then
    some x6
  else
    (ssa_Build a1 a4).bind fun x8 =>
    if ((¬ x8.2 = GErr.no) ∨ a4 < 0) ∨ a4 ≥ (len a1.funcs) then
      some (decide (x6 = true ∧ (¬ x8.2 = GErr.no)))
    else
      (idx a1.funcs a4).bind fun x19 =>
      (graph_Trim x19).bind fun x29 =>
      if ((¬ (len x8.1.blocks) = (len x29.1.blocks)) ∨ (¬ x8.1.params = x29.1.params)) ∨ (¬ x8.1.result = x29.1.result) then
        some false
      else
        (whl (fun (s : Int) => fettlelaw12_SsaBlocks.bd51 x8 x29 s) FUEL 0).bind fun z =>
        match z with
          | .ret r => some r
          | .go p => fettlelaw12_SsaBlocks.nx51 x6
set_option maxHeartbeats 4000000 in
theorem fettlelaw12_SsaBlocks_ok {E : World} {H : FP} {w : World} {a1 : PModule} {a4 : Int} {v2 : Value} {r : Bool} (h3 : SlI kFunc H a1.funcs v2) (hp : fettlelaw12_SsaBlocks a1 a4 = some r) (hst : St E H [] w) :
    Fn Try.prog 5 #[.agg #[v2], .int .i64 a4] w fun v w' => ∃ A, fettlelaw12_SsaBlocks.R r v A ∧ St E H A w' := by
 refine fb 153 [.tmp 4] Try.func5 rfl rfl rfl rfl rfl hst <| sr <| tb [v2] rfl rfl fun b5 => ta rfl <| nz <| sr <| bE hp fun x6 hy1 hp => tc 0 [_] rfl c14 (fun _ => fettlelaw12_up_ok hy1) rfl ?_
 rintro _ _ ⟨rfl, rfl⟩
 refine ta rfl <| nz <| sr <| tv (lA (ds := [v2]) ag_35 0 rfl rfl rfl rfl) rfl <| bE hp fun x7 hy3 hp => tc 0 [_] rfl c15 (fun _ => fettleref02_Small_ok (a1 := a1) (h3.mono subH) hy3) rfl ?_
 rintro _ _ ⟨rfl, rfl⟩
 refine ta rfl <| nz <| TC.seq fun K5 k6 => sr <| tm rfl <| tv (rv_not rfl) rfl <| nz <| cB rfl hp (fun hc7 hp => ?_) fun hc7 hp => ?_
 · exact sr <| tm rfl <| ta rfl <| nz <| TC.ret <| rt hp [] ⟨rfl, rfl⟩
 · refine sk k6 rfl <| sr <| tv (lA (ds := [v2]) ag_35 0 rfl rfl rfl rfl) rfl <| tm rfl <| bE hp fun x8 hy8 hp => tc 0 [_] rfl c17 (fun _ => ssa_Build_ok (a1 := a1) (a4 := a4) (h3.mono subH) hy8) rfl ?_
   rintro _ _ ⟨v9, F10, v12, F13, v15, F16, rfl, rfl, h11, h14, h17⟩
   refine tm rfl <| tv (xt rfl rfl) rfl <| tv (xt rfl rfl) rfl <| tl i40 rfl fun b18 => tS 0 m40 rfl rfl [.int .i64 x8.1.params, .int .i64 x8.1.result, v9, v12] rfl (oc rfl (oc rfl (oc (h11).one (oc (h14).one oc0)))) rfl rfl <| ta rfl <| nz <| TC.seq fun K10 k11 => sr <| tm rfl <| tv (rv_neqEN ifc_27 h17 rfl) rfl <| tm rfl <| TL.cut 3 fun K12 k13 => ?_
   have J14 {e16} : ∀ w, St E H [bx b18 40 [.int .i64 x8.1.params, .int .i64 x8.1.result, v9, v12], F10, F13, F16, bx b5 35 [v2]] w → K12 (ovr e16 [(32, .bool (decide ((¬ x8.2 = GErr.no) ∨ a4 < 0))), (1, .int .i64 a4), (2, .pointer (some ⟨b5, 0, none⟩)), (5, .bool x6), (7, .pointer (some ⟨b18, 0, none⟩)), (8, v15)]) w := by
    refine tlg k13 <| tm rfl <| TL.cut 6 fun K17 k18 => ?_
    have J19 {e21} : ∀ w, St E H [bx b18 40 [.int .i64 x8.1.params, .int .i64 x8.1.result, v9, v12], F10, F13, F16, bx b5 35 [v2]] w → K17 (ovr e21 [(39, .bool (decide (((¬ x8.2 = GErr.no) ∨ a4 < 0) ∨ a4 ≥ (len a1.funcs)))), (1, .int .i64 a4), (2, .pointer (some ⟨b5, 0, none⟩)), (5, .bool x6), (7, .pointer (some ⟨b18, 0, none⟩)), (8, v15)]) w := by
     refine tlg k18 <| nz <| cD rfl hp (fun hc22 hp => ?_) fun hc22 hp => ?_
     · refine sr <| tm rfl <| tm rfl <| TL.cut 3 fun K23 k24 => ?_
       have J25 {e27} : ∀ w, St E H [bx b18 40 [.int .i64 x8.1.params, .int .i64 x8.1.result, v9, v12], F10, F13, F16, bx b5 35 [v2]] w → K23 (ovr e27 [(44, .bool (decide (x6 = true ∧ (¬ x8.2 = GErr.no))))]) w := by
        exact tlg k24 <| ta rfl <| nz <| TC.ret <| rt hp [] ⟨rfl, rfl⟩
       by_cases hc26 : x6 = true
       · exact gy rfl (bbT hc26) <| tm rfl <| gy rfl (bbT hc26) <| tv (rv_neqEN ifc_27 h17 rfl) rfl <| tv (pT (bbT hc26)) rfl <| nj J25 (bAt hc26)
       · exact gn rfl (bbF hc26) rfl rfl <| gn rfl (bbF hc26) rfl rfl <| tv (pF (bbF hc26)) rfl <| nj J25 (bAf hc26)
     · refine sk k11 rfl <| sr <| tv (fa f35_0 rfl) rfl <| tv (lb s33 4 rfl rfl rfl) rfl <| tm rfl <| ti u33 i40 h3 hp rfl rfl rfl rfl ?_
       rintro x19 b20 o21 _ hp ⟨v25, v27, rfl, h26, h28⟩ h24
       refine tv (lR (ds := [.int .i64 x19.params, .int .i64 x19.result, v25, v27]) ag_40 sH h24 0 rfl rfl rfl) rfl <| bE hp fun x29 hy29 hp => tc 0 [_,_,_,_,_] rfl c21 (fun _ => graph_Trim_ok (a1 := x19) (h26.mono subH) (h28.mono subH) hy29) rfl ?_
       rintro _ _ ⟨v30, F31, v33, F34, v36, F37, rfl, rfl, h32, h35, h38⟩
       refine tm rfl <| tv (xt rfl rfl) rfl <| tv (xt rfl rfl) rfl <| tl i40 rfl fun b39 => tS 0 m40 rfl rfl [.int .i64 x29.1.params, .int .i64 x29.1.result, v30, v33] rfl (oc rfl (oc rfl (oc (h32).one (oc (h35).one oc0)))) rfl rfl <| ta rfl <| nz <| TC.seq fun K31 k32 => sr <| tv (fa f40_3 rfl) rfl <| tv (lb s38 4 rfl rfl rfl) rfl <| tv (ln u38 h14.ro rfl) rfl <| tv (fa f40_3 rfl) rfl <| tv (lb s38 0 rfl rfl rfl) rfl <| tv (ln u38 h35.ro rfl) rfl <| tv (bne rfl rfl) rfl <| tm rfl <| TL.cut 6 fun K33 k34 => ?_
       have J35 {e37} : ∀ w, St E H [bx b39 40 [.int .i64 x29.1.params, .int .i64 x29.1.result, v30, v33], F31, F34, F37, bx b18 40 [.int .i64 x8.1.params, .int .i64 x8.1.result, v9, v12], F10, F13, F16, bx b5 35 [v2]] w → K33 (ovr e37 [(67, .bool (decide ((¬ (len x8.1.blocks) = (len x29.1.blocks)) ∨ (¬ x8.1.params = x29.1.params)))), (5, .bool x6), (7, .pointer (some ⟨b18, 0, none⟩)), (9, .pointer (some ⟨b39, 0, none⟩))]) w := by
        refine tlg k34 <| tm rfl <| TL.cut 6 fun K38 k39 => ?_
        have J40 {e42} : ∀ w, St E H [bx b39 40 [.int .i64 x29.1.params, .int .i64 x29.1.result, v30, v33], F31, F34, F37, bx b18 40 [.int .i64 x8.1.params, .int .i64 x8.1.result, v9, v12], F10, F13, F16, bx b5 35 [v2]] w → K38 (ovr e42 [(74, .bool (decide (((¬ (len x8.1.blocks) = (len x29.1.blocks)) ∨ (¬ x8.1.params = x29.1.params)) ∨ (¬ x8.1.result = x29.1.result)))), (5, .bool x6), (7, .pointer (some ⟨b18, 0, none⟩)), (9, .pointer (some ⟨b39, 0, none⟩))]) w := by
         refine tlg k39 <| nz <| cD rfl hp (fun hc43 hp => ?_) fun hc43 hp => ?_
         · exact sr <| ta rfl <| nz <| TC.ret <| rt hp [] ⟨rfl, rfl⟩
         · refine sk k32 rfl <| TC.seq fun K44 k45 => sr <| ta rfl <| nz <| TC.block <| bE hp fun z_47 hz48 hr49 => ?_
           have J53 {e52} (hq54 : .go () = z_47) : ∀ w, St E H [] w → K44 (ovr e52 [(5, .bool x6)]) w := by
            subst hq54
            replace hp : fettlelaw12_SsaBlocks.nx51 x6 = some r := hr49
            exact tg k45 <| sr <| tm rfl <| ta rfl <| nz <| TC.ret <| rt hp [] ⟨rfl, rfl⟩
           refine lp hz48 [4, 5, 6, 0, 1, 2] rfl (fun s e L => ∃ e46, e = ovr e46 [(5, .bool x6), (7, .pointer (some ⟨b18, 0, none⟩)), (9, .pointer (some ⟨b39, 0, none⟩)), (11, .int .i64 s)] ∧ L = [bx b18 40 [.int .i64 x8.1.params, .int .i64 x8.1.result, v9, v12], F10, F13, bx b39 40 [.int .i64 x29.1.params, .int .i64 x29.1.result, v30, v33], F31, F34]) ⟨_, ovr_eq _ _ rfl, rfl⟩ ?_
           rintro x40 _ _ ⟨e46, rfl, rfl⟩ X50 hp hx51
           replace hp : fettlelaw12_SsaBlocks.bd51 x8 x29 x40 = some X50 := hp
           refine TC.seq fun K55 k56 => sr <| tm rfl <| tv (fa f40_3 rfl) rfl <| tv (lb s38 3 rfl rfl rfl) rfl <| tv (ln u38 h35.ro rfl) rfl <| tv (blt rfl rfl) rfl <| nz <| cD rfl hp (fun hc57 hp => ?_) fun hc57 hp => ?_
           · refine sk k56 rfl <| TC.seq fun K58 k59 => TC.block <| sr <| tv (fa f40_3 rfl) rfl <| tv (lb s38 3 rfl rfl rfl) rfl <| tm rfl <| ti u38 i50 (h35).ro hp rfl rfl rfl rfl ?_
             rintro x41 b42 o43 _ hp ⟨v47, v49, v51, rfl, h48, h50, h52⟩ h46
             refine tv (fa f50_2 rfl) rfl <| tv (lR (ds := [.int .i64 x41.term.kind, .int .i64 x41.term.arg, v51]) ag_46 (Src.at_ 5 rfl) h46 2 rfl rfl rfl) rfl <| tl i46 rfl fun b53 => tS 0 m46 rfl rfl [.int .i64 x41.term.kind, .int .i64 x41.term.arg, v51] rfl (oc rfl (oc rfl (oc (h52).one oc0))) rfl rfl <| nz <| sr <| tv (fa f40_3 rfl) rfl <| tv (lb s38 1 rfl rfl rfl) rfl <| tm rfl <| ti u38 i50 (h14).ro hp rfl rfl rfl rfl ?_
             rintro x54 b55 o56 _ hp ⟨v60, v62, v64, rfl, h61, h63, h65⟩ h59
             refine tv (fa f50_2 rfl) rfl <| tv (lR (ds := [.int .i64 x54.term.kind, .int .i64 x54.term.arg, v64]) ag_46 (Src.at_ 3 rfl) h59 2 rfl rfl rfl) rfl <| tl i46 rfl fun b66 => tS 0 m46 rfl rfl [.int .i64 x54.term.kind, .int .i64 x54.term.arg, v64] rfl (oc rfl (oc rfl (oc (h65).one oc0))) rfl rfl <| nz <| TC.seq fun K62 k63 => TC.seq fun K64 k65 => cq mix (by kernel_rfl) <| qv (fa f46_0 rfl) rfl <| qv (lb s3 1 rfl rfl rfl) rfl <| qv (fa f46_0 rfl) rfl <| qv (lb s3 0 rfl rfl rfl) rfl <| qv (bne rfl rfl) rfl <| qv mv rfl <| QL.cut 8 fun K66 k67 => ?_
             have J68 {e70} : K66 (ovr e70 [(107, .bool (decide ((¬ x41.term.kind = x54.term.kind) ∨ (¬ (len x41.term.to) = (len x54.term.to))))), (5, .bool x6), (7, .pointer (some ⟨b18, 0, none⟩)), (9, .pointer (some ⟨b39, 0, none⟩)), (11, .int .i64 x40), (12, .pointer (some ⟨b53, 0, none⟩)), (13, .pointer (some ⟨b66, 0, none⟩))]) := by
              refine k67 _ <| qv mv rfl <| QL.cut 8 fun K71 k72 => ?_
              have J73 {e75} : K71 (ovr e75 [(116, .bool (decide (((¬ x41.term.kind = x54.term.kind) ∨ (¬ (len x41.term.to) = (len x54.term.to))) ∨ ((!((decide (x41.term.arg < 0)) == (decide (x54.term.arg < 0)))) = true)))), (5, .bool x6), (7, .pointer (some ⟨b18, 0, none⟩)), (9, .pointer (some ⟨b39, 0, none⟩)), (11, .int .i64 x40), (12, .pointer (some ⟨b53, 0, none⟩)), (13, .pointer (some ⟨b66, 0, none⟩))]) := by
               refine k72 _ <| qv mv rfl <| bE hp fun t67 ht103 hp => QL.cut 16 fun K76 k77 => ?_
               have J78 {e80} : K76 (ovr e80 [(133, .bool t67), (5, .bool x6), (7, .pointer (some ⟨b18, 0, none⟩)), (9, .pointer (some ⟨b39, 0, none⟩)), (11, .int .i64 x40), (12, .pointer (some ⟨b53, 0, none⟩)), (13, .pointer (some ⟨b66, 0, none⟩))]) := by
                refine k77 _ <| QL.nil <| tg k65 <| cB rfl hp (fun hc81 hp => ?_) fun hc81 hp => ?_
                · refine sr <| ta rfl <| nz <| TC.ret ?_
                  obtain rfl := ex_ret hp hx51
                  exact rt hr49 [] ⟨rfl, rfl⟩
                · refine sk k63 rfl <| sr <| ta rfl <| nz <| TC.block <| bE hp fun z_83 hz84 hr85 => ?_
                  have J89 {e88} (hq90 : .go () = z_83) : ∀ w, St E H [bx b18 40 [.int .i64 x8.1.params, .int .i64 x8.1.result, v9, v12], F10, F13, bx b39 40 [.int .i64 x29.1.params, .int .i64 x29.1.result, v30, v33], F31, F34] w → K58 (ovr e88 [(5, .bool x6), (7, .pointer (some ⟨b18, 0, none⟩)), (9, .pointer (some ⟨b39, 0, none⟩)), (11, .int .i64 x40)]) w := by
                   subst hq90
                   replace hp : fettlelaw12_SsaBlocks.nx87 x40 = some X50 := hr85
                   exact tg k59 <| TC.region <| tm rfl <| tv (bad rfl rfl) rfl <| ta rfl <| nl <| gk hp [0, 1, 2, 3, 4, 5] ⟨_, ovr_eq _ _ rfl, rfl⟩
                  refine lp hz84 [2, 3, 4, 5, 6, 7, 1, 0] rfl (fun s e L => ∃ e82, e = ovr e82 [(5, .bool x6), (7, .pointer (some ⟨b18, 0, none⟩)), (9, .pointer (some ⟨b39, 0, none⟩)), (11, .int .i64 x40), (12, .pointer (some ⟨b53, 0, none⟩)), (13, .pointer (some ⟨b66, 0, none⟩)), (14, .int .i64 s)] ∧ L = [bx b18 40 [.int .i64 x8.1.params, .int .i64 x8.1.result, v9, v12], F10, F13, bx b39 40 [.int .i64 x29.1.params, .int .i64 x29.1.result, v30, v33], F31, F34, bx b53 46 [.int .i64 x41.term.kind, .int .i64 x41.term.arg, v51], bx b66 46 [.int .i64 x54.term.kind, .int .i64 x54.term.arg, v64]]) ⟨_, ovr_eq _ _ rfl, rfl⟩ ?_
                  rintro x68 _ _ ⟨e82, rfl, rfl⟩ X86 hp hx87
                  replace hp : fettlelaw12_SsaBlocks.bd87 x41 x54 x68 = some X86 := hp
                  refine TC.seq fun K91 k92 => sr <| tm rfl <| tv (fa f46_2 rfl) rfl <| tv (lb s25 6 rfl rfl rfl) rfl <| tv (ln u25 h52 rfl) rfl <| tv (blt rfl rfl) rfl <| nz <| cD rfl hp (fun hc93 hp => ?_) fun hc93 hp => ?_
                  · refine sk k92 rfl <| TC.seq fun K94 k95 => TC.block <| TC.seq fun K96 k97 => cq mix (by kernel_rfl) <| qv (fa f46_2 rfl) rfl <| qv (lb s25 6 rfl rfl rfl) rfl <| qv mv rfl <| qi u25 i3 h52 hp rfl rfl rfl rfl ?_
                    rintro x69 b70 o71 _ hp rfl h74
                    refine qv (lr s3 (Src.at_ 5 rfl) h74 0 rfl rfl) rfl <| qv (fa f46_2 rfl) rfl <| qv (lb s25 7 rfl rfl rfl) rfl <| qv mv rfl <| qi u25 i3 h65 hp rfl rfl rfl rfl ?_
                    rintro x75 b76 o77 _ hp rfl h80
                    refine qv (lr s3 (Src.at_ 2 rfl) h80 0 rfl rfl) rfl <| qv (bne rfl rfl) rfl <| QL.nil <| tg k97 <| cD rfl hp (fun hc100 hp => ?_) fun hc100 hp => ?_
                    · refine sr <| ta rfl <| nz <| TC.ret ?_
                      obtain rfl := ex_ret hp hx87
                      obtain rfl := ex_ret hr85 hx51
                      exact rt hr49 [] ⟨rfl, rfl⟩
                    · exact sk k95 rfl <| TC.region <| tm rfl <| tv (bad rfl rfl) rfl <| ta rfl <| nl <| gk hp [0, 1, 2, 3, 4, 5, 6, 7] ⟨_, ovr_eq _ _ rfl, rfl⟩
                  · exact TC.exit <| jn [0, 1, 2, 3, 4, 5] (J89 (ex_ret hp hx87))
               refine ifE ht103 (fun hc79 hp => ?_) fun hc79 hp => ?_
               · refine qgn rfl (bT hc79) rfl rfl <| qgn rfl (bT hc79) rfl rfl <| qgn rfl (bT hc79) rfl rfl <| qgn rfl (bT hc79) rfl rfl <| qgn rfl (bT hc79) rfl rfl <| qgn rfl (bT hc79) rfl rfl <| qgn rfl (bT hc79) rfl rfl <| qgn rfl (bT hc79) rfl rfl <| qgn rfl (bT hc79) rfl rfl <| qgn rfl (bT hc79) rfl rfl <| qgn rfl (bT hc79) rfl rfl <| qgn rfl (bT hc79) rfl rfl <| qgn rfl (bT hc79) rfl rfl <| qgn rfl (bT hc79) rfl rfl <| qgn rfl (bT hc79) rfl rfl <| qv (pT (bT hc79)) rfl ?_
                 obtain rfl := Option.some.inj hp
                 exact qj J78 rfl
               · refine qgy rfl (bF hc79) <| qv (fa f40_3 rfl) rfl <| qgy rfl (bF hc79) <| qv (lb s38 2 rfl rfl rfl) rfl <| qgy rfl (bF hc79) <| qv mv rfl <| qgy rfl (bF hc79) <| qi u38 i50 (h14).ro hp rfl rfl rfl rfl ?_
                 rintro x81 b82 o83 _ hp ⟨v87, v89, v91, rfl, h88, h90, h92⟩ h86
                 refine qgy rfl (bF hc79) <| qv (fa f50_1 rfl) rfl <| qgy rfl (bF hc79) <| qv (lr s48 (Src.at_ 4 rfl) h86 1 rfl rfl) rfl <| qgy rfl (bF hc79) <| qv (ln u48 h90 rfl) rfl <| qgy rfl (bF hc79) <| qv (fa f40_3 rfl) rfl <| qgy rfl (bF hc79) <| qv (lb s38 5 rfl rfl rfl) rfl <| qgy rfl (bF hc79) <| qv mv rfl <| qgy rfl (bF hc79) <| qi u38 i50 (h35).ro hp rfl rfl rfl rfl ?_
                 rintro x93 b94 o95 _ hp ⟨v99, v101, v103, rfl, h100, h102, h104⟩ h98
                 refine qgy rfl (bF hc79) <| qv (fa f50_1 rfl) rfl <| qgy rfl (bF hc79) <| qv (lr s48 (Src.at_ 7 rfl) h98 1 rfl rfl) rfl <| qgy rfl (bF hc79) <| qv (ln u48 h102 rfl) rfl <| qgy rfl (bF hc79) <| qv (blt rfl rfl) rfl <| qv (pF (bF hc79)) rfl ?_
                 obtain rfl := Option.some.inj hp
                 exact qj J78 rfl
              by_cases hc74 : (¬ x41.term.kind = x54.term.kind) ∨ (¬ (len x41.term.to) = (len x54.term.to))
              · exact qgn rfl (bT hc74) rfl rfl <| qgn rfl (bT hc74) rfl rfl <| qgn rfl (bT hc74) rfl rfl <| qgn rfl (bT hc74) rfl rfl <| qgn rfl (bT hc74) rfl rfl <| qgn rfl (bT hc74) rfl rfl <| qgn rfl (bT hc74) rfl rfl <| qv (pT (bT hc74)) rfl <| qj J73 (bOt hc74)
              · exact qgy rfl (bF hc74) <| qv (fa f46_1 rfl) rfl <| qgy rfl (bF hc74) <| qv (lb s3 1 rfl rfl rfl) rfl <| qgy rfl (bF hc74) <| qv (blt rfl rfl) rfl <| qgy rfl (bF hc74) <| qv (fa f46_1 rfl) rfl <| qgy rfl (bF hc74) <| qv (lb s3 0 rfl rfl rfl) rfl <| qgy rfl (bF hc74) <| qv (blt rfl rfl) rfl <| qgy rfl (bF hc74) <| qv (rv_neqB (b := (decide (x41.term.arg < 0))) (c := (decide (x54.term.arg < 0))) Try.underlying4 rfl rfl) rfl <| qv (pF (bF hc74)) rfl <| qj J73 (bOf' hc74)
             by_cases hc69 : ¬ x41.term.kind = x54.term.kind
             · exact qgn rfl (bT hc69) rfl rfl <| qgn rfl (bT hc69) rfl rfl <| qgn rfl (bT hc69) rfl rfl <| qgn rfl (bT hc69) rfl rfl <| qgn rfl (bT hc69) rfl rfl <| qgn rfl (bT hc69) rfl rfl <| qgn rfl (bT hc69) rfl rfl <| qv (pT (bT hc69)) rfl <| qj J68 (bOt hc69)
             · exact qgy rfl (bF hc69) <| qv (fa f46_2 rfl) rfl <| qgy rfl (bF hc69) <| qv (lb s25 1 rfl rfl rfl) rfl <| qgy rfl (bF hc69) <| qv (ln u25 h52 rfl) rfl <| qgy rfl (bF hc69) <| qv (fa f46_2 rfl) rfl <| qgy rfl (bF hc69) <| qv (lb s25 0 rfl rfl rfl) rfl <| qgy rfl (bF hc69) <| qv (ln u25 h65 rfl) rfl <| qgy rfl (bF hc69) <| qv (bne rfl rfl) rfl <| qv (pF (bF hc69)) rfl <| qj J68 (bOf hc69)
           · exact TC.exit <| jn [] (J53 (ex_ret hp hx51))
        by_cases hc41 : (¬ (len x8.1.blocks) = (len x29.1.blocks)) ∨ (¬ x8.1.params = x29.1.params)
        · exact gn rfl (bT hc41) rfl rfl <| gn rfl (bT hc41) rfl rfl <| gn rfl (bT hc41) rfl rfl <| gn rfl (bT hc41) rfl rfl <| gn rfl (bT hc41) rfl rfl <| tv (pT (bT hc41)) rfl <| nj J40 (bOt hc41)
        · exact gy rfl (bF hc41) <| tv (fa f40_1 rfl) rfl <| gy rfl (bF hc41) <| tv (lb s3 4 rfl rfl rfl) rfl <| gy rfl (bF hc41) <| tv (fa f40_1 rfl) rfl <| gy rfl (bF hc41) <| tv (lb s3 0 rfl rfl rfl) rfl <| gy rfl (bF hc41) <| tv (bne rfl rfl) rfl <| tv (pF (bF hc41)) rfl <| nj J40 (bOf hc41)
       by_cases hc36 : ¬ (len x8.1.blocks) = (len x29.1.blocks)
       · exact gn rfl (bT hc36) rfl rfl <| gn rfl (bT hc36) rfl rfl <| gn rfl (bT hc36) rfl rfl <| gn rfl (bT hc36) rfl rfl <| gn rfl (bT hc36) rfl rfl <| tv (pT (bT hc36)) rfl <| nj J35 (bOt hc36)
       · exact gy rfl (bF hc36) <| tv (fa f40_0 rfl) rfl <| gy rfl (bF hc36) <| tv (lb s3 4 rfl rfl rfl) rfl <| gy rfl (bF hc36) <| tv (fa f40_0 rfl) rfl <| gy rfl (bF hc36) <| tv (lb s3 0 rfl rfl rfl) rfl <| gy rfl (bF hc36) <| tv (bne rfl rfl) rfl <| tv (pF (bF hc36)) rfl <| nj J35 (bOf hc36)
    by_cases hc20 : (¬ x8.2 = GErr.no) ∨ a4 < 0
    · exact gn rfl (bT hc20) rfl rfl <| gn rfl (bT hc20) rfl rfl <| gn rfl (bT hc20) rfl rfl <| gn rfl (bT hc20) rfl rfl <| gn rfl (bT hc20) rfl rfl <| tv (pT (bT hc20)) rfl <| nj J19 (bOt hc20)
    · exact gy rfl (bF hc20) <| tm rfl <| gy rfl (bF hc20) <| tv (fa f35_0 rfl) rfl <| gy rfl (bF hc20) <| tv (lb s33 4 rfl rfl rfl) rfl <| gy rfl (bF hc20) <| tv (ln u33 h3 rfl) rfl <| gy rfl (bF hc20) <| tv (bge rfl rfl) rfl <| tv (pF (bF hc20)) rfl <| nj J19 (bOf hc20)
   by_cases hc15 : ¬ x8.2 = GErr.no
   · exact gn rfl (bT hc15) rfl rfl <| gn rfl (bT hc15) rfl rfl <| tv (pT (bT hc15)) rfl <| nj J14 (bOt hc15)
   · exact gy rfl (bF hc15) <| tm rfl <| gy rfl (bF hc15) <| tv (blt rfl rfl) rfl <| tv (pF (bF hc15)) rfl <| nj J14 (bOf hc15)
end Go.Proofs.Yteaknconpkklhaa
