/- The walk through the program's functions: each one's pure reading, and that a call does what it says. No conditions. -/
import Derived.Test.YteaknconpkklhaaC4
set_option linter.unusedVariables false
set_option linter.unusedSimpArgs false
namespace Go.Proofs.Yteaknconpkklhaa
open Go Go.Proofs

/-! ### fettle/fettleref02.CopyFunc -/
abbrev fettleref02_CopyFunc.R (r : PFunc) (v : Value) (A : List FP) : Prop := ∃ (w1 : Value) (G1 : FP) (w2 : Value) (G2 : FP), .agg #[.int .i64 r.params, .int .i64 r.result, w1, w2] = v ∧ A = [G1, G2] ∧ SlO 3 (kInt .i64) r.regs w1 G1 ∧ SlO 50 kBlock r.blocks w2 G2
def fettleref02_CopyFunc.nx12 (a1 : PFunc) (x9 : List Int) (x18 : List PBlock) : Option PFunc :=
  some (⟨a1.params, a1.result, x9, x18⟩ : PFunc)
def fettleref02_CopyFunc.nx42 (x13 : List PBlock) (x17 : Int) (x22 : PBlock) (x36 : List Int) (x45 : List PPhi) (x54 : List PInstr) : Option (Ex (List PBlock) (List PBlock × Int)) :=
  (cat x13 [(⟨x45, x54, (⟨x22.term.kind, x22.term.arg, x36⟩ : PTerm)⟩ : PBlock)]).bind fun x59 =>
  some (.go (x59, (w64 (x17 + 1))))
def fettleref02_CopyFunc.bd42 (x22 : PBlock) (x49 : List PInstr) (x53 : Int) : Option (Ex (List PInstr) (List PInstr × Int)) :=
  if x53 < (len x22.ins) then
    (idx x22.ins x53).bind fun x63 =>
    (cat ([] : List Int) x63.args).bind fun x73 =>
    (cat x49 [(⟨x63.op, x63.dst, x73, x63.imm, x63.fn⟩ : PInstr)]).bind fun x78 =>
    some (.go (x78, (w64 (x53 + 1))))
  else
    some (.ret x49)
def fettleref02_CopyFunc.nx33 (x13 : List PBlock) (x17 : Int) (x22 : PBlock) (x36 : List Int) (x45 : List PPhi) : Option (Ex (List PBlock) (List PBlock × Int)) :=
  (whl (fun (s : (List PInstr × Int)) => fettleref02_CopyFunc.bd42 x22 s.1 s.2) FUEL (([] : List PInstr), 0)).bind fun z =>
  fettleref02_CopyFunc.nx42 x13 x17 x22 x36 x45 z
def fettleref02_CopyFunc.jn65 (x44 : Int) (x83 : List PPhi) : Option (Ex (List PPhi) (List PPhi × Int)) :=
  some (.go (x83, (w64 (x44 + 1))))
def fettleref02_CopyFunc.bd33 (x22 : PBlock) (x40 : List PPhi) (x44 : Int) : Option (Ex (List PPhi) (List PPhi × Int)) :=
  if x44 < (len x22.phis) then
    (idx x22.phis x44).bind fun x2088 =>
    (idx x22.phis x44).bind fun x4888 =>
    (cat ([] : List Int) x4888.args).bind fun x6088 =>
    (cat x40 [(⟨x2088.dst, x6088⟩ : PPhi)]).bind fun x7288 =>
    fettleref02_CopyFunc.jn65 x44 x7288
  else
    some (.ret x40)
def fettleref02_CopyFunc.jn25 (x13 : List PBlock) (x17 : Int) (x22 : PBlock) (x36 : List Int) : Option (Ex (List PBlock) (List PBlock × Int)) :=
  (whl (fun (s : (List PPhi × Int)) => fettleref02_CopyFunc.bd33 x22 s.1 s.2) FUEL (([] : List PPhi), 0)).bind fun z =>
  fettleref02_CopyFunc.nx33 x13 x17 x22 x36 z
def fettleref02_CopyFunc.bd12 (a1 : PFunc) (x13 : List PBlock) (x17 : Int) : Option (Ex (List PBlock) (List PBlock × Int)) :=
  if x17 < (len a1.blocks) then
    (idx a1.blocks x17).bind fun x22 =>
    (cat ([] : List Int) x22.term.to).bind fun x12490 =>
    fettleref02_CopyFunc.jn25 x13 x17 x22 x12490
  else
    some (.ret x13)
def fettleref02_CopyFunc.jn4 (a1 : PFunc) (x9 : List Int) : Option PFunc :=
  (whl (fun (s : (List PBlock × Int)) => fettleref02_CopyFunc.bd12 a1 s.1 s.2) FUEL (([] : List PBlock), 0)).bind fun z =>
  fettleref02_CopyFunc.nx12 a1 x9 z
def fettleref02_CopyFunc (a1 : PFunc) : Option PFunc :=
  (cat ([] : List Int) a1.regs).bind fun x17292 =>
  fettleref02_CopyFunc.jn4 a1 x17292
set_option maxHeartbeats 4000000 in
theorem fettleref02_CopyFunc_ok {E : World} {H : FP} {w : World} {a1 : PFunc} {v2 : Value} {v4 : Value} {r : PFunc} (h3 : SlI (kInt .i64) H a1.regs v2) (h5 : SlI kBlock H a1.blocks v4) (hp : fettleref02_CopyFunc a1 = some r) (hst : St E H [] w) :
    Fn Try.prog 18 #[.agg #[.int .i64 a1.params, .int .i64 a1.result, v2, v4]] w fun v w' => ∃ A, fettleref02_CopyFunc.R r v A ∧ St E H A w' := by
 refine Fn.bodyV (fn := Try.f18) (args := [.agg #[.int .i64 a1.params, .int .i64 a1.result, v2, v4]]) E H [] 101 Try.func18 rfl rfl (leb rfl) hst <| sr <| tb [.int .i64 a1.params, .int .i64 a1.result, v2, v4] rfl rfl fun b6 => tl i40 rfl fun b7 => nz <| TC.seq fun K1 k2 => ?_
 have J4 {x9 b8 v10 F11 e3} (h12 : SlO 3 (kInt .i64) x9 v10 F11) (hp : fettleref02_CopyFunc.jn4 a1 x9 = some r) : ∀ w, St E H [bx b6 40 [.int .i64 a1.params, .int .i64 a1.result, v2, v4], bx b7 40 [.int .i64 0, .int .i64 0, .slice none 0 0, .slice none 0 0], bx b8 40 [.int .i64 a1.params, .int .i64 a1.result, v10, .slice none 0 0], F11] w → K1 (ovr e3 [(1, .pointer (some ⟨b6, 0, none⟩)), (2, .pointer (some ⟨b7, 0, none⟩)), (3, .pointer (some ⟨b8, 0, none⟩))]) w := by
  refine tg k2 <| TC.seq fun K5 k6 => sr <| ta rfl <| nz <| TC.block <| bE hp fun z_8 hz9 hr10 => ?_
  have J14 {x18 v19 F20 e13} (h21 : SlO 50 kBlock x18 v19 F20) (hq15 : x18 = z_8) : ∀ w, St E H [bx b7 40 [.int .i64 0, .int .i64 0, .slice none 0 0, .slice none 0 0], bx b8 40 [.int .i64 a1.params, .int .i64 a1.result, v10, v19], F11, F20] w → K5 (ovr e13 [(2, .pointer (some ⟨b7, 0, none⟩)), (3, .pointer (some ⟨b8, 0, none⟩))]) w := by
   subst hq15
   replace hp : fettleref02_CopyFunc.nx12 a1 x9 x18 = some r := hr10
   refine tg k6 <| sr <| tv (lA (ds := [.int .i64 a1.params, .int .i64 a1.result, v10, v19]) ag_40 1 rfl rfl rfl rfl) rfl <| tS 0 m40 rfl rfl [.int .i64 a1.params, .int .i64 a1.result, v10, v19] rfl (oc rfl (oc rfl (oc (h12).one (oc (h21).one oc0)))) rfl rfl <| nz <| TC.ret ?_
   obtain rfl := Option.some.inj hp
   exact fun w hw => retC1 hw rfl rfl ag_40 0 rfl rfl ⟨v10, F11, v19, F20, rfl, rfl, h12, h21⟩ (hw.pickA [2, 3] rfl)
  refine W.new0 <| lp hz9 [1, 2, 3, 4, 0] rfl (fun s e L => ∃ x13 x17 v14 F15 e7, s = (x13, x17) ∧ SlO 50 kBlock x13 v14 F15 ∧ e = ovr e7 [(1, .pointer (some ⟨b6, 0, none⟩)), (2, .pointer (some ⟨b7, 0, none⟩)), (3, .pointer (some ⟨b8, 0, none⟩)), (4, .int .i64 x17)] ∧ L = [bx b6 40 [.int .i64 a1.params, .int .i64 a1.result, v2, v4], bx b7 40 [.int .i64 0, .int .i64 0, .slice none 0 0, .slice none 0 0], bx b8 40 [.int .i64 a1.params, .int .i64 a1.result, v10, v14], F11, F15]) ⟨_, _, (.slice none 0 0), ([] : FP), _, rfl, (SlO.nil 50), ovr_eq _ _ rfl, rfl⟩ ?_
  rintro _ _ _ ⟨x13, x17, v14, F15, e7, rfl, h16, rfl, rfl⟩ X11 hp hx12
  replace hp : fettleref02_CopyFunc.bd12 a1 x13 x17 = some X11 := hp
  refine TC.seq fun K16 k17 => sr <| tm rfl <| tv (fa f40_3 rfl) rfl <| tv (lb s38 0 rfl rfl rfl) rfl <| tv (ln u38 h5 rfl) rfl <| tv (blt rfl rfl) rfl <| nz <| cD rfl hp (fun hc18 hp => ?_) fun hc18 hp => ?_
  · refine sk k17 rfl <| TC.seq fun K19 k20 => TC.block <| sr <| tv (fa f40_3 rfl) rfl <| tv (lb s38 0 rfl rfl rfl) rfl <| tm rfl <| ti u38 i50 h5 hp rfl rfl rfl rfl ?_
    rintro x22 b23 o24 _ hp ⟨v28, v30, v32, rfl, h29, h31, h33⟩ h27
    refine tv (lR (ds := [v28, v30, .int .i64 x22.term.kind, .int .i64 x22.term.arg, v32]) ag_50 sH h27 0 rfl rfl rfl) rfl <| tl i50 rfl fun b34 => tS 0 m50 rfl rfl [v28, v30, .int .i64 x22.term.kind, .int .i64 x22.term.arg, v32] rfl (oc (h29).one (oc (h31).one (oc rfl (oc rfl (oc (h33).one oc0))))) rfl rfl <| nz <| TC.seq fun K22 k23 => ?_
    have J25 {x36 b35 v37 F38 e24} (h39 : SlO 3 (kInt .i64) x36 v37 F38) (hp : fettleref02_CopyFunc.jn25 x13 x17 x22 x36 = some X11) : ∀ w, St E H [bx b6 40 [.int .i64 a1.params, .int .i64 a1.result, v2, v4], bx b7 40 [.int .i64 0, .int .i64 0, .slice none 0 0, .slice none 0 0], bx b8 40 [.int .i64 a1.params, .int .i64 a1.result, v10, v14], F11, F15, bx b34 50 [v28, v30, .int .i64 x22.term.kind, .int .i64 x22.term.arg, v32], bx b35 50 [.slice none 0 0, .slice none 0 0, .int .i64 x22.term.kind, .int .i64 x22.term.arg, v37], F38] w → K22 (ovr e24 [(1, .pointer (some ⟨b6, 0, none⟩)), (2, .pointer (some ⟨b7, 0, none⟩)), (3, .pointer (some ⟨b8, 0, none⟩)), (4, .int .i64 x17), (5, .pointer (some ⟨b34, 0, none⟩)), (6, .pointer (some ⟨b35, 0, none⟩))]) w := by
     refine tg k23 <| TC.seq fun K26 k27 => sr <| ta rfl <| nz <| TC.block <| bE hp fun z_29 hz30 hr31 => ?_
     have J57 {x45 v46 F47 e34} (h48 : SlO 76 kPhi x45 v46 F47) (hq58 : x45 = z_29) : ∀ w, St E H [bx b6 40 [.int .i64 a1.params, .int .i64 a1.result, v2, v4], bx b7 40 [.int .i64 0, .int .i64 0, .slice none 0 0, .slice none 0 0], bx b8 40 [.int .i64 a1.params, .int .i64 a1.result, v10, v14], F11, F15, bx b34 50 [v28, v30, .int .i64 x22.term.kind, .int .i64 x22.term.arg, v32], bx b35 50 [v46, .slice none 0 0, .int .i64 x22.term.kind, .int .i64 x22.term.arg, v37], F47, F38] w → K26 (ovr e34 [(1, .pointer (some ⟨b6, 0, none⟩)), (2, .pointer (some ⟨b7, 0, none⟩)), (3, .pointer (some ⟨b8, 0, none⟩)), (4, .int .i64 x17), (5, .pointer (some ⟨b34, 0, none⟩)), (6, .pointer (some ⟨b35, 0, none⟩))]) w := by
      subst hq58
      replace hp : fettleref02_CopyFunc.nx33 x13 x17 x22 x36 x45 = some X11 := hr31
      refine tg k27 <| TC.seq fun K35 k36 => sr <| ta rfl <| nz <| TC.block <| bE hp fun z_38 hz39 hr40 => ?_
      have J45 {x54 v55 F56 e43} (h57 : SlO 52 kInstr x54 v55 F56) (hq46 : x54 = z_38) : ∀ w, St E H [bx b6 40 [.int .i64 a1.params, .int .i64 a1.result, v2, v4], bx b7 40 [.int .i64 0, .int .i64 0, .slice none 0 0, .slice none 0 0], bx b8 40 [.int .i64 a1.params, .int .i64 a1.result, v10, v14], F11, F15, bx b35 50 [v46, v55, .int .i64 x22.term.kind, .int .i64 x22.term.arg, v37], F47, F56, F38] w → K35 (ovr e43 [(1, .pointer (some ⟨b6, 0, none⟩)), (2, .pointer (some ⟨b7, 0, none⟩)), (3, .pointer (some ⟨b8, 0, none⟩)), (4, .int .i64 x17), (6, .pointer (some ⟨b35, 0, none⟩))]) w := by
       subst hq46
       replace hp : fettleref02_CopyFunc.nx42 x13 x17 x22 x36 x45 x54 = some X11 := hr40
       exact tg k36 <| TC.region <| tv (fa f40_3 rfl) rfl <| tv (lb s38 2 rfl rfl rfl) rfl <| tv (lA (ds := [v46, v55, .int .i64 x22.term.kind, .int .i64 x22.term.arg, v37]) ag_50 5 rfl rfl rfl rfl) rfl <| tbs [(0, .agg #[v46, v55, .int .i64 x22.term.kind, .int .i64 x22.term.arg, v37])] [v46, v55, .int .i64 x22.term.kind, .int .i64 x22.term.arg, v37] u38 i50 (by kernel_rfl) rfl rfl rfl rfl fun b58 => tp [5, 0, 7, 8, 9, 1, 2, 3, 4, 6] [_,_,_,_,_,_,_,_,_,_] rfl rfl <| tf 2 3 [_,_,_,_,_,_,_,_] rfl <| tp2 u38 i50 h16 hp (RepL.to (G' := F47 ++ (F56 ++ (F38))) (RepL.cons (k := kBlock) (x := (⟨x45, x54, (⟨x22.term.kind, x22.term.arg, x36⟩ : PTerm)⟩ : PBlock)) ⟨_, _, _, _, _, _, rfl, rfl, h48, h57, h39⟩ RepL.nil) (by simp)) rfl rfl rfl rfl rfl rfl rfl rfl rfl fun x59 v60 F61 h62 hp => tv (fa f40_3 rfl) rfl <| ts 3 m38 rfl rfl h62.o1 rfl <| nl <| tg k20 <| TC.region <| tm rfl <| tv (bad rfl rfl) rfl <| ta rfl <| nl <| gk hp [1, 2, 3, 4, 0] ⟨_, _, v60, F61, _, rfl, h62, ovr_eq _ _ rfl, rfl⟩
      refine W.new0 <| lp hz39 [1, 2, 3, 4, 5, 6, 7, 8, 0, 9] rfl (fun s e L => ∃ x49 x53 v50 F51 e37, s = (x49, x53) ∧ SlO 52 kInstr x49 v50 F51 ∧ e = ovr e37 [(1, .pointer (some ⟨b6, 0, none⟩)), (2, .pointer (some ⟨b7, 0, none⟩)), (3, .pointer (some ⟨b8, 0, none⟩)), (4, .int .i64 x17), (5, .pointer (some ⟨b34, 0, none⟩)), (6, .pointer (some ⟨b35, 0, none⟩)), (8, .int .i64 x53)] ∧ L = [bx b6 40 [.int .i64 a1.params, .int .i64 a1.result, v2, v4], bx b7 40 [.int .i64 0, .int .i64 0, .slice none 0 0, .slice none 0 0], bx b8 40 [.int .i64 a1.params, .int .i64 a1.result, v10, v14], F11, F15, bx b34 50 [v28, v30, .int .i64 x22.term.kind, .int .i64 x22.term.arg, v32], bx b35 50 [v46, v50, .int .i64 x22.term.kind, .int .i64 x22.term.arg, v37], F47, F51, F38]) ⟨_, _, (.slice none 0 0), ([] : FP), _, rfl, (SlO.nil 52), ovr_eq _ _ rfl, rfl⟩ ?_
      rintro _ _ _ ⟨x49, x53, v50, F51, e37, rfl, h52, rfl, rfl⟩ X41 hp hx42
      replace hp : fettleref02_CopyFunc.bd42 x22 x49 x53 = some X41 := hp
      refine TC.seq fun K47 k48 => sr <| tm rfl <| tv (fa f50_1 rfl) rfl <| tv (lb s48 5 rfl rfl rfl) rfl <| tv (ln u48 h31 rfl) rfl <| tv (blt rfl rfl) rfl <| nz <| cD rfl hp (fun hc49 hp => ?_) fun hc49 hp => ?_
      · refine sk k48 rfl <| TC.seq fun K50 k51 => TC.block <| sr <| tv (fa f50_1 rfl) rfl <| tv (lb s48 5 rfl rfl rfl) rfl <| tm rfl <| ti u48 i52 h31 hp rfl rfl rfl rfl ?_
        rintro x63 b64 o65 _ hp ⟨v69, rfl, h70⟩ h68
        exact tv (lR (ds := [.int .i64 x63.op, .int .i64 x63.dst, v69, .int .i64 x63.imm, .int .i64 x63.fn]) ag_52 sH h68 0 rfl rfl rfl) rfl <| tl i52 rfl fun b71 => tS 0 m52 rfl rfl [.int .i64 x63.op, .int .i64 x63.dst, v69, .int .i64 x63.imm, .int .i64 x63.fn] rfl (oc rfl (oc rfl (oc (h70).one (oc rfl (oc rfl oc0))))) rfl rfl <| nz <| sr <| TL.bs0 u25 i3 (ltb rfl) fun b72 => tv (fa f52_2 rfl) rfl <| tv (lb s25 1 rfl rfl rfl) rfl <| tpI (fInt .i64) u25 i3 (SlO.lit0 (k := (kInt .i64)) b72) h70 sH hp rfl rfl rfl rfl rfl rfl rfl fun x73 v74 F75 h76 hp => tv (fa f52_2 rfl) rfl <| ts 1 m25 rfl rfl h76.o1 rfl <| nz <| TC.region <| tv (fa f50_1 rfl) rfl <| tv (lb s48 8 rfl rfl rfl) rfl <| tv (lA (ds := [.int .i64 x63.op, .int .i64 x63.dst, v74, .int .i64 x63.imm, .int .i64 x63.fn]) ag_52 1 rfl rfl rfl rfl) rfl <| tbs [(0, .agg #[.int .i64 x63.op, .int .i64 x63.dst, v74, .int .i64 x63.imm, .int .i64 x63.fn])] [.int .i64 x63.op, .int .i64 x63.dst, v74, .int .i64 x63.imm, .int .i64 x63.fn] u48 i52 (by kernel_rfl) rfl rfl rfl rfl fun b77 => tp [11, 0, 1, 2, 3, 4, 5, 6, 7, 8, 9, 10, 12] [_,_,_,_,_,_,_,_,_,_,_,_,_] rfl rfl <| tp2 u48 i52 h52 hp (RepL.to (G' := F75) (RepL.cons (k := kInstr) (x := (⟨x63.op, x63.dst, x73, x63.imm, x63.fn⟩ : PInstr)) ⟨_, _, rfl, rfl, h76⟩ RepL.nil) (by simp)) rfl rfl rfl rfl rfl rfl rfl rfl rfl fun x78 v79 F80 h81 hp => tv (fa f50_1 rfl) rfl <| ts 8 m48 rfl rfl h81.o1 rfl <| nl <| tg k51 <| TC.region <| tm rfl <| tv (bad rfl rfl) rfl <| ta rfl <| nl <| gk hp [2, 3, 4, 5, 6, 7, 8, 9, 0, 10] ⟨_, _, v79, F80, _, rfl, h81, ovr_eq _ _ rfl, rfl⟩
      · exact TC.exit <| jn [0, 1, 2, 3, 4, 6, 7, 8, 9] (J45 h52 (ex_ret hp hx42))
     refine W.new0 <| lp hz30 [1, 2, 3, 4, 5, 6, 7, 0, 8] rfl (fun s e L => ∃ x40 x44 v41 F42 e28, s = (x40, x44) ∧ SlO 76 kPhi x40 v41 F42 ∧ e = ovr e28 [(1, .pointer (some ⟨b6, 0, none⟩)), (2, .pointer (some ⟨b7, 0, none⟩)), (3, .pointer (some ⟨b8, 0, none⟩)), (4, .int .i64 x17), (5, .pointer (some ⟨b34, 0, none⟩)), (6, .pointer (some ⟨b35, 0, none⟩)), (7, .int .i64 x44)] ∧ L = [bx b6 40 [.int .i64 a1.params, .int .i64 a1.result, v2, v4], bx b7 40 [.int .i64 0, .int .i64 0, .slice none 0 0, .slice none 0 0], bx b8 40 [.int .i64 a1.params, .int .i64 a1.result, v10, v14], F11, F15, bx b34 50 [v28, v30, .int .i64 x22.term.kind, .int .i64 x22.term.arg, v32], bx b35 50 [v41, .slice none 0 0, .int .i64 x22.term.kind, .int .i64 x22.term.arg, v37], F42, F38]) ⟨_, _, (.slice none 0 0), ([] : FP), _, rfl, (SlO.nil 76), ovr_eq _ _ rfl, rfl⟩ ?_
     rintro _ _ _ ⟨x40, x44, v41, F42, e28, rfl, h43, rfl, rfl⟩ X32 hp hx33
     replace hp : fettleref02_CopyFunc.bd33 x22 x40 x44 = some X32 := hp
     refine TC.seq fun K59 k60 => sr <| tm rfl <| tv (fa f50_0 rfl) rfl <| tv (lb s47 5 rfl rfl rfl) rfl <| tv (ln u47 h29 rfl) rfl <| tv (blt rfl rfl) rfl <| nz <| cD rfl hp (fun hc61 hp => ?_) fun hc61 hp => ?_
     · refine sk k60 rfl <| TC.seq fun K62 k63 => ?_
       have J65 {x83 v84 F85 e64} (h86 : SlO 76 kPhi x83 v84 F85) (hp : fettleref02_CopyFunc.jn65 x44 x83 = some X32) : ∀ w, St E H [bx b6 40 [.int .i64 a1.params, .int .i64 a1.result, v2, v4], bx b7 40 [.int .i64 0, .int .i64 0, .slice none 0 0, .slice none 0 0], bx b8 40 [.int .i64 a1.params, .int .i64 a1.result, v10, v14], F11, F15, bx b34 50 [v28, v30, .int .i64 x22.term.kind, .int .i64 x22.term.arg, v32], bx b35 50 [v84, .slice none 0 0, .int .i64 x22.term.kind, .int .i64 x22.term.arg, v37], F85, F38] w → K62 (ovr e64 [(1, .pointer (some ⟨b6, 0, none⟩)), (2, .pointer (some ⟨b7, 0, none⟩)), (3, .pointer (some ⟨b8, 0, none⟩)), (4, .int .i64 x17), (5, .pointer (some ⟨b34, 0, none⟩)), (6, .pointer (some ⟨b35, 0, none⟩)), (7, .int .i64 x44)]) w := by
        exact tg k63 <| TC.region <| tm rfl <| tv (bad rfl rfl) rfl <| ta rfl <| nl <| gk hp [0, 1, 2, 3, 4, 5, 6, 7, 8] ⟨_, _, v84, F85, _, rfl, h86, ovr_eq _ _ rfl, rfl⟩
       refine TC.block <| ch mix [bx b6 40 [.int .i64 a1.params, .int .i64 a1.result, v2, v4], bx b7 40 [.int .i64 0, .int .i64 0, .slice none 0 0, .slice none 0 0], bx b8 40 [.int .i64 a1.params, .int .i64 a1.result, v10, v14], F11, F15, bx b34 50 [v28, v30, .int .i64 x22.term.kind, .int .i64 x22.term.arg, v32], F38] (srcG 0 rfl (srcG 1 rfl (srcG 2 rfl (srcG 3 rfl (srcG 4 rfl (srcG 5 rfl (srcG 8 rfl srcG0))))))) <| hv 0 rfl (fa f50_0 rfl) (by kernel_rfl) rfl <| hv 2 rfl (fa f50_0 rfl) (by kernel_rfl) rfl <| hv 3 rfl (lbG s47 5 rfl rfl rfl) (by kernel_rfl) rfl <| hv 4 rfl mv (by kernel_rfl) rfl <| hi 5 rfl u47 i76 h29 hp rfl rfl rfl (by kernel_rfl) rfl ?_
       rintro x2088 b2089 o2090 _ hp ⟨v2094, rfl, h2095⟩ h2093
       refine hv 6 rfl (fa f76_0 rfl) (by kernel_rfl) rfl <| hv 7 rfl (lr s3 srcInH h2093 0 rfl rfl) (by kernel_rfl) rfl <| hv 9 rfl (fa f50_0 rfl) (by kernel_rfl) rfl <| hv 10 rfl (lbG s47 5 rfl rfl rfl) (by kernel_rfl) rfl <| hv 11 rfl mv (by kernel_rfl) rfl <| hi 12 rfl u47 i76 h29 hp rfl rfl rfl (by kernel_rfl) rfl ?_
       rintro x4888 b4889 o4890 _ hp ⟨v4894, rfl, h4895⟩ h4893
       refine hv 13 rfl (fa f76_1 rfl) (by kernel_rfl) rfl <| hv 14 rfl (lr s25 srcInH h4893 1 rfl rfl) (by kernel_rfl) rfl <| HL.all [1, 8] (by kernel_rfl) (by simp) (HL.al ⟨_, rfl, fun K68 k69 => ?_⟩ (HL.al ⟨_, rfl, fun K82 k83 => ?_⟩ HL.al0))
       · exact tv (lb s47 6 rfl rfl rfl) rfl <| hk k69 (srcG 0 rfl (srcG 1 rfl (srcG 2 rfl (srcG 3 rfl (srcG 4 rfl (srcG 5 rfl (srcG 8 rfl srcG0))))))) <| ho 8 rfl (by kernel_rfl) fun K70 k71 => TL.bs0 u25 i3 (ltb rfl) fun b3288 => hk k71 (srcG 1 rfl (srcG 2 rfl (srcG 3 rfl (srcG 4 rfl (srcG 5 rfl (srcG 6 rfl (srcG 9 rfl srcG0))))))) <| ho 15 rfl (by kernel_rfl) fun K72 k73 => tpI (fInt .i64) u25 i3 (SlO.lit0 (k := (kInt .i64)) b3288) h4895 sH hp rfl rfl rfl rfl rfl rfl rfl fun x6088 v6089 F6090 h6091 hp => hk k73 (srcG 1 rfl (srcG 2 rfl (srcG 3 rfl (srcG 4 rfl (srcG 5 rfl (srcG 6 rfl (srcG 9 rfl srcG0))))))) <| hv 16 rfl (rv_bv (vs := [(0, .int .i64 x2088.dst), (1, v6089)]) (ds := [.int .i64 x2088.dst, v6089]) rfl (fun w => by obtain ⟨_, _, rfl⟩ := (h6091).len; kernel_rfl)) (by kernel_rfl) rfl <| ho 17 rfl (by kernel_rfl) fun K75 k76 => tbs [(0, .agg #[.int .i64 x2088.dst, v6089])] [.int .i64 x2088.dst, v6089] u47 i76 (by kernel_rfl) rfl rfl rfl rfl fun b6888 => hk k76 (srcG 2 rfl (srcG 3 rfl (srcG 4 rfl (srcG 5 rfl (srcG 6 rfl (srcG 7 rfl (srcG 10 rfl srcG0))))))) <| ho 18 rfl (by kernel_rfl) fun K77 k78 => tp [9, 0, 1, 2, 3, 4, 5, 6, 7, 8, 10] [_,_,_,_,_,_,_,_,_,_,_] rfl rfl <| tp2 u47 i76 h43 hp (RepL.to (G' := F6090) (RepL.cons (k := kPhi) (x := (⟨x2088.dst, x6088⟩ : PPhi)) ⟨_, _, rfl, rfl, h6091⟩ RepL.nil) (by simp)) rfl rfl rfl rfl rfl rfl rfl rfl rfl fun x7288 v7289 F7290 h7291 hp => hk k78 (srcG 1 rfl (srcG 2 rfl (srcG 3 rfl (srcG 4 rfl (srcG 5 rfl (srcG 6 rfl (srcG 8 rfl srcG0))))))) <| hv 19 rfl (fa f50_0 rfl) (by kernel_rfl) rfl <| ho 20 rfl (by kernel_rfl) fun K80 k81 => ts 7 m47 rfl rfl h7291.o1 rfl <| hk k81 (srcG 1 rfl (srcG 2 rfl (srcG 3 rfl (srcG 4 rfl (srcG 5 rfl (srcG 6 rfl (srcG 8 rfl srcG0))))))) <| hz (by kernel_rfl) <| jn [1, 2, 3, 4, 5, 6, 7, 0, 8] (J65 h7291 hp)
       · refine TL.bs0 u25 i3 (ltb rfl) fun b3288 => hk k83 (srcG 1 rfl (srcG 2 rfl (srcG 3 rfl (srcG 4 rfl (srcG 5 rfl (srcG 6 rfl (srcG 9 rfl srcG0))))))) <| HL.all [1, 15] (by kernel_rfl) (by simp) (HL.al ⟨_, rfl, fun K84 k85 => ?_⟩ (HL.al ⟨_, rfl, fun K96 k97 => ?_⟩ HL.al0))
         · exact tv (lb s47 7 rfl rfl rfl) rfl <| hk k85 (srcG 1 rfl (srcG 2 rfl (srcG 3 rfl (srcG 4 rfl (srcG 5 rfl (srcG 6 rfl (srcG 9 rfl srcG0))))))) <| ho 15 rfl (by kernel_rfl) fun K86 k87 => tpI (fInt .i64) u25 i3 (SlO.lit0 (k := (kInt .i64)) b3288) h4895 sH hp rfl rfl rfl rfl rfl rfl rfl fun x6088 v6089 F6090 h6091 hp => hk k87 (srcG 1 rfl (srcG 2 rfl (srcG 3 rfl (srcG 4 rfl (srcG 5 rfl (srcG 6 rfl (srcG 9 rfl srcG0))))))) <| hv 16 rfl (rv_bv (vs := [(0, .int .i64 x2088.dst), (1, v6089)]) (ds := [.int .i64 x2088.dst, v6089]) rfl (fun w => by obtain ⟨_, _, rfl⟩ := (h6091).len; kernel_rfl)) (by kernel_rfl) rfl <| ho 17 rfl (by kernel_rfl) fun K89 k90 => tbs [(0, .agg #[.int .i64 x2088.dst, v6089])] [.int .i64 x2088.dst, v6089] u47 i76 (by kernel_rfl) rfl rfl rfl rfl fun b6888 => hk k90 (srcG 2 rfl (srcG 3 rfl (srcG 4 rfl (srcG 5 rfl (srcG 6 rfl (srcG 7 rfl (srcG 10 rfl srcG0))))))) <| ho 18 rfl (by kernel_rfl) fun K91 k92 => tp [9, 0, 1, 2, 3, 4, 5, 6, 7, 8, 10] [_,_,_,_,_,_,_,_,_,_,_] rfl rfl <| tp2 u47 i76 h43 hp (RepL.to (G' := F6090) (RepL.cons (k := kPhi) (x := (⟨x2088.dst, x6088⟩ : PPhi)) ⟨_, _, rfl, rfl, h6091⟩ RepL.nil) (by simp)) rfl rfl rfl rfl rfl rfl rfl rfl rfl fun x7288 v7289 F7290 h7291 hp => hk k92 (srcG 1 rfl (srcG 2 rfl (srcG 3 rfl (srcG 4 rfl (srcG 5 rfl (srcG 6 rfl (srcG 8 rfl srcG0))))))) <| hv 19 rfl (fa f50_0 rfl) (by kernel_rfl) rfl <| ho 20 rfl (by kernel_rfl) fun K94 k95 => ts 7 m47 rfl rfl h7291.o1 rfl <| hk k95 (srcG 1 rfl (srcG 2 rfl (srcG 3 rfl (srcG 4 rfl (srcG 5 rfl (srcG 6 rfl (srcG 8 rfl srcG0))))))) <| hz (by kernel_rfl) <| jn [1, 2, 3, 4, 5, 6, 7, 0, 8] (J65 h7291 hp)
         · refine tpI (fInt .i64) u25 i3 (SlO.lit0 (k := (kInt .i64)) b3288) h4895 sH hp rfl rfl rfl rfl rfl rfl rfl fun x6088 v6089 F6090 h6091 hp => hk k97 (srcG 1 rfl (srcG 2 rfl (srcG 3 rfl (srcG 4 rfl (srcG 5 rfl (srcG 6 rfl (srcG 9 rfl srcG0))))))) <| hv 16 rfl (rv_bv (vs := [(0, .int .i64 x2088.dst), (1, v6089)]) (ds := [.int .i64 x2088.dst, v6089]) rfl (fun w => by obtain ⟨_, _, rfl⟩ := (h6091).len; kernel_rfl)) (by kernel_rfl) rfl <| HL.all [1, 17] (by kernel_rfl) (by simp) (HL.al ⟨_, rfl, fun K99 k100 => ?_⟩ (HL.al ⟨_, rfl, fun K108 k109 => ?_⟩ HL.al0))
           · exact tv (lb s47 7 rfl rfl rfl) rfl <| hk k100 (srcG 1 rfl (srcG 2 rfl (srcG 3 rfl (srcG 4 rfl (srcG 5 rfl (srcG 6 rfl (srcG 9 rfl srcG0))))))) <| ho 17 rfl (by kernel_rfl) fun K101 k102 => tbs [(0, .agg #[.int .i64 x2088.dst, v6089])] [.int .i64 x2088.dst, v6089] u47 i76 (by kernel_rfl) rfl rfl rfl rfl fun b6888 => hk k102 (srcG 2 rfl (srcG 3 rfl (srcG 4 rfl (srcG 5 rfl (srcG 6 rfl (srcG 7 rfl (srcG 10 rfl srcG0))))))) <| ho 18 rfl (by kernel_rfl) fun K103 k104 => tp [9, 0, 1, 2, 3, 4, 5, 6, 7, 8, 10] [_,_,_,_,_,_,_,_,_,_,_] rfl rfl <| tp2 u47 i76 h43 hp (RepL.to (G' := F6090) (RepL.cons (k := kPhi) (x := (⟨x2088.dst, x6088⟩ : PPhi)) ⟨_, _, rfl, rfl, h6091⟩ RepL.nil) (by simp)) rfl rfl rfl rfl rfl rfl rfl rfl rfl fun x7288 v7289 F7290 h7291 hp => hk k104 (srcG 1 rfl (srcG 2 rfl (srcG 3 rfl (srcG 4 rfl (srcG 5 rfl (srcG 6 rfl (srcG 8 rfl srcG0))))))) <| hv 19 rfl (fa f50_0 rfl) (by kernel_rfl) rfl <| ho 20 rfl (by kernel_rfl) fun K106 k107 => ts 7 m47 rfl rfl h7291.o1 rfl <| hk k107 (srcG 1 rfl (srcG 2 rfl (srcG 3 rfl (srcG 4 rfl (srcG 5 rfl (srcG 6 rfl (srcG 8 rfl srcG0))))))) <| hz (by kernel_rfl) <| jn [1, 2, 3, 4, 5, 6, 7, 0, 8] (J65 h7291 hp)
           · exact tbs [(0, .agg #[.int .i64 x2088.dst, v6089])] [.int .i64 x2088.dst, v6089] u47 i76 (by kernel_rfl) rfl rfl rfl rfl fun b6888 => hk k109 (srcG 2 rfl (srcG 3 rfl (srcG 4 rfl (srcG 5 rfl (srcG 6 rfl (srcG 7 rfl (srcG 10 rfl srcG0))))))) <| ho 1 rfl (by kernel_rfl) fun K110 k111 => tv (lb s47 8 rfl rfl rfl) rfl <| hk k111 (srcG 2 rfl (srcG 3 rfl (srcG 4 rfl (srcG 5 rfl (srcG 6 rfl (srcG 7 rfl (srcG 10 rfl srcG0))))))) <| ho 18 rfl (by kernel_rfl) fun K112 k113 => tp [9, 0, 1, 2, 3, 4, 5, 6, 7, 8, 10] [_,_,_,_,_,_,_,_,_,_,_] rfl rfl <| tp2 u47 i76 h43 hp (RepL.to (G' := F6090) (RepL.cons (k := kPhi) (x := (⟨x2088.dst, x6088⟩ : PPhi)) ⟨_, _, rfl, rfl, h6091⟩ RepL.nil) (by simp)) rfl rfl rfl rfl rfl rfl rfl rfl rfl fun x7288 v7289 F7290 h7291 hp => hk k113 (srcG 1 rfl (srcG 2 rfl (srcG 3 rfl (srcG 4 rfl (srcG 5 rfl (srcG 6 rfl (srcG 8 rfl srcG0))))))) <| hv 19 rfl (fa f50_0 rfl) (by kernel_rfl) rfl <| ho 20 rfl (by kernel_rfl) fun K115 k116 => ts 7 m47 rfl rfl h7291.o1 rfl <| hk k116 (srcG 1 rfl (srcG 2 rfl (srcG 3 rfl (srcG 4 rfl (srcG 5 rfl (srcG 6 rfl (srcG 8 rfl srcG0))))))) <| hz (by kernel_rfl) <| jn [1, 2, 3, 4, 5, 6, 7, 0, 8] (J65 h7291 hp)
     · exact TC.exit <| jn [0, 1, 2, 3, 4, 5, 6, 7, 8] (J57 h43 (ex_ret hp hx33))
    refine ch mix [bx b34 50 [v28, v30, .int .i64 x22.term.kind, .int .i64 x22.term.arg, v32], bx b6 40 [.int .i64 a1.params, .int .i64 a1.result, v2, v4], bx b7 40 [.int .i64 0, .int .i64 0, .slice none 0 0, .slice none 0 0], bx b8 40 [.int .i64 a1.params, .int .i64 a1.result, v10, v14], F11, F15] (srcG 0 rfl (srcG 1 rfl (srcG 2 rfl (srcG 3 rfl (srcG 4 rfl (srcG 5 rfl srcG0)))))) <| hv 0 rfl (fa f50_2 rfl) (by kernel_rfl) rfl <| hv 1 rfl (fa f46_0 rfl) (by kernel_rfl) rfl <| hv 2 rfl (lbG s3 0 rfl rfl rfl) (by kernel_rfl) rfl <| hv 3 rfl (fa f50_2 rfl) (by kernel_rfl) rfl <| hv 4 rfl (fa f46_1 rfl) (by kernel_rfl) rfl <| hv 5 rfl (lbG s3 0 rfl rfl rfl) (by kernel_rfl) rfl <| hv 7 rfl (fa f50_2 rfl) (by kernel_rfl) rfl <| hv 8 rfl (fa f46_2 rfl) (by kernel_rfl) rfl <| hv 9 rfl (lbG s25 0 rfl rfl rfl) (by kernel_rfl) rfl <| HL.all [6, 13] (by kernel_rfl) (by simp) (HL.al ⟨_, rfl, fun K119 k120 => ?_⟩ (HL.al ⟨_, rfl, fun K135 k136 => ?_⟩ HL.al0))
    · refine TL.bs0 u25 i3 (ltb rfl) fun b10890 => hk k120 (srcG 1 rfl (srcG 2 rfl (srcG 3 rfl (srcG 4 rfl (srcG 5 rfl (srcG 6 rfl srcG0)))))) <| HL.all [10, 13] (by kernel_rfl) (by simp) (HL.al ⟨_, rfl, fun K121 k122 => ?_⟩ (HL.al ⟨_, rfl, fun K128 k129 => ?_⟩ HL.al0))
      · exact tpI (fInt .i64) u25 i3 (SlO.lit0 (k := (kInt .i64)) b10890) h33 sH hp rfl rfl rfl rfl rfl rfl rfl fun x12490 v12491 F12492 h12493 hp => hk k122 (srcG 1 rfl (srcG 2 rfl (srcG 3 rfl (srcG 4 rfl (srcG 5 rfl (srcG 6 rfl srcG0)))))) <| hv 11 rfl (rv_bv (vs := [(0, .int .i64 x22.term.kind), (1, .int .i64 x22.term.arg), (2, v12491)]) (ds := [.int .i64 x22.term.kind, .int .i64 x22.term.arg, v12491]) rfl (fun w => by obtain ⟨_, _, rfl⟩ := (h12493).len; kernel_rfl)) (by kernel_rfl) rfl <| hv 12 rfl (rv_bv (vs := [(2, .agg #[.int .i64 x22.term.kind, .int .i64 x22.term.arg, v12491])]) (ds := [.slice none 0 0, .slice none 0 0, .int .i64 x22.term.kind, .int .i64 x22.term.arg, v12491]) rfl (fun w => by kernel_rfl)) (by kernel_rfl) rfl <| ho 13 rfl (by kernel_rfl) fun K124 k125 => tl i50 rfl fun b13690 => hk k125 (srcG 2 rfl (srcG 3 rfl (srcG 4 rfl (srcG 5 rfl (srcG 6 rfl (srcG 7 rfl srcG0)))))) <| ho 14 rfl (by kernel_rfl) fun K126 k127 => tS 0 m50 rfl rfl [.slice none 0 0, .slice none 0 0, .int .i64 x22.term.kind, .int .i64 x22.term.arg, v12491] rfl (oc rfl (oc rfl (oc rfl (oc rfl (oc (h12493).one oc0))))) rfl rfl <| hk k127 (srcG 2 rfl (srcG 3 rfl (srcG 4 rfl (srcG 5 rfl (srcG 6 rfl (srcG 7 rfl srcG0)))))) <| hz (by kernel_rfl) <| jn [3, 4, 5, 6, 7, 2, 0, 1] (J25 h12493 hp)
      · exact tl i50 rfl fun b13690 => hk k129 (srcG 2 rfl (srcG 3 rfl (srcG 4 rfl (srcG 5 rfl (srcG 6 rfl (srcG 7 rfl srcG0)))))) <| ho 10 rfl (by kernel_rfl) fun K130 k131 => tp [1, 0, 2, 3, 4, 5, 6, 7] [_,_,_,_,_,_,_,_] rfl rfl <| tpI (fInt .i64) u25 i3 (SlO.lit0 (k := (kInt .i64)) b10890) h33 sH hp rfl rfl rfl rfl rfl rfl rfl fun x12490 v12491 F12492 h12493 hp => hk k131 (srcG 2 rfl (srcG 3 rfl (srcG 4 rfl (srcG 5 rfl (srcG 6 rfl (srcG 7 rfl srcG0)))))) <| hv 11 rfl (rv_bv (vs := [(0, .int .i64 x22.term.kind), (1, .int .i64 x22.term.arg), (2, v12491)]) (ds := [.int .i64 x22.term.kind, .int .i64 x22.term.arg, v12491]) rfl (fun w => by obtain ⟨_, _, rfl⟩ := (h12493).len; kernel_rfl)) (by kernel_rfl) rfl <| hv 12 rfl (rv_bv (vs := [(2, .agg #[.int .i64 x22.term.kind, .int .i64 x22.term.arg, v12491])]) (ds := [.slice none 0 0, .slice none 0 0, .int .i64 x22.term.kind, .int .i64 x22.term.arg, v12491]) rfl (fun w => by kernel_rfl)) (by kernel_rfl) rfl <| ho 14 rfl (by kernel_rfl) fun K133 k134 => tS 1 m50 rfl rfl [.slice none 0 0, .slice none 0 0, .int .i64 x22.term.kind, .int .i64 x22.term.arg, v12491] rfl (oc rfl (oc rfl (oc rfl (oc rfl (oc (h12493).one oc0))))) rfl rfl <| hk k134 (srcG 2 rfl (srcG 3 rfl (srcG 4 rfl (srcG 5 rfl (srcG 6 rfl (srcG 7 rfl srcG0)))))) <| hz (by kernel_rfl) <| jn [3, 4, 5, 6, 7, 2, 1, 0] (J25 h12493 hp)
    · exact tl i50 rfl fun b13690 => hk k136 (srcG 1 rfl (srcG 2 rfl (srcG 3 rfl (srcG 4 rfl (srcG 5 rfl (srcG 6 rfl srcG0)))))) <| ho 6 rfl (by kernel_rfl) fun K137 k138 => TL.bs0 u25 i3 (ltb rfl) fun b10890 => hk k138 (srcG 2 rfl (srcG 3 rfl (srcG 4 rfl (srcG 5 rfl (srcG 6 rfl (srcG 7 rfl srcG0)))))) <| ho 10 rfl (by kernel_rfl) fun K139 k140 => tpI (fInt .i64) u25 i3 (SlO.lit0 (k := (kInt .i64)) b10890) h33 sH hp rfl rfl rfl rfl rfl rfl rfl fun x12490 v12491 F12492 h12493 hp => hk k140 (srcG 2 rfl (srcG 3 rfl (srcG 4 rfl (srcG 5 rfl (srcG 6 rfl (srcG 7 rfl srcG0)))))) <| hv 11 rfl (rv_bv (vs := [(0, .int .i64 x22.term.kind), (1, .int .i64 x22.term.arg), (2, v12491)]) (ds := [.int .i64 x22.term.kind, .int .i64 x22.term.arg, v12491]) rfl (fun w => by obtain ⟨_, _, rfl⟩ := (h12493).len; kernel_rfl)) (by kernel_rfl) rfl <| hv 12 rfl (rv_bv (vs := [(2, .agg #[.int .i64 x22.term.kind, .int .i64 x22.term.arg, v12491])]) (ds := [.slice none 0 0, .slice none 0 0, .int .i64 x22.term.kind, .int .i64 x22.term.arg, v12491]) rfl (fun w => by kernel_rfl)) (by kernel_rfl) rfl <| ho 14 rfl (by kernel_rfl) fun K142 k143 => tS 1 m50 rfl rfl [.slice none 0 0, .slice none 0 0, .int .i64 x22.term.kind, .int .i64 x22.term.arg, v12491] rfl (oc rfl (oc rfl (oc rfl (oc rfl (oc (h12493).one oc0))))) rfl rfl <| hk k143 (srcG 2 rfl (srcG 3 rfl (srcG 4 rfl (srcG 5 rfl (srcG 6 rfl (srcG 7 rfl srcG0)))))) <| hz (by kernel_rfl) <| jn [3, 4, 5, 6, 7, 2, 1, 0] (J25 h12493 hp)
  · exact TC.exit <| jn [1, 2, 3, 4] (J14 h16 (ex_ret hp hx12))
 refine ch mix [bx b7 40 [.int .i64 0, .int .i64 0, .slice none 0 0, .slice none 0 0], bx b6 40 [.int .i64 a1.params, .int .i64 a1.result, v2, v4]] (srcG 0 rfl (srcG 1 rfl srcG0)) <| hv 0 rfl (fa f40_0 rfl) (by kernel_rfl) rfl <| hv 1 rfl (lbG s3 1 rfl rfl rfl) (by kernel_rfl) rfl <| hv 2 rfl (fa f40_1 rfl) (by kernel_rfl) rfl <| hv 3 rfl (lbG s3 1 rfl rfl rfl) (by kernel_rfl) rfl <| hv 5 rfl (fa f40_2 rfl) (by kernel_rfl) rfl <| hv 6 rfl (lbG s25 1 rfl rfl rfl) (by kernel_rfl) rfl <| HL.all [4, 9] (by kernel_rfl) (by simp) (HL.al ⟨_, rfl, fun K146 k147 => ?_⟩ (HL.al ⟨_, rfl, fun K162 k163 => ?_⟩ HL.al0))
 · refine TL.bs0 u25 i3 (ltb rfl) fun b16092 => hk k147 (srcG 1 rfl (srcG 2 rfl srcG0)) <| HL.all [7, 9] (by kernel_rfl) (by simp) (HL.al ⟨_, rfl, fun K148 k149 => ?_⟩ (HL.al ⟨_, rfl, fun K155 k156 => ?_⟩ HL.al0))
   · exact tpI (fInt .i64) u25 i3 (SlO.lit0 (k := (kInt .i64)) b16092) h3 sH hp rfl rfl rfl rfl rfl rfl rfl fun x17292 v17293 F17294 h17295 hp => hk k149 (srcG 1 rfl (srcG 2 rfl srcG0)) <| hv 8 rfl (rv_bv (vs := [(0, .int .i64 a1.params), (1, .int .i64 a1.result), (2, v17293)]) (ds := [.int .i64 a1.params, .int .i64 a1.result, v17293, .slice none 0 0]) rfl (fun w => by obtain ⟨_, _, rfl⟩ := (h17295).len; kernel_rfl)) (by kernel_rfl) rfl <| ho 9 rfl (by kernel_rfl) fun K151 k152 => tl i40 rfl fun b18092 => hk k152 (srcG 2 rfl (srcG 3 rfl srcG0)) <| ho 10 rfl (by kernel_rfl) fun K153 k154 => tS 0 m40 rfl rfl [.int .i64 a1.params, .int .i64 a1.result, v17293, .slice none 0 0] rfl (oc rfl (oc rfl (oc (h17295).one (oc rfl oc0)))) rfl rfl <| hk k154 (srcG 2 rfl (srcG 3 rfl srcG0)) <| hz (by kernel_rfl) <| jn [3, 2, 0, 1] (J4 h17295 hp)
   · exact tl i40 rfl fun b18092 => hk k156 (srcG 2 rfl (srcG 3 rfl srcG0)) <| ho 7 rfl (by kernel_rfl) fun K157 k158 => tp [1, 0, 2, 3] [_,_,_,_] rfl rfl <| tpI (fInt .i64) u25 i3 (SlO.lit0 (k := (kInt .i64)) b16092) h3 sH hp rfl rfl rfl rfl rfl rfl rfl fun x17292 v17293 F17294 h17295 hp => hk k158 (srcG 2 rfl (srcG 3 rfl srcG0)) <| hv 8 rfl (rv_bv (vs := [(0, .int .i64 a1.params), (1, .int .i64 a1.result), (2, v17293)]) (ds := [.int .i64 a1.params, .int .i64 a1.result, v17293, .slice none 0 0]) rfl (fun w => by obtain ⟨_, _, rfl⟩ := (h17295).len; kernel_rfl)) (by kernel_rfl) rfl <| ho 10 rfl (by kernel_rfl) fun K160 k161 => tS 1 m40 rfl rfl [.int .i64 a1.params, .int .i64 a1.result, v17293, .slice none 0 0] rfl (oc rfl (oc rfl (oc (h17295).one (oc rfl oc0)))) rfl rfl <| hk k161 (srcG 2 rfl (srcG 3 rfl srcG0)) <| hz (by kernel_rfl) <| jn [3, 2, 1, 0] (J4 h17295 hp)
 · exact tl i40 rfl fun b18092 => hk k163 (srcG 1 rfl (srcG 2 rfl srcG0)) <| ho 4 rfl (by kernel_rfl) fun K164 k165 => TL.bs0 u25 i3 (ltb rfl) fun b16092 => hk k165 (srcG 2 rfl (srcG 3 rfl srcG0)) <| ho 7 rfl (by kernel_rfl) fun K166 k167 => tpI (fInt .i64) u25 i3 (SlO.lit0 (k := (kInt .i64)) b16092) h3 sH hp rfl rfl rfl rfl rfl rfl rfl fun x17292 v17293 F17294 h17295 hp => hk k167 (srcG 2 rfl (srcG 3 rfl srcG0)) <| hv 8 rfl (rv_bv (vs := [(0, .int .i64 a1.params), (1, .int .i64 a1.result), (2, v17293)]) (ds := [.int .i64 a1.params, .int .i64 a1.result, v17293, .slice none 0 0]) rfl (fun w => by obtain ⟨_, _, rfl⟩ := (h17295).len; kernel_rfl)) (by kernel_rfl) rfl <| ho 10 rfl (by kernel_rfl) fun K169 k170 => tS 1 m40 rfl rfl [.int .i64 a1.params, .int .i64 a1.result, v17293, .slice none 0 0] rfl (oc rfl (oc rfl (oc (h17295).one (oc rfl oc0)))) rfl rfl <| hk k170 (srcG 2 rfl (srcG 3 rfl srcG0)) <| hz (by kernel_rfl) <| jn [3, 2, 1, 0] (J4 h17295 hp)

/-! ### fettle/fettleref02.Copy -/
abbrev fettleref02_Copy.R (r : PModule) (v : Value) (A : List FP) : Prop := ∃ (w1 : Value) (G1 : FP), .agg #[w1] = v ∧ A = [G1] ∧ SlO 40 kFunc r.funcs w1 G1
def fettleref02_Copy.nx8  (x12 : List PFunc) : Option PModule :=
  some (⟨x12⟩ : PModule)
def fettleref02_Copy.jn18 (x11 : Int) (x16 : List PFunc) : Option (Ex (List PFunc) (List PFunc × Int)) :=
  some (.go (x16, (w64 (x11 + 1))))
def fettleref02_Copy.bd8 (a1 : PModule) (x7 : List PFunc) (x11 : Int) : Option (Ex (List PFunc) (List PFunc × Int)) :=
  if x11 < (len a1.funcs) then
    (idx a1.funcs x11).bind fun x2021 =>
    (fettleref02_CopyFunc x2021).bind fun x2821 =>
    (cat x7 [x2821]).bind fun x3621 =>
    fettleref02_Copy.jn18 x11 x3621
  else
    some (.ret x7)
def fettleref02_Copy (a1 : PModule) : Option PModule :=
  (whl (fun (s : (List PFunc × Int)) => fettleref02_Copy.bd8 a1 s.1 s.2) FUEL (([] : List PFunc), 0)).bind fun z =>
  fettleref02_Copy.nx8 z
set_option maxHeartbeats 4000000 in
theorem fettleref02_Copy_ok {E : World} {H : FP} {w : World} {a1 : PModule} {v2 : Value} {r : PModule} (h3 : SlI kFunc H a1.funcs v2) (hp : fettleref02_Copy a1 = some r) (hst : St E H [] w) :
    Fn Try.prog 16 #[.agg #[v2]] w fun v w' => ∃ A, fettleref02_Copy.R r v A ∧ St E H A w' := by
 refine Fn.bodyV (fn := Try.f16) (args := [.agg #[v2]]) E H [] 24 Try.func16 rfl rfl (leb rfl) hst <| sr <| tb [v2] rfl rfl fun b4 => tl i35 rfl fun b5 => nz <| sr <| tl i35 rfl fun b6 => nz <| TC.seq fun K1 k2 => sr <| ta rfl <| nz <| TC.block <| bE hp fun z_4 hz5 hr6 => ?_
 have J10 {x12 v13 F14 e9} (h15 : SlO 40 kFunc x12 v13 F14) (hq11 : x12 = z_4) : ∀ w, St E H [bx b5 35 [.slice none 0 0], bx b6 35 [v13], F14] w → K1 (ovr e9 [(2, .pointer (some ⟨b5, 0, none⟩)), (3, .pointer (some ⟨b6, 0, none⟩))]) w := by
  subst hq11
  replace hp : fettleref02_Copy.nx8 x12 = some r := hr6
  refine tg k2 <| sr <| tv (lA (ds := [v13]) ag_35 1 rfl rfl rfl rfl) rfl <| tS 0 m35 rfl rfl [v13] rfl (oc (h15).one oc0) rfl rfl <| nz <| TC.ret ?_
  obtain rfl := Option.some.inj hp
  exact fun w hw => retC1 hw rfl rfl ag_35 0 rfl rfl ⟨v13, F14, rfl, rfl, h15⟩ (hw.pickA [2] rfl)
 refine W.new0 <| lp hz5 [3, 2, 1, 0] rfl (fun s e L => ∃ x7 x11 v8 F9 e3, s = (x7, x11) ∧ SlO 40 kFunc x7 v8 F9 ∧ e = ovr e3 [(1, .pointer (some ⟨b4, 0, none⟩)), (2, .pointer (some ⟨b5, 0, none⟩)), (3, .pointer (some ⟨b6, 0, none⟩)), (4, .int .i64 x11)] ∧ L = [bx b4 35 [v2], bx b5 35 [.slice none 0 0], bx b6 35 [v8], F9]) ⟨_, _, (.slice none 0 0), ([] : FP), _, rfl, (SlO.nil 40), ovr_eq _ _ rfl, rfl⟩ ?_
 rintro _ _ _ ⟨x7, x11, v8, F9, e3, rfl, h10, rfl, rfl⟩ X7 hp hx8
 replace hp : fettleref02_Copy.bd8 a1 x7 x11 = some X7 := hp
 refine TC.seq fun K12 k13 => sr <| tm rfl <| tv (fa f35_0 rfl) rfl <| tv (lb s33 0 rfl rfl rfl) rfl <| tv (ln u33 h3 rfl) rfl <| tv (blt rfl rfl) rfl <| nz <| cD rfl hp (fun hc14 hp => ?_) fun hc14 hp => ?_
 · refine sk k13 rfl <| TC.seq fun K15 k16 => ?_
   have J18 {x16 v17 F18 e17} (h19 : SlO 40 kFunc x16 v17 F18) (hp : fettleref02_Copy.jn18 x11 x16 = some X7) : ∀ w, St E H [bx b4 35 [v2], bx b5 35 [.slice none 0 0], bx b6 35 [v17], F18] w → K15 (ovr e17 [(1, .pointer (some ⟨b4, 0, none⟩)), (2, .pointer (some ⟨b5, 0, none⟩)), (3, .pointer (some ⟨b6, 0, none⟩)), (4, .int .i64 x11)]) w := by
    exact tg k16 <| TC.region <| tm rfl <| tv (bad rfl rfl) rfl <| ta rfl <| nl <| gk hp [0, 1, 2, 3] ⟨_, _, v17, F18, _, rfl, h19, ovr_eq _ _ rfl, rfl⟩
   refine TC.block <| ch mix [bx b4 35 [v2], bx b5 35 [.slice none 0 0]] (srcG 0 rfl (srcG 1 rfl srcG0)) <| hv 0 rfl (fa f35_0 rfl) (by kernel_rfl) rfl <| hv 2 rfl (fa f35_0 rfl) (by kernel_rfl) rfl <| hv 3 rfl (lbG s33 0 rfl rfl rfl) (by kernel_rfl) rfl <| hv 4 rfl mv (by kernel_rfl) rfl <| hi 5 rfl u33 i40 h3 hp rfl rfl rfl (by kernel_rfl) rfl ?_
   rintro x2021 b2022 o2023 _ hp ⟨v2027, v2029, rfl, h2028, h2030⟩ h2026
   refine hv 6 rfl (lR (ds := [.int .i64 x2021.params, .int .i64 x2021.result, v2027, v2029]) ag_40 srcInH h2026 0 rfl rfl rfl) (by kernel_rfl) rfl <| HL.all [1, 7] (by kernel_rfl) (by simp) (HL.al ⟨_, rfl, fun K20 k21 => ?_⟩ (HL.al ⟨_, rfl, fun K33 k34 => ?_⟩ HL.al0))
   · refine tv (lb s33 2 rfl rfl rfl) rfl <| hk k21 (srcG 0 rfl (srcG 1 rfl srcG0)) <| ho 7 rfl (by kernel_rfl) fun K22 k23 => bE hp fun x2821 hy24 hp => tc 0 [_,_,_,_] rfl c18 (fun _ => fettleref02_CopyFunc_ok (a1 := x2021) (h2028.mono subH) (h2030.mono subH) hy24) rfl ?_
     rintro _ _ ⟨v2822, F2823, v2825, F2826, rfl, rfl, h2824, h2827⟩
     exact hk k23 (srcG 2 rfl (srcG 3 rfl srcG0)) <| ho 8 rfl (by kernel_rfl) fun K26 k27 => tbs [(0, .agg #[.int .i64 x2821.params, .int .i64 x2821.result, v2822, v2825])] [.int .i64 x2821.params, .int .i64 x2821.result, v2822, v2825] u33 i40 (by kernel_rfl) rfl rfl rfl rfl fun b3221 => hk k27 (srcG 3 rfl (srcG 4 rfl srcG0)) <| ho 9 rfl (by kernel_rfl) fun K28 k29 => tp [6, 0, 1, 2, 3, 4, 5] [_,_,_,_,_,_,_] rfl rfl <| tf 2 2 [_,_,_,_,_,_] rfl <| tp2 u33 i40 h10 hp (RepL.to (G' := F2823 ++ (F2826)) (RepL.cons (k := kFunc) (x := x2821) ⟨_, _, _, _, rfl, rfl, h2824, h2827⟩ RepL.nil) (by simp)) rfl rfl rfl rfl rfl rfl rfl rfl rfl fun x3621 v3622 F3623 h3624 hp => hk k29 (srcG 1 rfl (srcG 2 rfl srcG0)) <| hv 10 rfl (fa f35_0 rfl) (by kernel_rfl) rfl <| ho 11 rfl (by kernel_rfl) fun K31 k32 => ts 3 m33 rfl rfl h3624.o1 rfl <| hk k32 (srcG 1 rfl (srcG 2 rfl srcG0)) <| hz (by kernel_rfl) <| jn [1, 2, 3, 0] (J18 h3624 hp)
   · refine bE hp fun x2821 hy35 hp => tc 0 [_,_,_,_] rfl c18 (fun _ => fettleref02_CopyFunc_ok (a1 := x2021) (h2028.mono subH) (h2030.mono subH) hy35) rfl ?_
     rintro _ _ ⟨v2822, F2823, v2825, F2826, rfl, rfl, h2824, h2827⟩
     refine hk k34 (srcG 2 rfl (srcG 3 rfl srcG0)) <| HL.all [1, 8] (by kernel_rfl) (by simp) (HL.al ⟨_, rfl, fun K37 k38 => ?_⟩ (HL.al ⟨_, rfl, fun K46 k47 => ?_⟩ HL.al0))
     · exact tv (lb s33 4 rfl rfl rfl) rfl <| hk k38 (srcG 2 rfl (srcG 3 rfl srcG0)) <| ho 8 rfl (by kernel_rfl) fun K39 k40 => tbs [(0, .agg #[.int .i64 x2821.params, .int .i64 x2821.result, v2822, v2825])] [.int .i64 x2821.params, .int .i64 x2821.result, v2822, v2825] u33 i40 (by kernel_rfl) rfl rfl rfl rfl fun b3221 => hk k40 (srcG 3 rfl (srcG 4 rfl srcG0)) <| ho 9 rfl (by kernel_rfl) fun K41 k42 => tp [6, 0, 1, 2, 3, 4, 5] [_,_,_,_,_,_,_] rfl rfl <| tf 2 2 [_,_,_,_,_,_] rfl <| tp2 u33 i40 h10 hp (RepL.to (G' := F2823 ++ (F2826)) (RepL.cons (k := kFunc) (x := x2821) ⟨_, _, _, _, rfl, rfl, h2824, h2827⟩ RepL.nil) (by simp)) rfl rfl rfl rfl rfl rfl rfl rfl rfl fun x3621 v3622 F3623 h3624 hp => hk k42 (srcG 1 rfl (srcG 2 rfl srcG0)) <| hv 10 rfl (fa f35_0 rfl) (by kernel_rfl) rfl <| ho 11 rfl (by kernel_rfl) fun K44 k45 => ts 3 m33 rfl rfl h3624.o1 rfl <| hk k45 (srcG 1 rfl (srcG 2 rfl srcG0)) <| hz (by kernel_rfl) <| jn [1, 2, 3, 0] (J18 h3624 hp)
     · exact tbs [(0, .agg #[.int .i64 x2821.params, .int .i64 x2821.result, v2822, v2825])] [.int .i64 x2821.params, .int .i64 x2821.result, v2822, v2825] u33 i40 (by kernel_rfl) rfl rfl rfl rfl fun b3221 => hk k47 (srcG 3 rfl (srcG 4 rfl srcG0)) <| ho 1 rfl (by kernel_rfl) fun K48 k49 => tv (lb s33 5 rfl rfl rfl) rfl <| hk k49 (srcG 3 rfl (srcG 4 rfl srcG0)) <| ho 9 rfl (by kernel_rfl) fun K50 k51 => tp [6, 0, 1, 2, 3, 4, 5] [_,_,_,_,_,_,_] rfl rfl <| tf 2 2 [_,_,_,_,_,_] rfl <| tp2 u33 i40 h10 hp (RepL.to (G' := F2823 ++ (F2826)) (RepL.cons (k := kFunc) (x := x2821) ⟨_, _, _, _, rfl, rfl, h2824, h2827⟩ RepL.nil) (by simp)) rfl rfl rfl rfl rfl rfl rfl rfl rfl fun x3621 v3622 F3623 h3624 hp => hk k51 (srcG 1 rfl (srcG 2 rfl srcG0)) <| hv 10 rfl (fa f35_0 rfl) (by kernel_rfl) rfl <| ho 11 rfl (by kernel_rfl) fun K53 k54 => ts 3 m33 rfl rfl h3624.o1 rfl <| hk k54 (srcG 1 rfl (srcG 2 rfl srcG0)) <| hz (by kernel_rfl) <| jn [1, 2, 3, 0] (J18 h3624 hp)
 · exact TC.exit <| jn [1, 2, 3] (J10 h10 (ex_ret hp hx8))

/-! ### fettle/calls.Rings -/
abbrev calls_Rings.R (r : List (List Int)) (v : Value) (A : List FP) : Prop := ∃ (w1 : Value) (G1 : FP), w1 = v ∧ A = [G1] ∧ SlO 25 (kSl 3 (kInt .i64)) r w1 G1
def calls_Rings (a1 : PModule) : Option (List (List Int)) :=
  (calls_found a1).bind fun x5 =>
  (slices_SortFunc_int_int_calls_byFirst x5).bind fun x9 =>
  some x9
theorem calls_Rings_ok {E : World} {H : FP} {w : World} {a1 : PModule} {v2 : Value} {r : List (List Int)} (h3 : SlI kFunc H a1.funcs v2) (hp : calls_Rings a1 = some r) (hst : St E H [] w) :
    Fn Try.prog 27 #[.agg #[v2]] w fun v w' => ∃ A, calls_Rings.R r v A ∧ St E H A w' := by
 refine fb 9 [.tmp 2] Try.func27 rfl rfl rfl rfl rfl hst <| sr <| tb [v2] rfl rfl fun b4 => ta rfl <| nz <| sr <| tv (lA (ds := [v2]) ag_35 0 rfl rfl rfl rfl) rfl <| bE hp fun x5 hy1 hp => tc 0 [_] rfl c61 (fun _ => calls_found_ok (a1 := a1) (h3.mono subH) hy1) rfl ?_
 rintro _ _ ⟨v6, F7, rfl, rfl, h8⟩
 refine ta rfl <| nz <| sr <| tm rfl <| bE hp fun x9 hy3 hp => tc 1 [_] rfl c63 (fun _ => slices_SortFunc_int_int_calls_byFirst_ok (a1 := x5) h8 hy3) rfl ?_
 rintro _ _ ⟨F10, rfl, rfl, h11⟩
 exact nz <| sr <| tm rfl <| ta rfl <| nz <| TC.ret <| rt hp [0] ⟨v6, F10, rfl, rfl, h11⟩

/-! ### fettle/fettleref02.ints -/
abbrev fettleref02_ints.R (r : Bool) (v : Value) (A : List FP) : Prop := .bool r = v ∧ A = []
def fettleref02_ints.nx11  : Option Bool :=
  some true
def fettleref02_ints.bd11 (a1 : List Int) (a4 : List Int) (x7 : Int) : Option (Ex (Ex Bool Unit) Int) :=
  if x7 < (len a1) then
    (idx a1 x7).bind fun x8 =>
    (idx a4 x7).bind fun x14 =>
    if ¬ x8 = x14 then
      some (.ret (.ret false))
    else
      some (.go (w64 (x7 + 1)))
  else
    some (.ret (.go ()))
def fettleref02_ints (a1 : List Int) (a4 : List Int) : Option Bool :=
  if ¬ (len a1) = (len a4) then
    some false
  else
    (whl (fun (s : Int) => fettleref02_ints.bd11 a1 a4 s) FUEL 0).bind fun z =>
    match z with
      | .ret r => some r
      | .go p => fettleref02_ints.nx11
theorem fettleref02_ints_ok {E : World} {H : FP} {w : World} {a1 : List Int} {a4 : List Int} {v2 : Value} {v5 : Value} {r : Bool} (h3 : SlI (kInt .i64) H a1 v2) (h6 : SlI (kInt .i64) H a4 v5) (hp : fettleref02_ints a1 a4 = some r) (hst : St E H [] w) :
    Fn Try.prog 49 #[v2, v5] w fun v w' => ∃ A, fettleref02_ints.R r v A ∧ St E H A w' := by
 refine fb 26 [.tmp 4] Try.func49 rfl rfl rfl rfl rfl hst <| sr <| ta rfl <| nz <| TC.seq fun K1 k2 => sr <| tm rfl <| tv (ln u25 h3 rfl) rfl <| tm rfl <| tv (ln u25 h6 rfl) rfl <| tv (bne rfl rfl) rfl <| nz <| cD rfl hp (fun hc3 hp => ?_) fun hc3 hp => ?_
 · exact sr <| ta rfl <| nz <| TC.ret <| rt hp [] ⟨rfl, rfl⟩
 · refine sk k2 rfl <| TC.seq fun K4 k5 => sr <| ta rfl <| nz <| TC.block <| bE hp fun z_7 hz8 hr9 => ?_
   have J13 {e12} (hq14 : .go () = z_7) : ∀ w, St E H [] w → K4 (ovr e12 []) w := by
    subst hq14
    replace hp : fettleref02_ints.nx11 = some r := hr9
    exact tg k5 <| sr <| ta rfl <| nz <| TC.ret <| rt hp [] ⟨rfl, rfl⟩
   refine lp hz8 [] rfl (fun s e L => ∃ e6, e = ovr e6 [(0, v2), (1, v5), (5, .int .i64 s)] ∧ L = []) ⟨_, ovr_eq _ _ rfl, rfl⟩ ?_
   rintro x7 _ _ ⟨e6, rfl, rfl⟩ X10 hp hx11
   replace hp : fettleref02_ints.bd11 a1 a4 x7 = some X10 := hp
   refine TC.seq fun K15 k16 => sr <| tm rfl <| tm rfl <| tv (ln u25 h3 rfl) rfl <| tv (blt rfl rfl) rfl <| nz <| cD rfl hp (fun hc17 hp => ?_) fun hc17 hp => ?_
   · refine sk k16 rfl <| TC.seq fun K18 k19 => TC.block <| TC.seq fun K20 k21 => cq mix (by kernel_rfl) <| qv mv rfl <| qv mv rfl <| qi u25 i3 h3 hp rfl rfl rfl rfl ?_
     rintro x8 b9 o10 _ hp rfl h13
     refine qv (lr s3 sH h13 0 rfl rfl) rfl <| qv mv rfl <| qv mv rfl <| qi u25 i3 h6 hp rfl rfl rfl rfl ?_
     rintro x14 b15 o16 _ hp rfl h19
     refine qv (lr s3 sH h19 0 rfl rfl) rfl <| qv (bne rfl rfl) rfl <| QL.nil <| tg k21 <| cD rfl hp (fun hc24 hp => ?_) fun hc24 hp => ?_
     · refine sr <| ta rfl <| nz <| TC.ret ?_
       obtain rfl := ex_ret hp hx11
       exact rt hr9 [] ⟨rfl, rfl⟩
     · exact sk k19 rfl <| TC.region <| tm rfl <| tv (bad rfl rfl) rfl <| ta rfl <| nl <| gk hp [] ⟨_, ovr_eq _ _ rfl, rfl⟩
   · exact TC.exit <| jn [] (J13 (ex_ret hp hx11))
end Go.Proofs.Yteaknconpkklhaa
