/- The walk through the program's functions: each one's pure reading, and that a call does what it says. No conditions. -/
import Derived.Test.YtpomfbdbkejedaaE13
set_option linter.unusedVariables false
set_option linter.unusedSimpArgs false
namespace Go.Proofs.Ytpomfbdbkejedaa
open Go Go.Proofs

/-! ### fettle/fettlelaw15.EffectQuiet -/
abbrev fettlelaw15_EffectQuiet.R (r : Bool) (v : Value) (A : List FP) : Prop := .bool r = v ∧ A = []
def fettlelaw15_EffectQuiet.nx45 (x9 : Bool) (x19 : POutcome × GErr) (x30 : Int) (x31 : Bool) : Option Bool :=
  if (!x31) = true ∧ ((!x19.1.done) = true ∨ x19.1.steps > x30) then
    some false
  else
    some (decide (((x9 = true ∧ x19.1.trap = 0) ∧ (len x19.1.out) = 0) ∧ x19.1.memory = A64.zero))
def fettlelaw15_EffectQuiet.nx90 (x27 : Int) (x29 : Int) (x52 : PBlock) (x67 : Bool) : Option (Ex (Int × Bool) (Int × Bool × Int)) :=
  some (.go ((w64 ((w64 (x27 + (len x52.ins))) + 1)), x67, (w64 (x29 + 1))))
def fettlelaw15_EffectQuiet.bd90 (x52 : PBlock) (x65 : Bool) (x66 : Int) : Option (Ex Bool (Bool × Int)) :=
  if x66 < (len x52.ins) then
    (if x65 = true then some true else (idx x52.ins x66).bind fun x69 =>
    some (decide (x69.op = 17))).bind fun t68 =>
    some (.go (t68, (w64 (x66 + 1))))
  else
    some (.ret x65)
def fettlelaw15_EffectQuiet.bd45 (a1 : PModule) (a4 : Int) (x27 : Int) (x28 : Bool) (x29 : Int) : Option (Ex (Int × Bool) (Int × Bool × Int)) :=
  (idx a1.funcs a4).bind fun x32 =>
  if x29 < (len x32.blocks) then
    (idx a1.funcs a4).bind fun x42 =>
    (idx x42.blocks x29).bind fun x52 =>
    (whl (fun (s : (Bool × Int)) => fettlelaw15_EffectQuiet.bd90 x52 s.1 s.2) FUEL (x28, 0)).bind fun z =>
    fettlelaw15_EffectQuiet.nx90 x27 x29 x52 z
  else
    some (.ret (x27, x28))
def fettlelaw15_EffectQuiet (a1 : PModule) (a4 : Int) (a5 : List Int) : Option Bool :=
  (fettlelaw15_up).bind fun x9 =>
  (fettleref02_Small a1).bind fun x10 =>
  if (!x10) = true ∨ (len a5) > 20 then
    some x9
  else
    (effect_Effects a1).bind fun x11 =>
    (if ((¬ x11.2 = GErr.no) ∨ a4 < 0) ∨ a4 ≥ (len x11.1) then some true else (idx x11.1 a4).bind fun x77 =>
    (effect_Quiet x77).bind fun x83 =>
    some (!x83)).bind fun t18 =>
    if t18 = true then
      some x9
    else
      (run_Run a1 a4 a5 200000).bind fun x19 =>
      if ¬ x19.2 = GErr.no then
        some x9
      else
        (whl (fun (s : (Int × Bool × Int)) => fettlelaw15_EffectQuiet.bd45 a1 a4 s.1 s.2.1 s.2.2) FUEL (0, false, 0)).bind fun z =>
        fettlelaw15_EffectQuiet.nx45 x9 x19 z.1 z.2
set_option maxHeartbeats 4000000 in
theorem fettlelaw15_EffectQuiet_ok {E : World} {H : FP} {w : World} {a1 : PModule} {a4 : Int} {a5 : List Int} {v2 : Value} {v6 : Value} {r : Bool} (h3 : SlI kFunc H a1.funcs v2) (h7 : SlI (kInt .i64) H a5 v6) (hp : fettlelaw15_EffectQuiet a1 a4 a5 = some r) (hst : St E H [] w) :
    Fn Try.prog 6 #[.agg #[v2], .int .i64 a4, v6] w fun v w' => ∃ A, fettlelaw15_EffectQuiet.R r v A ∧ St E H A w' := by
 refine fb 139 [.tmp 6] Try.func6 rfl rfl rfl rfl rfl hst <| sr <| tb [v2] rfl rfl fun b8 => ta rfl <| nz <| sr <| bE hp fun x9 hy1 hp => tc 0 [_] rfl c7 (fun _ => fettlelaw15_up_ok hy1) rfl ?_
 rintro _ _ ⟨rfl, rfl⟩
 refine ta rfl <| nz <| sr <| tv (lA (ds := [v2]) ag_24 0 rfl rfl rfl rfl) rfl <| bE hp fun x10 hy3 hp => tc 0 [_] rfl c8 (fun _ => fettleref02_Small_ok (a1 := a1) (h3.mono subH) hy3) rfl ?_
 rintro _ _ ⟨rfl, rfl⟩
 refine ta rfl <| nz <| TC.seq fun K5 k6 => sr <| tm rfl <| tv (rv_not rfl) rfl <| tm rfl <| TL.cut 4 fun K7 k8 => ?_
 have J9 {e11} : ∀ w, St E H [bx b8 24 [v2]] w → K7 (ovr e11 [(27, .bool (decide ((!x10) = true ∨ (len a5) > 20))), (1, .int .i64 a4), (2, v6), (3, .pointer (some ⟨b8, 0, none⟩)), (7, .bool x9)]) w := by
  refine tlg k8 <| nz <| cD rfl hp (fun hc12 hp => ?_) fun hc12 hp => ?_
  · exact sr <| tm rfl <| ta rfl <| nz <| TC.ret <| rt hp [] ⟨rfl, rfl⟩
  · refine sk k6 rfl <| sr <| tv (lA (ds := [v2]) ag_24 0 rfl rfl rfl rfl) rfl <| bE hp fun x11 hy13 hp => tc 0 [_] rfl c10 (fun _ => effect_Effects_ok (a1 := a1) (h3.mono subH) hy13) rfl ?_
    rintro _ _ ⟨v12, F13, v15, F16, rfl, rfl, h14, h17⟩
    refine tm rfl <| tv (xt rfl rfl) rfl <| tv (xt rfl rfl) rfl <| ta rfl <| ta rfl <| nz <| TC.seq fun K15 k16 => sr <| tm rfl <| tv (rv_neqEN ifc_30 h17 rfl) rfl <| tm rfl <| TL.cut 3 fun K17 k18 => ?_
    have J19 {e21} : ∀ w, St E H [F13, F16, bx b8 24 [v2]] w → K17 (ovr e21 [(39, .bool (decide ((¬ x11.2 = GErr.no) ∨ a4 < 0))), (1, .int .i64 a4), (2, v6), (3, .pointer (some ⟨b8, 0, none⟩)), (7, .bool x9), (9, v12)]) w := by
     refine tlg k18 <| tm rfl <| TL.cut 5 fun K22 k23 => ?_
     have J24 {e26} : ∀ w, St E H [F13, F16, bx b8 24 [v2]] w → K22 (ovr e26 [(45, .bool (decide (((¬ x11.2 = GErr.no) ∨ a4 < 0) ∨ a4 ≥ (len x11.1)))), (1, .int .i64 a4), (2, v6), (3, .pointer (some ⟨b8, 0, none⟩)), (7, .bool x9), (9, v12)]) w := by
      refine tlg k23 <| tm rfl <| bE hp fun t18 ht110 hp => TL.cut 7 fun K27 k28 => ?_
      have J29 {e31} : ∀ w, St E H [F13, F16, bx b8 24 [v2]] w → K27 (ovr e31 [(53, .bool t18), (1, .int .i64 a4), (2, v6), (3, .pointer (some ⟨b8, 0, none⟩)), (7, .bool x9)]) w := by
       refine tlg k28 <| nz <| cB rfl hp (fun hc32 hp => ?_) fun hc32 hp => ?_
       · exact sr <| tm rfl <| ta rfl <| nz <| TC.ret <| rt hp [] ⟨rfl, rfl⟩
       · refine sk k16 rfl <| sr <| tv (lA (ds := [v2]) ag_24 2 rfl rfl rfl rfl) rfl <| tm rfl <| tm rfl <| bE hp fun x19 hy33 hp => tc 0 [_,_,_] rfl c20 (fun _ => run_Run_ok (a1 := a1) (a4 := a4) (a5 := a5) (a8 := 200000) (h3.mono subH) (h7.mono subH) hy33) rfl ?_
         rintro _ _ ⟨v20, F21, v23, F24, rfl, rfl, h22, h25⟩
         refine tm rfl <| tv (xt rfl rfl) rfl <| tv (xt rfl rfl) rfl <| tl i57 rfl fun b26 => TL.stB (ds := (([.bool x19.1.done, .int .i64 x19.1.trap, .int .i64 x19.1.value, v20, .int .i64 x19.1.steps] : List Value) ++ (arrC x19.1.memory ++ ([] : List Value)))) (o := 0) (cs := (([.bool false, .int .i64 0, .int .i64 0, .slice none 0 0, .int .i64 0] : List Value) ++ (arrC A64.zero ++ ([] : List Value)))) (b := b26) (u := .agg ((([.bool x19.1.done, .int .i64 x19.1.trap, .int .i64 x19.1.value, v20, .int .i64 x19.1.steps] : List Value) ++ (arrC x19.1.memory ++ ([] : List Value)))).toArray) 0 rfl m57 rfl rfl rfl (one_app (oc rfl (oc rfl (oc rfl (oc (h22).one (oc rfl oc0))))) (one_app (arr_one _) oc0)) (leb rfl) <| TL.respell (b := b26) (T := 57) (cs := over (([.bool false, .int .i64 0, .int .i64 0, .slice none 0 0, .int .i64 0] : List Value) ++ (arrC A64.zero ++ ([] : List Value))) 0 (([.bool x19.1.done, .int .i64 x19.1.trap, .int .i64 x19.1.value, v20, .int .i64 x19.1.steps] : List Value) ++ (arrC x19.1.memory ++ ([] : List Value)))) (ds := (([.bool x19.1.done, .int .i64 x19.1.trap, .int .i64 x19.1.value, v20, .int .i64 x19.1.steps] : List Value) ++ (arrC x19.1.memory ++ ([] : List Value)))) 0 rfl (over_all rfl) <| TL.norm (L' := [bx b26 57 (([.bool x19.1.done, .int .i64 x19.1.trap, .int .i64 x19.1.value, v20, .int .i64 x19.1.steps] : List Value) ++ (arrC x19.1.memory ++ ([] : List Value))), F21, F24, F13, F16, bx b8 24 [v2]]) rfl <| ta rfl <| nz <| TC.seq fun K35 k36 => sr <| tm rfl <| tv (rv_neqEN ifc_30 h25 rfl) rfl <| nz <| cD rfl hp (fun hc37 hp => ?_) fun hc37 hp => ?_
         · exact sr <| tm rfl <| ta rfl <| nz <| TC.ret <| rt hp [] ⟨rfl, rfl⟩
         · refine sk k36 rfl <| sr <| ta rfl <| nz <| sr <| ta rfl <| nz <| TC.seq fun K38 k39 => sr <| ta rfl <| nz <| TC.block <| bE hp fun z_41 hz42 hr43 => ?_
           have J75 {x30 x31 e46} (hq76 : (x30, x31) = z_41) : ∀ w, St E H [bx b26 57 (([.bool x19.1.done, .int .i64 x19.1.trap, .int .i64 x19.1.value, v20, .int .i64 x19.1.steps] : List Value) ++ (arrC x19.1.memory ++ ([] : List Value))), F21] w → K38 (ovr e46 [(7, .bool x9), (11, .pointer (some ⟨b26, 0, none⟩)), (13, .int .i64 x30), (14, .bool x31)]) w := by
            subst hq76
            replace hp : fettlelaw15_EffectQuiet.nx45 x9 x19 x30 x31 = some r := hr43
            refine tg k39 <| TC.seq fun K47 k48 => sr <| tm rfl <| tv (rv_not rfl) rfl <| tm rfl <| TL.cut 10 fun K49 k50 => ?_
            have J51 {e53} : ∀ w, St E H [bx b26 57 (([.bool x19.1.done, .int .i64 x19.1.trap, .int .i64 x19.1.value, v20, .int .i64 x19.1.steps] : List Value) ++ (arrC x19.1.memory ++ ([] : List Value))), F21] w → K49 (ovr e53 [(120, .bool (decide ((!x31) = true ∧ ((!x19.1.done) = true ∨ x19.1.steps > x30)))), (7, .bool x9), (11, .pointer (some ⟨b26, 0, none⟩))]) w := by
             refine tlg k50 <| nz <| cD rfl hp (fun hc54 hp => ?_) fun hc54 hp => ?_
             · exact sr <| ta rfl <| nz <| TC.ret <| rt hp [] ⟨rfl, rfl⟩
             · refine sk k48 rfl <| sr <| tm rfl <| tm rfl <| TL.cut 4 fun K55 k56 => ?_
               have J57 {e59} : ∀ w, St E H [bx b26 57 (([.bool x19.1.done, .int .i64 x19.1.trap, .int .i64 x19.1.value, v20, .int .i64 x19.1.steps] : List Value) ++ (arrC x19.1.memory ++ ([] : List Value))), F21] w → K55 (ovr e59 [(126, .bool (decide (x9 = true ∧ x19.1.trap = 0))), (11, .pointer (some ⟨b26, 0, none⟩))]) w := by
                refine tlg k56 <| tm rfl <| TL.cut 5 fun K60 k61 => ?_
                have J62 {e64} : ∀ w, St E H [bx b26 57 (([.bool x19.1.done, .int .i64 x19.1.trap, .int .i64 x19.1.value, v20, .int .i64 x19.1.steps] : List Value) ++ (arrC x19.1.memory ++ ([] : List Value))), F21] w → K60 (ovr e64 [(132, .bool (decide ((x9 = true ∧ x19.1.trap = 0) ∧ (len x19.1.out) = 0))), (11, .pointer (some ⟨b26, 0, none⟩))]) w := by
                 refine tlg k61 <| tm rfl <| TL.cut 5 fun K65 k66 => ?_
                 have J67 {e69} : ∀ w, St E H [bx b26 57 (([.bool x19.1.done, .int .i64 x19.1.trap, .int .i64 x19.1.value, v20, .int .i64 x19.1.steps] : List Value) ++ (arrC x19.1.memory ++ ([] : List Value))), F21] w → K65 (ovr e69 [(138, .bool (decide (((x9 = true ∧ x19.1.trap = 0) ∧ (len x19.1.out) = 0) ∧ x19.1.memory = A64.zero)))]) w := by
                  exact tlg k66 <| ta rfl <| nz <| TC.ret <| rt hp [] ⟨rfl, rfl⟩
                 by_cases hc68 : (x9 = true ∧ x19.1.trap = 0) ∧ (len x19.1.out) = 0
                 · exact gy rfl (bT hc68) <| tv (fa f57_5 rfl) rfl <| gy rfl (bT hc68) <| tv (lA (ds := (arrC x19.1.memory ++ ([] : List Value))) ag_55 0 rfl rfl rfl rfl) rfl <| gy rfl (bT hc68) <| tv (rv_bv (vs := []) (ds := (arrC A64.zero)) rfl (fun w => by kernel_rfl)) rfl <| gy rfl (bT hc68) <| tv (rv_eqlA al_55 i2 ac_55 ap_55 Try.underlying2 aq_55 (show _ = Value.agg (arrC x19.1.memory).toArray from rfl) (show _ = Value.agg (arrC A64.zero).toArray from rfl)) rfl <| tv (pT (bT hc68)) rfl <| nj J67 (bAt hc68)
                 · exact gn rfl (bF hc68) rfl rfl <| gn rfl (bF hc68) rfl rfl <| gn rfl (bF hc68) rfl rfl <| gn rfl (bF hc68) rfl rfl <| tv (pF (bF hc68)) rfl <| nj J67 (bAf hc68)
                by_cases hc63 : x9 = true ∧ x19.1.trap = 0
                · exact gy rfl (bT hc63) <| tv (fa f57_3 rfl) rfl <| gy rfl (bT hc63) <| tv (lb s54 0 rfl rfl rfl) rfl <| gy rfl (bT hc63) <| tv (ln u54 h22.ro rfl) rfl <| gy rfl (bT hc63) <| tv (beq rfl rfl) rfl <| tv (pT (bT hc63)) rfl <| nj J62 (bAt hc63)
                · exact gn rfl (bF hc63) rfl rfl <| gn rfl (bF hc63) rfl rfl <| gn rfl (bF hc63) rfl rfl <| gn rfl (bF hc63) rfl rfl <| tv (pF (bF hc63)) rfl <| nj J62 (bAf hc63)
               by_cases hc58 : x9 = true
               · exact gy rfl (bbT hc58) <| tv (fa f57_1 rfl) rfl <| gy rfl (bbT hc58) <| tv (lb s3 0 rfl rfl rfl) rfl <| gy rfl (bbT hc58) <| tv (beq rfl rfl) rfl <| tv (pT (bbT hc58)) rfl <| nj J57 (bAt hc58)
               · exact gn rfl (bbF hc58) rfl rfl <| gn rfl (bbF hc58) rfl rfl <| gn rfl (bbF hc58) rfl rfl <| tv (pF (bbF hc58)) rfl <| nj J57 (bAf hc58)
            by_cases hc52 : (!x31) = true
            · refine gy rfl (bbT hc52) <| tv (fa f57_0 rfl) rfl <| gy rfl (bbT hc52) <| tv (lb s4 0 rfl rfl rfl) rfl <| gy rfl (bbT hc52) <| tv (rv_not rfl) rfl <| gy rfl (bbT hc52) <| tm rfl <| TL.cut 5 fun K70 k71 => ?_
              have J72 {e74} : ∀ w, St E H [bx b26 57 (([.bool x19.1.done, .int .i64 x19.1.trap, .int .i64 x19.1.value, v20, .int .i64 x19.1.steps] : List Value) ++ (arrC x19.1.memory ++ ([] : List Value))), F21] w → K70 (ovr e74 [(119, .bool (decide ((!x19.1.done) = true ∨ x19.1.steps > x30))), (7, .bool x9), (11, .pointer (some ⟨b26, 0, none⟩)), (110, .bool (!x31))]) w := by
               exact tlg k71 <| tv (pT (bbT hc52)) rfl <| nj J51 (bAt hc52)
              by_cases hc73 : (!x19.1.done) = true
              · exact gn rfl (bbT hc73) rfl rfl <| gn rfl (bbT hc73) rfl rfl <| gn rfl (bbT hc73) rfl rfl <| gn rfl (bbT hc73) rfl rfl <| gy rfl (bbT hc52) <| tv (pT (bbT hc73)) rfl <| nj J72 (bOt hc73)
              · exact gy rfl (bbF hc73) <| tv (fa f57_4 rfl) rfl <| gy rfl (bbF hc73) <| tv (lb s3 0 rfl rfl rfl) rfl <| gy rfl (bbF hc73) <| tm rfl <| gy rfl (bbF hc73) <| tv (bgt rfl rfl) rfl <| gy rfl (bbT hc52) <| tv (pF (bbF hc73)) rfl <| nj J72 (bOf hc73)
            · exact gn rfl (bbF hc52) rfl rfl <| gn rfl (bbF hc52) rfl rfl <| gn rfl (bbF hc52) rfl rfl <| gn rfl (bbF hc52) rfl rfl <| gu rfl rfl rfl <| gu rfl rfl rfl <| gu rfl rfl rfl <| gu rfl rfl rfl <| gn rfl (bbF hc52) rfl rfl <| tv (pF (bbF hc52)) rfl <| nj J51 (bAf hc52)
           refine lp hz42 [5, 0, 1] rfl (fun s e L => ∃ x27 x28 x29 e40, s = (x27, x28, x29) ∧ e = ovr e40 [(1, .int .i64 a4), (3, .pointer (some ⟨b8, 0, none⟩)), (7, .bool x9), (11, .pointer (some ⟨b26, 0, none⟩)), (13, .int .i64 x27), (14, .bool x28), (15, .int .i64 x29)] ∧ L = [bx b8 24 [v2], bx b26 57 (([.bool x19.1.done, .int .i64 x19.1.trap, .int .i64 x19.1.value, v20, .int .i64 x19.1.steps] : List Value) ++ (arrC x19.1.memory ++ ([] : List Value))), F21]) ⟨_, _, _, _, rfl, ovr_eq _ _ rfl, rfl⟩ ?_
           rintro _ _ _ ⟨x27, x28, x29, e40, rfl, rfl, rfl⟩ X44 hp hx45
           replace hp : fettlelaw15_EffectQuiet.bd45 a1 a4 x27 x28 x29 = some X44 := hp
           refine TC.seq fun K77 k78 => sr <| tm rfl <| tv (fa f24_0 rfl) rfl <| tv (lb s22 0 rfl rfl rfl) rfl <| tm rfl <| ti u22 i39 h3 hp rfl rfl rfl rfl ?_
           rintro x32 b33 o34 _ hp ⟨v38, v40, rfl, h39, h41⟩ h37
           refine tv (fa f39_3 rfl) rfl <| tv (lr s37 sH h37 3 rfl rfl) rfl <| tv (ln u37 h41 rfl) rfl <| tv (blt rfl rfl) rfl <| nz <| cD rfl hp (fun hc80 hp => ?_) fun hc80 hp => ?_
           · refine sk k78 rfl <| TC.seq fun K81 k82 => TC.block <| sr <| tv (fa f24_0 rfl) rfl <| tv (lb s22 0 rfl rfl rfl) rfl <| tm rfl <| ti u22 i39 h3 hp rfl rfl rfl rfl ?_
             rintro x42 b43 o44 _ hp ⟨v48, v50, rfl, h49, h51⟩ h47
             refine tv (fa f39_3 rfl) rfl <| tv (lr s37 sH h47 3 rfl rfl) rfl <| tm rfl <| ti u37 i45 h51 hp rfl rfl rfl rfl ?_
             rintro x52 b53 o54 _ hp ⟨v58, v60, v62, rfl, h59, h61, h63⟩ h57
             refine tv (lR (ds := [v58, v60, .int .i64 x52.term.kind, .int .i64 x52.term.arg, v62]) ag_45 sH h57 0 rfl rfl rfl) rfl <| tl i45 rfl fun b64 => tS 0 m45 rfl rfl [v58, v60, .int .i64 x52.term.kind, .int .i64 x52.term.arg, v62] rfl (oc (h59).one (oc (h61).one (oc rfl (oc rfl (oc (h63).one oc0))))) rfl rfl <| nz <| sr <| tm rfl <| tv (fa f45_1 rfl) rfl <| tv (lb s41 0 rfl rfl rfl) rfl <| tv (ln u41 h61 rfl) rfl <| tv (bad rfl rfl) rfl <| tv (bad rfl rfl) rfl <| ta rfl <| nz <| sr <| ta rfl <| nz <| TC.block <| bE hp fun z_86 hz87 hr88 => ?_
             have J92 {x67 e91} (hq93 : x67 = z_86) : ∀ w, St E H [bx b8 24 [v2], bx b26 57 (([.bool x19.1.done, .int .i64 x19.1.trap, .int .i64 x19.1.value, v20, .int .i64 x19.1.steps] : List Value) ++ (arrC x19.1.memory ++ ([] : List Value))), F21] w → K81 (ovr e91 [(1, .int .i64 a4), (3, .pointer (some ⟨b8, 0, none⟩)), (7, .bool x9), (11, .pointer (some ⟨b26, 0, none⟩)), (13, .int .i64 (w64 ((w64 (x27 + (len x52.ins))) + 1))), (14, .bool x67), (15, .int .i64 x29)]) w := by
              subst hq93
              replace hp : fettlelaw15_EffectQuiet.nx90 x27 x29 x52 x67 = some X44 := hr88
              exact tg k82 <| TC.region <| tm rfl <| tv (bad rfl rfl) rfl <| ta rfl <| nl <| gk hp [0, 1, 2] ⟨_, _, _, _, rfl, ovr_eq _ _ rfl, rfl⟩
             refine lp hz87 [1, 2, 3, 0] rfl (fun s e L => ∃ x65 x66 e85, s = (x65, x66) ∧ e = ovr e85 [(1, .int .i64 a4), (3, .pointer (some ⟨b8, 0, none⟩)), (7, .bool x9), (11, .pointer (some ⟨b26, 0, none⟩)), (13, .int .i64 (w64 ((w64 (x27 + (len x52.ins))) + 1))), (14, .bool x65), (15, .int .i64 x29), (16, .pointer (some ⟨b64, 0, none⟩)), (17, .int .i64 x66)] ∧ L = [bx b8 24 [v2], bx b26 57 (([.bool x19.1.done, .int .i64 x19.1.trap, .int .i64 x19.1.value, v20, .int .i64 x19.1.steps] : List Value) ++ (arrC x19.1.memory ++ ([] : List Value))), F21, bx b64 45 [v58, v60, .int .i64 x52.term.kind, .int .i64 x52.term.arg, v62]]) ⟨_, _, _, rfl, ovr_eq _ _ rfl, rfl⟩ ?_
             rintro _ _ _ ⟨x65, x66, e85, rfl, rfl, rfl⟩ X89 hp hx90
             replace hp : fettlelaw15_EffectQuiet.bd90 x52 x65 x66 = some X89 := hp
             refine TC.seq fun K94 k95 => sr <| tm rfl <| tv (fa f45_1 rfl) rfl <| tv (lb s41 3 rfl rfl rfl) rfl <| tv (ln u41 h61 rfl) rfl <| tv (blt rfl rfl) rfl <| nz <| cD rfl hp (fun hc96 hp => ?_) fun hc96 hp => ?_
             · refine sk k95 rfl <| TC.seq fun K97 k98 => TC.block <| TC.region <| tm rfl <| tm rfl <| bE hp fun t68 ht104 hp => TL.cut 8 fun K99 k100 => ?_
               have J101 {e103} : ∀ w, St E H [bx b8 24 [v2], bx b26 57 (([.bool x19.1.done, .int .i64 x19.1.trap, .int .i64 x19.1.value, v20, .int .i64 x19.1.steps] : List Value) ++ (arrC x19.1.memory ++ ([] : List Value))), F21, bx b64 45 [v58, v60, .int .i64 x52.term.kind, .int .i64 x52.term.arg, v62]] w → K99 (ovr e103 [(107, .bool t68), (1, .int .i64 a4), (3, .pointer (some ⟨b8, 0, none⟩)), (7, .bool x9), (11, .pointer (some ⟨b26, 0, none⟩)), (13, .int .i64 (w64 ((w64 (x27 + (len x52.ins))) + 1))), (15, .int .i64 x29), (16, .pointer (some ⟨b64, 0, none⟩)), (17, .int .i64 x66)]) w := by
                exact tlg k100 <| ta rfl <| nl <| tg k98 <| TC.region <| tm rfl <| tv (bad rfl rfl) rfl <| ta rfl <| nl <| gk hp [0, 1, 2, 3] ⟨_, _, _, rfl, ovr_eq _ _ rfl, rfl⟩
               refine ifE ht104 (fun hc102 hp => ?_) fun hc102 hp => ?_
               · refine gn rfl (bbT hc102) rfl rfl <| gn rfl (bbT hc102) rfl rfl <| gn rfl (bbT hc102) rfl rfl <| gn rfl (bbT hc102) rfl rfl <| gn rfl (bbT hc102) rfl rfl <| gn rfl (bbT hc102) rfl rfl <| gn rfl (bbT hc102) rfl rfl <| tv (pT (bbT hc102)) rfl ?_
                 obtain rfl := Option.some.inj hp
                 exact nj J101 rfl
               · refine gy rfl (bbF hc102) <| tv (fa f45_1 rfl) rfl <| gy rfl (bbF hc102) <| tv (lb s41 3 rfl rfl rfl) rfl <| gy rfl (bbF hc102) <| tm rfl <| gy rfl (bbF hc102) <| ti u41 i49 h61 hp rfl rfl rfl rfl ?_
                 rintro x69 b70 o71 _ hp ⟨v75, rfl, h76⟩ h74
                 refine gy rfl (bbF hc102) <| tv (fa f49_0 rfl) rfl <| gy rfl (bbF hc102) <| tv (lr s3 sH h74 0 rfl rfl) rfl <| gy rfl (bbF hc102) <| tv (beq rfl rfl) rfl <| tv (pF (bbF hc102)) rfl ?_
                 obtain rfl := Option.some.inj hp
                 exact nj J101 rfl
             · exact TC.exit <| jn [0, 1, 2] (J92 (ex_ret hp hx90))
           · exact TC.exit <| jn [1, 2] (J75 (ex_ret hp hx45))
      refine ifE ht110 (fun hc30 hp => ?_) fun hc30 hp => ?_
      · refine gn rfl (bT hc30) rfl rfl <| gn rfl (bT hc30) rfl rfl <| gn rfl (bT hc30) rfl rfl <| gn rfl (bT hc30) rfl rfl <| gn rfl (bT hc30) rfl rfl <| gn rfl (bT hc30) rfl rfl <| tv (pT (bT hc30)) rfl ?_
        obtain rfl := Option.some.inj hp
        exact nj J29 rfl
      · refine gy rfl (bF hc30) <| tm rfl <| gy rfl (bF hc30) <| tm rfl <| gy rfl (bF hc30) <| ti u28 i34 (h14).ro hp rfl rfl rfl rfl ?_
        rintro x77 b78 o79 _ hp rfl h82
        refine gy rfl (bF hc30) <| tv (lR (ds := [.bool x77.reads, .bool x77.writes, .bool x77.outs, .bool x77.traps, .bool x77.turns]) ag_34 (Src.at_ 0 rfl) h82 0 rfl rfl rfl) rfl <| gy rfl (bF hc30) <| bE hp fun x83 hy112 hp => tc 0 [_,_,_] rfl c13 (fun _ => effect_Quiet_ok (a1 := x77) hy112) rfl ?_
        rintro _ _ ⟨rfl, rfl⟩
        refine gy rfl (bF hc30) <| tv (rv_not rfl) rfl <| tv (pF (bF hc30)) rfl ?_
        obtain rfl := Option.some.inj hp
        exact nj J29 rfl
     by_cases hc25 : (¬ x11.2 = GErr.no) ∨ a4 < 0
     · exact gn rfl (bT hc25) rfl rfl <| gn rfl (bT hc25) rfl rfl <| gn rfl (bT hc25) rfl rfl <| gn rfl (bT hc25) rfl rfl <| tv (pT (bT hc25)) rfl <| nj J24 (bOt hc25)
     · exact gy rfl (bF hc25) <| tm rfl <| gy rfl (bF hc25) <| tm rfl <| gy rfl (bF hc25) <| tv (ln u28 h14.ro rfl) rfl <| gy rfl (bF hc25) <| tv (bge rfl rfl) rfl <| tv (pF (bF hc25)) rfl <| nj J24 (bOf hc25)
    by_cases hc20 : ¬ x11.2 = GErr.no
    · exact gn rfl (bT hc20) rfl rfl <| gn rfl (bT hc20) rfl rfl <| tv (pT (bT hc20)) rfl <| nj J19 (bOt hc20)
    · exact gy rfl (bF hc20) <| tm rfl <| gy rfl (bF hc20) <| tv (blt rfl rfl) rfl <| tv (pF (bF hc20)) rfl <| nj J19 (bOf hc20)
 by_cases hc10 : (!x10) = true
 · exact gn rfl (bbT hc10) rfl rfl <| gn rfl (bbT hc10) rfl rfl <| gn rfl (bbT hc10) rfl rfl <| tv (pT (bbT hc10)) rfl <| nj J9 (bOt hc10)
 · exact gy rfl (bbF hc10) <| tm rfl <| gy rfl (bbF hc10) <| tv (ln u54 h7 rfl) rfl <| gy rfl (bbF hc10) <| tv (bgt rfl rfl) rfl <| tv (pF (bbF hc10)) rfl <| nj J9 (bOf hc10)
end Go.Proofs.Ytpomfbdbkejedaa
