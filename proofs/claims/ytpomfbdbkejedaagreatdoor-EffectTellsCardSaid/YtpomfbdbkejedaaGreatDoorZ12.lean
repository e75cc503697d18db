/- The walk through the program's functions: each one's pure reading, and that a call does what it says. No conditions. -/
import Derived.Test.YtpomfbdbkejedaaGreatDoorZ11
set_option linter.unusedVariables false
set_option linter.unusedSimpArgs false
namespace Go.Proofs.YtpomfbdbkejedaaGreatDoor
open Go Go.Proofs

/-! ### fettle/fettlelaw15.EffectTells -/
abbrev fettlelaw15_EffectTells.R (r : Bool) (v : Value) (A : List FP) : Prop := .bool r = v ∧ A = []
def fettlelaw15_EffectTells.nx49 (x5 : Bool) : Option Bool :=
  some x5
def fettlelaw15_EffectTells.bd49 (x7 : List PEffect × GErr) (x16 : List PEffect) (x20 : Int) : Option (Ex (Ex Bool Unit) Int) :=
  if x20 < (len x7.1) then
    (idx x7.1 x20).bind fun x21 =>
    (idx x16 x20).bind fun x27 =>
    if ¬ x21 = x27 then
      some (.ret (.ret false))
    else
      some (.go (w64 (x20 + 1)))
  else
    some (.ret (.go ()))
def fettlelaw15_EffectTells (a1 : PModule) : Option Bool :=
  (fettlelaw15_up).bind fun x5 =>
  (fettleref02_Small a1).bind fun x6 =>
  if (!x6) = true then
    some x5
  else
    (effect_Effects a1).bind fun x7 =>
    (fettlelaw00_Of x7.2).bind fun x14 =>
    (fettleref02_Module a1).bind fun x15 =>
    if ¬ x15.1 = 0 then
      some (decide (((x5 = true ∧ x14.1 = x15.1) ∧ x14.2 = x15.2) ∧ (len x7.1) = 0))
    else
      (fettleref15_Effects a1).bind fun x16 =>
      if (¬ x7.2 = GErr.no) ∨ (¬ (len x7.1) = (len x16)) then
        some false
      else
        (whl (fun (s : Int) => fettlelaw15_EffectTells.bd49 x7 x16 s) FUEL 0).bind fun z =>
        match z with
          | .ret r => some r
          | .go p => fettlelaw15_EffectTells.nx49 x5
set_option maxHeartbeats 4000000 in
theorem fettlelaw15_EffectTells_ok {E : World} {H : FP} {w : World} {a1 : PModule} {v2 : Value} {r : Bool} (hG : GV H) (h3 : SlI kFunc H a1.funcs v2) (hp : fettlelaw15_EffectTells a1 = some r) (hst : St E H [] w) :
    Fn Tryz.prog 3 #[.agg #[v2]] w fun v w' => ∃ A, fettlelaw15_EffectTells.R r v A ∧ St E H A w' := by
 refine fb 79 [.tmp 2] Tryz.func3 rfl rfl rfl rfl rfl hst <| sr <| tb [v2] rfl rfl fun b4 => ta rfl <| nz <| sr <| bE hp fun x5 hy1 hp => tc 0 [_] rfl c4 (fun _ => fettlelaw15_up_ok hy1) rfl ?_
 rintro _ _ ⟨rfl, rfl⟩
 refine ta rfl <| nz <| sr <| tv (lA (ds := [v2]) ag_24 0 rfl rfl rfl rfl) rfl <| bE hp fun x6 hy3 hp => tc 0 [_] rfl c5 (fun _ => fettleref02_Small_ok (a1 := a1) (h3.mono subH) hy3) rfl ?_
 rintro _ _ ⟨rfl, rfl⟩
 refine ta rfl <| nz <| TC.seq fun K5 k6 => sr <| tm rfl <| tv (rv_not rfl) rfl <| nz <| cB rfl hp (fun hc7 hp => ?_) fun hc7 hp => ?_
 · exact sr <| tm rfl <| ta rfl <| nz <| TC.ret <| rt hp [] ⟨rfl, rfl⟩
 · refine sk k6 rfl <| sr <| tv (lA (ds := [v2]) ag_24 0 rfl rfl rfl rfl) rfl <| bE hp fun x7 hy8 hp => tc 0 [_] rfl c6 (fun _ => effect_Effects_ok (a1 := a1) (h3.mono subH) hy8) rfl ?_
   rintro _ _ ⟨v8, F9, v11, F12, rfl, rfl, h10, h13⟩
   refine tm rfl <| tv (xt rfl rfl) rfl <| tv (xt rfl rfl) rfl <| ta rfl <| ta rfl <| nz <| sr <| tm rfl <| bE hp fun x14 hy10 hp => tc 0 [_,_,_] rfl c7 (fun _ => fettlelaw00_Of_ok (x := x7.2) (hG.more _) (subB 1 rfl) h13 hy10) rfl ?_
   rintro _ _ ⟨rfl, rfl⟩
   refine tm rfl <| tv (xt rfl rfl) rfl <| tv (xt rfl rfl) rfl <| ta rfl <| ta rfl <| nz <| sr <| tv (lA (ds := [v2]) ag_24 2 rfl rfl rfl rfl) rfl <| bE hp fun x15 hy12 hp => tc 0 [_,_,_] rfl c8 (fun _ => fettleref02_Module_ok (a1 := a1) (h3.mono subH) hy12) rfl ?_
   rintro _ _ ⟨rfl, rfl⟩
   refine tm rfl <| tv (xt rfl rfl) rfl <| tv (xt rfl rfl) rfl <| ta rfl <| ta rfl <| nz <| TC.seq fun K14 k15 => sr <| tm rfl <| tv (bne rfl rfl) rfl <| nz <| cD rfl hp (fun hc16 hp => ?_) fun hc16 hp => ?_
   · refine sr <| tm rfl <| tm rfl <| TL.cut 4 fun K17 k18 => ?_
     have J19 {e21} : ∀ w, St E H [F9, F12, bx b4 24 [v2]] w → K17 (ovr e21 [(41, .bool (decide (x5 = true ∧ x14.1 = x15.1))), (5, v8), (8, .int .i64 x14.2), (10, .int .i64 x15.2)]) w := by
      refine tlg k18 <| tm rfl <| TL.cut 4 fun K22 k23 => ?_
      have J24 {e26} : ∀ w, St E H [F9, F12, bx b4 24 [v2]] w → K22 (ovr e26 [(46, .bool (decide ((x5 = true ∧ x14.1 = x15.1) ∧ x14.2 = x15.2))), (5, v8)]) w := by
       refine tlg k23 <| tm rfl <| TL.cut 4 fun K27 k28 => ?_
       have J29 {e31} : ∀ w, St E H [F9, F12, bx b4 24 [v2]] w → K27 (ovr e31 [(51, .bool (decide (((x5 = true ∧ x14.1 = x15.1) ∧ x14.2 = x15.2) ∧ (len x7.1) = 0)))]) w := by
        exact tlg k28 <| ta rfl <| nz <| TC.ret <| rt hp [] ⟨rfl, rfl⟩
       by_cases hc30 : (x5 = true ∧ x14.1 = x15.1) ∧ x14.2 = x15.2
       · exact gy rfl (bT hc30) <| tm rfl <| gy rfl (bT hc30) <| tv (ln u27 h10.ro rfl) rfl <| gy rfl (bT hc30) <| tv (beq rfl rfl) rfl <| tv (pT (bT hc30)) rfl <| nj J29 (bAt hc30)
       · exact gn rfl (bF hc30) rfl rfl <| gn rfl (bF hc30) rfl rfl <| gn rfl (bF hc30) rfl rfl <| tv (pF (bF hc30)) rfl <| nj J29 (bAf hc30)
      by_cases hc25 : x5 = true ∧ x14.1 = x15.1
      · exact gy rfl (bT hc25) <| tm rfl <| gy rfl (bT hc25) <| tm rfl <| gy rfl (bT hc25) <| tv (beq rfl rfl) rfl <| tv (pT (bT hc25)) rfl <| nj J24 (bAt hc25)
      · exact gn rfl (bF hc25) rfl rfl <| gn rfl (bF hc25) rfl rfl <| gn rfl (bF hc25) rfl rfl <| tv (pF (bF hc25)) rfl <| nj J24 (bAf hc25)
     by_cases hc20 : x5 = true
     · exact gy rfl (bbT hc20) <| tm rfl <| gy rfl (bbT hc20) <| tm rfl <| gy rfl (bbT hc20) <| tv (beq rfl rfl) rfl <| tv (pT (bbT hc20)) rfl <| nj J19 (bAt hc20)
     · exact gn rfl (bbF hc20) rfl rfl <| gn rfl (bbF hc20) rfl rfl <| gn rfl (bbF hc20) rfl rfl <| tv (pF (bbF hc20)) rfl <| nj J19 (bAf hc20)
   · refine sk k15 rfl <| sr <| tv (lA (ds := [v2]) ag_24 2 rfl rfl rfl rfl) rfl <| bE hp fun x16 hy32 hp => tc 0 [_,_,_] rfl c9 (fun _ => fettleref15_Effects_ok (a1 := a1) (h3.mono subH) hy32) rfl ?_
     rintro _ _ ⟨v17, F18, rfl, rfl, h19⟩
     refine ta rfl <| nz <| TC.seq fun K34 k35 => sr <| tm rfl <| tv (rv_neqEN ifc_29 h13 rfl) rfl <| tm rfl <| TL.cut 6 fun K36 k37 => ?_
     have J38 {e40} : ∀ w, St E H [F18, F9, F12, bx b4 24 [v2]] w → K36 (ovr e40 [(62, .bool (decide ((¬ x7.2 = GErr.no) ∨ (¬ (len x7.1) = (len x16))))), (3, .bool x5), (5, v8), (11, v17)]) w := by
      refine tlg k37 <| nz <| cD rfl hp (fun hc41 hp => ?_) fun hc41 hp => ?_
      · exact sr <| ta rfl <| nz <| TC.ret <| rt hp [] ⟨rfl, rfl⟩
      · refine sk k35 rfl <| TC.seq fun K42 k43 => sr <| ta rfl <| nz <| TC.block <| bE hp fun z_45 hz46 hr47 => ?_
        have J51 {e50} (hq52 : .go () = z_45) : ∀ w, St E H [] w → K42 (ovr e50 [(3, .bool x5)]) w := by
         subst hq52
         replace hp : fettlelaw15_EffectTells.nx49 x5 = some r := hr47
         exact tg k43 <| sr <| tm rfl <| ta rfl <| nz <| TC.ret <| rt hp [] ⟨rfl, rfl⟩
        refine lp hz46 [1, 0] rfl (fun s e L => ∃ e44, e = ovr e44 [(3, .bool x5), (5, v8), (11, v17), (12, .int .i64 s)] ∧ L = [F9, F18]) ⟨_, ovr_eq _ _ rfl, rfl⟩ ?_
        rintro x20 _ _ ⟨e44, rfl, rfl⟩ X48 hp hx49
        replace hp : fettlelaw15_EffectTells.bd49 x7 x16 x20 = some X48 := hp
        refine TC.seq fun K53 k54 => sr <| tm rfl <| tm rfl <| tv (ln u27 h10.ro rfl) rfl <| tv (blt rfl rfl) rfl <| nz <| cD rfl hp (fun hc55 hp => ?_) fun hc55 hp => ?_
        · refine sk k54 rfl <| TC.seq fun K56 k57 => TC.block <| TC.seq fun K58 k59 => cq mix (by kernel_rfl) <| qv mv rfl <| qv mv rfl <| qi u27 i37 (h10).ro hp rfl rfl rfl rfl ?_
          rintro x21 b22 o23 _ hp rfl h26
          refine qv (lR (ds := [.bool x21.reads, .bool x21.writes, .bool x21.outs, .bool x21.traps, .bool x21.turns]) ag_37 (Src.at_ 0 rfl) h26 0 rfl rfl rfl) rfl <| qv mv rfl <| qv mv rfl <| qi u27 i37 (h19).ro hp rfl rfl rfl rfl ?_
          rintro x27 b28 o29 _ hp rfl h32
          refine qv (lR (ds := [.bool x27.reads, .bool x27.writes, .bool x27.outs, .bool x27.traps, .bool x27.turns]) ag_37 (Src.at_ 1 rfl) h32 0 rfl rfl rfl) rfl <| qv (neS37 (a := x21) (b := x27) rfl rfl) rfl <| QL.nil <| tg k59 <| cD rfl hp (fun hc62 hp => ?_) fun hc62 hp => ?_
          · refine sr <| ta rfl <| nz <| TC.ret ?_
            obtain rfl := ex_ret hp hx49
            exact rt hr47 [] ⟨rfl, rfl⟩
          · exact sk k57 rfl <| TC.region <| tm rfl <| tv (bad rfl rfl) rfl <| ta rfl <| nl <| gk hp [0, 1] ⟨_, ovr_eq _ _ rfl, rfl⟩
        · exact TC.exit <| jn [] (J51 (ex_ret hp hx49))
     by_cases hc39 : ¬ x7.2 = GErr.no
     · exact gn rfl (bT hc39) rfl rfl <| gn rfl (bT hc39) rfl rfl <| gn rfl (bT hc39) rfl rfl <| gn rfl (bT hc39) rfl rfl <| gn rfl (bT hc39) rfl rfl <| tv (pT (bT hc39)) rfl <| nj J38 (bOt hc39)
     · exact gy rfl (bF hc39) <| tm rfl <| gy rfl (bF hc39) <| tv (ln u27 h10.ro rfl) rfl <| gy rfl (bF hc39) <| tm rfl <| gy rfl (bF hc39) <| tv (ln u27 h19.ro rfl) rfl <| gy rfl (bF hc39) <| tv (bne rfl rfl) rfl <| tv (pF (bF hc39)) rfl <| nj J38 (bOf hc39)
end Go.Proofs.YtpomfbdbkejedaaGreatDoor
