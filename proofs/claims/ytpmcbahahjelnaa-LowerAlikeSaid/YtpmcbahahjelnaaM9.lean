/- The walk through the program's functions: each one's pure reading, and that a call does what it says. No conditions. -/
import Derived.Test.YtpmcbahahjelnaaM8
set_option linter.unusedVariables false
set_option linter.unusedSimpArgs false
namespace Go.Proofs.Ytpmcbahahjelnaa
open Go Go.Proofs

/-! ### fettle/lower.Lower -/
abbrev lower_Lower.R (r : PFunc × GErr) (v : Value) (A : List FP) : Prop := ∃ (w1 : Value) (G1 : FP) (w2 : Value) (G2 : FP) (w3 : Value) (G3 : FP), .tuple #[.agg #[.int .i64 r.1.params, .int .i64 r.1.result, w1, w2], w3] = v ∧ A = [G1, G2, G3] ∧ SlO 3 (kInt .i64) r.1.regs w1 G1 ∧ SlO 50 kBlock r.1.blocks w2 G2 ∧ ErO 63 106 108 r.2 w3 G3
def lower_Lower.nx44 (x13 : PFunc) (x5643 : List Int) (x5647 : List PBlock) (x5653 : Int) : Option (PFunc × GErr) :=
  if (x5653 > 256 ∨ (len x5643) > 256) ∨ (len x5647) > 64 then
    some ((⟨0, 0, ([] : List Int), ([] : List PBlock)⟩ : PFunc), (GErr.code 5))
  else
    some ((⟨x13.params, x13.result, x5643, x5647⟩ : PFunc), GErr.no)
def lower_Lower.bd44 (x5647 : List PBlock) (x5651 : Int) (x5652 : Int) : Option (Ex Int (Int × Int)) :=
  if x5652 < (len x5647) then
    (idx x5647 x5652).bind fun x5658 =>
    some (.go ((w64 (x5651 + (w64 ((len x5658.ins) + 1)))), (w64 (x5652 + 1))))
  else
    some (.ret x5651)
def lower_Lower.nx35 (x13 : PFunc) (x5643 : List Int) (x5647 : List PBlock) : Option (PFunc × GErr) :=
  (whl (fun (s : (Int × Int)) => lower_Lower.bd44 x5647 s.1 s.2) FUEL (0, 0)).bind fun z =>
  lower_Lower.nx44 x13 x5643 x5647 z
def lower_Lower.bd35 (x13 : PFunc) (x825 : List (List Int)) (x5634 : List Int) (x5638 : List PBlock) (x5642 : Int) : Option (Ex (Ex (PFunc × GErr) (List Int × List PBlock)) (List Int × List PBlock × Int)) :=
  if x5642 < (len x13.blocks) then
    (lower_lowerer_block (⟨(⟨x13.params, x13.result, x13.regs, x13.blocks⟩ : PFunc), x825, (⟨x13.params, x13.result, x5634, x5638⟩ : PFunc)⟩ : PLowerer) x5642).bind fun x5671 =>
    if ¬ x5671.1 = GErr.no then
      some (.ret (.ret ((⟨0, 0, ([] : List Int), ([] : List PBlock)⟩ : PFunc), x5671.1)))
    else
      some (.go (x5671.2.1, x5671.2.2, (w64 (x5642 + 1))))
  else
    some (.ret (.go (x5634, x5638)))
def lower_Lower.nx26 (x13 : PFunc) (x825 : List (List Int)) (x3625 : List Int) (x5630 : List PBlock) : Option (PFunc × GErr) :=
  (whl (fun (s : (List Int × List PBlock × Int)) => lower_Lower.bd35 x13 x825 s.1 s.2.1 s.2.2) FUEL (x3625, x5630, 0)).bind fun z =>
  match z with
    | .ret r => some r
    | .go p => lower_Lower.nx35 x13 p.1 p.2
def lower_Lower.jn89 (x5629 : Int) (x5683 : List PBlock) : Option (Ex (List PBlock) (List PBlock × Int)) :=
  some (.go (x5683, (w64 (x5629 + 1))))
def lower_Lower.bd26 (x13 : PFunc) (x5625 : List PBlock) (x5629 : Int) : Option (Ex (List PBlock) (List PBlock × Int)) :=
  if x5629 < (len x13.blocks) then
    (idx x13.blocks x5629).bind fun x5687 =>
    (lower_copied x5687).bind fun x8501 =>
    (cat x5625 [x8501]).bind fun x9301 =>
    lower_Lower.jn89 x5629 x9301
  else
    some (.ret x5625)
def lower_Lower (a1 : PModule) (a4 : Int) : Option (PFunc × GErr) :=
  (proper_Form a1 a4).bind fun x7 =>
  if ¬ x7 = GErr.no then
    some ((⟨0, 0, ([] : List Int), ([] : List PBlock)⟩ : PFunc), x7)
  else
    (idx a1.funcs a4).bind fun x13 =>
    (check_Ahead x13).bind fun x825 =>
    (slices_Clone x13.regs).bind fun x3625 =>
    (whl (fun (s : (List PBlock × Int)) => lower_Lower.bd26 x13 s.1 s.2) FUEL (([] : List PBlock), 0)).bind fun z =>
    lower_Lower.nx26 x13 x825 x3625 z
set_option maxHeartbeats 4000000 in
theorem lower_Lower_ok {E : World} {H : FP} {w : World} {a1 : PModule} {a4 : Int} {v2 : Value} {r : PFunc × GErr} (h3 : SlI kFunc H a1.funcs v2) (hp : lower_Lower a1 a4 = some r) (hst : St E H [] w) :
    Fn Try.prog 13 #[.agg #[v2], .int .i64 a4] w fun v w' => ∃ A, lower_Lower.R r v A ∧ St E H A w' := by
 refine Fn.bodyV (fn := Try.f13) (args := [.agg #[v2], .int .i64 a4]) E H [] 119 Try.func13 rfl rfl (leb rfl) hst <| sr <| tb [v2] rfl rfl fun b5 => tl i41 rfl fun b6 => ta rfl <| nz <| TC.seq fun K1 k2 => sr <| tv (lA (ds := [v2]) ag_35 1 rfl rfl rfl rfl) rfl <| tm rfl <| bE hp fun x7 hy3 hp => tc 0 [_,_] rfl c26 (fun _ => proper_Form_ok (a1 := a1) (a4 := a4) (h3.mono subH) hy3) rfl ?_
 rintro _ _ ⟨v8, F9, rfl, rfl, h10⟩
 refine ta rfl <| nz <| sr <| tm rfl <| tv (rv_neqEN ifc_27 h10 rfl) rfl <| nz <| cD rfl hp (fun hc5 hp => ?_) fun hc5 hp => ?_
 · refine sr <| tv (rv_bv (vs := []) (ds := [.int .i64 0, .int .i64 0, .slice none 0 0, .slice none 0 0]) rfl (fun w => by kernel_rfl)) rfl <| tm rfl <| tS 1 m41 rfl rfl [.int .i64 0, .int .i64 0, .slice none 0 0, .slice none 0 0] rfl (oc rfl (oc rfl (oc rfl (oc rfl oc0)))) rfl rfl <| ta rfl <| nz <| TC.ret <| W.new0 <| W.new0 ?_
   obtain rfl := Option.some.inj hp
   exact fun w hw => retC2 hw rfl rfl rfl ag_41 3 rfl rfl ⟨(.slice none 0 0), ([] : FP), (.slice none 0 0), ([] : FP), v8, F9, rfl, rfl, (SlO.nil 3), (SlO.nil 50), h10⟩ (hw.pickA [1, 0, 2] rfl)
 · refine sk k2 rfl <| sr <| tv (fa f35_0 rfl) rfl <| tv (lb s33 2 rfl rfl rfl) rfl <| tm rfl <| ti u33 i41 h3 hp rfl rfl rfl rfl ?_
   rintro x13 b14 o15 _ hp ⟨v19, v21, rfl, h20, h22⟩ h18
   refine tv (lR (ds := [.int .i64 x13.params, .int .i64 x13.result, v19, v21]) ag_41 sH h18 0 rfl rfl rfl) rfl <| tl i41 rfl fun b23 => tS 0 m41 rfl rfl [.int .i64 x13.params, .int .i64 x13.result, v19, v21] rfl (oc rfl (oc rfl (oc (h20).one (oc (h22).one oc0)))) rfl rfl <| nz <| TC.seq fun K7 k8 => ch mix [bx b23 41 [.int .i64 x13.params, .int .i64 x13.result, v19, v21], F9, bx b6 41 [.int .i64 0, .int .i64 0, .slice none 0 0, .slice none 0 0], bx b5 35 [v2]] (srcG 0 rfl (srcG 1 rfl (srcG 2 rfl (srcG 3 rfl srcG0)))) <| hv 0 rfl (lAG (ds := [.int .i64 x13.params, .int .i64 x13.result, v19, v21]) ag_41 0 rfl rfl rfl rfl) (by kernel_rfl) rfl <| hv 1 rfl (lAG (ds := [.int .i64 x13.params, .int .i64 x13.result, v19, v21]) ag_41 0 rfl rfl rfl rfl) (by kernel_rfl) rfl <| hv 3 rfl (fa f41_0 rfl) (by kernel_rfl) rfl <| hv 4 rfl (lbG s3 0 rfl rfl rfl) (by kernel_rfl) rfl <| hv 5 rfl (fa f41_1 rfl) (by kernel_rfl) rfl <| hv 6 rfl (lbG s3 0 rfl rfl rfl) (by kernel_rfl) rfl <| hv 7 rfl (fa f41_2 rfl) (by kernel_rfl) rfl <| hv 8 rfl (lbG s25 0 rfl rfl rfl) (by kernel_rfl) rfl <| ho 2 rfl (by kernel_rfl) fun K9 k10 => bE hp fun x825 hy11 hp => tc 0 [_,_,_,_] rfl c27 (fun _ => check_Ahead_ok (a1 := x13) (h20.mono subH) (h22.mono subH) hy11) rfl ?_
   rintro _ _ ⟨v826, F827, rfl, rfl, h828⟩
   refine hk k10 (srcG 1 rfl (srcG 2 rfl (srcG 3 rfl (srcG 4 rfl srcG0)))) <| ho 9 rfl (by kernel_rfl) fun K13 k14 => bE hp fun x3625 hy15 hp => tc 0 [_,_,_,_,_] rfl c28 (fun _ => slices_Clone_ok (a1 := x13.regs) (h20.mono subH) hy15) rfl ?_
   rintro _ _ ⟨v3626, F3627, rfl, rfl, h3628⟩
   refine hk k14 (srcG 2 rfl (srcG 3 rfl (srcG 4 rfl (srcG 5 rfl srcG0)))) <| hv 10 rfl (rv_bv (vs := [(0, .int .i64 x13.params), (1, .int .i64 x13.result), (2, v3626)]) (ds := [.int .i64 x13.params, .int .i64 x13.result, v3626, .slice none 0 0]) rfl (fun w => by obtain ⟨_, _, rfl⟩ := (h3628).len; kernel_rfl)) (by kernel_rfl) rfl <| hv 11 rfl (rv_bv (vs := [(0, .agg #[.int .i64 x13.params, .int .i64 x13.result, v19, v21]), (1, v826), (2, .agg #[.int .i64 x13.params, .int .i64 x13.result, v3626, .slice none 0 0])]) (ds := [.int .i64 x13.params, .int .i64 x13.result, v19, v21, v826, .int .i64 x13.params, .int .i64 x13.result, v3626, .slice none 0 0]) rfl (fun w => by obtain ⟨_, _, rfl⟩ := (h828).len; kernel_rfl)) (by kernel_rfl) rfl <| ho 12 rfl (by kernel_rfl) fun K17 k18 => tb [.int .i64 x13.params, .int .i64 x13.result, v19, v21, v826, .int .i64 x13.params, .int .i64 x13.result, v3626, .slice none 0 0] rfl rfl fun b4825 => hk k18 (srcG 3 rfl (srcG 4 rfl (srcG 5 rfl (srcG 6 rfl srcG0)))) <| hv 13 rfl sg (by kernel_rfl) rfl <| hz (by kernel_rfl) <| tg k8 <| TC.seq fun K19 k20 => sr <| tv (fa f41_3 rfl) rfl <| tv (lb s39 3 rfl rfl rfl) rfl <| tv (ln u39 h22 rfl) rfl <| tm rfl <| nz <| TC.block <| bE hp fun z_22 hz23 hr24 => ?_
   have J81 {x5630 v5631 F5632 e27} (h5633 : SlO 50 kBlock x5630 v5631 F5632) (hq82 : x5630 = z_22) : ∀ w, St E H [bx b6 41 [.int .i64 0, .int .i64 0, .slice none 0 0, .slice none 0 0], bx b23 41 [.int .i64 x13.params, .int .i64 x13.result, v19, v21], bx b4825 77 [.int .i64 x13.params, .int .i64 x13.result, v19, v21, v826, .int .i64 x13.params, .int .i64 x13.result, v3626, v5631], F827, F3627, F5632] w → K19 (ovr e27 [(4, .pointer (some ⟨b6, 0, none⟩)), (7, .pointer (some ⟨b23, 0, none⟩)), (8, .pointer (some ⟨b4825, 0, none⟩))]) w := by
    subst hq82
    replace hp : lower_Lower.nx26 x13 x825 x3625 x5630 = some r := hr24
    refine tg k20 <| TC.seq fun K28 k29 => sr <| tv (fa f41_3 rfl) rfl <| tv (lb s39 1 rfl rfl rfl) rfl <| tv (ln u39 h22 rfl) rfl <| tm rfl <| nz <| TC.block <| bE hp fun z_31 hz32 hr33 => ?_
    have J69 {x5643 x5647 v5644 F5645 v5648 F5649 e36} (h5646 : SlO 3 (kInt .i64) x5643 v5644 F5645) (h5650 : SlO 50 kBlock x5647 v5648 F5649) (hq70 : .go (x5643, x5647) = z_31) : ∀ w, St E H [bx b6 41 [.int .i64 0, .int .i64 0, .slice none 0 0, .slice none 0 0], bx b4825 77 [.int .i64 x13.params, .int .i64 x13.result, v19, v21, v826, .int .i64 x13.params, .int .i64 x13.result, v5644, v5648], F827, F5645, F5649] w → K28 (ovr e36 [(4, .pointer (some ⟨b6, 0, none⟩)), (8, .pointer (some ⟨b4825, 0, none⟩))]) w := by
     subst hq70
     replace hp : lower_Lower.nx35 x13 x5643 x5647 = some r := hr33
     refine tg k29 <| sr <| ta rfl <| nz <| TC.seq fun K37 k38 => sr <| tm rfl <| tv (rv_nilCheck rfl) rfl <| tv (fa f77_2 rfl) rfl <| tv (fa f41_3 rfl) rfl <| tv (lb s39 1 rfl rfl rfl) rfl <| tv (ln u39 h5650.ro rfl) rfl <| tm rfl <| nz <| TC.block <| bE hp fun z_40 hz41 hr42 => ?_
     have J59 {x5653 e45} (hq60 : x5653 = z_40) : ∀ w, St E H [bx b6 41 [.int .i64 0, .int .i64 0, .slice none 0 0, .slice none 0 0], bx b4825 77 [.int .i64 x13.params, .int .i64 x13.result, v19, v21, v826, .int .i64 x13.params, .int .i64 x13.result, v5644, v5648], F827, F5645, F5649] w → K37 (ovr e45 [(4, .pointer (some ⟨b6, 0, none⟩)), (8, .pointer (some ⟨b4825, 0, none⟩)), (13, .int .i64 x5653)]) w := by
      subst hq60
      replace hp : lower_Lower.nx44 x13 x5643 x5647 x5653 = some r := hr42
      refine tg k38 <| TC.seq fun K46 k47 => sr <| tm rfl <| tv (bgt rfl rfl) rfl <| tm rfl <| TL.cut 8 fun K48 k49 => ?_
      have J50 {e52} : ∀ w, St E H [bx b6 41 [.int .i64 0, .int .i64 0, .slice none 0 0, .slice none 0 0], bx b4825 77 [.int .i64 x13.params, .int .i64 x13.result, v19, v21, v826, .int .i64 x13.params, .int .i64 x13.result, v5644, v5648], F827, F5645, F5649] w → K48 (ovr e52 [(103, .bool (decide (x5653 > 256 ∨ (len x5643) > 256))), (4, .pointer (some ⟨b6, 0, none⟩)), (8, .pointer (some ⟨b4825, 0, none⟩))]) w := by
       refine tlg k49 <| tm rfl <| TL.cut 8 fun K53 k54 => ?_
       have J55 {e57} : ∀ w, St E H [bx b6 41 [.int .i64 0, .int .i64 0, .slice none 0 0, .slice none 0 0], bx b4825 77 [.int .i64 x13.params, .int .i64 x13.result, v19, v21, v826, .int .i64 x13.params, .int .i64 x13.result, v5644, v5648], F827, F5645, F5649] w → K53 (ovr e57 [(112, .bool (decide ((x5653 > 256 ∨ (len x5643) > 256) ∨ (len x5647) > 64))), (4, .pointer (some ⟨b6, 0, none⟩)), (8, .pointer (some ⟨b4825, 0, none⟩))]) w := by
        refine tlg k54 <| nz <| cD rfl hp (fun hc58 hp => ?_) fun hc58 hp => ?_
        · refine sr <| tv (rv_bv (vs := []) (ds := [.int .i64 0, .int .i64 0, .slice none 0 0, .slice none 0 0]) rfl (fun w => by kernel_rfl)) rfl <| tv (mI u63 rfl) rfl <| tS 0 m41 rfl rfl [.int .i64 0, .int .i64 0, .slice none 0 0, .slice none 0 0] rfl (oc rfl (oc rfl (oc rfl (oc rfl oc0)))) rfl rfl <| ta rfl <| nz <| TC.ret <| W.new0 <| W.new0 <| W.new0 ?_
          obtain rfl := Option.some.inj hp
          exact fun w hw => retC2 hw rfl rfl rfl ag_41 3 rfl rfl ⟨(.slice none 0 0), ([] : FP), (.slice none 0 0), ([] : FP), (.iface 63 (.int .i64 5)), ([] : FP), rfl, rfl, (SlO.nil 3), (SlO.nil 50), (ErO.mk _ : ErO 63 106 108 (GErr.code 5) (.iface 63 (.int .i64 5)) [])⟩ (hw.pickA [2, 1, 0] rfl)
        · refine sk k47 rfl <| sr <| tm rfl <| tv (rv_nilCheck rfl) rfl <| tv (fa f77_2 rfl) rfl <| tv (lA (ds := [.int .i64 x13.params, .int .i64 x13.result, v5644, v5648]) ag_41 1 rfl rfl rfl rfl) rfl <| tS 0 m41 rfl rfl [.int .i64 x13.params, .int .i64 x13.result, v5644, v5648] rfl (oc rfl (oc rfl (oc (h5646).one (oc (h5650).one oc0)))) rfl rfl <| ta rfl <| nz <| TC.ret <| W.new0 ?_
          obtain rfl := Option.some.inj hp
          exact fun w hw => retC2 hw rfl rfl rfl ag_41 1 rfl rfl ⟨v5644, F5645, v5648, F5649, .nilIface, ([] : FP), rfl, rfl, h5646, h5650, (ErO.nil : ErO 63 106 108 GErr.no .nilIface [])⟩ (hw.pickA [4, 5, 0] rfl)
       by_cases hc56 : x5653 > 256 ∨ (len x5643) > 256
       · exact gn rfl (bT hc56) rfl rfl <| gn rfl (bT hc56) rfl rfl <| gn rfl (bT hc56) rfl rfl <| gn rfl (bT hc56) rfl rfl <| gn rfl (bT hc56) rfl rfl <| gn rfl (bT hc56) rfl rfl <| gn rfl (bT hc56) rfl rfl <| tv (pT (bT hc56)) rfl <| nj J55 (bOt hc56)
       · exact gy rfl (bF hc56) <| tm rfl <| gy rfl (bF hc56) <| tv (rv_nilCheck rfl) rfl <| gy rfl (bF hc56) <| tv (fa f77_2 rfl) rfl <| gy rfl (bF hc56) <| tv (fa f41_3 rfl) rfl <| gy rfl (bF hc56) <| tv (lb s39 1 rfl rfl rfl) rfl <| gy rfl (bF hc56) <| tv (ln u39 h5650.ro rfl) rfl <| gy rfl (bF hc56) <| tv (bgt rfl rfl) rfl <| tv (pF (bF hc56)) rfl <| nj J55 (bOf hc56)
      by_cases hc51 : x5653 > 256
      · exact gn rfl (bT hc51) rfl rfl <| gn rfl (bT hc51) rfl rfl <| gn rfl (bT hc51) rfl rfl <| gn rfl (bT hc51) rfl rfl <| gn rfl (bT hc51) rfl rfl <| gn rfl (bT hc51) rfl rfl <| gn rfl (bT hc51) rfl rfl <| tv (pT (bT hc51)) rfl <| nj J50 (bOt hc51)
      · exact gy rfl (bF hc51) <| tm rfl <| gy rfl (bF hc51) <| tv (rv_nilCheck rfl) rfl <| gy rfl (bF hc51) <| tv (fa f77_2 rfl) rfl <| gy rfl (bF hc51) <| tv (fa f41_2 rfl) rfl <| gy rfl (bF hc51) <| tv (lb s25 1 rfl rfl rfl) rfl <| gy rfl (bF hc51) <| tv (ln u25 h5646.ro rfl) rfl <| gy rfl (bF hc51) <| tv (bgt rfl rfl) rfl <| tv (pF (bF hc51)) rfl <| nj J50 (bOf hc51)
     refine lp hz41 [0, 1, 2, 3, 4] rfl (fun s e L => ∃ x5651 x5652 e39, s = (x5651, x5652) ∧ e = ovr e39 [(4, .pointer (some ⟨b6, 0, none⟩)), (8, .pointer (some ⟨b4825, 0, none⟩)), (13, .int .i64 x5651), (80, v5648), (81, .int .i64 (len x5647)), (82, .int .i64 x5652)] ∧ L = [bx b6 41 [.int .i64 0, .int .i64 0, .slice none 0 0, .slice none 0 0], bx b4825 77 [.int .i64 x13.params, .int .i64 x13.result, v19, v21, v826, .int .i64 x13.params, .int .i64 x13.result, v5644, v5648], F827, F5645, F5649]) ⟨_, _, _, rfl, ovr_eq _ _ rfl, rfl⟩ ?_
     rintro _ _ _ ⟨x5651, x5652, e39, rfl, rfl, rfl⟩ X43 hp hx44
     replace hp : lower_Lower.bd44 x5647 x5651 x5652 = some X43 := hp
     refine sr <| tv (blt rfl rfl) rfl <| nz <| TC.seq fun K61 k62 => cD rfl hp (fun hc63 hp => ?_) fun hc63 hp => ?_
     · refine sk k62 rfl <| TC.seq fun K64 k65 => TC.block <| sr <| ti u39 i50 (h5650).ro hp rfl rfl rfl rfl ?_
       rintro x5658 b5659 o5660 _ hp ⟨v5664, v5666, v5668, rfl, h5665, h5667, h5669⟩ h5663
       exact tv (lR (ds := [v5664, v5666, .int .i64 x5658.term.kind, .int .i64 x5658.term.arg, v5668]) ag_50 (Src.at_ 4 rfl) h5663 0 rfl rfl rfl) rfl <| tl i50 rfl fun b5670 => tS 0 m50 rfl rfl [v5664, v5666, .int .i64 x5658.term.kind, .int .i64 x5658.term.arg, v5668] rfl (oc (h5665).one (oc (h5667).one (oc rfl (oc rfl (oc (h5669).one oc0))))) rfl rfl <| nz <| TC.region <| tm rfl <| tv (fa f50_1 rfl) rfl <| tv (lb s48 0 rfl rfl rfl) rfl <| tv (ln u48 h5667 rfl) rfl <| tv (bad rfl rfl) rfl <| tv (bad rfl rfl) rfl <| ta rfl <| nl <| tg k65 <| TC.region <| tv (bad rfl rfl) rfl <| tm rfl <| nl <| gk hp [1, 2, 3, 4, 5] ⟨_, _, _, rfl, ovr_eq _ _ rfl, rfl⟩
     · exact TC.exit <| jn [0, 1, 2, 3, 4] (J59 (ex_ret hp hx44))
    refine lp hz32 [0, 2, 3, 4, 5] rfl (fun s e L => ∃ x5634 x5638 x5642 v5635 F5636 v5639 F5640 e30, s = (x5634, x5638, x5642) ∧ SlO 3 (kInt .i64) x5634 v5635 F5636 ∧ SlO 50 kBlock x5638 v5639 F5640 ∧ e = ovr e30 [(4, .pointer (some ⟨b6, 0, none⟩)), (8, .pointer (some ⟨b4825, 0, none⟩)), (64, .int .i64 (len x13.blocks)), (65, .int .i64 x5642)] ∧ L = [bx b6 41 [.int .i64 0, .int .i64 0, .slice none 0 0, .slice none 0 0], bx b4825 77 [.int .i64 x13.params, .int .i64 x13.result, v19, v21, v826, .int .i64 x13.params, .int .i64 x13.result, v5635, v5639], F827, F5636, F5640]) ⟨_, _, _, v3626, F3627, v5631, F5632, _, rfl, h3628, h5633, ovr_eq _ _ rfl, rfl⟩ ?_
    rintro _ _ _ ⟨x5634, x5638, x5642, v5635, F5636, v5639, F5640, e30, rfl, h5637, h5641, rfl, rfl⟩ X34 hp hx35
    replace hp : lower_Lower.bd35 x13 x825 x5634 x5638 x5642 = some X34 := hp
    refine sr <| tv (blt rfl rfl) rfl <| nz <| TC.seq fun K71 k72 => cD rfl hp (fun hc73 hp => ?_) fun hc73 hp => ?_
    · refine sk k72 rfl <| TC.seq fun K74 k75 => TC.block <| sr <| tm rfl <| ta rfl <| nz <| sr <| tm rfl <| tm rfl <| tp [1, 3, 4, 0, 2] [_,_,_,_,_] rfl rfl <| bE hp fun x5671 hy76 hp => tc 3 [_,_] rfl c30 (fun _ => lower_lowerer_block_ok (a2 := (⟨(⟨x13.params, x13.result, x13.regs, x13.blocks⟩ : PFunc), x825, (⟨x13.params, x13.result, x5634, x5638⟩ : PFunc)⟩ : PLowerer)) (a16 := x5642) (h20.mono subH) (h22.mono subH) (h828.ro.mono (subB 1 rfl)) h5637 h5641 hy76) rfl ?_
      rintro _ _ ⟨v5672, F5673, v5675, F5676, v5678, F5679, rfl, rfl, h5674, h5677, h5680⟩
      refine ta rfl <| nz <| sr <| tm rfl <| tv (rv_neqEN ifc_27 h5674 rfl) rfl <| nz <| cD rfl hp (fun hc78 hp => ?_) fun hc78 hp => ?_
      · refine sr <| tv (rv_bv (vs := []) (ds := [.int .i64 0, .int .i64 0, .slice none 0 0, .slice none 0 0]) rfl (fun w => by kernel_rfl)) rfl <| tm rfl <| tS 4 m41 rfl rfl [.int .i64 0, .int .i64 0, .slice none 0 0, .slice none 0 0] rfl (oc rfl (oc rfl (oc rfl (oc rfl oc0)))) rfl rfl <| ta rfl <| nz <| TC.ret <| W.new0 <| W.new0 ?_
        obtain rfl := ex_ret hp hx35
        obtain rfl := Option.some.inj hr33
        exact fun w hw => retC2 hw rfl rfl rfl ag_41 6 rfl rfl ⟨(.slice none 0 0), ([] : FP), (.slice none 0 0), ([] : FP), v5672, F5673, rfl, rfl, (SlO.nil 3), (SlO.nil 50), h5674⟩ (hw.pickA [1, 0, 2] rfl)
      · exact sk k75 rfl <| TC.region <| tv (bad rfl rfl) rfl <| tm rfl <| nl <| gk hp [4, 1, 5, 2, 3] ⟨_, _, _, v5675, F5676, v5678, F5679, _, rfl, h5677, h5680, ovr_eq _ _ rfl, rfl⟩
    · exact TC.exit <| jn [0, 1, 2, 3, 4] (J69 h5637 h5641 (ex_ret hp hx35))
   refine W.new0 <| lp hz23 [6, 4, 1, 3, 2, 0] rfl (fun s e L => ∃ x5625 x5629 v5626 F5627 e21, s = (x5625, x5629) ∧ SlO 50 kBlock x5625 v5626 F5627 ∧ e = ovr e21 [(4, .pointer (some ⟨b6, 0, none⟩)), (7, .pointer (some ⟨b23, 0, none⟩)), (8, .pointer (some ⟨b4825, 0, none⟩)), (42, v21), (43, .int .i64 (len x13.blocks)), (44, .int .i64 x5629)] ∧ L = [bx b6 41 [.int .i64 0, .int .i64 0, .slice none 0 0, .slice none 0 0], bx b23 41 [.int .i64 x13.params, .int .i64 x13.result, v19, v21], bx b4825 77 [.int .i64 x13.params, .int .i64 x13.result, v19, v21, v826, .int .i64 x13.params, .int .i64 x13.result, v3626, v5626], F827, F3627, F5627]) ⟨_, _, (.slice none 0 0), ([] : FP), _, rfl, (SlO.nil 50), ovr_eq _ _ rfl, rfl⟩ ?_
   rintro _ _ _ ⟨x5625, x5629, v5626, F5627, e21, rfl, h5628, rfl, rfl⟩ X25 hp hx26
   replace hp : lower_Lower.bd26 x13 x5625 x5629 = some X25 := hp
   refine sr <| tv (blt rfl rfl) rfl <| nz <| TC.seq fun K83 k84 => cD rfl hp (fun hc85 hp => ?_) fun hc85 hp => ?_
   · refine sk k84 rfl <| TC.seq fun K86 k87 => ?_
     have J89 {x5683 v5684 F5685 e88} (h5686 : SlO 50 kBlock x5683 v5684 F5685) (hp : lower_Lower.jn89 x5629 x5683 = some X25) : ∀ w, St E H [bx b6 41 [.int .i64 0, .int .i64 0, .slice none 0 0, .slice none 0 0], bx b23 41 [.int .i64 x13.params, .int .i64 x13.result, v19, v21], bx b4825 77 [.int .i64 x13.params, .int .i64 x13.result, v19, v21, v826, .int .i64 x13.params, .int .i64 x13.result, v3626, v5684], F827, F3627, F5685] w → K86 (ovr e88 [(4, .pointer (some ⟨b6, 0, none⟩)), (7, .pointer (some ⟨b23, 0, none⟩)), (8, .pointer (some ⟨b4825, 0, none⟩)), (42, v21), (43, .int .i64 (len x13.blocks)), (44, .int .i64 x5629)]) w := by
      exact tg k87 <| TC.region <| tv (bad rfl rfl) rfl <| tm rfl <| nl <| gk hp [0, 1, 2, 3, 4, 5] ⟨_, _, v5684, F5685, _, rfl, h5686, ovr_eq _ _ rfl, rfl⟩
     refine TC.block <| sr <| ti u39 i50 h22 hp rfl rfl rfl rfl ?_
     rintro x5687 b5688 o5689 _ hp ⟨v5693, v5695, v5697, rfl, h5694, h5696, h5698⟩ h5692
     refine tv (lR (ds := [v5693, v5695, .int .i64 x5687.term.kind, .int .i64 x5687.term.arg, v5697]) ag_50 sH h5692 0 rfl rfl rfl) rfl <| tl i50 rfl fun b5699 => tS 0 m50 rfl rfl [v5693, v5695, .int .i64 x5687.term.kind, .int .i64 x5687.term.arg, v5697] rfl (oc (h5694).one (oc (h5696).one (oc rfl (oc rfl (oc (h5698).one oc0))))) rfl rfl <| nz <| ch mix [bx b5699 50 [v5693, v5695, .int .i64 x5687.term.kind, .int .i64 x5687.term.arg, v5697], bx b6 41 [.int .i64 0, .int .i64 0, .slice none 0 0, .slice none 0 0], bx b23 41 [.int .i64 x13.params, .int .i64 x13.result, v19, v21], F827, F3627] (srcG 0 rfl (srcG 1 rfl (srcG 2 rfl (srcG 4 rfl (srcG 5 rfl srcG0))))) <| hv 0 rfl mv (by kernel_rfl) rfl <| hv 1 rfl mv (by kernel_rfl) rfl <| hv 2 rfl (rv_nilCheck rfl) (by kernel_rfl) rfl <| hv 3 rfl (fa f77_2 rfl) (by kernel_rfl) rfl <| hv 4 rfl (fa f41_3 rfl) (by kernel_rfl) rfl <| hv 6 rfl (lAG (ds := [v5693, v5695, .int .i64 x5687.term.kind, .int .i64 x5687.term.arg, v5697]) ag_50 0 rfl rfl rfl rfl) (by kernel_rfl) rfl <| HL.all [5, 7] (by kernel_rfl) (by simp) (HL.al ⟨_, rfl, fun K91 k92 => ?_⟩ (HL.al ⟨_, rfl, fun K104 k105 => ?_⟩ HL.al0))
     · refine tv (lb s39 3 rfl rfl rfl) rfl <| hk k92 (srcG 0 rfl (srcG 1 rfl (srcG 2 rfl (srcG 4 rfl (srcG 5 rfl srcG0))))) <| ho 7 rfl (by kernel_rfl) fun K93 k94 => bE hp fun x8501 hy95 hp => tc 0 [_,_,_,_,_,_,_] rfl c29 (fun _ => lower_copied_ok (a1 := x5687) (h5694.mono subH) (h5696.mono subH) (h5698.mono subH) hy95) rfl ?_
       rintro _ _ ⟨v8502, F8503, v8505, F8506, v8508, F8509, rfl, rfl, h8504, h8507, h8510⟩
       exact hk k94 (srcG 3 rfl (srcG 4 rfl (srcG 5 rfl (srcG 7 rfl (srcG 8 rfl srcG0))))) <| ho 8 rfl (by kernel_rfl) fun K97 k98 => tbs [(0, .agg #[v8502, v8505, .int .i64 x8501.term.kind, .int .i64 x8501.term.arg, v8508])] [v8502, v8505, .int .i64 x8501.term.kind, .int .i64 x8501.term.arg, v8508] u39 i50 (by kernel_rfl) rfl rfl rfl rfl fun b8901 => hk k98 (srcG 4 rfl (srcG 5 rfl (srcG 6 rfl (srcG 8 rfl (srcG 9 rfl srcG0))))) <| ho 9 rfl (by kernel_rfl) fun K99 k100 => tp [10, 0, 1, 2, 3, 4, 5, 6, 7, 8, 9] [_,_,_,_,_,_,_,_,_,_,_] rfl rfl <| tf 2 3 [_,_,_,_,_,_,_,_,_] rfl <| tp2 u39 i50 h5628 hp (RepL.to (G' := F8503 ++ (F8506 ++ (F8509))) (RepL.cons (k := kBlock) (x := x8501) ⟨_, _, _, _, _, _, rfl, rfl, h8504, h8507, h8510⟩ RepL.nil) (by simp)) rfl rfl rfl rfl rfl rfl rfl rfl rfl fun x9301 v9302 F9303 h9304 hp => hk k100 (srcG 1 rfl (srcG 2 rfl (srcG 3 rfl (srcG 5 rfl (srcG 6 rfl srcG0))))) <| hv 10 rfl (rv_nilCheck rfl) (by kernel_rfl) rfl <| hv 11 rfl (fa f77_2 rfl) (by kernel_rfl) rfl <| hv 12 rfl (fa f41_3 rfl) (by kernel_rfl) rfl <| ho 13 rfl (by kernel_rfl) fun K102 k103 => ts 4 m39 rfl rfl h9304.o1 rfl <| hk k103 (srcG 1 rfl (srcG 2 rfl (srcG 3 rfl (srcG 5 rfl (srcG 6 rfl srcG0))))) <| hz (by kernel_rfl) <| jn [2, 3, 4, 5, 6, 0] (J89 h9304 hp)
     · refine bE hp fun x8501 hy106 hp => tc 0 [_,_,_,_,_,_,_] rfl c29 (fun _ => lower_copied_ok (a1 := x5687) (h5694.mono subH) (h5696.mono subH) (h5698.mono subH) hy106) rfl ?_
       rintro _ _ ⟨v8502, F8503, v8505, F8506, v8508, F8509, rfl, rfl, h8504, h8507, h8510⟩
       refine hk k105 (srcG 3 rfl (srcG 4 rfl (srcG 5 rfl (srcG 7 rfl (srcG 8 rfl srcG0))))) <| HL.all [5, 8] (by kernel_rfl) (by simp) (HL.al ⟨_, rfl, fun K108 k109 => ?_⟩ (HL.al ⟨_, rfl, fun K117 k118 => ?_⟩ HL.al0))
       · exact tv (lb s39 6 rfl rfl rfl) rfl <| hk k109 (srcG 3 rfl (srcG 4 rfl (srcG 5 rfl (srcG 7 rfl (srcG 8 rfl srcG0))))) <| ho 8 rfl (by kernel_rfl) fun K110 k111 => tbs [(0, .agg #[v8502, v8505, .int .i64 x8501.term.kind, .int .i64 x8501.term.arg, v8508])] [v8502, v8505, .int .i64 x8501.term.kind, .int .i64 x8501.term.arg, v8508] u39 i50 (by kernel_rfl) rfl rfl rfl rfl fun b8901 => hk k111 (srcG 4 rfl (srcG 5 rfl (srcG 6 rfl (srcG 8 rfl (srcG 9 rfl srcG0))))) <| ho 9 rfl (by kernel_rfl) fun K112 k113 => tp [10, 0, 1, 2, 3, 4, 5, 6, 7, 8, 9] [_,_,_,_,_,_,_,_,_,_,_] rfl rfl <| tf 2 3 [_,_,_,_,_,_,_,_,_] rfl <| tp2 u39 i50 h5628 hp (RepL.to (G' := F8503 ++ (F8506 ++ (F8509))) (RepL.cons (k := kBlock) (x := x8501) ⟨_, _, _, _, _, _, rfl, rfl, h8504, h8507, h8510⟩ RepL.nil) (by simp)) rfl rfl rfl rfl rfl rfl rfl rfl rfl fun x9301 v9302 F9303 h9304 hp => hk k113 (srcG 1 rfl (srcG 2 rfl (srcG 3 rfl (srcG 5 rfl (srcG 6 rfl srcG0))))) <| hv 10 rfl (rv_nilCheck rfl) (by kernel_rfl) rfl <| hv 11 rfl (fa f77_2 rfl) (by kernel_rfl) rfl <| hv 12 rfl (fa f41_3 rfl) (by kernel_rfl) rfl <| ho 13 rfl (by kernel_rfl) fun K115 k116 => ts 4 m39 rfl rfl h9304.o1 rfl <| hk k116 (srcG 1 rfl (srcG 2 rfl (srcG 3 rfl (srcG 5 rfl (srcG 6 rfl srcG0))))) <| hz (by kernel_rfl) <| jn [2, 3, 4, 5, 6, 0] (J89 h9304 hp)
       · exact tbs [(0, .agg #[v8502, v8505, .int .i64 x8501.term.kind, .int .i64 x8501.term.arg, v8508])] [v8502, v8505, .int .i64 x8501.term.kind, .int .i64 x8501.term.arg, v8508] u39 i50 (by kernel_rfl) rfl rfl rfl rfl fun b8901 => hk k118 (srcG 4 rfl (srcG 5 rfl (srcG 6 rfl (srcG 8 rfl (srcG 9 rfl srcG0))))) <| ho 5 rfl (by kernel_rfl) fun K119 k120 => tv (lb s39 7 rfl rfl rfl) rfl <| hk k120 (srcG 4 rfl (srcG 5 rfl (srcG 6 rfl (srcG 8 rfl (srcG 9 rfl srcG0))))) <| ho 9 rfl (by kernel_rfl) fun K121 k122 => tp [10, 0, 1, 2, 3, 4, 5, 6, 7, 8, 9] [_,_,_,_,_,_,_,_,_,_,_] rfl rfl <| tf 2 3 [_,_,_,_,_,_,_,_,_] rfl <| tp2 u39 i50 h5628 hp (RepL.to (G' := F8503 ++ (F8506 ++ (F8509))) (RepL.cons (k := kBlock) (x := x8501) ⟨_, _, _, _, _, _, rfl, rfl, h8504, h8507, h8510⟩ RepL.nil) (by simp)) rfl rfl rfl rfl rfl rfl rfl rfl rfl fun x9301 v9302 F9303 h9304 hp => hk k122 (srcG 1 rfl (srcG 2 rfl (srcG 3 rfl (srcG 5 rfl (srcG 6 rfl srcG0))))) <| hv 10 rfl (rv_nilCheck rfl) (by kernel_rfl) rfl <| hv 11 rfl (fa f77_2 rfl) (by kernel_rfl) rfl <| hv 12 rfl (fa f41_3 rfl) (by kernel_rfl) rfl <| ho 13 rfl (by kernel_rfl) fun K124 k125 => ts 4 m39 rfl rfl h9304.o1 rfl <| hk k125 (srcG 1 rfl (srcG 2 rfl (srcG 3 rfl (srcG 5 rfl (srcG 6 rfl srcG0))))) <| hz (by kernel_rfl) <| jn [2, 3, 4, 5, 6, 0] (J89 h9304 hp)
   · exact TC.exit <| jn [0, 1, 2, 3, 4, 5] (J81 h5628 (ex_ret hp hx26))

/-! ### fettle/fettlelaw05.Ints -/
abbrev fettlelaw05_Ints.R (r : Bool) (v : Value) (A : List FP) : Prop := .bool r = v ∧ A = []
def fettlelaw05_Ints.nx11  : Option Bool :=
  some true
def fettlelaw05_Ints.bd11 (a1 : List Int) (a4 : List Int) (x7 : Int) : Option (Ex (Ex Bool Unit) Int) :=
  if x7 < (len a1) then
    (idx a1 x7).bind fun x8 =>
    (idx a4 x7).bind fun x14 =>
    if ¬ x8 = x14 then
      some (.ret (.ret false))
    else
      some (.go (w64 (x7 + 1)))
  else
    some (.ret (.go ()))
def fettlelaw05_Ints (a1 : List Int) (a4 : List Int) : Option Bool :=
  if ¬ (len a1) = (len a4) then
    some false
  else
    (whl (fun (s : Int) => fettlelaw05_Ints.bd11 a1 a4 s) FUEL 0).bind fun z =>
    match z with
      | .ret r => some r
      | .go p => fettlelaw05_Ints.nx11
theorem fettlelaw05_Ints_ok {E : World} {H : FP} {w : World} {a1 : List Int} {a4 : List Int} {v2 : Value} {v5 : Value} {r : Bool} (h3 : SlI (kInt .i64) H a1 v2) (h6 : SlI (kInt .i64) H a4 v5) (hp : fettlelaw05_Ints a1 a4 = some r) (hst : St E H [] w) :
    Fn Try.prog 20 #[v2, v5] w fun v w' => ∃ A, fettlelaw05_Ints.R r v A ∧ St E H A w' := by
 refine fb 26 [.tmp 4] Try.func20 rfl rfl rfl rfl rfl hst <| sr <| ta rfl <| nz <| TC.seq fun K1 k2 => sr <| tm rfl <| tv (ln u25 h3 rfl) rfl <| tm rfl <| tv (ln u25 h6 rfl) rfl <| tv (bne rfl rfl) rfl <| nz <| cD rfl hp (fun hc3 hp => ?_) fun hc3 hp => ?_
 · exact sr <| ta rfl <| nz <| TC.ret <| rt hp [] ⟨rfl, rfl⟩
 · refine sk k2 rfl <| TC.seq fun K4 k5 => sr <| ta rfl <| nz <| TC.block <| bE hp fun z_7 hz8 hr9 => ?_
   have J13 {e12} (hq14 : .go () = z_7) : ∀ w, St E H [] w → K4 (ovr e12 []) w := by
    subst hq14
    replace hp : fettlelaw05_Ints.nx11 = some r := hr9
    exact tg k5 <| sr <| ta rfl <| nz <| TC.ret <| rt hp [] ⟨rfl, rfl⟩
   refine lp hz8 [] rfl (fun s e L => ∃ e6, e = ovr e6 [(0, v2), (1, v5), (5, .int .i64 s)] ∧ L = []) ⟨_, ovr_eq _ _ rfl, rfl⟩ ?_
   rintro x7 _ _ ⟨e6, rfl, rfl⟩ X10 hp hx11
   replace hp : fettlelaw05_Ints.bd11 a1 a4 x7 = some X10 := hp
   refine TC.seq fun K15 k16 => sr <| tm rfl <| tm rfl <| tv (ln u25 h3 rfl) rfl <| tv (blt rfl rfl) rfl <| nz <| cD rfl hp (fun hc17 hp => ?_) fun hc17 hp => ?_
   · refine sk k16 rfl <| TC.seq fun K18 k19 => TC.block <| TC.seq fun K20 k21 => cq mix (by kernel_rfl) <| qv mv rfl <| qv mv rfl <| qi u25 i3 h3 hp rfl rfl rfl rfl ?_
     rintro x8 b9 o10 _ hp rfl h13
     refine qv (lr s3 sH h13 0 rfl rfl) rfl <| qv mv rfl <| qv mv rfl <| qi u25 i3 h6 hp rfl rfl rfl rfl ?_
     rintro x14 b15 o16 _ hp rfl h19
     refine qv (lr s3 sH h19 0 rfl rfl) rfl <| qv (bne rfl rfl) rfl <| QL.nil <| tg k21 <| cD rfl hp (fun hc24 hp => ?_) fun hc24 hp => ?_
     · refine sr <| ta rfl <| nz <| TC.ret ?_
       obtain rfl := ex_ret hp hx11
       exact rt hr9 [] ⟨rfl, rfl⟩
     · exact sk k19 rfl <| TC.region <| tm rfl <| tv (bad rfl rfl) rfl <| ta rfl <| nl <| gk hp [] ⟨_, ovr_eq _ _ rfl, rfl⟩
   · exact TC.exit <| jn [] (J13 (ex_ret hp hx11))

/-! ### fettle/fettlelaw14.up -/
abbrev fettlelaw14_up.R (r : Bool) (v : Value) (A : List FP) : Prop := .bool r = v ∧ A = []
def fettlelaw14_up  : Option Bool :=
  (lower_Moves ([(⟨1, 2⟩ : PPair), (⟨2, 1⟩ : PPair)]) 3).bind fun x4 =>
  (lower_Lower (⟨[]⟩ : PModule) 0).bind fun x14 =>
  (if x4.2.2 = GErr.no ∧ x14.2 = (GErr.code 1) then (fettlelaw05_Ints x4.2.1 ([2])).bind fun x50 =>
  some x50 else some false).bind fun t25 =>
  (if t25 = true ∧ (len x4.1) = 3 then (idx x4.1 0).bind fun x41 =>
  some (decide (x41.a = 3 ∧ x41.b = 2)) else some false).bind fun t26 =>
  (if t26 = true then (idx x4.1 1).bind fun x35 =>
  some (decide (x35.a = 2 ∧ x35.b = 1)) else some false).bind fun t27 =>
  (if t27 = true then (idx x4.1 2).bind fun x29 =>
  some (decide (x29.a = 1 ∧ x29.b = 3)) else some false).bind fun t28 =>
  some t28
set_option maxHeartbeats 4000000 in
theorem fettlelaw14_up_ok {E : World} {H : FP} {w : World} {r : Bool}  (hp : fettlelaw14_up = some r) (hst : St E H [] w) :
    Fn Try.prog 7 #[] w fun v w' => ∃ A, fettlelaw14_up.R r v A ∧ St E H A w' := by
 refine fb 57 [.tmp 0] Try.func7 rfl rfl rfl rfl rfl hst <| sr <| ta rfl <| nz <| sr <| tv (rv_bv (vs := [(0, .int .i64 1), (1, .int .i64 2)]) (ds := [.int .i64 1, .int .i64 2]) rfl (fun w => by kernel_rfl)) rfl <| tv (rv_bv (vs := [(0, .int .i64 2), (1, .int .i64 1)]) (ds := [.int .i64 2, .int .i64 1]) rfl (fun w => by kernel_rfl)) rfl <| tbs [(0, .agg #[.int .i64 1, .int .i64 2]), (1, .agg #[.int .i64 2, .int .i64 1])] [.int .i64 1, .int .i64 2, .int .i64 2, .int .i64 1] u22 i31 (by kernel_rfl) rfl rfl rfl rfl fun b1 => tf 1 0 [_,_] rfl <| TL.litOwn (n := 2) (xs := [(⟨1, 2⟩ : PPair), (⟨2, 1⟩ : PPair)]) (RepL.to (RepL.cons (k := kPair) (x := (⟨1, 2⟩ : PPair)) ⟨rfl, rfl⟩ (RepL.cons (k := kPair) (x := (⟨2, 1⟩ : PPair)) ⟨rfl, rfl⟩ RepL.nil)) rfl) rfl rfl (ltb rfl) fun F2 h3 => bE hp fun x4 hy1 hp => tc 0 [_] rfl c8 (fun _ => lower_Moves_ok (a1 := [(⟨1, 2⟩ : PPair), (⟨2, 1⟩ : PPair)]) (a4 := 3) (h3.ro.mono (subB 0 rfl)) hy1) rfl ?_
 rintro _ _ ⟨v5, F6, v8, F9, v11, F12, rfl, rfl, h7, h10, h13⟩
 refine tm rfl <| tv (xt rfl rfl) rfl <| tv (xt rfl rfl) rfl <| tv (xt rfl rfl) rfl <| ta rfl <| ta rfl <| ta rfl <| nz <| sr <| tv (rv_bv (vs := []) (ds := [.slice none 0 0]) rfl (fun w => by kernel_rfl)) rfl <| bE hp fun x14 hy3 hp => tc 0 [_,_,_,_] rfl c13 (fun _ => lower_Lower_ok (a1 := (⟨[]⟩ : PModule)) (a4 := 0) ((SlI.nil (G := H) none 0).mono subH) hy3) rfl ?_
 rintro _ _ ⟨v15, F16, v18, F19, v21, F22, rfl, rfl, h17, h20, h23⟩
 refine tm rfl <| tv (xt rfl rfl) rfl <| tv (xt rfl rfl) rfl <| tl i41 rfl fun b24 => tS 0 m41 rfl rfl [.int .i64 x14.1.params, .int .i64 x14.1.result, v15, v18] rfl (oc rfl (oc rfl (oc (h17).one (oc (h20).one oc0)))) rfl rfl <| ta rfl <| nz <| sr <| tm rfl <| tv (rv_eqlEN ifc_27 h13 rfl) rfl <| tm rfl <| TL.cut 4 fun K5 k6 => ?_
 have J7 {e9} : ∀ w, St E H [bx b24 41 [.int .i64 x14.1.params, .int .i64 x14.1.result, v15, v18], F16, F19, F22, F6, F9, F12, F2] w → K5 (ovr e9 [(25, .bool (decide (x4.2.2 = GErr.no ∧ x14.2 = (GErr.code 1)))), (1, v5), (2, v8)]) w := by
  refine tlg k6 <| tm rfl <| bE hp fun t25 ht41 hp => TL.cut 4 fun K10 k11 => ?_
  have J12 {e14} : ∀ w, St E H [bx b24 41 [.int .i64 x14.1.params, .int .i64 x14.1.result, v15, v18], F16, F19, F22, F6, F9, F12, F2] w → K10 (ovr e14 [(30, .bool t25), (1, v5)]) w := by
   refine tlg k11 <| tm rfl <| TL.cut 4 fun K15 k16 => ?_
   have J17 {e19} : ∀ w, St E H [bx b24 41 [.int .i64 x14.1.params, .int .i64 x14.1.result, v15, v18], F16, F19, F22, F6, F9, F12, F2] w → K15 (ovr e19 [(35, .bool (decide (t25 = true ∧ (len x4.1) = 3))), (1, v5)]) w := by
    refine tlg k16 <| tm rfl <| bE hp fun t26 ht39 hp => TL.cut 6 fun K20 k21 => ?_
    have J22 {e24} : ∀ w, St E H [bx b24 41 [.int .i64 x14.1.params, .int .i64 x14.1.result, v15, v18], F16, F19, F22, F6, F9, F12, F2] w → K20 (ovr e24 [(42, .bool t26), (1, v5)]) w := by
     refine tlg k21 <| tm rfl <| bE hp fun t27 ht37 hp => TL.cut 6 fun K25 k26 => ?_
     have J27 {e29} : ∀ w, St E H [bx b24 41 [.int .i64 x14.1.params, .int .i64 x14.1.result, v15, v18], F16, F19, F22, F6, F9, F12, F2] w → K25 (ovr e29 [(49, .bool t27), (1, v5)]) w := by
      refine tlg k26 <| tm rfl <| bE hp fun t28 ht35 hp => TL.cut 6 fun K30 k31 => ?_
      have J32 {e34} : ∀ w, St E H [bx b24 41 [.int .i64 x14.1.params, .int .i64 x14.1.result, v15, v18], F16, F19, F22, F6, F9, F12, F2] w → K30 (ovr e34 [(56, .bool t28)]) w := by
       exact tlg k31 <| ta rfl <| nz <| TC.ret <| rt hp [] ⟨rfl, rfl⟩
      refine ifE ht35 (fun hc33 hp => ?_) fun hc33 hp => ?_
      · refine gy rfl (bbT hc33) <| tm rfl <| gy rfl (bbT hc33) <| ti u22 i31 (h7).ro hp rfl rfl rfl rfl ?_
        rintro x29 b30 o31 _ hp rfl h34
        refine gy rfl (bbT hc33) <| tv (lR (ds := [.int .i64 x29.a, .int .i64 x29.b]) ag_31 (Src.at_ 4 rfl) h34 0 rfl rfl rfl) rfl <| gy rfl (bbT hc33) <| tv (rv_bv (vs := [(0, .int .i64 1), (1, .int .i64 3)]) (ds := [.int .i64 1, .int .i64 3]) rfl (fun w => by kernel_rfl)) rfl <| gy rfl (bbT hc33) <| tv (eqP2 ax_31 i3 ac_31 ap_31 Try.underlying3 aq_31 rfl rfl) rfl <| tv (pT (bbT hc33)) rfl ?_
        obtain rfl := Option.some.inj hp
        exact nj J32 rfl
      · refine gn rfl (bbF hc33) rfl rfl <| gn rfl (bbF hc33) rfl rfl <| gn rfl (bbF hc33) rfl rfl <| gn rfl (bbF hc33) rfl rfl <| gn rfl (bbF hc33) rfl rfl <| tv (pF (bbF hc33)) rfl ?_
        obtain rfl := Option.some.inj hp
        exact nj J32 rfl
     refine ifE ht37 (fun hc28 hp => ?_) fun hc28 hp => ?_
     · refine gy rfl (bbT hc28) <| tm rfl <| gy rfl (bbT hc28) <| ti u22 i31 (h7).ro hp rfl rfl rfl rfl ?_
       rintro x35 b36 o37 _ hp rfl h40
       refine gy rfl (bbT hc28) <| tv (lR (ds := [.int .i64 x35.a, .int .i64 x35.b]) ag_31 (Src.at_ 4 rfl) h40 0 rfl rfl rfl) rfl <| gy rfl (bbT hc28) <| tv (rv_bv (vs := [(0, .int .i64 2), (1, .int .i64 1)]) (ds := [.int .i64 2, .int .i64 1]) rfl (fun w => by kernel_rfl)) rfl <| gy rfl (bbT hc28) <| tv (eqP2 ax_31 i3 ac_31 ap_31 Try.underlying3 aq_31 rfl rfl) rfl <| tv (pT (bbT hc28)) rfl ?_
       obtain rfl := Option.some.inj hp
       exact nj J27 rfl
     · refine gn rfl (bbF hc28) rfl rfl <| gn rfl (bbF hc28) rfl rfl <| gn rfl (bbF hc28) rfl rfl <| gn rfl (bbF hc28) rfl rfl <| gn rfl (bbF hc28) rfl rfl <| tv (pF (bbF hc28)) rfl ?_
       obtain rfl := Option.some.inj hp
       exact nj J27 rfl
    refine ifE ht39 (fun hc23 hp => ?_) fun hc23 hp => ?_
    · refine gy rfl (bT hc23) <| tm rfl <| gy rfl (bT hc23) <| ti u22 i31 (h7).ro hp rfl rfl rfl rfl ?_
      rintro x41 b42 o43 _ hp rfl h46
      refine gy rfl (bT hc23) <| tv (lR (ds := [.int .i64 x41.a, .int .i64 x41.b]) ag_31 (Src.at_ 4 rfl) h46 0 rfl rfl rfl) rfl <| gy rfl (bT hc23) <| tv (rv_bv (vs := [(0, .int .i64 3), (1, .int .i64 2)]) (ds := [.int .i64 3, .int .i64 2]) rfl (fun w => by kernel_rfl)) rfl <| gy rfl (bT hc23) <| tv (eqP2 ax_31 i3 ac_31 ap_31 Try.underlying3 aq_31 rfl rfl) rfl <| tv (pT (bT hc23)) rfl ?_
      obtain rfl := Option.some.inj hp
      exact nj J22 rfl
    · refine gn rfl (bF hc23) rfl rfl <| gn rfl (bF hc23) rfl rfl <| gn rfl (bF hc23) rfl rfl <| gn rfl (bF hc23) rfl rfl <| gn rfl (bF hc23) rfl rfl <| tv (pF (bF hc23)) rfl ?_
      obtain rfl := Option.some.inj hp
      exact nj J22 rfl
   by_cases hc18 : t25 = true
   · exact gy rfl (bbT hc18) <| tm rfl <| gy rfl (bbT hc18) <| tv (ln u22 h7.ro rfl) rfl <| gy rfl (bbT hc18) <| tv (beq rfl rfl) rfl <| tv (pT (bbT hc18)) rfl <| nj J17 (bAt hc18)
   · exact gn rfl (bbF hc18) rfl rfl <| gn rfl (bbF hc18) rfl rfl <| gn rfl (bbF hc18) rfl rfl <| tv (pF (bbF hc18)) rfl <| nj J17 (bAf hc18)
  refine ifE ht41 (fun hc13 hp => ?_) fun hc13 hp => ?_
  · refine gy rfl (bT hc13) <| tm rfl <| gy rfl (bT hc13) <| tbs [(0, .int .i64 2)] [.int .i64 2] u25 i3 (by kernel_rfl) rfl rfl rfl rfl fun b47 => gy rfl (bT hc13) <| tf 1 0 [_,_,_,_,_,_,_,_,_,_] rfl <| TL.litOwn (n := 1) (xs := [2]) (RepL.to (RepL.cons (k := (kInt .i64)) (x := 2) ⟨rfl, rfl⟩ RepL.nil) rfl) rfl rfl (ltb rfl) fun F48 h49 => bE hp fun x50 hy42 hp => tc 0 [_,_,_,_,_,_,_,_,_] rfl c20 (fun _ => fettlelaw05_Ints_ok (a1 := x4.2.1) (a4 := [2]) (h10.ro.mono (subB 6 rfl)) (h49.ro.mono (subB 0 rfl)) hy42) rfl ?_
    rintro _ _ ⟨rfl, rfl⟩
    refine tv (pT (bT hc13)) rfl <| tp [1, 2, 3, 4, 5, 6, 7, 8] [_,_,_,_,_,_,_,_] rfl rfl ?_
    obtain rfl := Option.some.inj hp
    exact nj J12 rfl
  · refine gn rfl (bF hc13) rfl rfl <| gn rfl (bF hc13) rfl rfl <| gn rfl (bF hc13) rfl rfl <| tv (pF (bF hc13)) rfl ?_
    obtain rfl := Option.some.inj hp
    exact nj J12 rfl
 by_cases hc8 : x4.2.2 = GErr.no
 · exact gy rfl (bT hc8) <| tm rfl <| gy rfl (bT hc8) <| tv (mI u63 rfl) rfl <| gy rfl (bT hc8) <| tv (rv_eqlEC ifc_27 cmp_63 Try.underlying63 Try.underlying106 (by decide) h23 rfl rfl) rfl <| tv (pT (bT hc8)) rfl <| nj J7 (bAt hc8)
 · exact gn rfl (bF hc8) rfl rfl <| gn rfl (bF hc8) rfl rfl <| gn rfl (bF hc8) rfl rfl <| tv (pF (bF hc8)) rfl <| nj J7 (bAf hc8)

/-! ### fettle/fettleref14.May -/
abbrev fettleref14_May.R (r : Bool) (v : Value) (A : List FP) : Prop := .bool r = v ∧ A = []
def fettleref14_May.nx8  : Option Bool :=
  some true
def fettleref14_May.nx31 (x5 : Int) : Option (Ex (Ex Bool Unit) Int) :=
  some (.go (w64 (x5 + 1)))
def fettleref14_May.bd31 (a1 : List PPair) (x5 : Int) (x7 : Int) : Option (Ex (Ex Bool Unit) Int) :=
  if x7 < x5 then
    (idx a1 x7).bind fun x8 =>
    (idx a1 x5).bind fun x14 =>
    if x8.a = x14.a then
      some (.ret (.ret false))
    else
      some (.go (w64 (x7 + 1)))
  else
    some (.ret (.go ()))
def fettleref14_May.nx24 (a1 : List PPair) (x5 : Int) : Option (Ex (Ex Bool Unit) Int) :=
  (whl (fun (s : Int) => fettleref14_May.bd31 a1 x5 s) FUEL 0).bind fun z =>
  match z with
    | .ret r => some (.ret (.ret r))
    | .go p => fettleref14_May.nx31 x5
def fettleref14_May.bd24 (a1 : List PPair) (a4 : Int) (x5 : Int) (x6 : Int) : Option (Ex (Ex Bool Unit) Int) :=
  if x6 < 2 then
    (idx a1 x5).bind fun x20 =>
    (pget x20.a x20.b x6).bind fun x26 =>
    (if x26 < 0 then some true else (idx a1 x5).bind fun x28 =>
    (pget x28.a x28.b x6).bind fun x34 =>
    some (decide (x34 ≥ a4))).bind fun t27 =>
    if t27 = true then
      some (.ret (.ret false))
    else
      some (.go (w64 (x6 + 1)))
  else
    some (.ret (.go ()))
def fettleref14_May.bd8 (a1 : List PPair) (a4 : Int) (x5 : Int) : Option (Ex (Ex Bool Unit) Int) :=
  if x5 < (len a1) then
    (whl (fun (s : Int) => fettleref14_May.bd24 a1 a4 x5 s) FUEL 0).bind fun z =>
    match z with
      | .ret r => some (.ret (.ret r))
      | .go p => fettleref14_May.nx24 a1 x5
  else
    some (.ret (.go ()))
def fettleref14_May (a1 : List PPair) (a4 : Int) : Option Bool :=
  (whl (fun (s : Int) => fettleref14_May.bd8 a1 a4 s) FUEL 0).bind fun z =>
  match z with
    | .ret r => some r
    | .go p => fettleref14_May.nx8
set_option maxHeartbeats 4000000 in
theorem fettleref14_May_ok {E : World} {H : FP} {w : World} {a1 : List PPair} {a4 : Int} {v2 : Value} {r : Bool} (h3 : SlI kPair H a1 v2) (hp : fettleref14_May a1 a4 = some r) (hst : St E H [] w) :
    Fn Try.prog 9 #[v2, .int .i64 a4] w fun v w' => ∃ A, fettleref14_May.R r v A ∧ St E H A w' := by
 refine fb 51 [.tmp 4] Try.func9 rfl rfl rfl rfl rfl hst <| sr <| ta rfl <| nz <| TC.seq fun K1 k2 => sr <| ta rfl <| nz <| TC.block <| bE hp fun z_4 hz5 hr6 => ?_
 have J10 {e9} (hq11 : .go () = z_4) : ∀ w, St E H [] w → K1 (ovr e9 []) w := by
  subst hq11
  replace hp : fettleref14_May.nx8 = some r := hr6
  exact tg k2 <| sr <| ta rfl <| nz <| TC.ret <| rt hp [] ⟨rfl, rfl⟩
 refine lp hz5 [] rfl (fun s e L => ∃ e3, e = ovr e3 [(0, v2), (1, .int .i64 a4), (5, .int .i64 s)] ∧ L = []) ⟨_, ovr_eq _ _ rfl, rfl⟩ ?_
 rintro x5 _ _ ⟨e3, rfl, rfl⟩ X7 hp hx8
 replace hp : fettleref14_May.bd8 a1 a4 x5 = some X7 := hp
 refine TC.seq fun K12 k13 => sr <| tm rfl <| tm rfl <| tv (ln u22 h3 rfl) rfl <| tv (blt rfl rfl) rfl <| nz <| cD rfl hp (fun hc14 hp => ?_) fun hc14 hp => ?_
 · refine sk k13 rfl <| TC.seq fun K15 k16 => TC.block <| TC.seq fun K17 k18 => sr <| ta rfl <| nz <| TC.block <| bE hp fun z_20 hz21 hr22 => ?_
   have J47 {e25} (hq48 : .go () = z_20) : ∀ w, St E H [] w → K17 (ovr e25 [(0, v2), (1, .int .i64 a4), (5, .int .i64 x5)]) w := by
    subst hq48
    replace hp : fettleref14_May.nx24 a1 x5 = some X7 := hr22
    refine tg k18 <| sr <| ta rfl <| nz <| TC.block <| bE hp fun z_27 hz28 hr29 => ?_
    have J33 {e32} (hq34 : .go () = z_27) : ∀ w, St E H [] w → K15 (ovr e32 [(0, v2), (1, .int .i64 a4), (5, .int .i64 x5)]) w := by
     subst hq34
     replace hp : fettleref14_May.nx31 x5 = some X7 := hr29
     exact tg k16 <| TC.region <| tm rfl <| tv (bad rfl rfl) rfl <| ta rfl <| nl <| gk hp [] ⟨_, ovr_eq _ _ rfl, rfl⟩
    refine lp hz28 [] rfl (fun s e L => ∃ e26, e = ovr e26 [(0, v2), (1, .int .i64 a4), (5, .int .i64 x5), (7, .int .i64 s)] ∧ L = []) ⟨_, ovr_eq _ _ rfl, rfl⟩ ?_
    rintro x7 _ _ ⟨e26, rfl, rfl⟩ X30 hp hx31
    replace hp : fettleref14_May.bd31 a1 x5 x7 = some X30 := hp
    refine TC.seq fun K35 k36 => sr <| tm rfl <| tm rfl <| tv (blt rfl rfl) rfl <| nz <| cD rfl hp (fun hc37 hp => ?_) fun hc37 hp => ?_
    · refine sk k36 rfl <| TC.seq fun K38 k39 => TC.block <| TC.seq fun K40 k41 => cq mix (by kernel_rfl) <| qv mv rfl <| qv mv rfl <| qi u22 i31 h3 hp rfl rfl rfl rfl ?_
      rintro x8 b9 o10 _ hp rfl h13
      refine qv (ixP 0 ax_31 i3 rfl rfl rfl) rfl <| qv (lr s3 sH h13 0 rfl rfl) rfl <| qv mv rfl <| qv mv rfl <| qi u22 i31 h3 hp rfl rfl rfl rfl ?_
      rintro x14 b15 o16 _ hp rfl h19
      refine qv (ixP 0 ax_31 i3 rfl rfl rfl) rfl <| qv (lr s3 sH h19 0 rfl rfl) rfl <| qv (beq rfl rfl) rfl <| QL.nil <| tg k41 <| cD rfl hp (fun hc44 hp => ?_) fun hc44 hp => ?_
      · refine sr <| ta rfl <| nz <| TC.ret ?_
        obtain rfl := ex_ret hp hx31
        obtain rfl := ex_ret hr29 hx8
        exact rt hr6 [] ⟨rfl, rfl⟩
      · exact sk k39 rfl <| TC.region <| tm rfl <| tv (bad rfl rfl) rfl <| ta rfl <| nl <| gk hp [] ⟨_, ovr_eq _ _ rfl, rfl⟩
    · exact TC.exit <| jn [] (J33 (ex_ret hp hx31))
   refine lp hz21 [] rfl (fun s e L => ∃ e19, e = ovr e19 [(0, v2), (1, .int .i64 a4), (5, .int .i64 x5), (6, .int .i64 s)] ∧ L = []) ⟨_, ovr_eq _ _ rfl, rfl⟩ ?_
   rintro x6 _ _ ⟨e19, rfl, rfl⟩ X23 hp hx24
   replace hp : fettleref14_May.bd24 a1 a4 x5 x6 = some X23 := hp
   refine TC.seq fun K49 k50 => sr <| tm rfl <| tv (blt rfl rfl) rfl <| nz <| cD rfl hp (fun hc51 hp => ?_) fun hc51 hp => ?_
   · refine sk k50 rfl <| TC.seq fun K52 k53 => TC.block <| sr <| tm rfl <| tm rfl <| tm rfl <| ti u22 i31 h3 hp rfl rfl rfl rfl ?_
     rintro x20 b21 o22 _ hp rfl h25
     refine bE hp fun x26 hx55 hp => tv (ixQ ax_31 i3 hx55 rfl rfl) rfl <| tv (lr s3 sH h25 (x6).toNat rfl (pget_at hx55)) rfl <| tv (blt rfl rfl) rfl <| tm rfl <| bE hp fun t27 ht62 hp => TL.cut 9 fun K56 k57 => ?_
     have J58 {e60} : ∀ w, St E H [] w → K56 (ovr e60 [(34, .bool t27), (0, v2), (1, .int .i64 a4), (5, .int .i64 x5), (6, .int .i64 x6)]) w := by
      refine tlg k57 <| nz <| cB rfl hp (fun hc61 hp => ?_) fun hc61 hp => ?_
      · refine sr <| ta rfl <| nz <| TC.ret ?_
        obtain rfl := ex_ret hp hx24
        obtain rfl := ex_ret hr22 hx8
        exact rt hr6 [] ⟨rfl, rfl⟩
      · exact sk k53 rfl <| TC.region <| tm rfl <| tv (bad rfl rfl) rfl <| ta rfl <| nl <| gk hp [] ⟨_, ovr_eq _ _ rfl, rfl⟩
     refine ifE ht62 (fun hc59 hp => ?_) fun hc59 hp => ?_
     · refine gn rfl (bT hc59) rfl rfl <| gn rfl (bT hc59) rfl rfl <| gn rfl (bT hc59) rfl rfl <| gn rfl (bT hc59) rfl rfl <| gn rfl (bT hc59) rfl rfl <| gn rfl (bT hc59) rfl rfl <| gn rfl (bT hc59) rfl rfl <| gn rfl (bT hc59) rfl rfl <| tv (pT (bT hc59)) rfl ?_
       obtain rfl := Option.some.inj hp
       exact nj J58 rfl
     · refine gy rfl (bF hc59) <| tm rfl <| gy rfl (bF hc59) <| tm rfl <| gy rfl (bF hc59) <| tm rfl <| gy rfl (bF hc59) <| ti u22 i31 h3 hp rfl rfl rfl rfl ?_
       rintro x28 b29 o30 _ hp rfl h33
       refine gy rfl (bF hc59) <| bE hp fun x34 hx64 hp => tv (ixQ ax_31 i3 hx64 rfl rfl) rfl <| gy rfl (bF hc59) <| tv (lr s3 sH h33 (x6).toNat rfl (pget_at hx64)) rfl <| gy rfl (bF hc59) <| tm rfl <| gy rfl (bF hc59) <| tv (bge rfl rfl) rfl <| tv (pF (bF hc59)) rfl ?_
       obtain rfl := Option.some.inj hp
       exact nj J58 rfl
   · exact TC.exit <| jn [] (J47 (ex_ret hp hx24))
 · exact TC.exit <| jn [] (J10 (ex_ret hp hx8))
end Go.Proofs.Ytpmcbahahjelnaa
