/- The walk through the program's functions: each one's pure reading, and that a call does what it says. No conditions. -/
import Derived.Test.YteaknconpkklhaaW6
set_option linter.unusedVariables false
set_option linter.unusedSimpArgs false
namespace Go.Proofs.Yteaknconpkklhaa
open Go Go.Proofs
/-! ### fettle/graph.Trim -/
abbrev graph_Trim.R (r : PFunc × List Int) (v : Value) (A : List FP) : Prop := ∃ (w1 : Value) (G1 : FP) (w2 : Value) (G2 : FP) (w3 : Value) (G3 : FP), .tuple #[.agg #[.int .i64 r.1.params, .int .i64 r.1.result, w1, w2], w3] = v ∧ A = [G1, G2, G3] ∧ SlO 3 (kInt .i64) r.1.regs w1 G1 ∧ SlO 50 kBlock r.1.blocks w2 G2 ∧ SlO 3 (kInt .i64) r.2 w3 G3
def graph_Trim.nx28 (a1 : PFunc) (x29 : List Int) (x33 : List Int) (x42 : List PBlock) : Option (PFunc × List Int) :=
  some ((⟨a1.params, a1.result, x33, x42⟩ : PFunc), x29)
def graph_Trim.jn38 (x41 : Int) (x46 : List PBlock) : Option (Ex (List PBlock) (List PBlock × Int)) :=
  some (.go (x46, (w64 (x41 + 1))))
def graph_Trim.nx69 (x37 : List PBlock) (x41 : Int) (x50 : PBlock) (x75 : List PPhi) (x84 : List PInstr) (x93 : List Int) : Option (Ex (List PBlock) (List PBlock × Int)) :=
  (cat x37 [(⟨x75, x84, (⟨x50.term.kind, x50.term.arg, x93⟩ : PTerm)⟩ : PBlock)]).bind fun x98 =>
  graph_Trim.jn38 x41 x98
def graph_Trim.jn83 (x88 : List Int) (x92 : Int) (x108 : Int) : Option (Ex (List Int) (List Int × Int)) :=
  (cat x88 [x108]).bind fun x110 =>
  some (.go (x110, (w64 (x92 + 1))))
def graph_Trim.bd69 (x29 : List Int) (x50 : PBlock) (x88 : List Int) (x92 : Int) : Option (Ex (List Int) (List Int × Int)) :=
  if x92 < (len x50.term.to) then
    (idx x50.term.to x92).bind fun x102 =>
    if x102 ≥ 0 ∧ x102 < (len x29) then
      (idx x29 x102).bind fun x114 =>
      graph_Trim.jn83 x88 x92 x114
    else
      graph_Trim.jn83 x88 x92 x102
  else
    some (.ret x88)
def graph_Trim.nx60 (x29 : List Int) (x37 : List PBlock) (x41 : Int) (x50 : PBlock) (x75 : List PPhi) (x84 : List PInstr) : Option (Ex (List PBlock) (List PBlock × Int)) :=
  (whl (fun (s : (List Int × Int)) => graph_Trim.bd69 x29 x50 s.1 s.2) FUEL (([] : List Int), 0)).bind fun z =>
  graph_Trim.nx69 x37 x41 x50 x75 x84 z
def graph_Trim.bd60 (x50 : PBlock) (x79 : List PInstr) (x83 : Int) : Option (Ex (List PInstr) (List PInstr × Int)) :=
  if x83 < (len x50.ins) then
    (idx x50.ins x83).bind fun x121 =>
    (slices_Clone x121.args).bind fun x130 =>
    (cat x79 [(⟨x121.op, x121.dst, x130, x121.imm, x121.fn⟩ : PInstr)]).bind fun x135 =>
    some (.go (x135, (w64 (x83 + 1))))
  else
    some (.ret x79)
def graph_Trim.nx51 (x29 : List Int) (x37 : List PBlock) (x41 : Int) (x50 : PBlock) (x75 : List PPhi) : Option (Ex (List PBlock) (List PBlock × Int)) :=
  (whl (fun (s : (List PInstr × Int)) => graph_Trim.bd60 x50 s.1 s.2) FUEL (([] : List PInstr), 0)).bind fun z =>
  graph_Trim.nx60 x29 x37 x41 x50 x75 z
def graph_Trim.jn115 (x74 : Int) (x140 : List PPhi) : Option (Ex (List PPhi) (List PPhi × Int)) :=
  some (.go (x140, (w64 (x74 + 1))))
def graph_Trim.bd51 (x12 : List Bool) (x16 : List (List Int)) (x41 : Int) (x50 : PBlock) (x70 : List PPhi) (x74 : Int) : Option (Ex (List PPhi) (List PPhi × Int)) :=
  if x74 < (len x50.phis) then
    (idx x50.phis x74).bind fun x144 =>
    (idx x16 x41).bind fun x3354 =>
    (graph_kept x144.args x3354 x12).bind fun x4554 =>
    (cat x70 [(⟨x144.dst, x4554⟩ : PPhi)]).bind fun x5754 =>
    graph_Trim.jn115 x74 x5754
  else
    some (.ret x70)
def graph_Trim.bd28 (a1 : PFunc) (x12 : List Bool) (x16 : List (List Int)) (x29 : List Int) (x37 : List PBlock) (x41 : Int) : Option (Ex (List PBlock) (List PBlock × Int)) :=
  if x41 < (len a1.blocks) then
    (idx a1.blocks x41).bind fun x50 =>
    (idx x12 x41).bind fun x63 =>
    if (!x63) = true then
      graph_Trim.jn38 x41 x37
    else
      (whl (fun (s : (List PPhi × Int)) => graph_Trim.bd51 x12 x16 x41 x50 s.1 s.2) FUEL (([] : List PPhi), 0)).bind fun z =>
      graph_Trim.nx51 x29 x37 x41 x50 z
  else
    some (.ret x37)
def graph_Trim.jn20 (a1 : PFunc) (x12 : List Bool) (x16 : List (List Int)) (x29 : List Int) (x33 : List Int) : Option (PFunc × List Int) :=
  (whl (fun (s : (List PBlock × Int)) => graph_Trim.bd28 a1 x12 x16 x29 s.1 s.2) FUEL (([] : List PBlock), 0)).bind fun z =>
  graph_Trim.nx28 a1 x29 x33 z
def graph_Trim.nx15 (a1 : PFunc) (x12 : List Bool) (x16 : List (List Int)) (x29 : List Int) : Option (PFunc × List Int) :=
  (slices_Clone a1.regs).bind fun x9357 =>
  graph_Trim.jn20 a1 x12 x16 x29 x9357
def graph_Trim.jn181 (x28 : Int) (x10957 : List Int) (x10960 : Int) : Option (Ex (List Int) (List Int × Int × Int)) :=
  some (.go (x10957, x10960, (w64 (x28 + 1))))
def graph_Trim.bd15 (x12 : List Bool) (x20 : List Int) (x24 : List Int) (x27 : Int) (x28 : Int) : Option (Ex (List Int) (List Int × Int × Int)) :=
  if x28 < (len x20) then
    (idx x24 x28).bind fun x10961 =>
    (idx x12 x28).bind fun x10967 =>
    if x10967 = true then
      (idx (x24.set (x28).toNat (-1)) x28).bind fun x10973 =>
      graph_Trim.jn181 x28 ((x24.set (x28).toNat (-1)).set (x28).toNat x27) (w64 (x27 + 1))
    else
      graph_Trim.jn181 x28 (x24.set (x28).toNat (-1)) x27
  else
    some (.ret x24)
def graph_Trim (a1 : PFunc) : Option (PFunc × List Int) :=
  (graph_Next a1).bind fun x8 =>
  (graph_Reached a1).bind fun x12 =>
  (graph_ahead x8).bind fun x16 =>
  (mkl (len a1.blocks) (0 : Int)).bind fun x20 =>
  (whl (fun (s : (List Int × Int × Int)) => graph_Trim.bd15 x12 x20 s.1 s.2.1 s.2.2) FUEL (x20, 0, 0)).bind fun z =>
  graph_Trim.nx15 a1 x12 x16 z
set_option maxHeartbeats 4000000 in
theorem graph_Trim_ok {E : World} {H : FP} {w : World} {a1 : PFunc} {v2 : Value} {v4 : Value} {r : PFunc × List Int} (h3 : SlI (kInt .i64) H a1.regs v2) (h5 : SlI kBlock H a1.blocks v4) (hp : graph_Trim a1 = some r) (hst : St E H [] w) :
    Fn Try.prog 21 #[.agg #[.int .i64 a1.params, .int .i64 a1.result, v2, v4]] w fun v w' => ∃ A, graph_Trim.R r v A ∧ St E H A w' := by
 refine Fn.bodyV (fn := Try.f21) (args := [.agg #[.int .i64 a1.params, .int .i64 a1.result, v2, v4]]) E H [] 158 Try.func21 rfl rfl (leb rfl) hst <| sr <| tb [.int .i64 a1.params, .int .i64 a1.result, v2, v4] rfl rfl fun b6 => tl i40 rfl fun b7 => ta rfl <| nz <| sr <| tv (lA (ds := [.int .i64 a1.params, .int .i64 a1.result, v2, v4]) ag_40 1 rfl rfl rfl rfl) rfl <| bE hp fun x8 hy1 hp => tc 0 [_,_] rfl c51 (fun _ => graph_Next_ok (a1 := a1) (h3.mono subH) (h5.mono subH) hy1) rfl ?_
 rintro _ _ ⟨v9, F10, rfl, rfl, h11⟩
 refine ta rfl <| nz <| sr <| tv (lA (ds := [.int .i64 a1.params, .int .i64 a1.result, v2, v4]) ag_40 2 rfl rfl rfl rfl) rfl <| bE hp fun x12 hy3 hp => tc 0 [_,_,_] rfl c52 (fun _ => graph_Reached_ok (a1 := a1) (h3.mono subH) (h5.mono subH) hy3) rfl ?_
 rintro _ _ ⟨v13, F14, rfl, rfl, h15⟩
 refine tm rfl <| bE hp fun x16 hy5 hp => tc 0 [_,_,_,_] rfl c53 (fun _ => graph_ahead_ok (a1 := x8) (h11.ro.mono (subB 1 rfl)) hy5) rfl ?_
 rintro _ _ ⟨v17, F18, rfl, rfl, h19⟩
 refine ta rfl <| ta rfl <| nz <| sr <| tv (fa f40_3 rfl) rfl <| tv (lb s38 4 rfl rfl rfl) rfl <| tv (ln u38 h5 rfl) rfl <| tk (k := (kInt .i64)) u25 i3 hp ⟨rfl, rfl⟩ rfl rfl rfl rfl rfl rfl fun x20 v21 F22 h23 hp => ta rfl <| nz <| sr <| ta rfl <| nz <| TC.seq fun K8 k9 => sr <| tm rfl <| tv (ln u25 h23.ro rfl) rfl <| tm rfl <| nz <| TC.block <| bE hp fun z_11 hz12 hr13 => ?_
 have J173 {x29 F30 e16} (h31 : SlO 3 (kInt .i64) x29 v21 F30) (hq174 : x29 = z_11) : ∀ w, St E H [bx b6 40 [.int .i64 a1.params, .int .i64 a1.result, v2, v4], bx b7 40 [.int .i64 0, .int .i64 0, .slice none 0 0, .slice none 0 0], F14, F18, F30] w → K8 (ovr e16 [(1, .pointer (some ⟨b6, 0, none⟩)), (2, .pointer (some ⟨b7, 0, none⟩)), (5, v13), (6, v17), (7, v21)]) w := by
  subst hq174
  replace hp : graph_Trim.nx15 a1 x12 x16 x29 = some r := hr13
  refine tg k9 <| TC.seq fun K17 k18 => ?_
  have J20 {x33 b32 v34 F35 e19} (h36 : SlO 3 (kInt .i64) x33 v34 F35) (hp : graph_Trim.jn20 a1 x12 x16 x29 x33 = some r) : ∀ w, St E H [bx b6 40 [.int .i64 a1.params, .int .i64 a1.result, v2, v4], bx b7 40 [.int .i64 0, .int .i64 0, .slice none 0 0, .slice none 0 0], F14, F18, F30, bx b32 40 [.int .i64 a1.params, .int .i64 a1.result, v34, .slice none 0 0], F35] w → K17 (ovr e19 [(1, .pointer (some ⟨b6, 0, none⟩)), (2, .pointer (some ⟨b7, 0, none⟩)), (5, v13), (6, v17), (7, v21), (10, .pointer (some ⟨b32, 0, none⟩))]) w := by
   refine tg k18 <| TC.seq fun K21 k22 => sr <| tv (fa f40_3 rfl) rfl <| tv (lb s38 0 rfl rfl rfl) rfl <| tv (ln u38 h5 rfl) rfl <| tm rfl <| nz <| TC.block <| bE hp fun z_24 hz25 hr26 => ?_
   have J30 {x42 v43 F44 e29} (h45 : SlO 50 kBlock x42 v43 F44) (hq31 : x42 = z_24) : ∀ w, St E H [bx b7 40 [.int .i64 0, .int .i64 0, .slice none 0 0, .slice none 0 0], F30, bx b32 40 [.int .i64 a1.params, .int .i64 a1.result, v34, v43], F35, F44] w → K21 (ovr e29 [(2, .pointer (some ⟨b7, 0, none⟩)), (7, v21), (10, .pointer (some ⟨b32, 0, none⟩))]) w := by
    subst hq31
    replace hp : graph_Trim.nx28 a1 x29 x33 x42 = some r := hr26
    refine tg k22 <| sr <| tv (lA (ds := [.int .i64 a1.params, .int .i64 a1.result, v34, v43]) ag_40 2 rfl rfl rfl rfl) rfl <| tm rfl <| tS 0 m40 rfl rfl [.int .i64 a1.params, .int .i64 a1.result, v34, v43] rfl (oc rfl (oc rfl (oc (h36).one (oc (h45).one oc0)))) rfl rfl <| ta rfl <| nz <| TC.ret ?_
    obtain rfl := Option.some.inj hp
    exact fun w hw => retC2 hw rfl rfl rfl ag_40 0 rfl rfl ⟨v34, F35, v43, F44, v21, F30, rfl, rfl, h36, h45, h31⟩ (hw.pickA [3, 4, 1] rfl)
   refine W.new0 <| lp hz25 [2, 3, 4, 5, 6, 7, 0] rfl (fun s e L => ∃ x37 x41 v38 F39 e23, s = (x37, x41) ∧ SlO 50 kBlock x37 v38 F39 ∧ e = ovr e23 [(2, .pointer (some ⟨b7, 0, none⟩)), (5, v13), (6, v17), (7, v21), (10, .pointer (some ⟨b32, 0, none⟩)), (58, v4), (59, .int .i64 (len a1.blocks)), (60, .int .i64 x41)] ∧ L = [bx b7 40 [.int .i64 0, .int .i64 0, .slice none 0 0, .slice none 0 0], F14, F18, F30, bx b32 40 [.int .i64 a1.params, .int .i64 a1.result, v34, v38], F35, F39]) ⟨_, _, (.slice none 0 0), ([] : FP), _, rfl, (SlO.nil 50), ovr_eq _ _ rfl, rfl⟩ ?_
   rintro _ _ _ ⟨x37, x41, v38, F39, e23, rfl, h40, rfl, rfl⟩ X27 hp hx28
   replace hp : graph_Trim.bd28 a1 x12 x16 x29 x37 x41 = some X27 := hp
   refine sr <| tv (blt rfl rfl) rfl <| nz <| TC.seq fun K32 k33 => cD rfl hp (fun hc34 hp => ?_) fun hc34 hp => ?_
   · refine sk k33 rfl <| TC.seq fun K35 k36 => ?_
     have J38 {x46 v47 F48 e37} (h49 : SlO 50 kBlock x46 v47 F48) (hp : graph_Trim.jn38 x41 x46 = some X27) : ∀ w, St E H [bx b7 40 [.int .i64 0, .int .i64 0, .slice none 0 0, .slice none 0 0], F14, F18, F30, bx b32 40 [.int .i64 a1.params, .int .i64 a1.result, v34, v47], F35, F48] w → K35 (ovr e37 [(2, .pointer (some ⟨b7, 0, none⟩)), (5, v13), (6, v17), (7, v21), (10, .pointer (some ⟨b32, 0, none⟩)), (58, v4), (59, .int .i64 (len a1.blocks)), (60, .int .i64 x41)]) w := by
      exact tg k36 <| TC.region <| tv (bad rfl rfl) rfl <| tm rfl <| nl <| gk hp [0, 1, 2, 3, 4, 5, 6] ⟨_, _, v47, F48, _, rfl, h49, ovr_eq _ _ rfl, rfl⟩
     refine TC.block <| sr <| tm rfl <| ti u38 i50 h5 hp rfl rfl rfl rfl ?_
     rintro x50 b51 o52 _ hp ⟨v56, v58, v60, rfl, h57, h59, h61⟩ h55
     refine tv (lR (ds := [v56, v58, .int .i64 x50.term.kind, .int .i64 x50.term.arg, v60]) ag_50 sH h55 0 rfl rfl rfl) rfl <| tl i50 rfl fun b62 => ta rfl <| tS 0 m50 rfl rfl [v56, v58, .int .i64 x50.term.kind, .int .i64 x50.term.arg, v60] rfl (oc (h57).one (oc (h59).one (oc rfl (oc rfl (oc (h61).one oc0))))) rfl rfl <| nz <| TC.seq fun K40 k41 => sr <| tm rfl <| tm rfl <| ti u88 i4 (h15).ro hp rfl rfl rfl rfl ?_
     rintro x63 b64 o65 _ hp rfl h68
     refine tv (lr s4 (Src.at_ 2 rfl) h68 0 rfl rfl) rfl <| tv (rv_not rfl) rfl <| nz <| cB rfl hp (fun hc43 hp => ?_) fun hc43 hp => ?_
     · exact TC.exit <| jn [1, 2, 3, 4, 5, 6, 7] (J38 h40 hp)
     · refine sk k41 rfl <| sr <| tv (fa f50_2 rfl) rfl <| tv (fa f46_0 rfl) rfl <| tv (lb s3 0 rfl rfl rfl) rfl <| tv (fa f50_2 rfl) rfl <| tv (fa f46_1 rfl) rfl <| tv (lb s3 0 rfl rfl rfl) rfl <| tv (rv_bv (vs := [(0, .int .i64 x50.term.kind), (1, .int .i64 x50.term.arg)]) (ds := [.int .i64 x50.term.kind, .int .i64 x50.term.arg, .slice none 0 0]) rfl (fun w => by kernel_rfl)) rfl <| tv (rv_bv (vs := [(2, .agg #[.int .i64 x50.term.kind, .int .i64 x50.term.arg, .slice none 0 0])]) (ds := [.slice none 0 0, .slice none 0 0, .int .i64 x50.term.kind, .int .i64 x50.term.arg, .slice none 0 0]) rfl (fun w => by kernel_rfl)) rfl <| tl i50 rfl fun b69 => tS 0 m50 rfl rfl [.slice none 0 0, .slice none 0 0, .int .i64 x50.term.kind, .int .i64 x50.term.arg, .slice none 0 0] rfl (oc rfl (oc rfl (oc rfl (oc rfl (oc rfl oc0))))) rfl rfl <| nz <| TC.seq fun K44 k45 => sr <| tv (fa f50_0 rfl) rfl <| tv (lb s47 1 rfl rfl rfl) rfl <| tv (ln u47 h57 rfl) rfl <| tm rfl <| nz <| TC.block <| bE hp fun z_47 hz48 hr49 => ?_
       have J107 {x75 v76 F77 e52} (h78 : SlO 76 kPhi x75 v76 F77) (hq108 : x75 = z_47) : ∀ w, St E H [bx b7 40 [.int .i64 0, .int .i64 0, .slice none 0 0, .slice none 0 0], F14, F18, F30, bx b32 40 [.int .i64 a1.params, .int .i64 a1.result, v34, v38], F35, F39, bx b62 50 [v56, v58, .int .i64 x50.term.kind, .int .i64 x50.term.arg, v60], bx b69 50 [v76, .slice none 0 0, .int .i64 x50.term.kind, .int .i64 x50.term.arg, .slice none 0 0], F77] w → K44 (ovr e52 [(2, .pointer (some ⟨b7, 0, none⟩)), (5, v13), (6, v17), (7, v21), (10, .pointer (some ⟨b32, 0, none⟩)), (12, .pointer (some ⟨b62, 0, none⟩)), (13, .pointer (some ⟨b69, 0, none⟩)), (58, v4), (59, .int .i64 (len a1.blocks)), (60, .int .i64 x41)]) w := by
        subst hq108
        replace hp : graph_Trim.nx51 x29 x37 x41 x50 x75 = some X27 := hr49
        refine tg k45 <| TC.seq fun K53 k54 => sr <| tv (fa f50_1 rfl) rfl <| tv (lb s48 7 rfl rfl rfl) rfl <| tv (ln u48 h59 rfl) rfl <| tm rfl <| nz <| TC.block <| bE hp fun z_56 hz57 hr58 => ?_
        have J94 {x84 v85 F86 e61} (h87 : SlO 52 kInstr x84 v85 F86) (hq95 : x84 = z_56) : ∀ w, St E H [bx b7 40 [.int .i64 0, .int .i64 0, .slice none 0 0, .slice none 0 0], F14, F18, F30, bx b32 40 [.int .i64 a1.params, .int .i64 a1.result, v34, v38], F35, F39, bx b62 50 [v56, v58, .int .i64 x50.term.kind, .int .i64 x50.term.arg, v60], bx b69 50 [v76, v85, .int .i64 x50.term.kind, .int .i64 x50.term.arg, .slice none 0 0], F77, F86] w → K53 (ovr e61 [(2, .pointer (some ⟨b7, 0, none⟩)), (5, v13), (6, v17), (7, v21), (10, .pointer (some ⟨b32, 0, none⟩)), (12, .pointer (some ⟨b62, 0, none⟩)), (13, .pointer (some ⟨b69, 0, none⟩)), (58, v4), (59, .int .i64 (len a1.blocks)), (60, .int .i64 x41)]) w := by
         subst hq95
         replace hp : graph_Trim.nx60 x29 x37 x41 x50 x75 x84 = some X27 := hr58
         refine tg k54 <| TC.seq fun K62 k63 => sr <| tv (fa f50_2 rfl) rfl <| tv (fa f46_2 rfl) rfl <| tv (lb s25 7 rfl rfl rfl) rfl <| tv (ln u25 h61 rfl) rfl <| tm rfl <| nz <| TC.block <| bE hp fun z_65 hz66 hr67 => ?_
         have J72 {x93 v94 F95 e70} (h96 : SlO 3 (kInt .i64) x93 v94 F95) (hq73 : x93 = z_65) : ∀ w, St E H [bx b7 40 [.int .i64 0, .int .i64 0, .slice none 0 0, .slice none 0 0], F14, F18, F30, bx b32 40 [.int .i64 a1.params, .int .i64 a1.result, v34, v38], F35, F39, bx b69 50 [v76, v85, .int .i64 x50.term.kind, .int .i64 x50.term.arg, v94], F77, F86, F95] w → K62 (ovr e70 [(2, .pointer (some ⟨b7, 0, none⟩)), (5, v13), (6, v17), (7, v21), (10, .pointer (some ⟨b32, 0, none⟩)), (13, .pointer (some ⟨b69, 0, none⟩)), (58, v4), (59, .int .i64 (len a1.blocks)), (60, .int .i64 x41)]) w := by
          subst hq73
          replace hp : graph_Trim.nx69 x37 x41 x50 x75 x84 x93 = some X27 := hr67
          exact tg k63 <| TC.region <| tv (fa f40_3 rfl) rfl <| tv (lb s38 4 rfl rfl rfl) rfl <| tv (lA (ds := [v76, v85, .int .i64 x50.term.kind, .int .i64 x50.term.arg, v94]) ag_50 7 rfl rfl rfl rfl) rfl <| tbs [(0, .agg #[v76, v85, .int .i64 x50.term.kind, .int .i64 x50.term.arg, v94])] [v76, v85, .int .i64 x50.term.kind, .int .i64 x50.term.arg, v94] u38 i50 (by kernel_rfl) rfl rfl rfl rfl fun b97 => tp [7, 0, 9, 10, 11, 1, 2, 3, 4, 5, 6, 8] [_,_,_,_,_,_,_,_,_,_,_,_] rfl rfl <| tf 2 3 [_,_,_,_,_,_,_,_,_,_] rfl <| tp2 u38 i50 h40 hp (RepL.to (G' := F77 ++ (F86 ++ (F95))) (RepL.cons (k := kBlock) (x := (⟨x75, x84, (⟨x50.term.kind, x50.term.arg, x93⟩ : PTerm)⟩ : PBlock)) ⟨_, _, _, _, _, _, rfl, rfl, h78, h87, h96⟩ RepL.nil) (by simp)) rfl rfl rfl rfl rfl rfl rfl rfl rfl fun x98 v99 F100 h101 hp => tv (fa f40_3 rfl) rfl <| ts 5 m38 rfl rfl h101.o1 rfl <| nl <| jn [1, 2, 3, 4, 5, 6, 0] (J38 h101 hp)
         refine W.new0 <| lp hz66 [1, 2, 3, 4, 5, 6, 7, 9, 10, 11, 0] rfl (fun s e L => ∃ x88 x92 v89 F90 e64, s = (x88, x92) ∧ SlO 3 (kInt .i64) x88 v89 F90 ∧ e = ovr e64 [(2, .pointer (some ⟨b7, 0, none⟩)), (5, v13), (6, v17), (7, v21), (10, .pointer (some ⟨b32, 0, none⟩)), (13, .pointer (some ⟨b69, 0, none⟩)), (58, v4), (59, .int .i64 (len a1.blocks)), (60, .int .i64 x41), (122, v60), (123, .int .i64 (len x50.term.to)), (124, .int .i64 x92)] ∧ L = [bx b7 40 [.int .i64 0, .int .i64 0, .slice none 0 0, .slice none 0 0], F14, F18, F30, bx b32 40 [.int .i64 a1.params, .int .i64 a1.result, v34, v38], F35, F39, bx b69 50 [v76, v85, .int .i64 x50.term.kind, .int .i64 x50.term.arg, v89], F77, F86, F90]) ⟨_, _, (.slice none 0 0), ([] : FP), _, rfl, (SlO.nil 3), ovr_eq _ _ rfl, rfl⟩ ?_
         rintro _ _ _ ⟨x88, x92, v89, F90, e64, rfl, h91, rfl, rfl⟩ X68 hp hx69
         replace hp : graph_Trim.bd69 x29 x50 x88 x92 = some X68 := hp
         refine sr <| tv (blt rfl rfl) rfl <| nz <| TC.seq fun K74 k75 => cD rfl hp (fun hc76 hp => ?_) fun hc76 hp => ?_
         · refine sk k75 rfl <| TC.seq fun K77 k78 => TC.block <| sr <| ti u25 i3 h61 hp rfl rfl rfl rfl ?_
           rintro x102 b103 o104 _ hp rfl h107
           refine tv (lr s3 sH h107 0 rfl rfl) rfl <| ta rfl <| nz <| TC.seq fun K80 k81 => ?_
           have J83 {x108 e82} (hp : graph_Trim.jn83 x88 x92 x108 = some X68) : ∀ w, St E H [bx b7 40 [.int .i64 0, .int .i64 0, .slice none 0 0, .slice none 0 0], F14, F18, F30, bx b32 40 [.int .i64 a1.params, .int .i64 a1.result, v34, v38], F35, F39, bx b69 50 [v76, v85, .int .i64 x50.term.kind, .int .i64 x50.term.arg, v89], F77, F86, F90] w → K80 (ovr e82 [(2, .pointer (some ⟨b7, 0, none⟩)), (5, v13), (6, v17), (7, v21), (10, .pointer (some ⟨b32, 0, none⟩)), (13, .pointer (some ⟨b69, 0, none⟩)), (19, .int .i64 x108), (58, v4), (59, .int .i64 (len a1.blocks)), (60, .int .i64 x41), (122, v60), (123, .int .i64 (len x50.term.to)), (124, .int .i64 x92)]) w := by
            exact tg k81 <| TC.region <| tv (fa f50_2 rfl) rfl <| tv (fa f46_2 rfl) rfl <| tv (lb s25 7 rfl rfl rfl) rfl <| tm rfl <| tbs [(0, .int .i64 x108)] [.int .i64 x108] u25 i3 (by kernel_rfl) rfl rfl rfl rfl fun b109 => tp [11, 0, 1, 2, 3, 4, 5, 6, 7, 8, 9, 10] [_,_,_,_,_,_,_,_,_,_,_,_] rfl rfl <| tf 2 0 [_,_,_,_,_,_,_,_,_,_,_,_,_] rfl <| tp2 u25 i3 h91 hp (RepL.to (RepL.cons (k := (kInt .i64)) (x := x108) ⟨rfl, rfl⟩ RepL.nil) rfl) rfl rfl rfl rfl rfl rfl rfl rfl rfl fun x110 v111 F112 h113 hp => tv (fa f50_2 rfl) rfl <| tv (fa f46_2 rfl) rfl <| ts 8 m25 rfl rfl h113.o1 rfl <| nl <| tg k78 <| TC.region <| tv (bad rfl rfl) rfl <| tm rfl <| nl <| gk hp [1, 2, 3, 4, 5, 6, 7, 8, 9, 10, 0] ⟨_, _, v111, F112, _, rfl, h113, ovr_eq _ _ rfl, rfl⟩
           refine sr <| tm rfl <| tv (bge rfl rfl) rfl <| tm rfl <| TL.cut 5 fun K85 k86 => ?_
           have J87 {e89} : ∀ w, St E H [bx b7 40 [.int .i64 0, .int .i64 0, .slice none 0 0, .slice none 0 0], F14, F18, F30, bx b32 40 [.int .i64 a1.params, .int .i64 a1.result, v34, v38], F35, F39, bx b69 50 [v76, v85, .int .i64 x50.term.kind, .int .i64 x50.term.arg, v89], F77, F86, F90] w → K85 (ovr e89 [(135, .bool (decide (x102 ≥ 0 ∧ x102 < (len x29)))), (2, .pointer (some ⟨b7, 0, none⟩)), (5, v13), (6, v17), (7, v21), (10, .pointer (some ⟨b32, 0, none⟩)), (13, .pointer (some ⟨b69, 0, none⟩)), (19, .int .i64 x102), (58, v4), (59, .int .i64 (len a1.blocks)), (60, .int .i64 x41), (122, v60), (123, .int .i64 (len x50.term.to)), (124, .int .i64 x92)]) w := by
            refine tlg k86 <| nz <| cD rfl hp (fun hc90 hp => ?_) fun hc90 hp => ?_
            · refine TC.region <| tm rfl <| tm rfl <| ti u25 i3 (h31).ro hp rfl rfl rfl rfl ?_
              rintro x114 b115 o116 _ hp rfl h119
              exact tv (lr s3 (Src.at_ 3 rfl) h119 0 rfl rfl) rfl <| ta rfl <| nl <| jn [0, 1, 2, 3, 4, 5, 6, 7, 8, 9, 10] (J83 hp)
            · exact TC.skip <| jn [0, 1, 2, 3, 4, 5, 6, 7, 8, 9, 10] (J83 hp)
           by_cases hc88 : x102 ≥ 0
           · exact gy rfl (bT hc88) <| tm rfl <| gy rfl (bT hc88) <| tm rfl <| gy rfl (bT hc88) <| tv (ln u25 h31.ro rfl) rfl <| gy rfl (bT hc88) <| tv (blt rfl rfl) rfl <| tv (pT (bT hc88)) rfl <| nj J87 (bAt hc88)
           · exact gn rfl (bF hc88) rfl rfl <| gn rfl (bF hc88) rfl rfl <| gn rfl (bF hc88) rfl rfl <| gn rfl (bF hc88) rfl rfl <| tv (pF (bF hc88)) rfl <| nj J87 (bAf hc88)
         · exact TC.exit <| jn [0, 1, 2, 3, 4, 5, 6, 7, 8, 9, 10] (J72 h91 (ex_ret hp hx69))
        refine W.new0 <| lp hz57 [1, 2, 3, 4, 5, 6, 7, 8, 9, 10, 0] rfl (fun s e L => ∃ x79 x83 v80 F81 e55, s = (x79, x83) ∧ SlO 52 kInstr x79 v80 F81 ∧ e = ovr e55 [(2, .pointer (some ⟨b7, 0, none⟩)), (5, v13), (6, v17), (7, v21), (10, .pointer (some ⟨b32, 0, none⟩)), (12, .pointer (some ⟨b62, 0, none⟩)), (13, .pointer (some ⟨b69, 0, none⟩)), (58, v4), (59, .int .i64 (len a1.blocks)), (60, .int .i64 x41), (103, v58), (104, .int .i64 (len x50.ins)), (105, .int .i64 x83)] ∧ L = [bx b7 40 [.int .i64 0, .int .i64 0, .slice none 0 0, .slice none 0 0], F14, F18, F30, bx b32 40 [.int .i64 a1.params, .int .i64 a1.result, v34, v38], F35, F39, bx b62 50 [v56, v58, .int .i64 x50.term.kind, .int .i64 x50.term.arg, v60], bx b69 50 [v76, v80, .int .i64 x50.term.kind, .int .i64 x50.term.arg, .slice none 0 0], F77, F81]) ⟨_, _, (.slice none 0 0), ([] : FP), _, rfl, (SlO.nil 52), ovr_eq _ _ rfl, rfl⟩ ?_
        rintro _ _ _ ⟨x79, x83, v80, F81, e55, rfl, h82, rfl, rfl⟩ X59 hp hx60
        replace hp : graph_Trim.bd60 x50 x79 x83 = some X59 := hp
        refine sr <| tv (blt rfl rfl) rfl <| nz <| TC.seq fun K96 k97 => cD rfl hp (fun hc98 hp => ?_) fun hc98 hp => ?_
        · refine sk k97 rfl <| TC.seq fun K99 k100 => TC.block <| sr <| ti u48 i52 h59 hp rfl rfl rfl rfl ?_
          rintro x121 b122 o123 _ hp ⟨v127, rfl, h128⟩ h126
          refine tv (lR (ds := [.int .i64 x121.op, .int .i64 x121.dst, v127, .int .i64 x121.imm, .int .i64 x121.fn]) ag_52 sH h126 0 rfl rfl rfl) rfl <| tl i52 rfl fun b129 => tS 0 m52 rfl rfl [.int .i64 x121.op, .int .i64 x121.dst, v127, .int .i64 x121.imm, .int .i64 x121.fn] rfl (oc rfl (oc rfl (oc (h128).one (oc rfl (oc rfl oc0))))) rfl rfl <| nz <| sr <| tv (fa f52_2 rfl) rfl <| tv (lb s25 0 rfl rfl rfl) rfl <| bE hp fun x130 hy102 hp => tc 0 [_,_,_,_,_,_,_,_,_,_,_,_] rfl c54 (fun _ => slices_Clone_ok (a1 := x121.args) (h128.mono subH) hy102) rfl ?_
          rintro _ _ ⟨v131, F132, rfl, rfl, h133⟩
          exact tv (fa f52_2 rfl) rfl <| ts 1 m25 rfl rfl h133.o1 rfl <| nz <| TC.region <| tv (fa f50_1 rfl) rfl <| tv (lb s48 10 rfl rfl rfl) rfl <| tv (lA (ds := [.int .i64 x121.op, .int .i64 x121.dst, v131, .int .i64 x121.imm, .int .i64 x121.fn]) ag_52 1 rfl rfl rfl rfl) rfl <| tbs [(0, .agg #[.int .i64 x121.op, .int .i64 x121.dst, v131, .int .i64 x121.imm, .int .i64 x121.fn])] [.int .i64 x121.op, .int .i64 x121.dst, v131, .int .i64 x121.imm, .int .i64 x121.fn] u48 i52 (by kernel_rfl) rfl rfl rfl rfl fun b134 => tp [13, 0, 1, 2, 3, 4, 5, 6, 7, 8, 9, 10, 11, 12] [_,_,_,_,_,_,_,_,_,_,_,_,_,_] rfl rfl <| tp2 u48 i52 h82 hp (RepL.to (G' := F132) (RepL.cons (k := kInstr) (x := (⟨x121.op, x121.dst, x130, x121.imm, x121.fn⟩ : PInstr)) ⟨_, _, rfl, rfl, h133⟩ RepL.nil) (by simp)) rfl rfl rfl rfl rfl rfl rfl rfl rfl fun x135 v136 F137 h138 hp => tv (fa f50_1 rfl) rfl <| ts 10 m48 rfl rfl h138.o1 rfl <| nl <| tg k100 <| TC.region <| tv (bad rfl rfl) rfl <| tm rfl <| nl <| gk hp [2, 3, 4, 5, 6, 7, 8, 9, 10, 11, 0] ⟨_, _, v136, F137, _, rfl, h138, ovr_eq _ _ rfl, rfl⟩
        · exact TC.exit <| jn [0, 1, 2, 3, 4, 5, 6, 7, 8, 9, 10] (J94 h82 (ex_ret hp hx60))
       refine W.new0 <| lp hz48 [3, 4, 5, 6, 7, 8, 9, 2, 1, 0] rfl (fun s e L => ∃ x70 x74 v71 F72 e46, s = (x70, x74) ∧ SlO 76 kPhi x70 v71 F72 ∧ e = ovr e46 [(2, .pointer (some ⟨b7, 0, none⟩)), (5, v13), (6, v17), (7, v21), (10, .pointer (some ⟨b32, 0, none⟩)), (11, .int .i64 x41), (12, .pointer (some ⟨b62, 0, none⟩)), (13, .pointer (some ⟨b69, 0, none⟩)), (58, v4), (59, .int .i64 (len a1.blocks)), (60, .int .i64 x41), (79, v56), (80, .int .i64 (len x50.phis)), (81, .int .i64 x74)] ∧ L = [bx b7 40 [.int .i64 0, .int .i64 0, .slice none 0 0, .slice none 0 0], F14, F18, F30, bx b32 40 [.int .i64 a1.params, .int .i64 a1.result, v34, v38], F35, F39, bx b62 50 [v56, v58, .int .i64 x50.term.kind, .int .i64 x50.term.arg, v60], bx b69 50 [v71, .slice none 0 0, .int .i64 x50.term.kind, .int .i64 x50.term.arg, .slice none 0 0], F72]) ⟨_, _, (.slice none 0 0), ([] : FP), _, rfl, (SlO.nil 76), ovr_eq _ _ rfl, rfl⟩ ?_
       rintro _ _ _ ⟨x70, x74, v71, F72, e46, rfl, h73, rfl, rfl⟩ X50 hp hx51
       replace hp : graph_Trim.bd51 x12 x16 x41 x50 x70 x74 = some X50 := hp
       refine sr <| tv (blt rfl rfl) rfl <| nz <| TC.seq fun K109 k110 => cD rfl hp (fun hc111 hp => ?_) fun hc111 hp => ?_
       · refine sk k110 rfl <| TC.seq fun K112 k113 => ?_
         have J115 {x140 v141 F142 e114} (h143 : SlO 76 kPhi x140 v141 F142) (hp : graph_Trim.jn115 x74 x140 = some X50) : ∀ w, St E H [bx b7 40 [.int .i64 0, .int .i64 0, .slice none 0 0, .slice none 0 0], F14, F18, F30, bx b32 40 [.int .i64 a1.params, .int .i64 a1.result, v34, v38], F35, F39, bx b62 50 [v56, v58, .int .i64 x50.term.kind, .int .i64 x50.term.arg, v60], bx b69 50 [v141, .slice none 0 0, .int .i64 x50.term.kind, .int .i64 x50.term.arg, .slice none 0 0], F142] w → K112 (ovr e114 [(2, .pointer (some ⟨b7, 0, none⟩)), (5, v13), (6, v17), (7, v21), (10, .pointer (some ⟨b32, 0, none⟩)), (11, .int .i64 x41), (12, .pointer (some ⟨b62, 0, none⟩)), (13, .pointer (some ⟨b69, 0, none⟩)), (58, v4), (59, .int .i64 (len a1.blocks)), (60, .int .i64 x41), (79, v56), (80, .int .i64 (len x50.phis)), (81, .int .i64 x74)]) w := by
          exact tg k113 <| TC.region <| tv (bad rfl rfl) rfl <| tm rfl <| nl <| gk hp [0, 1, 2, 3, 4, 5, 6, 7, 8, 9] ⟨_, _, v141, F142, _, rfl, h143, ovr_eq _ _ rfl, rfl⟩
         refine TC.block <| sr <| ti u47 i76 h57 hp rfl rfl rfl rfl ?_
         rintro x144 b145 o146 _ hp ⟨v150, rfl, h151⟩ h149
         refine tv (lR (ds := [.int .i64 x144.dst, v150]) ag_76 sH h149 0 rfl rfl rfl) rfl <| tl i76 rfl fun b152 => tS 0 m76 rfl rfl [.int .i64 x144.dst, v150] rfl (oc rfl (oc (h151).one oc0)) rfl rfl <| nz <| ch mix [bx b152 76 [.int .i64 x144.dst, v150], bx b7 40 [.int .i64 0, .int .i64 0, .slice none 0 0, .slice none 0 0], F14, F18, F30, bx b32 40 [.int .i64 a1.params, .int .i64 a1.result, v34, v38], F35, F39, bx b62 50 [v56, v58, .int .i64 x50.term.kind, .int .i64 x50.term.arg, v60]] (srcG 0 rfl (srcG 1 rfl (srcG 2 rfl (srcG 3 rfl (srcG 4 rfl (srcG 5 rfl (srcG 6 rfl (srcG 7 rfl (srcG 8 rfl srcG0))))))))) <| hv 0 rfl (fa f50_0 rfl) (by kernel_rfl) rfl <| hv 2 rfl (fa f76_0 rfl) (by kernel_rfl) rfl <| hv 3 rfl (lbG s3 0 rfl rfl rfl) (by kernel_rfl) rfl <| hv 4 rfl (fa f76_1 rfl) (by kernel_rfl) rfl <| hv 5 rfl (lbG s25 0 rfl rfl rfl) (by kernel_rfl) rfl <| hv 6 rfl mv (by kernel_rfl) rfl <| hv 7 rfl mv (by kernel_rfl) rfl <| hi 8 rfl u60 i25 (h19).ro hp rfl rfl rfl (by kernel_rfl) rfl ?_
         rintro x3354 b3355 o3356 _ hp ⟨v3360, rfl, h3361⟩ h3359
         refine hv 9 rfl (lr s25 (srcInG 3 rfl) h3359 0 rfl rfl) (by kernel_rfl) rfl <| hv 10 rfl mv (by kernel_rfl) rfl <| HL.all [1, 11] (by kernel_rfl) (by simp) (HL.al ⟨_, rfl, fun K118 k119 => ?_⟩ (HL.al ⟨_, rfl, fun K131 k132 => ?_⟩ HL.al0))
         · refine tv (lb s47 9 rfl rfl rfl) rfl <| hk k119 (srcG 0 rfl (srcG 1 rfl (srcG 2 rfl (srcG 3 rfl (srcG 4 rfl (srcG 5 rfl (srcG 6 rfl (srcG 7 rfl (srcG 8 rfl srcG0))))))))) <| ho 11 rfl (by kernel_rfl) fun K120 k121 => bE hp fun x4554 hy122 hp => tc 0 [_,_,_,_,_,_,_,_,_,_,_] rfl c55 (fun _ => graph_kept_ok (a1 := x144.args) (a4 := x3354) (a7 := x12) (h151.mono subH) (h3361.mono (subB 3 rfl)) (h15.ro.mono (subB 2 rfl)) hy122) rfl ?_
           rintro _ _ ⟨v4555, F4556, rfl, rfl, h4557⟩
           exact hk k121 (srcG 1 rfl (srcG 2 rfl (srcG 3 rfl (srcG 4 rfl (srcG 5 rfl (srcG 6 rfl (srcG 7 rfl (srcG 8 rfl (srcG 9 rfl srcG0))))))))) <| hv 12 rfl (rv_bv (vs := [(0, .int .i64 x144.dst), (1, v4555)]) (ds := [.int .i64 x144.dst, v4555]) rfl (fun w => by obtain ⟨_, _, rfl⟩ := (h4557).len; kernel_rfl)) (by kernel_rfl) rfl <| ho 13 rfl (by kernel_rfl) fun K124 k125 => tbs [(0, .agg #[.int .i64 x144.dst, v4555])] [.int .i64 x144.dst, v4555] u47 i76 (by kernel_rfl) rfl rfl rfl rfl fun b5354 => hk k125 (srcG 2 rfl (srcG 3 rfl (srcG 4 rfl (srcG 5 rfl (srcG 6 rfl (srcG 7 rfl (srcG 8 rfl (srcG 9 rfl (srcG 10 rfl srcG0))))))))) <| ho 14 rfl (by kernel_rfl) fun K126 k127 => tp [12, 0, 1, 2, 3, 4, 5, 6, 7, 8, 9, 10, 11] [_,_,_,_,_,_,_,_,_,_,_,_,_] rfl rfl <| tp2 u47 i76 h73 hp (RepL.to (G' := F4556) (RepL.cons (k := kPhi) (x := (⟨x144.dst, x4554⟩ : PPhi)) ⟨_, _, rfl, rfl, h4557⟩ RepL.nil) (by simp)) rfl rfl rfl rfl rfl rfl rfl rfl rfl fun x5754 v5755 F5756 h5757 hp => hk k127 (srcG 1 rfl (srcG 2 rfl (srcG 3 rfl (srcG 4 rfl (srcG 5 rfl (srcG 6 rfl (srcG 7 rfl (srcG 8 rfl (srcG 9 rfl srcG0))))))))) <| hv 15 rfl (fa f50_0 rfl) (by kernel_rfl) rfl <| ho 16 rfl (by kernel_rfl) fun K129 k130 => ts 10 m47 rfl rfl h5757.o1 rfl <| hk k130 (srcG 1 rfl (srcG 2 rfl (srcG 3 rfl (srcG 4 rfl (srcG 5 rfl (srcG 6 rfl (srcG 7 rfl (srcG 8 rfl (srcG 9 rfl srcG0))))))))) <| hz (by kernel_rfl) <| jn [2, 3, 4, 5, 6, 7, 8, 9, 10, 0] (J115 h5757 hp)
         · refine bE hp fun x4554 hy133 hp => tc 0 [_,_,_,_,_,_,_,_,_,_,_] rfl c55 (fun _ => graph_kept_ok (a1 := x144.args) (a4 := x3354) (a7 := x12) (h151.mono subH) (h3361.mono (subB 3 rfl)) (h15.ro.mono (subB 2 rfl)) hy133) rfl ?_
           rintro _ _ ⟨v4555, F4556, rfl, rfl, h4557⟩
           refine hk k132 (srcG 1 rfl (srcG 2 rfl (srcG 3 rfl (srcG 4 rfl (srcG 5 rfl (srcG 6 rfl (srcG 7 rfl (srcG 8 rfl (srcG 9 rfl srcG0))))))))) <| hv 12 rfl (rv_bv (vs := [(0, .int .i64 x144.dst), (1, v4555)]) (ds := [.int .i64 x144.dst, v4555]) rfl (fun w => by obtain ⟨_, _, rfl⟩ := (h4557).len; kernel_rfl)) (by kernel_rfl) rfl <| HL.all [1, 13] (by kernel_rfl) (by simp) (HL.al ⟨_, rfl, fun K135 k136 => ?_⟩ (HL.al ⟨_, rfl, fun K144 k145 => ?_⟩ HL.al0))
           · exact tv (lb s47 10 rfl rfl rfl) rfl <| hk k136 (srcG 1 rfl (srcG 2 rfl (srcG 3 rfl (srcG 4 rfl (srcG 5 rfl (srcG 6 rfl (srcG 7 rfl (srcG 8 rfl (srcG 9 rfl srcG0))))))))) <| ho 13 rfl (by kernel_rfl) fun K137 k138 => tbs [(0, .agg #[.int .i64 x144.dst, v4555])] [.int .i64 x144.dst, v4555] u47 i76 (by kernel_rfl) rfl rfl rfl rfl fun b5354 => hk k138 (srcG 2 rfl (srcG 3 rfl (srcG 4 rfl (srcG 5 rfl (srcG 6 rfl (srcG 7 rfl (srcG 8 rfl (srcG 9 rfl (srcG 10 rfl srcG0))))))))) <| ho 14 rfl (by kernel_rfl) fun K139 k140 => tp [12, 0, 1, 2, 3, 4, 5, 6, 7, 8, 9, 10, 11] [_,_,_,_,_,_,_,_,_,_,_,_,_] rfl rfl <| tp2 u47 i76 h73 hp (RepL.to (G' := F4556) (RepL.cons (k := kPhi) (x := (⟨x144.dst, x4554⟩ : PPhi)) ⟨_, _, rfl, rfl, h4557⟩ RepL.nil) (by simp)) rfl rfl rfl rfl rfl rfl rfl rfl rfl fun x5754 v5755 F5756 h5757 hp => hk k140 (srcG 1 rfl (srcG 2 rfl (srcG 3 rfl (srcG 4 rfl (srcG 5 rfl (srcG 6 rfl (srcG 7 rfl (srcG 8 rfl (srcG 9 rfl srcG0))))))))) <| hv 15 rfl (fa f50_0 rfl) (by kernel_rfl) rfl <| ho 16 rfl (by kernel_rfl) fun K142 k143 => ts 10 m47 rfl rfl h5757.o1 rfl <| hk k143 (srcG 1 rfl (srcG 2 rfl (srcG 3 rfl (srcG 4 rfl (srcG 5 rfl (srcG 6 rfl (srcG 7 rfl (srcG 8 rfl (srcG 9 rfl srcG0))))))))) <| hz (by kernel_rfl) <| jn [2, 3, 4, 5, 6, 7, 8, 9, 10, 0] (J115 h5757 hp)
           · exact tbs [(0, .agg #[.int .i64 x144.dst, v4555])] [.int .i64 x144.dst, v4555] u47 i76 (by kernel_rfl) rfl rfl rfl rfl fun b5354 => hk k145 (srcG 2 rfl (srcG 3 rfl (srcG 4 rfl (srcG 5 rfl (srcG 6 rfl (srcG 7 rfl (srcG 8 rfl (srcG 9 rfl (srcG 10 rfl srcG0))))))))) <| ho 1 rfl (by kernel_rfl) fun K146 k147 => tv (lb s47 11 rfl rfl rfl) rfl <| hk k147 (srcG 2 rfl (srcG 3 rfl (srcG 4 rfl (srcG 5 rfl (srcG 6 rfl (srcG 7 rfl (srcG 8 rfl (srcG 9 rfl (srcG 10 rfl srcG0))))))))) <| ho 14 rfl (by kernel_rfl) fun K148 k149 => tp [12, 0, 1, 2, 3, 4, 5, 6, 7, 8, 9, 10, 11] [_,_,_,_,_,_,_,_,_,_,_,_,_] rfl rfl <| tp2 u47 i76 h73 hp (RepL.to (G' := F4556) (RepL.cons (k := kPhi) (x := (⟨x144.dst, x4554⟩ : PPhi)) ⟨_, _, rfl, rfl, h4557⟩ RepL.nil) (by simp)) rfl rfl rfl rfl rfl rfl rfl rfl rfl fun x5754 v5755 F5756 h5757 hp => hk k149 (srcG 1 rfl (srcG 2 rfl (srcG 3 rfl (srcG 4 rfl (srcG 5 rfl (srcG 6 rfl (srcG 7 rfl (srcG 8 rfl (srcG 9 rfl srcG0))))))))) <| hv 15 rfl (fa f50_0 rfl) (by kernel_rfl) rfl <| ho 16 rfl (by kernel_rfl) fun K151 k152 => ts 10 m47 rfl rfl h5757.o1 rfl <| hk k152 (srcG 1 rfl (srcG 2 rfl (srcG 3 rfl (srcG 4 rfl (srcG 5 rfl (srcG 6 rfl (srcG 7 rfl (srcG 8 rfl (srcG 9 rfl srcG0))))))))) <| hz (by kernel_rfl) <| jn [2, 3, 4, 5, 6, 7, 8, 9, 10, 0] (J115 h5757 hp)
       · exact TC.exit <| jn [0, 1, 2, 3, 4, 5, 6, 7, 8, 9] (J107 h73 (ex_ret hp hx51))
   · exact TC.exit <| jn [0, 3, 4, 5, 6] (J30 h40 (ex_ret hp hx28))
  refine ch mix [bx b6 40 [.int .i64 a1.params, .int .i64 a1.result, v2, v4], bx b7 40 [.int .i64 0, .int .i64 0, .slice none 0 0, .slice none 0 0], F14, F18, F30] (srcG 0 rfl (srcG 1 rfl (srcG 2 rfl (srcG 3 rfl (srcG 4 rfl srcG0))))) <| hv 0 rfl (fa f40_0 rfl) (by kernel_rfl) rfl <| hv 1 rfl (lbG s3 0 rfl rfl rfl) (by kernel_rfl) rfl <| hv 2 rfl (fa f40_1 rfl) (by kernel_rfl) rfl <| hv 3 rfl (lbG s3 0 rfl rfl rfl) (by kernel_rfl) rfl <| hv 4 rfl (fa f40_2 rfl) (by kernel_rfl) rfl <| hv 5 rfl (lbG s25 0 rfl rfl rfl) (by kernel_rfl) rfl <| HL.all [6, 8] (by kernel_rfl) (by simp) (HL.al ⟨_, rfl, fun K157 k158 => ?_⟩ (HL.al ⟨_, rfl, fun K165 k166 => ?_⟩ HL.al0))
  · refine bE hp fun x9357 hy159 hp => tc 0 [_,_,_,_,_] rfl c54 (fun _ => slices_Clone_ok (a1 := a1.regs) (h3.mono subH) hy159) rfl ?_
    rintro _ _ ⟨v9358, F9359, rfl, rfl, h9360⟩
    exact hk k158 (srcG 1 rfl (srcG 2 rfl (srcG 3 rfl (srcG 4 rfl (srcG 5 rfl srcG0))))) <| hv 7 rfl (rv_bv (vs := [(0, .int .i64 a1.params), (1, .int .i64 a1.result), (2, v9358)]) (ds := [.int .i64 a1.params, .int .i64 a1.result, v9358, .slice none 0 0]) rfl (fun w => by obtain ⟨_, _, rfl⟩ := (h9360).len; kernel_rfl)) (by kernel_rfl) rfl <| ho 8 rfl (by kernel_rfl) fun K161 k162 => tl i40 rfl fun b10157 => hk k162 (srcG 2 rfl (srcG 3 rfl (srcG 4 rfl (srcG 5 rfl (srcG 6 rfl srcG0))))) <| ho 9 rfl (by kernel_rfl) fun K163 k164 => tS 0 m40 rfl rfl [.int .i64 a1.params, .int .i64 a1.result, v9358, .slice none 0 0] rfl (oc rfl (oc rfl (oc (h9360).one (oc rfl oc0)))) rfl rfl <| hk k164 (srcG 2 rfl (srcG 3 rfl (srcG 4 rfl (srcG 5 rfl (srcG 6 rfl srcG0))))) <| hz (by kernel_rfl) <| jn [2, 3, 4, 5, 6, 0, 1] (J20 h9360 hp)
  · refine tl i40 rfl fun b10157 => hk k166 (srcG 1 rfl (srcG 2 rfl (srcG 3 rfl (srcG 4 rfl (srcG 5 rfl srcG0))))) <| ho 6 rfl (by kernel_rfl) fun K167 k168 => bE hp fun x9357 hy169 hp => tc 0 [_,_,_,_,_,_] rfl c54 (fun _ => slices_Clone_ok (a1 := a1.regs) (h3.mono subH) hy169) rfl ?_
    rintro _ _ ⟨v9358, F9359, rfl, rfl, h9360⟩
    exact hk k168 (srcG 2 rfl (srcG 3 rfl (srcG 4 rfl (srcG 5 rfl (srcG 6 rfl srcG0))))) <| hv 7 rfl (rv_bv (vs := [(0, .int .i64 a1.params), (1, .int .i64 a1.result), (2, v9358)]) (ds := [.int .i64 a1.params, .int .i64 a1.result, v9358, .slice none 0 0]) rfl (fun w => by obtain ⟨_, _, rfl⟩ := (h9360).len; kernel_rfl)) (by kernel_rfl) rfl <| ho 9 rfl (by kernel_rfl) fun K171 k172 => tS 1 m40 rfl rfl [.int .i64 a1.params, .int .i64 a1.result, v9358, .slice none 0 0] rfl (oc rfl (oc rfl (oc (h9360).one (oc rfl oc0)))) rfl rfl <| hk k172 (srcG 2 rfl (srcG 3 rfl (srcG 4 rfl (srcG 5 rfl (srcG 6 rfl srcG0))))) <| hz (by kernel_rfl) <| jn [2, 3, 4, 5, 6, 1, 0] (J20 h9360 hp)
 refine lp hz12 [5, 4, 2, 1, 0] rfl (fun s e L => ∃ x24 x27 x28 F25 e10, s = (x24, x27, x28) ∧ SlO 3 (kInt .i64) x24 v21 F25 ∧ e = ovr e10 [(1, .pointer (some ⟨b6, 0, none⟩)), (2, .pointer (some ⟨b7, 0, none⟩)), (5, v13), (6, v17), (7, v21), (8, .int .i64 x27), (31, .int .i64 (len x20)), (32, .int .i64 x28)] ∧ L = [bx b6 40 [.int .i64 a1.params, .int .i64 a1.result, v2, v4], bx b7 40 [.int .i64 0, .int .i64 0, .slice none 0 0, .slice none 0 0], F14, F18, F25]) ⟨_, _, _, F22, _, rfl, h23, ovr_eq _ _ rfl, rfl⟩ ?_
 rintro _ _ _ ⟨x24, x27, x28, F25, e10, rfl, h26, rfl, rfl⟩ X14 hp hx15
 replace hp : graph_Trim.bd15 x12 x20 x24 x27 x28 = some X14 := hp
 refine sr <| tv (blt rfl rfl) rfl <| nz <| TC.seq fun K175 k176 => cD rfl hp (fun hc177 hp => ?_) fun hc177 hp => ?_
 · refine sk k176 rfl <| TC.seq fun K178 k179 => ?_
   have J181 {x10957 x10960 F10958 e180} (h10959 : SlO 3 (kInt .i64) x10957 v21 F10958) (hp : graph_Trim.jn181 x28 x10957 x10960 = some X14) : ∀ w, St E H [bx b6 40 [.int .i64 a1.params, .int .i64 a1.result, v2, v4], bx b7 40 [.int .i64 0, .int .i64 0, .slice none 0 0, .slice none 0 0], F14, F18, F10958] w → K178 (ovr e180 [(1, .pointer (some ⟨b6, 0, none⟩)), (2, .pointer (some ⟨b7, 0, none⟩)), (5, v13), (6, v17), (7, v21), (8, .int .i64 x10960), (31, .int .i64 (len x20)), (32, .int .i64 x28)]) w := by
    exact tg k179 <| TC.region <| tv (bad rfl rfl) rfl <| tm rfl <| nl <| gk hp [0, 1, 2, 3, 4] ⟨_, _, _, F10958, _, rfl, h10959, ovr_eq _ _ rfl, rfl⟩
   refine TC.block <| sr <| tm rfl <| ta rfl <| nz <| sr <| tm rfl <| tm rfl <| tO u25 i3 h26 hp rfl rfl rfl rfl fun x10961 b10962 o10963 h10964 hp => tp [4, 0, 1, 2, 3] [_,_,_,_,_] rfl rfl <| tE h26 h10964 m3 rfl ⟨rfl, rfl⟩ w1 fun F10965 h10966 => nz <| sr <| tm rfl <| tm rfl <| ti u88 i4 (h15).ro hp rfl rfl rfl rfl ?_
   rintro x10967 b10968 o10969 _ hp rfl h10972
   refine tv (lr s4 (Src.at_ 3 rfl) h10972 0 rfl rfl) rfl <| nz <| cB rfl hp (fun hc184 hp => ?_) fun hc184 hp => ?_
   · exact sr <| tm rfl <| tm rfl <| tm rfl <| tO u25 i3 h10966 hp rfl rfl rfl rfl fun x10973 b10974 o10975 h10976 hp => tE h10966 h10976 m3 rfl ⟨rfl, rfl⟩ w1 fun F10977 h10978 => nz <| TC.region <| tm rfl <| tv (bad rfl rfl) rfl <| ta rfl <| nl <| jn [1, 2, 3, 4, 0] (J181 h10978 hp)
   · exact TC.skip <| jn [1, 2, 3, 4, 0] (J181 h10966 hp)
 · exact TC.exit <| jn [0, 1, 2, 3, 4] (J173 h26 (ex_ret hp hx15))
/-! ### slices.Clone[[]fettle/api.Func,fettle/api.Func] -/
def slices_Clone_api_Func_api_Func (a1 : List PFunc) : Option (List PFunc) := (cat ([] : List PFunc) a1).bind fun x7 => some x7
theorem slices_Clone_api_Func_api_Func_one (G : FP) : ∀ x cs, kFunc.ro G x cs → ∀ v, v ∈ cs → v.oneCell' = true := by
 rintro x cs ⟨_, _, rfl, h2, h3⟩
 exact (oc rfl (oc rfl (oc h2.one (oc h3.one oc0))))
theorem slices_Clone_api_Func_api_Func_ok {E : World} {H G : FP} {w : World} {a1 : List PFunc} {v2 : Value} {r : List PFunc} (hG : ∀ p, p ∈ G → p ∈ H) (h3 : SlI kFunc G a1 v2) (hp : slices_Clone_api_Func_api_Func a1 = some r) (hst : St E H [] w) :
    Fn Try.prog 40 #[v2] w fun v w' => ∃ A, (∃ (w1 : Value) (G1 : FP), w1 = v ∧ A = [G1] ∧ SlO 40 (kRef G kFunc) r w1 G1) ∧ St E H A w' := by
 refine fb 8 [.tmp 2] Try.func40 rfl rfl rfl rfl rfl hst <| sr <| ta rfl <| nz <| TC.seq fun K1 k2 => sr <| tm rfl ?_
 obtain ⟨q4, hq3, hv4⟩ := nilEq (P := Try.prog) Try.underlying33 h3
 refine tv (rv_nil rfl hv4) rfl <| nz ?_
 by_cases hc5 : q4 = true
 · have hx7 := hq3 hc5
   replace hp : (some ([] : List PFunc)) = some r := by unfold slices_Clone_api_Func_api_Func at hp; rw [hx7] at hp; simpa [cat, LIM] using hp
   exact TC.condT (bbT hc5) <| sr <| ta rfl <| nz <| TC.ret <| W.new0 <| fun w hw => ⟨_, ⟨(.slice none 0 0), ([] : FP), rfl, rfl, by rw [← Option.some.inj hp]; exact SlO.nil 40⟩, hw.pickA [0] rfl⟩
 · exact TC.condF (bbF hc5) <| sk k2 rfl <| sr <| TL.bs0 u33 i40 (ltb rfl) fun b6 => tm rfl <| tpR (slices_Clone_api_Func_api_Func_one G) u33 i40 (SlO.lit0 (k := kRef G kFunc) b6) h3 (fun p hp => .inl (hG p hp)) hp rfl rfl rfl rfl rfl rfl rfl fun x7 v8 F9 h10 hp => ta rfl <| nz <| TC.ret <| fun w hw => ⟨_, ⟨v8, F9, rfl, rfl, by rw [← Option.some.inj hp]; exact h10⟩, hw.pickA [0] rfl⟩
/-! ### fettle/live.has -/
abbrev live_has.R (r : GErr) (v : Value) (A : List FP) : Prop := ∃ (w1 : Value) (G1 : FP), w1 = v ∧ A = [G1] ∧ ErO 70 96 98 r w1 G1
def live_has (a1 : PModule) (a4 : Int) : Option GErr :=
  (check_Module a1).bind fun x6 =>
  if ¬ x6 = GErr.no then
    some x6
  else
    if a4 < 0 ∨ a4 ≥ (len a1.funcs) then
      some (GErr.code 1)
    else
      some GErr.no
theorem live_has_ok {E : World} {H : FP} {w : World} {a1 : PModule} {a4 : Int} {v2 : Value} {r : GErr} (h3 : SlI kFunc H a1.funcs v2) (hp : live_has a1 a4 = some r) (hst : St E H [] w) :
    Fn Try.prog 73 #[.agg #[v2], .int .i64 a4] w fun v w' => ∃ A, live_has.R r v A ∧ St E H A w' := by
 refine fb 21 [.tmp 4] Try.func73 rfl rfl rfl rfl rfl hst <| sr <| tb [v2] rfl rfl fun b5 => ta rfl <| nz <| TC.seq fun K1 k2 => sr <| tv (lA (ds := [v2]) ag_35 0 rfl rfl rfl rfl) rfl <| bE hp fun x6 hy3 hp => tc 0 [_] rfl c56 (fun _ => check_Module_ok (a1 := a1) (h3.mono subH) hy3) rfl ?_
 rintro _ _ ⟨v7, F8, rfl, rfl, h9⟩
 refine ta rfl <| nz <| sr <| tm rfl <| tv (rv_neqEN ifc_27 h9 rfl) rfl <| nz <| cD rfl hp (fun hc5 hp => ?_) fun hc5 hp => ?_
 · exact sr <| tm rfl <| ta rfl <| nz <| TC.ret <| rt hp [0] ⟨v7, F8, rfl, rfl, h9⟩
 · refine sk k2 rfl <| TC.seq fun K6 k7 => sr <| tm rfl <| tv (blt rfl rfl) rfl <| tm rfl <| TL.cut 6 fun K8 k9 => ?_
   have J10 {e12} : ∀ w, St E H [F8, bx b5 35 [v2]] w → K8 (ovr e12 [(19, .bool (decide (a4 < 0 ∨ a4 ≥ (len a1.funcs))))]) w := by
    refine tlg k9 <| nz <| cD rfl hp (fun hc13 hp => ?_) fun hc13 hp => ?_
    · exact sr <| tv (mI u70 rfl) rfl <| ta rfl <| nz <| TC.ret <| W.new0 <| rt hp [0] ⟨(.iface 70 (.int .i64 1)), ([] : FP), rfl, rfl, (ErO.mk _ : ErO 70 96 98 (GErr.code 1) (.iface 70 (.int .i64 1)) [])⟩
    · exact sk k7 rfl <| sr <| ta rfl <| nz <| TC.ret <| W.new0 <| rt hp [0] ⟨.nilIface, ([] : FP), rfl, rfl, (ErO.nil : ErO 70 96 98 GErr.no .nilIface [])⟩
   by_cases hc11 : a4 < 0
   · exact gn rfl (bT hc11) rfl rfl <| gn rfl (bT hc11) rfl rfl <| gn rfl (bT hc11) rfl rfl <| gn rfl (bT hc11) rfl rfl <| gn rfl (bT hc11) rfl rfl <| tv (pT (bT hc11)) rfl <| nj J10 (bOt hc11)
   · exact gy rfl (bF hc11) <| tm rfl <| gy rfl (bF hc11) <| tv (fa f35_0 rfl) rfl <| gy rfl (bF hc11) <| tv (lb s33 1 rfl rfl rfl) rfl <| gy rfl (bF hc11) <| tv (ln u33 h3 rfl) rfl <| gy rfl (bF hc11) <| tv (bge rfl rfl) rfl <| tv (pF (bF hc11)) rfl <| nj J10 (bOf hc11)
/-! ### fettle/live.table -/
abbrev live_table.R (r : List (List Bool)) (v : Value) (A : List FP) : Prop := ∃ (w1 : Value) (G1 : FP), w1 = v ∧ A = [G1] ∧ SlO 88 (kSl 4 kBool) r w1 G1
def live_table.nx9  (x15 : List (List Bool)) : Option (List (List Bool)) :=
  some x15
def live_table.bd9 (a1 : PFunc) (x7 : List (List Bool)) (x11 : List (List Bool)) (x14 : Int) : Option (Ex (List (List Bool)) (List (List Bool) × Int)) :=
  if x14 < (len x7) then
    (mkl (len a1.regs) false).bind fun x18 =>
    (idx x11 x14).bind fun x22 =>
    some (.go ((x11.set (x14).toNat x18), (w64 (x14 + 1))))
  else
    some (.ret x11)
def live_table (a1 : PFunc) : Option (List (List Bool)) :=
  (mkl (len a1.blocks) ([] : List Bool)).bind fun x7 =>
  (whl (fun (s : (List (List Bool) × Int)) => live_table.bd9 a1 x7 s.1 s.2) FUEL (x7, 0)).bind fun z =>
  live_table.nx9 z
theorem live_table_ok {E : World} {H : FP} {w : World} {a1 : PFunc} {v2 : Value} {v4 : Value} {r : List (List Bool)} (h3 : SlI (kInt .i64) H a1.regs v2) (h5 : SlI kBlock H a1.blocks v4) (hp : live_table a1 = some r) (hst : St E H [] w) :
    Fn Try.prog 74 #[.agg #[.int .i64 a1.params, .int .i64 a1.result, v2, v4]] w fun v w' => ∃ A, live_table.R r v A ∧ St E H A w' := by
 refine fb 23 [.tmp 2] Try.func74 rfl rfl rfl rfl rfl hst <| sr <| tb [.int .i64 a1.params, .int .i64 a1.result, v2, v4] rfl rfl fun b6 => ta rfl <| nz <| sr <| tv (fa f40_3 rfl) rfl <| tv (lb s38 0 rfl rfl rfl) rfl <| tv (ln u38 h5 rfl) rfl <| tk (k := (kSl 4 kBool)) u62 i88 hp ⟨_, rfl, SlO.nil 4⟩ rfl rfl rfl rfl rfl rfl fun x7 v8 F9 h10 hp => ta rfl <| nz <| TC.seq fun K2 k3 => sr <| tm rfl <| tv (ln u62 h10.ro rfl) rfl <| tm rfl <| nz <| TC.block <| bE hp fun z_5 hz6 hr7 => ?_
 have J11 {x15 F16 e10} (h17 : SlO 88 (kSl 4 kBool) x15 v8 F16) (hq12 : x15 = z_5) : ∀ w, St E H [F16] w → K2 (ovr e10 [(3, v8)]) w := by
  subst hq12
  replace hp : live_table.nx9 x15 = some r := hr7
  exact tg k3 <| sr <| tm rfl <| ta rfl <| nz <| TC.ret <| rt hp [0] ⟨v8, F16, rfl, rfl, h17⟩
 refine lp hz6 [1, 0] rfl (fun s e L => ∃ x11 x14 F12 e4, s = (x11, x14) ∧ SlO 88 (kSl 4 kBool) x11 v8 F12 ∧ e = ovr e4 [(1, .pointer (some ⟨b6, 0, none⟩)), (3, v8), (10, .int .i64 (len x7)), (11, .int .i64 x14)] ∧ L = [bx b6 40 [.int .i64 a1.params, .int .i64 a1.result, v2, v4], F12]) ⟨_, _, F9, _, rfl, h10, ovr_eq _ _ rfl, rfl⟩ ?_
 rintro _ _ _ ⟨x11, x14, F12, e4, rfl, h13, rfl, rfl⟩ X8 hp hx9
 replace hp : live_table.bd9 a1 x7 x11 x14 = some X8 := hp
 refine sr <| tv (blt rfl rfl) rfl <| nz <| TC.seq fun K13 k14 => cD rfl hp (fun hc15 hp => ?_) fun hc15 hp => ?_
 · exact sk k14 rfl <| TC.seq fun K16 k17 => TC.block <| sr <| tm rfl <| ta rfl <| nz <| TC.region <| tm rfl <| tm rfl <| tv (fa f40_2 rfl) rfl <| tv (lb s25 0 rfl rfl rfl) rfl <| tv (ln u25 h3 rfl) rfl <| tk (k := kBool) u88 i4 hp ⟨rfl, rfl⟩ rfl rfl rfl rfl rfl rfl fun x18 v19 F20 h21 hp => tO u62 i88 h13 hp rfl rfl rfl rfl fun x22 b23 o24 h25 hp => tp [2, 0, 1] [_,_,_] rfl rfl <| TL.stE (ds := [v19]) (u := v19) (a := x18) h13 h25 m88 rfl rfl (SlO.cells h21) ⟨_, rfl, h21⟩ fun F26 h27 => nl <| tg k17 <| TC.region <| tv (bad rfl rfl) rfl <| tm rfl <| nl <| gk hp [1, 0] ⟨_, _, F26, _, rfl, h27, ovr_eq _ _ rfl, rfl⟩
 · exact TC.exit <| jn [1] (J11 h13 (ex_ret hp hx9))
/-! ### fettle/live.begin -/
abbrev live_begin.R (r : List Bool) (v : Value) (A : List FP) : Prop := ∃ (w1 : Value) (G1 : FP), w1 = v ∧ A = [G1] ∧ SlO 4 kBool r w1 G1
def live_begin.nx22  (x32 : List Bool) : Option (List Bool) :=
  some x32
def live_begin.bd22 (a1 : PBlock) (x28 : List Bool) (x31 : Int) : Option (Ex (List Bool) (List Bool × Int)) :=
  if x31 < (len a1.phis) then
    (idx a1.phis x31).bind fun x35 =>
    (idx x28 x35.dst).bind fun x44 =>
    some (.go ((x28.set (x35.dst).toNat false), (w64 (x31 + 1))))
  else
    some (.ret x28)
def live_begin.nx13 (a1 : PBlock) (x25 : List Bool) : Option (List Bool) :=
  (whl (fun (s : (List Bool × Int)) => live_begin.bd22 a1 s.1 s.2) FUEL (x25, 0)).bind fun z =>
  live_begin.nx22 z
def live_begin.nx52 (x24 : Int) (x66 : List Bool) : Option (Ex (List Bool) (List Bool × Int)) :=
  some (.go (x66, (w64 (x24 - 1))))
def live_begin.bd52 (x50 : PInstr) (x62 : List Bool) (x65 : Int) : Option (Ex (List Bool) (List Bool × Int)) :=
  if x65 < (len x50.args) then
    (idx x50.args x65).bind fun x69 =>
    (idx x62 x69).bind fun x75 =>
    some (.go ((x62.set (x69).toNat true), (w64 (x65 + 1))))
  else
    some (.ret x62)
def live_begin.jn46 (x24 : Int) (x50 : PInstr) (x59 : List Bool) : Option (Ex (List Bool) (List Bool × Int)) :=
  (whl (fun (s : (List Bool × Int)) => live_begin.bd52 x50 s.1 s.2) FUEL (x59, 0)).bind fun z =>
  live_begin.nx52 x24 z
def live_begin.bd13 (a1 : PBlock) (x21 : List Bool) (x24 : Int) : Option (Ex (List Bool) (List Bool × Int)) :=
  if x24 ≥ 0 then
    (idx a1.ins x24).bind fun x50 =>
    if x50.dst ≥ 0 then
      (idx x21 x50.dst).bind fun x81 =>
      live_begin.jn46 x24 x50 (x21.set (x50.dst).toNat false)
    else
      live_begin.jn46 x24 x50 x21
  else
    some (.ret x21)
def live_begin.jn5 (a1 : PBlock) (x18 : List Bool) : Option (List Bool) :=
  (whl (fun (s : (List Bool × Int)) => live_begin.bd13 a1 s.1 s.2) FUEL (x18, (w64 ((len a1.ins) - 1)))).bind fun z =>
  live_begin.nx13 a1 z
def live_begin (a1 : PBlock) (a8 : List Bool) : Option (List Bool) :=
  (mkl (len a8) false).bind fun x12 =>
  if a1.term.arg ≥ 0 then
    (idx (cpy x12 a8) a1.term.arg).bind fun x87 =>
    live_begin.jn5 a1 ((cpy x12 a8).set (a1.term.arg).toNat true)
  else
    live_begin.jn5 a1 (cpy x12 a8)
set_option maxHeartbeats 4000000 in
theorem live_begin_ok {E : World} {H : FP} {w : World} {a1 : PBlock} {a8 : List Bool} {v2 : Value} {v4 : Value} {v6 : Value} {v9 : Value} {r : List Bool} (h3 : SlI kPhi H a1.phis v2) (h5 : SlI kInstr H a1.ins v4) (h7 : SlI (kInt .i64) H a1.term.to v6) (h10 : SlI kBool H a8 v9) (hp : live_begin a1 a8 = some r) (hst : St E H [] w) :
    Fn Try.prog 75 #[.agg #[v2, v4, .int .i64 a1.term.kind, .int .i64 a1.term.arg, v6], v9] w fun v w' => ∃ A, live_begin.R r v A ∧ St E H A w' := by
 refine fb 71 [.tmp 4] Try.func75 rfl rfl rfl rfl rfl hst <| sr <| tb [v2, v4, .int .i64 a1.term.kind, .int .i64 a1.term.arg, v6] rfl rfl fun b11 => ta rfl <| nz <| sr <| tm rfl <| tv (ln u88 h10 rfl) rfl <| tk (k := kBool) u88 i4 hp ⟨rfl, rfl⟩ rfl rfl rfl rfl rfl rfl fun x12 v13 F14 h15 hp => ta rfl <| nz <| sr <| tm rfl <| tm rfl <| TL.copy fBool u88 i4 (ltb rfl) rfl rfl rfl rfl h15 h10 sH fun F16 h17 => nz <| TC.seq fun K2 k3 => ?_
 have J5 {x18 F19 e4} (h20 : SlO 4 kBool x18 v13 F19) (hp : live_begin.jn5 a1 x18 = some r) : ∀ w, St E H [bx b11 50 [v2, v4, .int .i64 a1.term.kind, .int .i64 a1.term.arg, v6], F19] w → K2 (ovr e4 [(2, .pointer (some ⟨b11, 0, none⟩)), (5, v13)]) w := by
  refine tg k3 <| TC.seq fun K6 k7 => sr <| tv (fa f50_1 rfl) rfl <| tv (lb s48 0 rfl rfl rfl) rfl <| tv (ln u48 h5 rfl) rfl <| tv (bsu rfl rfl) rfl <| ta rfl <| nz <| TC.block <| bE hp fun z_9 hz10 hr11 => ?_
  have J35 {x25 F26 e14} (h27 : SlO 4 kBool x25 v13 F26) (hq36 : x25 = z_9) : ∀ w, St E H [bx b11 50 [v2, v4, .int .i64 a1.term.kind, .int .i64 a1.term.arg, v6], F26] w → K6 (ovr e14 [(2, .pointer (some ⟨b11, 0, none⟩)), (5, v13)]) w := by
   subst hq36
   replace hp : live_begin.nx13 a1 x25 = some r := hr11
   refine tg k7 <| TC.seq fun K15 k16 => sr <| tv (fa f50_0 rfl) rfl <| tv (lb s47 0 rfl rfl rfl) rfl <| tv (ln u47 h3 rfl) rfl <| tm rfl <| nz <| TC.block <| bE hp fun z_18 hz19 hr20 => ?_
   have J24 {x32 F33 e23} (h34 : SlO 4 kBool x32 v13 F33) (hq25 : x32 = z_18) : ∀ w, St E H [F33] w → K15 (ovr e23 [(5, v13)]) w := by
    subst hq25
    replace hp : live_begin.nx22 x32 = some r := hr20
    exact tg k16 <| sr <| tm rfl <| ta rfl <| nz <| TC.ret <| rt hp [0] ⟨v13, F33, rfl, rfl, h34⟩
   refine lp hz19 [1] rfl (fun s e L => ∃ x28 x31 F29 e17, s = (x28, x31) ∧ SlO 4 kBool x28 v13 F29 ∧ e = ovr e17 [(5, v13), (59, v2), (60, .int .i64 (len a1.phis)), (61, .int .i64 x31)] ∧ L = [F29]) ⟨_, _, F26, _, rfl, h27, ovr_eq _ _ rfl, rfl⟩ ?_
   rintro _ _ _ ⟨x28, x31, F29, e17, rfl, h30, rfl, rfl⟩ X21 hp hx22
   replace hp : live_begin.bd22 a1 x28 x31 = some X21 := hp
   refine sr <| tv (blt rfl rfl) rfl <| nz <| TC.seq fun K26 k27 => cD rfl hp (fun hc28 hp => ?_) fun hc28 hp => ?_
   · refine sk k27 rfl <| TC.seq fun K29 k30 => TC.block <| sr <| ti u47 i76 h3 hp rfl rfl rfl rfl ?_
     rintro x35 b36 o37 _ hp ⟨v41, rfl, h42⟩ h40
     exact tv (lR (ds := [.int .i64 x35.dst, v41]) ag_76 sH h40 0 rfl rfl rfl) rfl <| tl i76 rfl fun b43 => tS 0 m76 rfl rfl [.int .i64 x35.dst, v41] rfl (oc rfl (oc (h42).one oc0)) rfl rfl <| nz <| TC.region <| tm rfl <| tv (fa f76_0 rfl) rfl <| tv (lb s3 0 rfl rfl rfl) rfl <| tO u88 i4 h30 hp rfl rfl rfl rfl fun x44 b45 o46 h47 hp => tp [1, 0] [_,_] rfl rfl <| tE h30 h47 m4 rfl ⟨rfl, rfl⟩ w1 fun F48 h49 => nl <| tg k30 <| TC.region <| tv (bad rfl rfl) rfl <| tm rfl <| nl <| gk hp [0] ⟨_, _, F48, _, rfl, h49, ovr_eq _ _ rfl, rfl⟩
   · exact TC.exit <| jn [0] (J24 h30 (ex_ret hp hx22))
  refine lp hz10 [0, 1] rfl (fun s e L => ∃ x21 x24 F22 e8, s = (x21, x24) ∧ SlO 4 kBool x21 v13 F22 ∧ e = ovr e8 [(2, .pointer (some ⟨b11, 0, none⟩)), (5, v13), (6, .int .i64 x24)] ∧ L = [bx b11 50 [v2, v4, .int .i64 a1.term.kind, .int .i64 a1.term.arg, v6], F22]) ⟨_, _, F19, _, rfl, h20, ovr_eq _ _ rfl, rfl⟩ ?_
  rintro _ _ _ ⟨x21, x24, F22, e8, rfl, h23, rfl, rfl⟩ X12 hp hx13
  replace hp : live_begin.bd13 a1 x21 x24 = some X12 := hp
  refine TC.seq fun K37 k38 => sr <| tm rfl <| tv (bge rfl rfl) rfl <| nz <| cD rfl hp (fun hc39 hp => ?_) fun hc39 hp => ?_
  · refine sk k38 rfl <| TC.seq fun K40 k41 => TC.block <| sr <| tv (fa f50_1 rfl) rfl <| tv (lb s48 0 rfl rfl rfl) rfl <| tm rfl <| ti u48 i52 h5 hp rfl rfl rfl rfl ?_
    rintro x50 b51 o52 _ hp ⟨v56, rfl, h57⟩ h55
    refine tv (lR (ds := [.int .i64 x50.op, .int .i64 x50.dst, v56, .int .i64 x50.imm, .int .i64 x50.fn]) ag_52 sH h55 0 rfl rfl rfl) rfl <| tl i52 rfl fun b58 => tS 0 m52 rfl rfl [.int .i64 x50.op, .int .i64 x50.dst, v56, .int .i64 x50.imm, .int .i64 x50.fn] rfl (oc rfl (oc rfl (oc (h57).one (oc rfl (oc rfl oc0))))) rfl rfl <| nz <| TC.seq fun K43 k44 => ?_
    have J46 {x59 F60 e45} (h61 : SlO 4 kBool x59 v13 F60) (hp : live_begin.jn46 x24 x50 x59 = some X12) : ∀ w, St E H [bx b11 50 [v2, v4, .int .i64 a1.term.kind, .int .i64 a1.term.arg, v6], F60, bx b58 52 [.int .i64 x50.op, .int .i64 x50.dst, v56, .int .i64 x50.imm, .int .i64 x50.fn]] w → K43 (ovr e45 [(2, .pointer (some ⟨b11, 0, none⟩)), (5, v13), (6, .int .i64 x24), (7, .pointer (some ⟨b58, 0, none⟩))]) w := by
     refine tg k44 <| sr <| tv (fa f52_2 rfl) rfl <| tv (lb s25 2 rfl rfl rfl) rfl <| tv (ln u25 h57 rfl) rfl <| tm rfl <| nz <| TC.block <| bE hp fun z_48 hz49 hr50 => ?_
     have J54 {x66 F67 e53} (h68 : SlO 4 kBool x66 v13 F67) (hq55 : x66 = z_48) : ∀ w, St E H [bx b11 50 [v2, v4, .int .i64 a1.term.kind, .int .i64 a1.term.arg, v6], F67] w → K40 (ovr e53 [(2, .pointer (some ⟨b11, 0, none⟩)), (5, v13), (6, .int .i64 x24)]) w := by
      subst hq55
      replace hp : live_begin.nx52 x24 x66 = some X12 := hr50
      exact tg k41 <| TC.region <| tm rfl <| tv (bsu rfl rfl) rfl <| ta rfl <| nl <| gk hp [0, 1] ⟨_, _, F67, _, rfl, h68, ovr_eq _ _ rfl, rfl⟩
     refine lp hz49 [0, 1] rfl (fun s e L => ∃ x62 x65 F63 e47, s = (x62, x65) ∧ SlO 4 kBool x62 v13 F63 ∧ e = ovr e47 [(2, .pointer (some ⟨b11, 0, none⟩)), (5, v13), (6, .int .i64 x24), (48, v56), (49, .int .i64 (len x50.args)), (50, .int .i64 x65)] ∧ L = [bx b11 50 [v2, v4, .int .i64 a1.term.kind, .int .i64 a1.term.arg, v6], F63]) ⟨_, _, F60, _, rfl, h61, ovr_eq _ _ rfl, rfl⟩ ?_
     rintro _ _ _ ⟨x62, x65, F63, e47, rfl, h64, rfl, rfl⟩ X51 hp hx52
     replace hp : live_begin.bd52 x50 x62 x65 = some X51 := hp
     refine sr <| tv (blt rfl rfl) rfl <| nz <| TC.seq fun K56 k57 => cD rfl hp (fun hc58 hp => ?_) fun hc58 hp => ?_
     · refine sk k57 rfl <| TC.seq fun K59 k60 => TC.block <| sr <| ti u25 i3 h57 hp rfl rfl rfl rfl ?_
       rintro x69 b70 o71 _ hp rfl h74
       exact tv (lr s3 sH h74 0 rfl rfl) rfl <| ta rfl <| nz <| TC.region <| tm rfl <| tm rfl <| tO u88 i4 h64 hp rfl rfl rfl rfl fun x75 b76 o77 h78 hp => tp [1, 0] [_,_] rfl rfl <| tE h64 h78 m4 rfl ⟨rfl, rfl⟩ w1 fun F79 h80 => nl <| tg k60 <| TC.region <| tv (bad rfl rfl) rfl <| tm rfl <| nl <| gk hp [1, 0] ⟨_, _, F79, _, rfl, h80, ovr_eq _ _ rfl, rfl⟩
     · exact TC.exit <| jn [0, 1] (J54 h64 (ex_ret hp hx52))
    refine sr <| tv (fa f52_1 rfl) rfl <| tv (lb s3 0 rfl rfl rfl) rfl <| tv (bge rfl rfl) rfl <| nz <| cD rfl hp (fun hc65 hp => ?_) fun hc65 hp => ?_
    · exact TC.region <| tm rfl <| tv (fa f52_1 rfl) rfl <| tv (lb s3 0 rfl rfl rfl) rfl <| tO u88 i4 h23 hp rfl rfl rfl rfl fun x81 b82 o83 h84 hp => tp [2, 0, 1] [_,_,_] rfl rfl <| tE h23 h84 m4 rfl ⟨rfl, rfl⟩ w1 fun F85 h86 => nl <| jn [2, 0, 1] (J46 h86 hp)
    · exact TC.skip <| jn [1, 2, 0] (J46 h23 hp)
  · exact TC.exit <| jn [0, 1] (J35 h23 (ex_ret hp hx13))
 refine sr <| tv (fa f50_2 rfl) rfl <| tv (fa f46_1 rfl) rfl <| tv (lb s3 1 rfl rfl rfl) rfl <| tv (bge rfl rfl) rfl <| nz <| cD rfl hp (fun hc69 hp => ?_) fun hc69 hp => ?_
 · exact TC.region <| tm rfl <| tv (fa f50_2 rfl) rfl <| tv (fa f46_1 rfl) rfl <| tv (lb s3 1 rfl rfl rfl) rfl <| tO u88 i4 h17 hp rfl rfl rfl rfl fun x87 b88 o89 h90 hp => tE h17 h90 m4 rfl ⟨rfl, rfl⟩ w1 fun F91 h92 => nl <| jn [1, 0] (J5 h92 hp)
 · exact TC.skip <| jn [1, 0] (J5 h17 hp)
end Go.Proofs.Yteaknconpkklhaa
