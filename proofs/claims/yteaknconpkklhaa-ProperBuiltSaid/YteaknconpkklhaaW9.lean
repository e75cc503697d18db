/- The walk through the program's functions: each one's pure reading, and that a call does what it says. No conditions. -/
import Derived.Test.YteaknconpkklhaaW8
set_option linter.unusedVariables false
set_option linter.unusedSimpArgs false
namespace Go.Proofs.Yteaknconpkklhaa
open Go Go.Proofs
/-! ### slices.ContainsFunc[[]fettle/api.Instr,fettle/api.Instr] -/
abbrev slices_ContainsFunc_api_Instr_api_Instr_ssa_builder_closed_1.R (r : Bool) (v : Value) (A : List FP) : Prop := .bool r = v ∧ A = []
def slices_ContainsFunc_api_Instr_api_Instr_ssa_builder_closed_1 (a1 : List PInstr) (a6 : Int) : Option Bool :=
  (slices_IndexFunc_api_Instr_api_Instr_ssa_builder_closed_1 a1 a6).bind fun x9 =>
  some (decide (x9 ≥ 0))
theorem slices_ContainsFunc_api_Instr_api_Instr_ssa_builder_closed_1_ok {E : World} {H : FP} {w : World} {a1 : List PInstr} {a6 : Int} {v2 : Value} {b5 : Nat} {o7 : Nat} {r : Bool} (h3 : SlI kInstr H a1 v2) (h8 : CellsIn H b5 o7 [.int .i64 a6]) (hp : slices_ContainsFunc_api_Instr_api_Instr_ssa_builder_closed_1 a1 a6 = some r) (hst : St E H [] w) :
    Fn Try.prog 93 #[v2, .func (.func 94) #[] #[.pointer (some ⟨b5, o7, none⟩)]] w fun v w' => ∃ A, slices_ContainsFunc_api_Instr_api_Instr_ssa_builder_closed_1.R r v A ∧ St E H A w' := by
 refine fb 9 [.tmp 4] Try.func93 rfl rfl rfl rfl rfl hst <| sr <| ta rfl <| nz <| sr <| tm rfl <| tm rfl <| bE hp fun x9 hy1 hp => tc 0 [] rfl c121 (fun _ => slices_IndexFunc_api_Instr_api_Instr_ssa_builder_closed_1_ok (a1 := a1) (a6 := a6) (h3.mono subH) (h8.mono subH) hy1) rfl ?_
 rintro _ _ ⟨rfl, rfl⟩
 exact tv (bge rfl rfl) rfl <| ta rfl <| nz <| TC.ret <| rt hp [] ⟨rfl, rfl⟩
/-! ### (*fettle/ssa.builder).closed -/
abbrev ssa_builder_closed.R (r : List Bool) (v : Value) (A : List FP) : Prop := ∃ (w1 : Value) (G1 : FP), w1 = v ∧ A = [G1] ∧ SlO 4 kBool r w1 G1
def ssa_builder_closed.nx18  (x56 : List Bool) : Option (List Bool) :=
  some x56
def ssa_builder_closed.nx35  (x85 : List Bool) (x88 : List Int) : Option (Ex (List Bool) (List Bool × List Int)) :=
  some (.go (x85, x88))
def ssa_builder_closed.jn45 (x84 : Int) (x92 : List Bool) (x95 : List Int) : Option (Ex (List Bool × List Int) (List Bool × List Int × Int)) :=
  some (.go (x92, x95, (w64 (x84 + 1))))
def ssa_builder_closed.bd35 (x69 : List Int) (x77 : List Bool) (x80 : List Int) (x84 : Int) : Option (Ex (List Bool × List Int) (List Bool × List Int × Int)) :=
  if x84 < (len x69) then
    (idx x69 x84).bind fun x99 =>
    (idx x77 x99).bind fun x105 =>
    if (!x105) = true then
      (idx x77 x99).bind fun x111 =>
      (cat x80 [x99]).bind fun x118 =>
      ssa_builder_closed.jn45 x84 (x77.set (x99).toNat true) x118
    else
      ssa_builder_closed.jn45 x84 x77 x80
  else
    some (.ret (x77, x80))
def ssa_builder_closed.bd18 (a2 : PBuilder) (x49 : List Bool) (x52 : List Int) : Option (Ex (List Bool) (List Bool × List Int)) :=
  if (len x52) > 0 then
    (idx x52 (w64 ((len x52) - 1))).bind fun x59 =>
    (upto x52 (w64 ((len x52) - 1))).bind fun x65 =>
    (idx a2.front x59).bind fun x69 =>
    (whl (fun (s : (List Bool × List Int × Int)) => ssa_builder_closed.bd35 x69 s.1 s.2.1 s.2.2) FUEL (x49, x65, 0)).bind fun z =>
    ssa_builder_closed.nx35 z.1 z.2
  else
    some (.ret x49)
def ssa_builder_closed.nx9 (a2 : PBuilder) (x33 : List Bool) (x45 : List Int) : Option (List Bool) :=
  (whl (fun (s : (List Bool × List Int)) => ssa_builder_closed.bd18 a2 s.1 s.2) FUEL (x33, x45)).bind fun z =>
  ssa_builder_closed.nx18 z
def ssa_builder_closed.jn63 (x44 : Int) (x122 : List Int) : Option (Ex (List Int) (List Int × Int)) :=
  some (.go (x122, (w64 (x44 + 1))))
def ssa_builder_closed.bd9 (a2 : PBuilder) (a31 : Int) (x40 : List Int) (x44 : Int) : Option (Ex (List Int) (List Int × Int)) :=
  if x44 < (len a2.f.blocks) then
    (idx a2.f.blocks x44).bind fun x126 =>
    (slices_ContainsFunc_api_Instr_api_Instr_ssa_builder_closed_1 x126.ins a31).bind fun x139 =>
    if x139 = true then
      (cat x40 [x44]).bind fun x141 =>
      ssa_builder_closed.jn63 x44 x141
    else
      ssa_builder_closed.jn63 x44 x40
  else
    some (.ret x40)
def ssa_builder_closed (a2 : PBuilder) (a31 : Int) : Option (List Bool) :=
  (mkl (len a2.f.blocks) false).bind fun x33 =>
  (whl (fun (s : (List Int × Int)) => ssa_builder_closed.bd9 a2 a31 s.1 s.2) FUEL ([0], 0)).bind fun z =>
  ssa_builder_closed.nx9 a2 x33 z
set_option maxHeartbeats 4000000 in
theorem ssa_builder_closed_ok {E : World} {H : FP} {w : World} {a2 : PBuilder} {a31 : Int} {b1 : Nat} {o3 : Nat} {v5 : Value} {v7 : Value} {v9 : Value} {v11 : Value} {v13 : Value} {v15 : Value} {v17 : Value} {v19 : Value} {v21 : Value} {v23 : Value} {v25 : Value} {v27 : Value} {v29 : Value} {r : List Bool} (h4 : CellsIn H b1 o3 [.int .i64 a2.f.params, .int .i64 a2.f.result, v5, v7, v9, v11, v13, v15, v17, v19, v21, v23, v25, v27, v29]) (h6 : SlI (kInt .i64) H a2.f.regs v5) (h8 : SlI kBlock H a2.f.blocks v7) (h10 : SlI (kSl 4 kBool) H a2.in_ v9) (h12 : SlI (kSl 3 (kInt .i64)) H a2.front v11) (h14 : SlI (kInt .i64) H a2.nearest v13) (h16 : SlI (kSl 3 (kInt .i64)) H a2.phis v15) (h18 : SlI (kInt .i64) H a2.zeros v17) (h20 : SlI (kInt .i64) H a2.regs v19) (h22 : SlI (kSl 3 (kInt .i64)) H a2.phi v21) (h24 : SlI (kInt .i64) H a2.zero_ v23) (h26 : SlI (kSl 3 (kInt .i64)) H a2.dst v25) (h28 : SlI (kSl 3 (kInt .i64)) H a2.begin v27) (h30 : SlI (kSl 3 (kInt .i64)) H a2.end_ v29) (hp : ssa_builder_closed a2 a31 = some r) (hst : St E H [] w) :
    Fn Try.prog 79 #[.pointer (some ⟨b1, o3, none⟩), .int .i64 a31] w fun v w' => ∃ A, ssa_builder_closed.R r v A ∧ St E H A w' := by
 refine fb 80 [.tmp 4] Try.func79 rfl rfl rfl rfl rfl hst <| sr <| tb [.int .i64 a31] rfl rfl fun b32 => ta rfl <| nz <| sr <| tm rfl <| tv (rv_nilCheck rfl) rfl <| tv (fa f85_0 rfl) rfl <| tv (fa f40_3 rfl) rfl <| tv (lr s38 sH h4 3 rfl rfl) rfl <| tv (ln u38 h8 rfl) rfl <| tk (k := kBool) u88 i4 hp ⟨rfl, rfl⟩ rfl rfl rfl rfl rfl rfl fun x33 v34 F35 h36 hp => ta rfl <| nz <| sr <| tbs [(0, .int .i64 0)] [.int .i64 0] u25 i3 (by kernel_rfl) rfl rfl rfl rfl fun b37 => ta rfl <| tf 1 0 [_,_,_,_] rfl <| TL.litOwn (n := 1) (xs := [0]) (RepL.to (RepL.cons (k := (kInt .i64)) (x := 0) ⟨rfl, rfl⟩ RepL.nil) rfl) rfl rfl (ltb rfl) fun F38 h39 => nz <| TC.seq fun K2 k3 => sr <| tm rfl <| tv (rv_nilCheck rfl) rfl <| tv (fa f85_0 rfl) rfl <| tv (fa f40_3 rfl) rfl <| tv (lr s38 sH h4 3 rfl rfl) rfl <| tv (ln u38 h8 rfl) rfl <| tm rfl <| nz <| TC.block <| bE hp fun z_5 hz6 hr7 => ?_
 have J55 {x45 v46 F47 e10} (h48 : SlO 3 (kInt .i64) x45 v46 F47) (hq56 : x45 = z_5) : ∀ w, St E H [F35, F47] w → K2 (ovr e10 [(0, .pointer (some ⟨b1, o3, none⟩)), (5, v34), (6, v46)]) w := by
  subst hq56
  replace hp : ssa_builder_closed.nx9 a2 x33 x45 = some r := hr7
  refine tg k3 <| TC.seq fun K11 k12 => TC.block <| bE hp fun z_14 hz15 hr16 => ?_
  have J20 {x56 F57 e19} (h58 : SlO 4 kBool x56 v34 F57) (hq21 : x56 = z_14) : ∀ w, St E H [F57] w → K11 (ovr e19 [(5, v34)]) w := by
   subst hq21
   replace hp : ssa_builder_closed.nx18 x56 = some r := hr16
   exact tg k12 <| sr <| tm rfl <| ta rfl <| nz <| TC.ret <| rt hp [0] ⟨v34, F57, rfl, rfl, h58⟩
  refine lp hz15 [0, 1] rfl (fun s e L => ∃ x49 x52 F50 v53 F54 e13, s = (x49, x52) ∧ SlO 4 kBool x49 v34 F50 ∧ SlO 3 (kInt .i64) x52 v53 F54 ∧ e = ovr e13 [(0, .pointer (some ⟨b1, o3, none⟩)), (5, v34), (6, v53)] ∧ L = [F50, F54]) ⟨_, _, F35, v46, F47, _, rfl, h36, h48, ovr_eq _ _ rfl, rfl⟩ ?_
  rintro _ _ _ ⟨x49, x52, F50, v53, F54, e13, rfl, h51, h55, rfl, rfl⟩ X17 hp hx18
  replace hp : ssa_builder_closed.bd18 a2 x49 x52 = some X17 := hp
  refine TC.seq fun K22 k23 => sr <| tm rfl <| tv (ln u25 h55.ro rfl) rfl <| tv (bgt rfl rfl) rfl <| nz <| cD rfl hp (fun hc24 hp => ?_) fun hc24 hp => ?_
  · refine sk k23 rfl <| TC.named fun K25 k26 => TC.block <| sr <| tm rfl <| tm rfl <| tv (ln u25 h55.ro rfl) rfl <| tv (bsu rfl rfl) rfl <| ti u25 i3 (h55).ro hp rfl rfl rfl rfl ?_
    rintro x59 b60 o61 _ hp rfl h64
    refine tv (lr s3 (Src.at_ 1 rfl) h64 0 rfl rfl) rfl <| ta rfl <| nz <| sr <| tm rfl <| tm rfl <| tv (ln u25 h55.ro rfl) rfl <| tv (bsu rfl rfl) rfl <| tp [1, 0] [_,_] rfl rfl <| bE hp fun x65 hz28 hp => TL.slOwn u25 i3 rfl (ltb rfl) rfl rfl h55 hz28 fun v66 F67 h68 => ta rfl <| nz <| sr <| tm rfl <| tv (rv_nilCheck rfl) rfl <| tv (fa f85_2 rfl) rfl <| tv (lr s60 sH h4 5 rfl rfl) rfl <| tm rfl <| ti u60 i25 h12 hp rfl rfl rfl rfl ?_
    rintro x69 b70 o71 _ hp ⟨v75, rfl, h76⟩ h74
    refine tv (lr s25 sH h74 0 rfl rfl) rfl <| tv (ln u25 h76 rfl) rfl <| tm rfl <| nz <| TC.block <| bE hp fun z_31 hz32 hr33 => ?_
    have J37 {x85 x88 F86 v89 F90 e36} (h87 : SlO 4 kBool x85 v34 F86) (h91 : SlO 3 (kInt .i64) x88 v89 F90) (hq38 : (x85, x88) = z_31) : ∀ w, St E H [F86, F90] w → K25 (ovr e36 [(0, .pointer (some ⟨b1, o3, none⟩)), (5, v34), (6, v89)]) w := by
     subst hq38
     replace hp : ssa_builder_closed.nx35 x85 x88 = some X17 := hr33
     exact viaK k26 <| gk hp [0, 1] ⟨_, _, F86, v89, F90, _, rfl, h87, h91, ovr_eq _ _ rfl, rfl⟩
    refine lp hz32 [1, 0] rfl (fun s e L => ∃ x77 x80 x84 F78 v81 F82 e30, s = (x77, x80, x84) ∧ SlO 4 kBool x77 v34 F78 ∧ SlO 3 (kInt .i64) x80 v81 F82 ∧ e = ovr e30 [(0, .pointer (some ⟨b1, o3, none⟩)), (5, v34), (6, v81), (60, v75), (61, .int .i64 (len x69)), (62, .int .i64 x84)] ∧ L = [F78, F82]) ⟨_, _, _, F50, v66, F67, _, rfl, h51, h68, ovr_eq _ _ rfl, rfl⟩ ?_
    rintro _ _ _ ⟨x77, x80, x84, F78, v81, F82, e30, rfl, h79, h83, rfl, rfl⟩ X34 hp hx35
    replace hp : ssa_builder_closed.bd35 x69 x77 x80 x84 = some X34 := hp
    refine sr <| tv (blt rfl rfl) rfl <| nz <| TC.seq fun K39 k40 => cD rfl hp (fun hc41 hp => ?_) fun hc41 hp => ?_
    · refine sk k40 rfl <| TC.seq fun K42 k43 => ?_
      have J45 {x92 x95 F93 v96 F97 e44} (h94 : SlO 4 kBool x92 v34 F93) (h98 : SlO 3 (kInt .i64) x95 v96 F97) (hp : ssa_builder_closed.jn45 x84 x92 x95 = some X34) : ∀ w, St E H [F93, F97] w → K42 (ovr e44 [(0, .pointer (some ⟨b1, o3, none⟩)), (5, v34), (6, v96), (60, v75), (61, .int .i64 (len x69)), (62, .int .i64 x84)]) w := by
       exact tg k43 <| TC.region <| tv (bad rfl rfl) rfl <| tm rfl <| nl <| gk hp [0, 1] ⟨_, _, _, F93, v96, F97, _, rfl, h94, h98, ovr_eq _ _ rfl, rfl⟩
      refine TC.block <| sr <| ti u25 i3 h76 hp rfl rfl rfl rfl ?_
      rintro x99 b100 o101 _ hp rfl h104
      refine tv (lr s3 sH h104 0 rfl rfl) rfl <| ta rfl <| nz <| sr <| tm rfl <| tm rfl <| ti u88 i4 (h79).ro hp rfl rfl rfl rfl ?_
      rintro x105 b106 o107 _ hp rfl h110
      refine tv (lr s4 (Src.at_ 0 rfl) h110 0 rfl rfl) rfl <| tv (rv_not rfl) rfl <| nz <| cB rfl hp (fun hc48 hp => ?_) fun hc48 hp => ?_
      · exact sr <| tm rfl <| tm rfl <| tO u88 i4 h79 hp rfl rfl rfl rfl fun x111 b112 o113 h114 hp => tE h79 h114 m4 rfl ⟨rfl, rfl⟩ w1 fun F115 h116 => nz <| TC.region <| tm rfl <| tm rfl <| tbs [(0, .int .i64 x99)] [.int .i64 x99] u25 i3 (by kernel_rfl) rfl rfl rfl rfl fun b117 => tp [2, 0, 1] [_,_,_] rfl rfl <| tf 2 0 [_,_,_,_] rfl <| tp2 u25 i3 h83 hp (RepL.to (RepL.cons (k := (kInt .i64)) (x := x99) ⟨rfl, rfl⟩ RepL.nil) rfl) rfl rfl rfl rfl rfl rfl rfl rfl rfl fun x118 v119 F120 h121 hp => ta rfl <| nl <| jn [1, 0] (J45 h116 h121 hp)
      · exact TC.skip <| jn [0, 1] (J45 h79 h83 hp)
    · exact TC.exit <| jn [0, 1] (J37 h79 h83 (ex_ret hp hx35))
  · exact TC.exit <| jn [0] (J20 h51 (ex_ret hp hx18))
 refine lp hz6 [2, 1, 0] rfl (fun s e L => ∃ x40 x44 v41 F42 e4, s = (x40, x44) ∧ SlO 3 (kInt .i64) x40 v41 F42 ∧ e = ovr e4 [(0, .pointer (some ⟨b1, o3, none⟩)), (3, .pointer (some ⟨b32, 0, none⟩)), (5, v34), (6, v41), (24, v7), (25, .int .i64 (len a2.f.blocks)), (26, .int .i64 x44)] ∧ L = [bx b32 3 [.int .i64 a31], F35, F42]) ⟨_, _, (.slice (some ⟨b37, 0, none⟩) 1 1), F38, _, rfl, h39, ovr_eq _ _ rfl, rfl⟩ ?_
 rintro _ _ _ ⟨x40, x44, v41, F42, e4, rfl, h43, rfl, rfl⟩ X8 hp hx9
 replace hp : ssa_builder_closed.bd9 a2 a31 x40 x44 = some X8 := hp
 refine sr <| tv (blt rfl rfl) rfl <| nz <| TC.seq fun K57 k58 => cD rfl hp (fun hc59 hp => ?_) fun hc59 hp => ?_
 · refine sk k58 rfl <| TC.seq fun K60 k61 => ?_
   have J63 {x122 v123 F124 e62} (h125 : SlO 3 (kInt .i64) x122 v123 F124) (hp : ssa_builder_closed.jn63 x44 x122 = some X8) : ∀ w, St E H [bx b32 3 [.int .i64 a31], F35, F124] w → K60 (ovr e62 [(0, .pointer (some ⟨b1, o3, none⟩)), (3, .pointer (some ⟨b32, 0, none⟩)), (5, v34), (6, v123), (24, v7), (25, .int .i64 (len a2.f.blocks)), (26, .int .i64 x44)]) w := by
    exact tg k61 <| TC.region <| tv (bad rfl rfl) rfl <| tm rfl <| nl <| gk hp [0, 1, 2] ⟨_, _, v123, F124, _, rfl, h125, ovr_eq _ _ rfl, rfl⟩
   refine TC.block <| sr <| tm rfl <| ti u38 i50 h8 hp rfl rfl rfl rfl ?_
   rintro x126 b127 o128 _ hp ⟨v132, v134, v136, rfl, h133, h135, h137⟩ h131
   refine tv (lR (ds := [v132, v134, .int .i64 x126.term.kind, .int .i64 x126.term.arg, v136]) ag_50 sH h131 0 rfl rfl rfl) rfl <| tl i50 rfl fun b138 => ta rfl <| tS 0 m50 rfl rfl [v132, v134, .int .i64 x126.term.kind, .int .i64 x126.term.arg, v136] rfl (oc (h133).one (oc (h135).one (oc rfl (oc rfl (oc (h137).one oc0))))) rfl rfl <| nz <| sr <| tv (fa f50_1 rfl) rfl <| tv (lb s48 0 rfl rfl rfl) rfl <| tv mF rfl <| bE hp fun x139 hy65 hp => tc 0 [_,_,_,_] rfl c93 (fun _ => slices_ContainsFunc_api_Instr_api_Instr_ssa_builder_closed_1_ok (a1 := x126.ins) (a6 := a31) (h135.mono subH) ((bx_cells b32 3 _).mono (subB 1 rfl)) hy65) rfl ?_
   rintro _ _ ⟨rfl, rfl⟩
   refine nz <| cB rfl hp (fun hc67 hp => ?_) fun hc67 hp => ?_
   · exact TC.region <| tm rfl <| tm rfl <| tbs [(0, .int .i64 x44)] [.int .i64 x44] u25 i3 (by kernel_rfl) rfl rfl rfl rfl fun b140 => tp [4, 0, 1, 2, 3] [_,_,_,_,_] rfl rfl <| tf 2 0 [_,_,_,_,_,_] rfl <| tp2 u25 i3 h43 hp (RepL.to (RepL.cons (k := (kInt .i64)) (x := x44) ⟨rfl, rfl⟩ RepL.nil) rfl) rfl rfl rfl rfl rfl rfl rfl rfl rfl fun x141 v142 F143 h144 hp => ta rfl <| nl <| jn [2, 3, 0] (J63 h144 hp)
   · exact TC.skip <| jn [1, 2, 3] (J63 h43 hp)
 · exact TC.exit <| jn [1, 2] (J55 h43 (ex_ret hp hx9))
/-! ### (*fettle/ssa.builder).place -/
abbrev ssa_builder_place.R (b1 : Nat) (a2 : PBuilder) (v3 : Value) (v5 : Value) (v7 : Value) (v9 : Value) (v11 : Value) (v19 : Value) (v21 : Value) (v23 : Value) (v25 : Value) (v27 : Value) (v29 : Value) (r : List (List Int) × List Int) (v : Value) (A : List FP) : Prop := ∃ (w1 : Value) (G1 : FP) (w2 : Value) (G2 : FP), .tuple #[] = v ∧ A = [bx b1 85 [.int .i64 a2.f.params, .int .i64 a2.f.result, v3, v5, v7, v9, v11, w1, w2, v19, v21, v23, v25, v27, v29], G1, G2] ∧ SlO 25 (kSl 3 (kInt .i64)) r.1 w1 G1 ∧ SlO 3 (kInt .i64) r.2 w2 G2
def ssa_builder_place.nx9  (x44 : List (List Int)) (x47 : List Int) : Option (List (List Int) × List Int) :=
  some (x44, x47)
def ssa_builder_place.jn19 (x43 : Int) (x51 : List (List Int)) (x54 : List Int) : Option (Ex (List (List Int) × List Int) (List (List Int) × List Int × Int)) :=
  some (.go (x51, x54, (w64 (x43 + 1))))
def ssa_builder_place.nx29 (a2 : PBuilder) (x39 : List Int) (x43 : Int) (x66 : List (List Int)) : Option (Ex (List (List Int) × List Int) (List (List Int) × List Int × Int)) :=
  (if x43 ≥ a2.f.params then (idx a2.in_ 0).bind fun x75 =>
  (idx x75 x43).bind fun x83 =>
  some x83 else some false).bind fun t69 =>
  if t69 = true then
    (cat x39 [x43]).bind fun x71 =>
    ssa_builder_place.jn19 x43 x66 x71
  else
    ssa_builder_place.jn19 x43 x66 x39
def ssa_builder_place.jn49 (x65 : Int) (x89 : List (List Int)) : Option (Ex (List (List Int)) (List (List Int) × Int)) :=
  some (.go (x89, (w64 (x65 + 1))))
def ssa_builder_place.bd29 (a2 : PBuilder) (x43 : Int) (x58 : List Bool) (x62 : List (List Int)) (x65 : Int) : Option (Ex (List (List Int)) (List (List Int) × Int)) :=
  if x65 < (len x58) then
    (idx x58 x65).bind fun x92 =>
    (if x92 = true then (idx a2.in_ x65).bind fun x6902 =>
    (idx x6902 x43).bind fun x6910 =>
    some x6910 else some false).bind fun t98 =>
    if t98 = true then
      (idx x62 x65).bind fun x4100 =>
      (cat x4100 [x43]).bind fun x5700 =>
      ssa_builder_place.jn49 x65 (x62.set (x65).toNat x5700)
    else
      ssa_builder_place.jn49 x65 x62
  else
    some (.ret x62)
def ssa_builder_place.bd9 (a2 : PBuilder) (x36 : List (List Int)) (x39 : List Int) (x43 : Int) : Option (Ex (List (List Int) × List Int) (List (List Int) × List Int × Int)) :=
  if x43 < (len a2.f.regs) then
    (ssa_builder_closed (⟨(⟨a2.f.params, a2.f.result, a2.f.regs, a2.f.blocks⟩ : PFunc), a2.in_, a2.front, a2.nearest, x36, x39, a2.regs, a2.phi, a2.zero_, a2.dst, a2.begin, a2.end_⟩ : PBuilder) x43).bind fun x58 =>
    (whl (fun (s : (List (List Int) × Int)) => ssa_builder_place.bd29 a2 x43 x58 s.1 s.2) FUEL (x36, 0)).bind fun z =>
    ssa_builder_place.nx29 a2 x39 x43 z
  else
    some (.ret (x36, x39))
def ssa_builder_place (a2 : PBuilder) : Option (List (List Int) × List Int) :=
  (mkl (len a2.f.blocks) ([] : List Int)).bind fun x32 =>
  (whl (fun (s : (List (List Int) × List Int × Int)) => ssa_builder_place.bd9 a2 s.1 s.2.1 s.2.2) FUEL (x32, a2.zeros, 0)).bind fun z =>
  ssa_builder_place.nx9 z.1 z.2
set_option maxHeartbeats 4000000 in
theorem ssa_builder_place_ok {E : World} {H : FP} {w : World} {a2 : PBuilder} {b1 : Nat} {v3 : Value} {v5 : Value} {v7 : Value} {v9 : Value} {v11 : Value} {v13 : Value} {F14 : FP} {v16 : Value} {F17 : FP} {v19 : Value} {v21 : Value} {v23 : Value} {v25 : Value} {v27 : Value} {v29 : Value} {r : List (List Int) × List Int} (h4 : SlI (kInt .i64) H a2.f.regs v3) (h6 : SlI kBlock H a2.f.blocks v5) (h8 : SlI (kSl 4 kBool) H a2.in_ v7) (h10 : SlI (kSl 3 (kInt .i64)) H a2.front v9) (h12 : SlI (kInt .i64) H a2.nearest v11) (h15 : SlO 25 (kSl 3 (kInt .i64)) a2.phis v13 F14) (h18 : SlO 3 (kInt .i64) a2.zeros v16 F17) (h20 : SlI (kInt .i64) H a2.regs v19) (h22 : SlI (kSl 3 (kInt .i64)) H a2.phi v21) (h24 : SlI (kInt .i64) H a2.zero_ v23) (h26 : SlI (kSl 3 (kInt .i64)) H a2.dst v25) (h28 : SlI (kSl 3 (kInt .i64)) H a2.begin v27) (h30 : SlI (kSl 3 (kInt .i64)) H a2.end_ v29) (hp : ssa_builder_place a2 = some r) (hst : St E H [bx b1 85 [.int .i64 a2.f.params, .int .i64 a2.f.result, v3, v5, v7, v9, v11, v13, v16, v19, v21, v23, v25, v27, v29], F14, F17] w) :
    Fn Try.prog 44 #[.pointer (some ⟨b1, 0, none⟩)] w fun v w' => ∃ A, ssa_builder_place.R b1 a2 v3 v5 v7 v9 v11 v19 v21 v23 v25 v27 v29 r v A ∧ St E H A w' := by
 refine fb 92 [] Try.func44 rfl rfl rfl rfl rfl hst <| sr <| tm rfl <| tm rfl <| tv (rv_nilCheck rfl) rfl <| tv (fa f85_0 rfl) rfl <| tv (fa f40_3 rfl) rfl <| tv (lb s38 0 rfl rfl rfl) rfl <| tv (ln u38 h6 rfl) rfl <| tk (k := (kSl 3 (kInt .i64))) u60 i25 hp ⟨_, rfl, SlO.nil 3⟩ rfl rfl rfl rfl rfl rfl fun x32 v33 F34 h35 hp => tv (rv_nilCheck rfl) rfl <| tv (fa f85_4 rfl) rfl <| ts 1 m60 rfl rfl h35.o1 rfl <| nz <| sr <| tm rfl <| tv (rv_nilCheck rfl) rfl <| tv (fa f85_0 rfl) rfl <| tv (fa f40_2 rfl) rfl <| tv (lb s25 1 rfl rfl rfl) rfl <| tv (ln u25 h4 rfl) rfl <| tm rfl <| nz <| TC.named fun K2 k3 => TC.block <| bE hp fun z_5 hz6 hr7 => ?_
 have J11 {x44 x47 F45 v48 F49 e10} (h46 : SlO 25 (kSl 3 (kInt .i64)) x44 v33 F45) (h50 : SlO 3 (kInt .i64) x47 v48 F49) (hq12 : (x44, x47) = z_5) : ∀ w, St E H [bx b1 85 [.int .i64 a2.f.params, .int .i64 a2.f.result, v3, v5, v7, v9, v11, v33, v48, v19, v21, v23, v25, v27, v29], F45, F49] w → K2 (ovr e10 []) w := by
  subst hq12
  replace hp : ssa_builder_place.nx9 x44 x47 = some r := hr7
  exact viaK k3 <| rt hp [0, 1, 2] ⟨v33, F45, v48, F49, rfl, rfl, h46, h50⟩
 refine lp hz6 [1, 0, 3] rfl (fun s e L => ∃ x36 x39 x43 F37 v40 F41 e4, s = (x36, x39, x43) ∧ SlO 25 (kSl 3 (kInt .i64)) x36 v33 F37 ∧ SlO 3 (kInt .i64) x39 v40 F41 ∧ e = ovr e4 [(0, .pointer (some ⟨b1, 0, none⟩)), (20, .int .i64 (len a2.f.regs)), (21, .int .i64 x43)] ∧ L = [bx b1 85 [.int .i64 a2.f.params, .int .i64 a2.f.result, v3, v5, v7, v9, v11, v33, v40, v19, v21, v23, v25, v27, v29], F37, F41]) ⟨_, _, _, F34, v16, F17, _, rfl, h35, h18, ovr_eq _ _ rfl, rfl⟩ ?_
 rintro _ _ _ ⟨x36, x39, x43, F37, v40, F41, e4, rfl, h38, h42, rfl, rfl⟩ X8 hp hx9
 replace hp : ssa_builder_place.bd9 a2 x36 x39 x43 = some X8 := hp
 refine sr <| tv (blt rfl rfl) rfl <| nz <| TC.seq fun K13 k14 => cD rfl hp (fun hc15 hp => ?_) fun hc15 hp => ?_
 · refine sk k14 rfl <| TC.seq fun K16 k17 => ?_
   have J19 {x51 x54 F52 v55 F56 e18} (h53 : SlO 25 (kSl 3 (kInt .i64)) x51 v33 F52) (h57 : SlO 3 (kInt .i64) x54 v55 F56) (hp : ssa_builder_place.jn19 x43 x51 x54 = some X8) : ∀ w, St E H [bx b1 85 [.int .i64 a2.f.params, .int .i64 a2.f.result, v3, v5, v7, v9, v11, v33, v55, v19, v21, v23, v25, v27, v29], F52, F56] w → K16 (ovr e18 [(0, .pointer (some ⟨b1, 0, none⟩)), (20, .int .i64 (len a2.f.regs)), (21, .int .i64 x43)]) w := by
    exact tg k17 <| TC.region <| tv (bad rfl rfl) rfl <| tm rfl <| nl <| gk hp [0, 1, 2] ⟨_, _, _, F52, v55, F56, _, rfl, h53, h57, ovr_eq _ _ rfl, rfl⟩
   refine TC.block <| sr <| tm rfl <| ta rfl <| nz <| TC.seq fun K20 k21 => sr <| tm rfl <| tm rfl <| bE hp fun x58 hy22 hp => tc 0 [_,_,_] rfl c79 (fun _ => ssa_builder_closed_ok (a2 := (⟨(⟨a2.f.params, a2.f.result, a2.f.regs, a2.f.blocks⟩ : PFunc), a2.in_, a2.front, a2.nearest, x36, x39, a2.regs, a2.phi, a2.zero_, a2.dst, a2.begin, a2.end_⟩ : PBuilder)) (a31 := x43) ((bx_cells b1 85 _).mono (subB 0 rfl)) (h4.mono subH) (h6.mono subH) (h8.mono subH) (h10.mono subH) (h12.mono subH) (h38.ro.mono (subB 1 rfl)) (h42.ro.mono (subB 2 rfl)) (h20.mono subH) (h22.mono subH) (h24.mono subH) (h26.mono subH) (h28.mono subH) (h30.mono subH) hy22) rfl ?_
   rintro _ _ ⟨v59, F60, rfl, rfl, h61⟩
   refine tv (ln u88 h61.ro rfl) rfl <| tm rfl <| nz <| TC.block <| bE hp fun z_25 hz26 hr27 => ?_
   have J41 {x66 F67 e30} (h68 : SlO 25 (kSl 3 (kInt .i64)) x66 v33 F67) (hq42 : x66 = z_25) : ∀ w, St E H [bx b1 85 [.int .i64 a2.f.params, .int .i64 a2.f.result, v3, v5, v7, v9, v11, v33, v40, v19, v21, v23, v25, v27, v29], F67, F41] w → K20 (ovr e30 [(0, .pointer (some ⟨b1, 0, none⟩)), (2, .int .i64 x43), (20, .int .i64 (len a2.f.regs)), (21, .int .i64 x43)]) w := by
    subst hq42
    replace hp : ssa_builder_place.nx29 a2 x39 x43 x66 = some X8 := hr27
    refine tg k21 <| sr <| tm rfl <| tm rfl <| tv (rv_nilCheck rfl) rfl <| tv (fa f85_0 rfl) rfl <| tv (fa f40_0 rfl) rfl <| tv (lb s3 0 rfl rfl rfl) rfl <| tv (bge rfl rfl) rfl <| tm rfl <| bE hp fun t69 ht38 hp => TL.cut 10 fun K31 k32 => ?_
    have J33 {e35} : ∀ w, St E H [bx b1 85 [.int .i64 a2.f.params, .int .i64 a2.f.result, v3, v5, v7, v9, v11, v33, v40, v19, v21, v23, v25, v27, v29], F67, F41] w → K31 (ovr e35 [(80, .bool t69), (0, .pointer (some ⟨b1, 0, none⟩)), (2, .int .i64 x43), (20, .int .i64 (len a2.f.regs)), (21, .int .i64 x43)]) w := by
     refine tlg k32 <| nz <| cB rfl hp (fun hc36 hp => ?_) fun hc36 hp => ?_
     · exact TC.region <| tm rfl <| tm rfl <| tv (rv_nilCheck rfl) rfl <| tv (fa f85_5 rfl) rfl <| tv (lb s25 0 rfl rfl rfl) rfl <| tm rfl <| tbs [(0, .int .i64 x43)] [.int .i64 x43] u25 i3 (by kernel_rfl) rfl rfl rfl rfl fun b70 => tp [3, 0, 1, 2] [_,_,_,_] rfl rfl <| tf 2 0 [_,_,_,_,_] rfl <| tp2 u25 i3 h42 hp (RepL.to (RepL.cons (k := (kInt .i64)) (x := x43) ⟨rfl, rfl⟩ RepL.nil) rfl) rfl rfl rfl rfl rfl rfl rfl rfl rfl fun x71 v72 F73 h74 hp => tv (rv_nilCheck rfl) rfl <| tv (fa f85_5 rfl) rfl <| ts 1 m25 rfl rfl h74.o1 rfl <| nl <| jn [1, 2, 0] (J19 h68 h74 hp)
     · exact TC.skip <| jn [0, 1, 2] (J19 h68 h42 hp)
    refine ifE ht38 (fun hc34 hp => ?_) fun hc34 hp => ?_
    · refine gy rfl (bT hc34) <| tm rfl <| gy rfl (bT hc34) <| tv (rv_nilCheck rfl) rfl <| gy rfl (bT hc34) <| tv (fa f85_1 rfl) rfl <| gy rfl (bT hc34) <| tv (lb s62 0 rfl rfl rfl) rfl <| gy rfl (bT hc34) <| ti u62 i88 h8 hp rfl rfl rfl rfl ?_
      rintro x75 b76 o77 _ hp ⟨v81, rfl, h82⟩ h80
      refine gy rfl (bT hc34) <| tv (lr s88 sH h80 0 rfl rfl) rfl <| gy rfl (bT hc34) <| tm rfl <| gy rfl (bT hc34) <| ti u88 i4 h82 hp rfl rfl rfl rfl ?_
      rintro x83 b84 o85 _ hp rfl h88
      refine gy rfl (bT hc34) <| tv (lr s4 sH h88 0 rfl rfl) rfl <| tv (pT (bT hc34)) rfl ?_
      obtain rfl := Option.some.inj hp
      exact nj J33 rfl
    · refine gn rfl (bF hc34) rfl rfl <| gn rfl (bF hc34) rfl rfl <| gn rfl (bF hc34) rfl rfl <| gn rfl (bF hc34) rfl rfl <| gn rfl (bF hc34) rfl rfl <| gn rfl (bF hc34) rfl rfl <| gn rfl (bF hc34) rfl rfl <| gn rfl (bF hc34) rfl rfl <| gn rfl (bF hc34) rfl rfl <| tv (pF (bF hc34)) rfl ?_
      obtain rfl := Option.some.inj hp
      exact nj J33 rfl
   refine lp hz26 [1, 2, 3, 0] rfl (fun s e L => ∃ x62 x65 F63 e24, s = (x62, x65) ∧ SlO 25 (kSl 3 (kInt .i64)) x62 v33 F63 ∧ e = ovr e24 [(0, .pointer (some ⟨b1, 0, none⟩)), (2, .int .i64 x43), (20, .int .i64 (len a2.f.regs)), (21, .int .i64 x43), (26, v59), (27, .int .i64 (len x58)), (28, .int .i64 x65)] ∧ L = [bx b1 85 [.int .i64 a2.f.params, .int .i64 a2.f.result, v3, v5, v7, v9, v11, v33, v40, v19, v21, v23, v25, v27, v29], F63, F41, F60]) ⟨_, _, F37, _, rfl, h38, ovr_eq _ _ rfl, rfl⟩ ?_
   rintro _ _ _ ⟨x62, x65, F63, e24, rfl, h64, rfl, rfl⟩ X28 hp hx29
   replace hp : ssa_builder_place.bd29 a2 x43 x58 x62 x65 = some X28 := hp
   refine sr <| tv (blt rfl rfl) rfl <| nz <| TC.seq fun K43 k44 => cD rfl hp (fun hc45 hp => ?_) fun hc45 hp => ?_
   · refine sk k44 rfl <| TC.seq fun K46 k47 => ?_
     have J49 {x89 F90 e48} (h91 : SlO 25 (kSl 3 (kInt .i64)) x89 v33 F90) (hp : ssa_builder_place.jn49 x65 x89 = some X28) : ∀ w, St E H [bx b1 85 [.int .i64 a2.f.params, .int .i64 a2.f.result, v3, v5, v7, v9, v11, v33, v40, v19, v21, v23, v25, v27, v29], F90, F41, F60] w → K46 (ovr e48 [(0, .pointer (some ⟨b1, 0, none⟩)), (2, .int .i64 x43), (20, .int .i64 (len a2.f.regs)), (21, .int .i64 x43), (26, v59), (27, .int .i64 (len x58)), (28, .int .i64 x65)]) w := by
      exact tg k47 <| TC.region <| tv (bad rfl rfl) rfl <| tm rfl <| nl <| gk hp [0, 1, 2, 3] ⟨_, _, F90, _, rfl, h91, ovr_eq _ _ rfl, rfl⟩
     refine TC.block <| sr <| tm rfl <| ti u88 i4 (h61).ro hp rfl rfl rfl rfl ?_
     rintro x92 b93 o94 _ hp rfl h97
     refine tv (lr s4 (Src.at_ 3 rfl) h97 0 rfl rfl) rfl <| ta rfl <| ta rfl <| nz <| sr <| tm rfl <| tm rfl <| bE hp fun t98 ht93 hp => TL.cut 11 fun K51 k52 => ?_
     have J53 {e55} : ∀ w, St E H [bx b1 85 [.int .i64 a2.f.params, .int .i64 a2.f.result, v3, v5, v7, v9, v11, v33, v40, v19, v21, v23, v25, v27, v29], F63, F41, F60] w → K51 (ovr e55 [(45, .bool t98), (0, .pointer (some ⟨b1, 0, none⟩)), (2, .int .i64 x43), (3, .int .i64 x65), (20, .int .i64 (len a2.f.regs)), (21, .int .i64 x43), (26, v59), (27, .int .i64 (len x58)), (28, .int .i64 x65)]) w := by
      refine tlg k52 <| nz <| cB rfl hp (fun hc56 hp => ?_) fun hc56 hp => ?_
      · refine ch mix [bx b1 85 [.int .i64 a2.f.params, .int .i64 a2.f.result, v3, v5, v7, v9, v11, v33, v40, v19, v21, v23, v25, v27, v29], F41, F60] (srcG 0 rfl (srcG 2 rfl (srcG 3 rfl srcG0))) <| hv 0 rfl mv (by kernel_rfl) rfl <| hv 1 rfl (rv_nilCheck rfl) (by kernel_rfl) rfl <| hv 2 rfl (fa f85_4 rfl) (by kernel_rfl) rfl <| hv 3 rfl (lbG s60 0 rfl rfl rfl) (by kernel_rfl) rfl <| hv 4 rfl mv (by kernel_rfl) rfl <| hv 5 rfl mv (by kernel_rfl) rfl <| hv 6 rfl (rv_nilCheck rfl) (by kernel_rfl) rfl <| hv 7 rfl (fa f85_4 rfl) (by kernel_rfl) rfl <| hv 8 rfl (lbG s60 0 rfl rfl rfl) (by kernel_rfl) rfl <| hv 9 rfl mv (by kernel_rfl) rfl <| hv 12 rfl mv (by kernel_rfl) rfl <| HL.all [10, 13] (by kernel_rfl) (by simp) (HL.al ⟨_, rfl, fun K57 k58 => ?_⟩ (HL.al ⟨_, rfl, fun K80 k81 => ?_⟩ HL.al0))
        · refine tp [1, 0, 2, 3] [_,_,_,_] rfl rfl <| bE hp fun x4100 hx59 hp => TL.open_ h64 hx59 ?_
          rintro b4101 _ F4103 F4104 h4105 ⟨v4107, rfl, h4108⟩
          refine tv (rv_ixH u60 i25 rfl rfl (idx_some hx59).1 h4105) rfl <| hk k58 (srcG 2 rfl (srcG 3 rfl (srcG 4 rfl srcG0))) <| HL.all [11, 13] (by kernel_rfl) (by simp) (HL.al ⟨_, rfl, fun K60 k61 => ?_⟩ (HL.al ⟨_, rfl, fun K70 k71 => ?_⟩ HL.al0))
          · exact tv (lr s25 (Src.at_ 0 rfl) (Hole.cells h4105) 0 rfl rfl) rfl <| hk k61 (srcG 2 rfl (srcG 3 rfl (srcG 4 rfl srcG0))) <| ho 13 rfl (by kernel_rfl) fun K62 k63 => tbs [(0, .int .i64 x43)] [.int .i64 x43] u25 i3 (by kernel_rfl) rfl rfl rfl rfl fun b5300 => hk k63 (srcG 3 rfl (srcG 4 rfl (srcG 5 rfl srcG0))) <| ho 14 rfl (by kernel_rfl) fun K64 k65 => tp [2, 0, 1, 3, 4, 5] [_,_,_,_,_,_] rfl rfl <| tf 2 0 [_,_,_,_,_,_,_] rfl <| tp2 u25 i3 h4108 hp (RepL.to (RepL.cons (k := (kInt .i64)) (x := x43) ⟨rfl, rfl⟩ RepL.nil) rfl) rfl rfl rfl rfl rfl rfl rfl rfl rfl fun x5700 v5701 F5702 h5703 hp => hk k65 (srcG 2 rfl (srcG 3 rfl (srcG 4 rfl srcG0))) <| hv 15 rfl (rv_ixH u60 i25 rfl rfl (idx_some hx59).1 h4105) (by kernel_rfl) rfl <| ho 16 rfl (by kernel_rfl) fun K68 k69 => tp [1, 0, 2, 3, 4] [_,_,_,_,_] rfl rfl <| tsH h4105 m25 0 rfl h5703.o1 rfl fun F6500 h6501 => hk k69 (srcG 2 rfl (srcG 3 rfl (srcG 4 rfl srcG0))) <| hz (by kernel_rfl) <| W.shut (a := x5700) h6501 ⟨_, rfl, h5703⟩ fun F6900 h6901 => jn [1, 0, 2, 3] (J49 h6901 hp)
          · exact tbs [(0, .int .i64 x43)] [.int .i64 x43] u25 i3 (by kernel_rfl) rfl rfl rfl rfl fun b5300 => hk k71 (srcG 3 rfl (srcG 4 rfl (srcG 5 rfl srcG0))) <| ho 11 rfl (by kernel_rfl) fun K72 k73 => tv (lr s25 (Src.at_ 1 rfl) (Hole.cells h4105) 0 rfl rfl) rfl <| hk k73 (srcG 3 rfl (srcG 4 rfl (srcG 5 rfl srcG0))) <| ho 14 rfl (by kernel_rfl) fun K74 k75 => tp [2, 0, 1, 3, 4, 5] [_,_,_,_,_,_] rfl rfl <| tf 2 0 [_,_,_,_,_,_,_] rfl <| tp2 u25 i3 h4108 hp (RepL.to (RepL.cons (k := (kInt .i64)) (x := x43) ⟨rfl, rfl⟩ RepL.nil) rfl) rfl rfl rfl rfl rfl rfl rfl rfl rfl fun x5700 v5701 F5702 h5703 hp => hk k75 (srcG 2 rfl (srcG 3 rfl (srcG 4 rfl srcG0))) <| hv 15 rfl (rv_ixH u60 i25 rfl rfl (idx_some hx59).1 h4105) (by kernel_rfl) rfl <| ho 16 rfl (by kernel_rfl) fun K78 k79 => tp [1, 0, 2, 3, 4] [_,_,_,_,_] rfl rfl <| tsH h4105 m25 0 rfl h5703.o1 rfl fun F6500 h6501 => hk k79 (srcG 2 rfl (srcG 3 rfl (srcG 4 rfl srcG0))) <| hz (by kernel_rfl) <| W.shut (a := x5700) h6501 ⟨_, rfl, h5703⟩ fun F6900 h6901 => jn [1, 0, 2, 3] (J49 h6901 hp)
        · refine tbs [(0, .int .i64 x43)] [.int .i64 x43] u25 i3 (by kernel_rfl) rfl rfl rfl rfl fun b5300 => hk k81 (srcG 1 rfl (srcG 3 rfl (srcG 4 rfl srcG0))) <| ho 10 rfl (by kernel_rfl) fun K82 k83 => tp [2, 0, 1, 3, 4] [_,_,_,_,_] rfl rfl <| bE hp fun x4100 hx84 hp => TL.open_ h64 hx84 ?_
          rintro b4101 _ F4103 F4104 h4105 ⟨v4107, rfl, h4108⟩
          exact tv (rv_ixH u60 i25 rfl rfl (idx_some hx84).1 h4105) rfl <| hk k83 (srcG 3 rfl (srcG 4 rfl (srcG 5 rfl srcG0))) <| ho 11 rfl (by kernel_rfl) fun K85 k86 => tv (lr s25 (Src.at_ 0 rfl) (Hole.cells h4105) 0 rfl rfl) rfl <| hk k86 (srcG 3 rfl (srcG 4 rfl (srcG 5 rfl srcG0))) <| ho 14 rfl (by kernel_rfl) fun K87 k88 => tp [1, 2, 0, 3, 4, 5] [_,_,_,_,_,_] rfl rfl <| tf 2 0 [_,_,_,_,_,_,_] rfl <| tp2 u25 i3 h4108 hp (RepL.to (RepL.cons (k := (kInt .i64)) (x := x43) ⟨rfl, rfl⟩ RepL.nil) rfl) rfl rfl rfl rfl rfl rfl rfl rfl rfl fun x5700 v5701 F5702 h5703 hp => hk k88 (srcG 2 rfl (srcG 3 rfl (srcG 4 rfl srcG0))) <| hv 15 rfl (rv_ixH u60 i25 rfl rfl (idx_some hx84).1 h4105) (by kernel_rfl) rfl <| ho 16 rfl (by kernel_rfl) fun K91 k92 => tp [1, 0, 2, 3, 4] [_,_,_,_,_] rfl rfl <| tsH h4105 m25 0 rfl h5703.o1 rfl fun F6500 h6501 => hk k92 (srcG 2 rfl (srcG 3 rfl (srcG 4 rfl srcG0))) <| hz (by kernel_rfl) <| W.shut (a := x5700) h6501 ⟨_, rfl, h5703⟩ fun F6900 h6901 => jn [1, 0, 2, 3] (J49 h6901 hp)
      · exact TC.skip <| jn [0, 1, 2, 3] (J49 h64 hp)
     refine ifE ht93 (fun hc54 hp => ?_) fun hc54 hp => ?_
     · refine gy rfl (bbT hc54) <| tm rfl <| gy rfl (bbT hc54) <| tv (rv_nilCheck rfl) rfl <| gy rfl (bbT hc54) <| tv (fa f85_1 rfl) rfl <| gy rfl (bbT hc54) <| tv (lb s62 0 rfl rfl rfl) rfl <| gy rfl (bbT hc54) <| tm rfl <| gy rfl (bbT hc54) <| ti u62 i88 h8 hp rfl rfl rfl rfl ?_
       rintro x6902 b6903 o6904 _ hp ⟨v6908, rfl, h6909⟩ h6907
       refine gy rfl (bbT hc54) <| tv (lr s88 sH h6907 0 rfl rfl) rfl <| gy rfl (bbT hc54) <| tm rfl <| gy rfl (bbT hc54) <| ti u88 i4 h6909 hp rfl rfl rfl rfl ?_
       rintro x6910 b6911 o6912 _ hp rfl h6915
       refine gy rfl (bbT hc54) <| tv (lr s4 sH h6915 0 rfl rfl) rfl <| tv (pT (bbT hc54)) rfl ?_
       obtain rfl := Option.some.inj hp
       exact nj J53 rfl
     · refine gn rfl (bbF hc54) rfl rfl <| gn rfl (bbF hc54) rfl rfl <| gn rfl (bbF hc54) rfl rfl <| gn rfl (bbF hc54) rfl rfl <| gn rfl (bbF hc54) rfl rfl <| gn rfl (bbF hc54) rfl rfl <| gn rfl (bbF hc54) rfl rfl <| gn rfl (bbF hc54) rfl rfl <| gn rfl (bbF hc54) rfl rfl <| gn rfl (bbF hc54) rfl rfl <| tv (pF (bbF hc54)) rfl ?_
       obtain rfl := Option.some.inj hp
       exact nj J53 rfl
   · exact TC.exit <| jn [0, 1, 2] (J41 h64 (ex_ret hp hx29))
 · exact TC.exit <| jn [0, 1, 2] (J11 h38 h42 (ex_ret hp hx9))
/-! ### (*fettle/ssa.builder).fresh -/
abbrev ssa_builder_fresh.R (b1 : Nat) (a2 : PBuilder) (v3 : Value) (v5 : Value) (v7 : Value) (v9 : Value) (v11 : Value) (v13 : Value) (v15 : Value) (v20 : Value) (v22 : Value) (v24 : Value) (v26 : Value) (v28 : Value) (r : Int × List Int) (v : Value) (A : List FP) : Prop := ∃ (w1 : Value) (G1 : FP), .int .i64 r.1 = v ∧ A = [bx b1 85 [.int .i64 a2.f.params, .int .i64 a2.f.result, v3, v5, v7, v9, v11, v13, v15, w1, v20, v22, v24, v26, v28], G1] ∧ SlO 3 (kInt .i64) r.2 w1 G1
def ssa_builder_fresh.jn4  (x32 : List Int) : Option (Int × List Int) :=
  some ((w64 ((len x32) - 1)), x32)
def ssa_builder_fresh (a2 : PBuilder) (a31 : Int) : Option (Int × List Int) :=
  (idx a2.f.regs a31).bind fun x4437 =>
  (cat a2.regs [x4437]).bind fun x5637 =>
  ssa_builder_fresh.jn4 x5637
set_option maxHeartbeats 4000000 in
theorem ssa_builder_fresh_ok {E : World} {H : FP} {w : World} {a2 : PBuilder} {a31 : Int} {b1 : Nat} {v3 : Value} {v5 : Value} {v7 : Value} {v9 : Value} {v11 : Value} {v13 : Value} {v15 : Value} {v17 : Value} {F18 : FP} {v20 : Value} {v22 : Value} {v24 : Value} {v26 : Value} {v28 : Value} {r : Int × List Int} (h4 : SlI (kInt .i64) H a2.f.regs v3) (h6 : SlI kBlock H a2.f.blocks v5) (h8 : SlI (kSl 4 kBool) H a2.in_ v7) (h10 : SlI (kSl 3 (kInt .i64)) H a2.front v9) (h12 : SlI (kInt .i64) H a2.nearest v11) (h14 : SlI (kSl 3 (kInt .i64)) H a2.phis v13) (h16 : SlI (kInt .i64) H a2.zeros v15) (h19 : SlO 3 (kInt .i64) a2.regs v17 F18) (h21 : SlI (kSl 3 (kInt .i64)) H a2.phi v20) (h23 : SlI (kInt .i64) H a2.zero_ v22) (h25 : SlI (kSl 3 (kInt .i64)) H a2.dst v24) (h27 : SlI (kSl 3 (kInt .i64)) H a2.begin v26) (h29 : SlI (kSl 3 (kInt .i64)) H a2.end_ v28) (hp : ssa_builder_fresh a2 a31 = some r) (hst : St E H [bx b1 85 [.int .i64 a2.f.params, .int .i64 a2.f.result, v3, v5, v7, v9, v11, v13, v15, v17, v20, v22, v24, v26, v28], F18] w) :
    Fn Try.prog 80 #[.pointer (some ⟨b1, 0, none⟩), .int .i64 a31] w fun v w' => ∃ A, ssa_builder_fresh.R b1 a2 v3 v5 v7 v9 v11 v13 v15 v20 v22 v24 v26 v28 r v A ∧ St E H A w' := by
 refine fb 28 [.tmp 4] Try.func80 rfl rfl rfl rfl rfl hst <| sr <| ta rfl <| nz <| TC.seq fun K1 k2 => ?_
 have J4 {x32 v33 F34 e3} (h35 : SlO 3 (kInt .i64) x32 v33 F34) (hp : ssa_builder_fresh.jn4 x32 = some r) : ∀ w, St E H [bx b1 85 [.int .i64 a2.f.params, .int .i64 a2.f.result, v3, v5, v7, v9, v11, v13, v15, v33, v20, v22, v24, v26, v28], F34] w → K1 (ovr e3 [(0, .pointer (some ⟨b1, 0, none⟩))]) w := by
  exact tg k2 <| sr <| tm rfl <| tv (rv_nilCheck rfl) rfl <| tv (fa f85_6 rfl) rfl <| tv (lb s25 0 rfl rfl rfl) rfl <| tv (ln u25 h35.ro rfl) rfl <| tv (bsu rfl rfl) rfl <| ta rfl <| nz <| TC.ret <| rt hp [0, 1] ⟨v33, F34, rfl, rfl, h35⟩
 refine ch mix [] srcG0 <| hv 0 rfl mv (by kernel_rfl) rfl <| hv 1 rfl mv (by kernel_rfl) rfl <| hv 2 rfl (rv_nilCheck rfl) (by kernel_rfl) rfl <| hv 3 rfl (fa f85_6 rfl) (by kernel_rfl) rfl <| hv 5 rfl mv (by kernel_rfl) rfl <| hv 6 rfl (rv_nilCheck rfl) (by kernel_rfl) rfl <| hv 7 rfl (fa f85_0 rfl) (by kernel_rfl) rfl <| hv 8 rfl (fa f40_2 rfl) (by kernel_rfl) rfl <| hv 10 rfl mv (by kernel_rfl) rfl <| HL.all [4, 9] (by kernel_rfl) (by simp) (HL.al ⟨_, rfl, fun K5 k6 => ?_⟩ (HL.al ⟨_, rfl, fun K17 k18 => ?_⟩ HL.al0))
 · refine tv (lb s25 0 rfl rfl rfl) rfl <| hk k6 srcG0 <| ho 9 rfl (by kernel_rfl) fun K7 k8 => tv (lb s25 0 rfl rfl rfl) rfl <| hk k8 srcG0 <| hi 11 rfl u25 i3 h4 hp rfl rfl rfl (by kernel_rfl) rfl ?_
   rintro x4437 b4438 o4439 _ hp rfl h4442
   exact hv 12 rfl (lr s3 srcInH h4442 0 rfl rfl) (by kernel_rfl) rfl <| ho 13 rfl (by kernel_rfl) fun K10 k11 => tbs [(0, .int .i64 x4437)] [.int .i64 x4437] u25 i3 (by kernel_rfl) rfl rfl rfl rfl fun b5237 => hk k11 srcG0 <| ho 14 rfl (by kernel_rfl) fun K12 k13 => tp [2, 0, 1] [_,_,_] rfl rfl <| tf 2 0 [_,_,_,_] rfl <| tp2 u25 i3 h19 hp (RepL.to (RepL.cons (k := (kInt .i64)) (x := x4437) ⟨rfl, rfl⟩ RepL.nil) rfl) rfl rfl rfl rfl rfl rfl rfl rfl rfl fun x5637 v5638 F5639 h5640 hp => hk k13 srcG0 <| hv 15 rfl (rv_nilCheck rfl) (by kernel_rfl) rfl <| hv 16 rfl (fa f85_6 rfl) (by kernel_rfl) rfl <| ho 17 rfl (by kernel_rfl) fun K15 k16 => ts 1 m25 rfl rfl h5640.o1 rfl <| hk k16 srcG0 <| hz (by kernel_rfl) <| jn [1, 0] (J4 h5640 hp)
 · refine tv (lb s25 0 rfl rfl rfl) rfl <| hk k18 srcG0 <| hi 11 rfl u25 i3 h4 hp rfl rfl rfl (by kernel_rfl) rfl ?_
   rintro x4437 b4438 o4439 _ hp rfl h4442
   refine hv 12 rfl (lr s3 srcInH h4442 0 rfl rfl) (by kernel_rfl) rfl <| HL.all [4, 13] (by kernel_rfl) (by simp) (HL.al ⟨_, rfl, fun K20 k21 => ?_⟩ (HL.al ⟨_, rfl, fun K29 k30 => ?_⟩ HL.al0))
   · exact tv (lb s25 0 rfl rfl rfl) rfl <| hk k21 srcG0 <| ho 13 rfl (by kernel_rfl) fun K22 k23 => tbs [(0, .int .i64 x4437)] [.int .i64 x4437] u25 i3 (by kernel_rfl) rfl rfl rfl rfl fun b5237 => hk k23 srcG0 <| ho 14 rfl (by kernel_rfl) fun K24 k25 => tp [2, 0, 1] [_,_,_] rfl rfl <| tf 2 0 [_,_,_,_] rfl <| tp2 u25 i3 h19 hp (RepL.to (RepL.cons (k := (kInt .i64)) (x := x4437) ⟨rfl, rfl⟩ RepL.nil) rfl) rfl rfl rfl rfl rfl rfl rfl rfl rfl fun x5637 v5638 F5639 h5640 hp => hk k25 srcG0 <| hv 15 rfl (rv_nilCheck rfl) (by kernel_rfl) rfl <| hv 16 rfl (fa f85_6 rfl) (by kernel_rfl) rfl <| ho 17 rfl (by kernel_rfl) fun K27 k28 => ts 1 m25 rfl rfl h5640.o1 rfl <| hk k28 srcG0 <| hz (by kernel_rfl) <| jn [1, 0] (J4 h5640 hp)
   · exact tbs [(0, .int .i64 x4437)] [.int .i64 x4437] u25 i3 (by kernel_rfl) rfl rfl rfl rfl fun b5237 => hk k30 srcG0 <| ho 4 rfl (by kernel_rfl) fun K31 k32 => tv (lb s25 1 rfl rfl rfl) rfl <| hk k32 srcG0 <| ho 14 rfl (by kernel_rfl) fun K33 k34 => tp [2, 0, 1] [_,_,_] rfl rfl <| tf 2 0 [_,_,_,_] rfl <| tp2 u25 i3 h19 hp (RepL.to (RepL.cons (k := (kInt .i64)) (x := x4437) ⟨rfl, rfl⟩ RepL.nil) rfl) rfl rfl rfl rfl rfl rfl rfl rfl rfl fun x5637 v5638 F5639 h5640 hp => hk k34 srcG0 <| hv 15 rfl (rv_nilCheck rfl) (by kernel_rfl) rfl <| hv 16 rfl (fa f85_6 rfl) (by kernel_rfl) rfl <| ho 17 rfl (by kernel_rfl) fun K36 k37 => ts 1 m25 rfl rfl h5640.o1 rfl <| hk k37 srcG0 <| hz (by kernel_rfl) <| jn [1, 0] (J4 h5640 hp)
end Go.Proofs.Yteaknconpkklhaa
