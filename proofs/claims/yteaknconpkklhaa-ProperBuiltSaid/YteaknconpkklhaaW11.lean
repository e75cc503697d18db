/- The walk through the program's functions: each one's pure reading, and that a call does what it says. No conditions. -/
import Derived.Test.YteaknconpkklhaaW10
set_option linter.unusedVariables false
set_option linter.unusedSimpArgs false
namespace Go.Proofs.Yteaknconpkklhaa
open Go Go.Proofs
/-! ### (*fettle/ssa.builder).first -/
abbrev ssa_builder_first.R (r : List Int) (v : Value) (A : List FP) : Prop := ∃ (w1 : Value) (G1 : FP), w1 = v ∧ A = [G1] ∧ SlO 3 (kInt .i64) r w1 G1
def ssa_builder_first.nx18  (x46 : List Int) : Option (List Int) :=
  some x46
def ssa_builder_first.bd18 (a2 : PBuilder) (x42 : List Int) (x45 : Int) : Option (Ex (List Int) (List Int × Int)) :=
  if x45 < (len a2.zeros) then
    (idx a2.zeros x45).bind fun x49 =>
    (idx a2.zero_ x45).bind fun x55 =>
    (idx x42 x49).bind fun x61 =>
    some (.go ((x42.set (x49).toNat x55), (w64 (x45 + 1))))
  else
    some (.ret x42)
def ssa_builder_first.nx9 (a2 : PBuilder) (x39 : List Int) : Option (List Int) :=
  (whl (fun (s : (List Int × Int)) => ssa_builder_first.bd18 a2 s.1 s.2) FUEL (x39, 0)).bind fun z =>
  ssa_builder_first.nx18 z
def ssa_builder_first.jn40 (x38 : Int) (x67 : List Int) : Option (Ex (List Int) (List Int × Int)) :=
  some (.go (x67, (w64 (x38 + 1))))
def ssa_builder_first.bd9 (a2 : PBuilder) (x31 : List Int) (x35 : List Int) (x38 : Int) : Option (Ex (List Int) (List Int × Int)) :=
  if x38 < (len x31) then
    (idx x35 x38).bind fun x70 =>
    if x38 < a2.f.params then
      (idx (x35.set (x38).toNat (-1)) x38).bind fun x76 =>
      ssa_builder_first.jn40 x38 ((x35.set (x38).toNat (-1)).set (x38).toNat x38)
    else
      ssa_builder_first.jn40 x38 (x35.set (x38).toNat (-1))
  else
    some (.ret x35)
def ssa_builder_first (a2 : PBuilder) : Option (List Int) :=
  (mkl (len a2.f.regs) (0 : Int)).bind fun x31 =>
  (whl (fun (s : (List Int × Int)) => ssa_builder_first.bd9 a2 x31 s.1 s.2) FUEL (x31, 0)).bind fun z =>
  ssa_builder_first.nx9 a2 z
set_option maxHeartbeats 4000000 in
theorem ssa_builder_first_ok {E : World} {H : FP} {w : World} {a2 : PBuilder} {b1 : Nat} {o3 : Nat} {v5 : Value} {v7 : Value} {v9 : Value} {v11 : Value} {v13 : Value} {v15 : Value} {v17 : Value} {v19 : Value} {v21 : Value} {v23 : Value} {v25 : Value} {v27 : Value} {v29 : Value} {r : List Int} (h4 : CellsIn H b1 o3 [.int .i64 a2.f.params, .int .i64 a2.f.result, v5, v7, v9, v11, v13, v15, v17, v19, v21, v23, v25, v27, v29]) (h6 : SlI (kInt .i64) H a2.f.regs v5) (h8 : SlI kBlock H a2.f.blocks v7) (h10 : SlI (kSl 4 kBool) H a2.in_ v9) (h12 : SlI (kSl 3 (kInt .i64)) H a2.front v11) (h14 : SlI (kInt .i64) H a2.nearest v13) (h16 : SlI (kSl 3 (kInt .i64)) H a2.phis v15) (h18 : SlI (kInt .i64) H a2.zeros v17) (h20 : SlI (kInt .i64) H a2.regs v19) (h22 : SlI (kSl 3 (kInt .i64)) H a2.phi v21) (h24 : SlI (kInt .i64) H a2.zero_ v23) (h26 : SlI (kSl 3 (kInt .i64)) H a2.dst v25) (h28 : SlI (kSl 3 (kInt .i64)) H a2.begin v27) (h30 : SlI (kSl 3 (kInt .i64)) H a2.end_ v29) (hp : ssa_builder_first a2 = some r) (hst : St E H [] w) :
    Fn Try.prog 81 #[.pointer (some ⟨b1, o3, none⟩)] w fun v w' => ∃ A, ssa_builder_first.R r v A ∧ St E H A w' := by
 refine fb 56 [.tmp 2] Try.func81 rfl rfl rfl rfl rfl hst <| sr <| ta rfl <| nz <| sr <| tm rfl <| tv (rv_nilCheck rfl) rfl <| tv (fa f85_0 rfl) rfl <| tv (fa f40_2 rfl) rfl <| tv (lr s25 sH h4 2 rfl rfl) rfl <| tv (ln u25 h6 rfl) rfl <| tk (k := (kInt .i64)) u25 i3 hp ⟨rfl, rfl⟩ rfl rfl rfl rfl rfl rfl fun x31 v32 F33 h34 hp => ta rfl <| nz <| TC.seq fun K2 k3 => sr <| tm rfl <| tv (ln u25 h34.ro rfl) rfl <| tm rfl <| nz <| TC.block <| bE hp fun z_5 hz6 hr7 => ?_
 have J32 {x39 F40 e10} (h41 : SlO 3 (kInt .i64) x39 v32 F40) (hq33 : x39 = z_5) : ∀ w, St E H [F40] w → K2 (ovr e10 [(0, .pointer (some ⟨b1, o3, none⟩)), (3, v32)]) w := by
  subst hq33
  replace hp : ssa_builder_first.nx9 a2 x39 = some r := hr7
  refine tg k3 <| TC.seq fun K11 k12 => sr <| tm rfl <| tv (rv_nilCheck rfl) rfl <| tv (fa f85_5 rfl) rfl <| tv (lr s25 sH h4 8 rfl rfl) rfl <| tv (ln u25 h18 rfl) rfl <| tm rfl <| nz <| TC.block <| bE hp fun z_14 hz15 hr16 => ?_
  have J20 {x46 F47 e19} (h48 : SlO 3 (kInt .i64) x46 v32 F47) (hq21 : x46 = z_14) : ∀ w, St E H [F47] w → K11 (ovr e19 [(3, v32)]) w := by
   subst hq21
   replace hp : ssa_builder_first.nx18 x46 = some r := hr16
   exact tg k12 <| sr <| tm rfl <| ta rfl <| nz <| TC.ret <| rt hp [0] ⟨v32, F47, rfl, rfl, h48⟩
  refine lp hz15 [0] rfl (fun s e L => ∃ x42 x45 F43 e13, s = (x42, x45) ∧ SlO 3 (kInt .i64) x42 v32 F43 ∧ e = ovr e13 [(0, .pointer (some ⟨b1, o3, none⟩)), (3, v32), (37, v17), (38, .int .i64 (len a2.zeros)), (39, .int .i64 x45)] ∧ L = [F43]) ⟨_, _, F40, _, rfl, h41, ovr_eq _ _ rfl, rfl⟩ ?_
  rintro _ _ _ ⟨x42, x45, F43, e13, rfl, h44, rfl, rfl⟩ X17 hp hx18
  replace hp : ssa_builder_first.bd18 a2 x42 x45 = some X17 := hp
  refine sr <| tv (blt rfl rfl) rfl <| nz <| TC.seq fun K22 k23 => cD rfl hp (fun hc24 hp => ?_) fun hc24 hp => ?_
  · refine sk k23 rfl <| TC.seq fun K25 k26 => TC.block <| sr <| tm rfl <| ti u25 i3 h18 hp rfl rfl rfl rfl ?_
    rintro x49 b50 o51 _ hp rfl h54
    refine tv (lr s3 sH h54 0 rfl rfl) rfl <| ta rfl <| ta rfl <| nz <| TC.region <| tm rfl <| tm rfl <| tm rfl <| tv (rv_nilCheck rfl) rfl <| tv (fa f85_8 rfl) rfl <| tv (lr s25 sH h4 11 rfl rfl) rfl <| tm rfl <| ti u25 i3 h24 hp rfl rfl rfl rfl ?_
    rintro x55 b56 o57 _ hp rfl h60
    exact tv (lr s3 sH h60 0 rfl rfl) rfl <| tO u25 i3 h44 hp rfl rfl rfl rfl fun x61 b62 o63 h64 hp => tE h44 h64 m3 rfl ⟨rfl, rfl⟩ w1 fun F65 h66 => nl <| tg k26 <| TC.region <| tv (bad rfl rfl) rfl <| tm rfl <| nl <| gk hp [0] ⟨_, _, F65, _, rfl, h66, ovr_eq _ _ rfl, rfl⟩
  · exact TC.exit <| jn [0] (J20 h44 (ex_ret hp hx18))
 refine lp hz6 [0] rfl (fun s e L => ∃ x35 x38 F36 e4, s = (x35, x38) ∧ SlO 3 (kInt .i64) x35 v32 F36 ∧ e = ovr e4 [(0, .pointer (some ⟨b1, o3, none⟩)), (3, v32), (15, .int .i64 (len x31)), (16, .int .i64 x38)] ∧ L = [F36]) ⟨_, _, F33, _, rfl, h34, ovr_eq _ _ rfl, rfl⟩ ?_
 rintro _ _ _ ⟨x35, x38, F36, e4, rfl, h37, rfl, rfl⟩ X8 hp hx9
 replace hp : ssa_builder_first.bd9 a2 x31 x35 x38 = some X8 := hp
 refine sr <| tv (blt rfl rfl) rfl <| nz <| TC.seq fun K34 k35 => cD rfl hp (fun hc36 hp => ?_) fun hc36 hp => ?_
 · refine sk k35 rfl <| TC.seq fun K37 k38 => ?_
   have J40 {x67 F68 e39} (h69 : SlO 3 (kInt .i64) x67 v32 F68) (hp : ssa_builder_first.jn40 x38 x67 = some X8) : ∀ w, St E H [F68] w → K37 (ovr e39 [(0, .pointer (some ⟨b1, o3, none⟩)), (3, v32), (15, .int .i64 (len x31)), (16, .int .i64 x38)]) w := by
    exact tg k38 <| TC.region <| tv (bad rfl rfl) rfl <| tm rfl <| nl <| gk hp [0] ⟨_, _, F68, _, rfl, h69, ovr_eq _ _ rfl, rfl⟩
   refine TC.block <| sr <| tm rfl <| ta rfl <| nz <| sr <| tm rfl <| tm rfl <| tO u25 i3 h37 hp rfl rfl rfl rfl fun x70 b71 o72 h73 hp => tE h37 h73 m3 rfl ⟨rfl, rfl⟩ w1 fun F74 h75 => nz <| sr <| tm rfl <| tm rfl <| tv (rv_nilCheck rfl) rfl <| tv (fa f85_0 rfl) rfl <| tv (fa f40_0 rfl) rfl <| tv (lr s3 sH h4 0 rfl rfl) rfl <| tv (blt rfl rfl) rfl <| nz <| cD rfl hp (fun hc42 hp => ?_) fun hc42 hp => ?_
   · exact TC.region <| tm rfl <| tm rfl <| tm rfl <| tO u25 i3 h75 hp rfl rfl rfl rfl fun x76 b77 o78 h79 hp => tE h75 h79 m3 rfl ⟨rfl, rfl⟩ w1 fun F80 h81 => nl <| jn [0] (J40 h81 hp)
   · exact TC.skip <| jn [0] (J40 h75 hp)
 · exact TC.exit <| jn [0] (J32 h37 (ex_ret hp hx9))
/-! ### (*fettle/ssa.builder).versions -/
abbrev ssa_builder_versions.R (b1 : Nat) (a2 : PBuilder) (v3 : Value) (v5 : Value) (v7 : Value) (v9 : Value) (v11 : Value) (v13 : Value) (v15 : Value) (v17 : Value) (v19 : Value) (v21 : Value) (v23 : Value) (r : List (List Int) × List (List Int)) (v : Value) (A : List FP) : Prop := ∃ (w1 : Value) (G1 : FP) (w2 : Value) (G2 : FP), .tuple #[] = v ∧ A = [bx b1 85 [.int .i64 a2.f.params, .int .i64 a2.f.result, v3, v5, v7, v9, v11, v13, v15, v17, v19, v21, v23, w1, w2], G1, G2] ∧ SlO 25 (kSl 3 (kInt .i64)) r.1 w1 G1 ∧ SlO 25 (kSl 3 (kInt .i64)) r.2 w2 G2
def ssa_builder_versions.nx14  (x51 : List (List Int)) (x54 : List (List Int)) : Option (List (List Int) × List (List Int)) :=
  some (x51, x54)
def ssa_builder_versions.nx55 (x44 : List (List Int)) (x47 : List (List Int)) (x50 : Int) (x57 : Int) (x2483 : List Int) (x3699 : List Int) : Option (Ex (List (List Int) × List (List Int)) (List (List Int) × List (List Int) × Int)) :=
  (idx x47 x57).bind fun x3702 =>
  some (.go ((x44.set (x57).toNat x2483), (x47.set (x57).toNat x3699), (w64 (x50 + 1))))
def ssa_builder_versions.jn66 (x3698 : Int) (x3708 : List Int) : Option (Ex (List Int) (List Int × Int)) :=
  some (.go (x3708, (w64 (x3698 + 1))))
def ssa_builder_versions.bd55 (a2 : PBuilder) (x57 : Int) (x3683 : PBlock) (x3695 : List Int) (x3698 : Int) : Option (Ex (List Int) (List Int × Int)) :=
  if x3698 < (len x3683.ins) then
    (idx x3683.ins x3698).bind fun x3711 =>
    if x3711.dst ≥ 0 then
      (idx a2.dst x57).bind fun x6921 =>
      (idx x6921 x3698).bind fun x8121 =>
      (idx x3695 x3711.dst).bind fun x8921 =>
      ssa_builder_versions.jn66 x3698 (x3695.set (x3711.dst).toNat x8121)
    else
      ssa_builder_versions.jn66 x3698 x3695
  else
    some (.ret x3695)
def ssa_builder_versions.nx36 (a2 : PBuilder) (x44 : List (List Int)) (x47 : List (List Int)) (x50 : Int) (x57 : Int) (x79 : List Int) : Option (Ex (List (List Int) × List (List Int)) (List (List Int) × List (List Int) × Int)) :=
  (slices_Clone x79).bind fun x2483 =>
  (idx x44 x57).bind fun x2883 =>
  (idx a2.f.blocks x57).bind fun x3683 =>
  (whl (fun (s : (List Int × Int)) => ssa_builder_versions.bd55 a2 x57 x3683 s.1 s.2) FUEL (x79, 0)).bind fun z =>
  ssa_builder_versions.nx55 x44 x47 x50 x57 x2483 z
def ssa_builder_versions.bd36 (a2 : PBuilder) (x57 : Int) (x67 : List Int) (x75 : List Int) (x78 : Int) : Option (Ex (List Int) (List Int × Int)) :=
  if x78 < (len x67) then
    (idx x67 x78).bind fun x9721 =>
    (idx a2.phi x57).bind fun x9727 =>
    (idx x9727 x78).bind fun x9735 =>
    (idx x75 x9721).bind fun x9741 =>
    some (.go ((x75.set (x9721).toNat x9735), (w64 (x78 + 1))))
  else
    some (.ret x75)
def ssa_builder_versions.jn27 (a2 : PBuilder) (x44 : List (List Int)) (x47 : List (List Int)) (x50 : Int) (x57 : Int) (x63 : List Int) : Option (Ex (List (List Int) × List (List Int)) (List (List Int) × List (List Int) × Int)) :=
  (idx a2.phis x57).bind fun x67 =>
  (whl (fun (s : (List Int × Int)) => ssa_builder_versions.bd36 a2 x57 x67 s.1 s.2) FUEL (x63, 0)).bind fun z =>
  ssa_builder_versions.nx36 a2 x44 x47 x50 x57 z
def ssa_builder_versions.bd14 (a2 : PBuilder) (x40 : List Int) (x44 : List (List Int)) (x47 : List (List Int)) (x50 : Int) : Option (Ex (List (List Int) × List (List Int)) (List (List Int) × List (List Int) × Int)) :=
  if x50 < (len x40) then
    (idx x40 x50).bind fun x57 =>
    if x57 = 0 then
      (ssa_builder_first (⟨(⟨a2.f.params, a2.f.result, a2.f.regs, a2.f.blocks⟩ : PFunc), a2.in_, a2.front, a2.nearest, a2.phis, a2.zeros, a2.regs, a2.phi, a2.zero_, a2.dst, x44, x47⟩ : PBuilder)).bind fun x9747 =>
      ssa_builder_versions.jn27 a2 x44 x47 x50 x57 x9747
    else
      (idx a2.nearest x57).bind fun x13352 =>
      (idx x47 x13352).bind fun x14152 =>
      (slices_Clone x14152).bind fun x14952 =>
      ssa_builder_versions.jn27 a2 x44 x47 x50 x57 x14952
  else
    some (.ret (x44, x47))
def ssa_builder_versions.jn4 (a2 : PBuilder) (x32 : List (List Int)) (x36 : List (List Int)) : Option (List (List Int) × List (List Int)) :=
  (graph_Order a2.f).bind fun x40 =>
  (whl (fun (s : (List (List Int) × List (List Int) × Int)) => ssa_builder_versions.bd14 a2 x40 s.1 s.2.1 s.2.2) FUEL (x32, x36, 0)).bind fun z =>
  ssa_builder_versions.nx14 z.1 z.2
def ssa_builder_versions (a2 : PBuilder) : Option (List (List Int) × List (List Int)) :=
  (mkl (len a2.f.blocks) ([] : List Int)).bind fun x16953 =>
  (mkl (len a2.f.blocks) ([] : List Int)).bind fun x17753 =>
  ssa_builder_versions.jn4 a2 x16953 x17753
set_option maxHeartbeats 4000000 in
theorem ssa_builder_versions_ok {E : World} {H : FP} {w : World} {a2 : PBuilder} {b1 : Nat} {v3 : Value} {v5 : Value} {v7 : Value} {v9 : Value} {v11 : Value} {v13 : Value} {v15 : Value} {v17 : Value} {v19 : Value} {v21 : Value} {v23 : Value} {v25 : Value} {F26 : FP} {v28 : Value} {F29 : FP} {r : List (List Int) × List (List Int)} (h4 : SlI (kInt .i64) H a2.f.regs v3) (h6 : SlI kBlock H a2.f.blocks v5) (h8 : SlI (kSl 4 kBool) H a2.in_ v7) (h10 : SlI (kSl 3 (kInt .i64)) H a2.front v9) (h12 : SlI (kInt .i64) H a2.nearest v11) (h14 : SlI (kSl 3 (kInt .i64)) H a2.phis v13) (h16 : SlI (kInt .i64) H a2.zeros v15) (h18 : SlI (kInt .i64) H a2.regs v17) (h20 : SlI (kSl 3 (kInt .i64)) H a2.phi v19) (h22 : SlI (kInt .i64) H a2.zero_ v21) (h24 : SlI (kSl 3 (kInt .i64)) H a2.dst v23) (h27 : SlO 25 (kSl 3 (kInt .i64)) a2.begin v25 F26) (h30 : SlO 25 (kSl 3 (kInt .i64)) a2.end_ v28 F29) (hp : ssa_builder_versions a2 = some r) (hst : St E H [bx b1 85 [.int .i64 a2.f.params, .int .i64 a2.f.result, v3, v5, v7, v9, v11, v13, v15, v17, v19, v21, v23, v25, v28], F26, F29] w) :
    Fn Try.prog 46 #[.pointer (some ⟨b1, 0, none⟩)] w fun v w' => ∃ A, ssa_builder_versions.R b1 a2 v3 v5 v7 v9 v11 v13 v15 v17 v19 v21 v23 r v A ∧ St E H A w' := by
 refine fb 130 [] Try.func46 rfl rfl rfl rfl rfl hst <| sr <| tm rfl <| tv (rv_nilCheck rfl) rfl <| tv (fa f85_0 rfl) rfl <| tv (fa f40_3 rfl) rfl <| tv (lb s38 0 rfl rfl rfl) rfl <| tv (ln u38 h6 rfl) rfl <| ta rfl <| nz <| TC.seq fun K1 k2 => ?_
 have J4 {x32 x36 v33 F34 v37 F38 e3} (h35 : SlO 25 (kSl 3 (kInt .i64)) x32 v33 F34) (h39 : SlO 25 (kSl 3 (kInt .i64)) x36 v37 F38) (hp : ssa_builder_versions.jn4 a2 x32 x36 = some r) : ∀ w, St E H [bx b1 85 [.int .i64 a2.f.params, .int .i64 a2.f.result, v3, v5, v7, v9, v11, v13, v15, v17, v19, v21, v23, v33, v37], F34, F38] w → K1 (ovr e3 [(0, .pointer (some ⟨b1, 0, none⟩))]) w := by
  refine tg k2 <| sr <| tm rfl <| tv (rv_nilCheck rfl) rfl <| tv (fa f85_0 rfl) rfl <| tv (lA (ds := [.int .i64 a2.f.params, .int .i64 a2.f.result, v3, v5]) ag_40 0 rfl rfl rfl rfl) rfl <| bE hp fun x40 hy5 hp => tc 0 [_,_,_] rfl c76 (fun _ => graph_Order_ok (a1 := a2.f) (h4.mono subH) (h6.mono subH) hy5) rfl ?_
  rintro _ _ ⟨v41, F42, rfl, rfl, h43⟩
  refine tv (ln u25 h43.ro rfl) rfl <| tm rfl <| nz <| TC.named fun K7 k8 => TC.block <| bE hp fun z_10 hz11 hr12 => ?_
  have J16 {x51 x54 F52 F55 e15} (h53 : SlO 25 (kSl 3 (kInt .i64)) x51 v33 F52) (h56 : SlO 25 (kSl 3 (kInt .i64)) x54 v37 F55) (hq17 : (x51, x54) = z_10) : ∀ w, St E H [bx b1 85 [.int .i64 a2.f.params, .int .i64 a2.f.result, v3, v5, v7, v9, v11, v13, v15, v17, v19, v21, v23, v33, v37], F52, F55] w → K7 (ovr e15 []) w := by
   subst hq17
   replace hp : ssa_builder_versions.nx14 x51 x54 = some r := hr12
   exact viaK k8 <| rt hp [0, 1, 2] ⟨v33, F52, v37, F55, rfl, rfl, h53, h56⟩
  refine lp hz11 [1, 2, 3, 0] rfl (fun s e L => ∃ x44 x47 x50 F45 F48 e9, s = (x44, x47, x50) ∧ SlO 25 (kSl 3 (kInt .i64)) x44 v33 F45 ∧ SlO 25 (kSl 3 (kInt .i64)) x47 v37 F48 ∧ e = ovr e9 [(0, .pointer (some ⟨b1, 0, none⟩)), (30, v41), (31, .int .i64 (len x40)), (32, .int .i64 x50)] ∧ L = [bx b1 85 [.int .i64 a2.f.params, .int .i64 a2.f.result, v3, v5, v7, v9, v11, v13, v15, v17, v19, v21, v23, v33, v37], F45, F48, F42]) ⟨_, _, _, F34, F38, _, rfl, h35, h39, ovr_eq _ _ rfl, rfl⟩ ?_
  rintro _ _ _ ⟨x44, x47, x50, F45, F48, e9, rfl, h46, h49, rfl, rfl⟩ X13 hp hx14
  replace hp : ssa_builder_versions.bd14 a2 x40 x44 x47 x50 = some X13 := hp
  refine sr <| tv (blt rfl rfl) rfl <| nz <| TC.seq fun K18 k19 => cD rfl hp (fun hc20 hp => ?_) fun hc20 hp => ?_
  · refine sk k19 rfl <| TC.seq fun K21 k22 => TC.block <| sr <| ti u25 i3 (h43).ro hp rfl rfl rfl rfl ?_
    rintro x57 b58 o59 _ hp rfl h62
    refine tv (lr s3 (Src.at_ 3 rfl) h62 0 rfl rfl) rfl <| ta rfl <| nz <| sr <| ta rfl <| nz <| TC.seq fun K24 k25 => ?_
    have J27 {x63 v64 F65 e26} (h66 : SlO 3 (kInt .i64) x63 v64 F65) (hp : ssa_builder_versions.jn27 a2 x44 x47 x50 x57 x63 = some X13) : ∀ w, St E H [bx b1 85 [.int .i64 a2.f.params, .int .i64 a2.f.result, v3, v5, v7, v9, v11, v13, v15, v17, v19, v21, v23, v33, v37], F45, F48, F65, F42] w → K24 (ovr e26 [(0, .pointer (some ⟨b1, 0, none⟩)), (4, .int .i64 x57), (5, v64), (30, v41), (31, .int .i64 (len x40)), (32, .int .i64 x50)]) w := by
     refine tg k25 <| TC.seq fun K28 k29 => sr <| tm rfl <| tv (rv_nilCheck rfl) rfl <| tv (fa f85_4 rfl) rfl <| tv (lb s60 0 rfl rfl rfl) rfl <| tm rfl <| ti u60 i25 h14 hp rfl rfl rfl rfl ?_
     rintro x67 b68 o69 _ hp ⟨v73, rfl, h74⟩ h72
     refine tv (lr s25 sH h72 0 rfl rfl) rfl <| tv (ln u25 h74 rfl) rfl <| tm rfl <| nz <| TC.block <| bE hp fun z_32 hz33 hr34 => ?_
     have J76 {x79 F80 e37} (h81 : SlO 3 (kInt .i64) x79 v64 F80) (hq77 : x79 = z_32) : ∀ w, St E H [bx b1 85 [.int .i64 a2.f.params, .int .i64 a2.f.result, v3, v5, v7, v9, v11, v13, v15, v17, v19, v21, v23, v33, v37], F45, F48, F80, F42] w → K28 (ovr e37 [(0, .pointer (some ⟨b1, 0, none⟩)), (4, .int .i64 x57), (5, v64), (30, v41), (31, .int .i64 (len x40)), (32, .int .i64 x50)]) w := by
      subst hq77
      replace hp : ssa_builder_versions.nx36 a2 x44 x47 x50 x57 x79 = some X13 := hr34
      refine tg k29 <| TC.seq fun K38 k39 => ch mix [bx b1 85 [.int .i64 a2.f.params, .int .i64 a2.f.result, v3, v5, v7, v9, v11, v13, v15, v17, v19, v21, v23, v33, v37], F48, F80, F42] (srcG 0 rfl (srcG 2 rfl (srcG 3 rfl (srcG 4 rfl srcG0)))) <| hv 0 rfl mv (by kernel_rfl) rfl <| hv 1 rfl (rv_nilCheck rfl) (by kernel_rfl) rfl <| hv 2 rfl (fa f85_10 rfl) (by kernel_rfl) rfl <| hv 3 rfl (lbG s60 0 rfl rfl rfl) (by kernel_rfl) rfl <| hv 4 rfl mv (by kernel_rfl) rfl <| hv 5 rfl mv (by kernel_rfl) rfl <| ho 6 rfl (by kernel_rfl) fun K40 k41 => bE hp fun x2483 hy42 hp => tc 0 [_,_,_,_,_] rfl c54 (fun _ => slices_Clone_ok (a1 := x79) (h81.ro.mono (subB 3 rfl)) hy42) rfl ?_
      rintro _ _ ⟨v2484, F2485, rfl, rfl, h2486⟩
      refine hk k41 (srcG 1 rfl (srcG 3 rfl (srcG 4 rfl (srcG 5 rfl srcG0)))) <| hO 7 rfl u60 i25 h46 hp rfl rfl rfl (by kernel_rfl) rfl fun x2883 b2884 o2885 h2886 hp => ho 8 rfl (by kernel_rfl) fun K45 k46 => tp [2, 0, 1, 3, 4, 5] [_,_,_,_,_,_] rfl rfl <| TL.stE (ds := [v2484]) (u := v2484) (a := x2483) h46 h2886 m25 rfl rfl (SlO.cells h2486) ⟨_, rfl, h2486⟩ fun F3283 h3284 => hk k46 (srcG 1 rfl (srcG 2 rfl (srcG 3 rfl (srcG 4 rfl srcG0)))) <| hz (by kernel_rfl) <| tg k39 <| TC.seq fun K47 k48 => sr <| tm rfl <| tv (rv_nilCheck rfl) rfl <| tv (fa f85_0 rfl) rfl <| tv (fa f40_3 rfl) rfl <| tv (lb s38 1 rfl rfl rfl) rfl <| tm rfl <| ti u38 i50 h6 hp rfl rfl rfl rfl ?_
      rintro x3683 b3684 o3685 _ hp ⟨v3689, v3691, v3693, rfl, h3690, h3692, h3694⟩ h3688
      refine tv (fa f50_1 rfl) rfl <| tv (lr s48 sH h3688 1 rfl rfl) rfl <| tv (ln u48 h3692 rfl) rfl <| tm rfl <| nz <| TC.block <| bE hp fun z_51 hz52 hr53 => ?_
      have J58 {x3699 F3700 e56} (h3701 : SlO 3 (kInt .i64) x3699 v64 F3700) (hq59 : x3699 = z_51) : ∀ w, St E H [bx b1 85 [.int .i64 a2.f.params, .int .i64 a2.f.result, v3, v5, v7, v9, v11, v13, v15, v17, v19, v21, v23, v33, v37], F3283, F48, F3700, F42] w → K47 (ovr e56 [(0, .pointer (some ⟨b1, 0, none⟩)), (4, .int .i64 x57), (5, v64), (30, v41), (31, .int .i64 (len x40)), (32, .int .i64 x50)]) w := by
       subst hq59
       replace hp : ssa_builder_versions.nx55 x44 x47 x50 x57 x2483 x3699 = some X13 := hr53
       exact tg k48 <| TC.region <| tm rfl <| tv (rv_nilCheck rfl) rfl <| tv (fa f85_11 rfl) rfl <| tv (lb s60 0 rfl rfl rfl) rfl <| tm rfl <| tm rfl <| tO u60 i25 h49 hp rfl rfl rfl rfl fun x3702 b3703 o3704 h3705 hp => tp [2, 3, 0, 1, 4] [_,_,_,_,_] rfl rfl <| TL.stE (ds := [v64]) (u := v64) (a := x3699) h49 h3705 m25 rfl rfl (SlO.cells h3701) ⟨_, rfl, h3701⟩ fun F3706 h3707 => nl <| tg k22 <| TC.region <| tv (bad rfl rfl) rfl <| tm rfl <| nl <| gk hp [1, 2, 0, 3] ⟨_, _, _, F3283, F3706, _, rfl, h3284, h3707, ovr_eq _ _ rfl, rfl⟩
      refine lp hz52 [1, 0, 2, 3, 4] rfl (fun s e L => ∃ x3695 x3698 F3696 e50, s = (x3695, x3698) ∧ SlO 3 (kInt .i64) x3695 v64 F3696 ∧ e = ovr e50 [(0, .pointer (some ⟨b1, 0, none⟩)), (4, .int .i64 x57), (5, v64), (30, v41), (31, .int .i64 (len x40)), (32, .int .i64 x50), (97, v3691), (98, .int .i64 (len x3683.ins)), (99, .int .i64 x3698)] ∧ L = [bx b1 85 [.int .i64 a2.f.params, .int .i64 a2.f.result, v3, v5, v7, v9, v11, v13, v15, v17, v19, v21, v23, v33, v37], F3283, F48, F3696, F42]) ⟨_, _, F80, _, rfl, h81, ovr_eq _ _ rfl, rfl⟩ ?_
      rintro _ _ _ ⟨x3695, x3698, F3696, e50, rfl, h3697, rfl, rfl⟩ X54 hp hx55
      replace hp : ssa_builder_versions.bd55 a2 x57 x3683 x3695 x3698 = some X54 := hp
      refine sr <| tv (blt rfl rfl) rfl <| nz <| TC.seq fun K60 k61 => cD rfl hp (fun hc62 hp => ?_) fun hc62 hp => ?_
      · refine sk k61 rfl <| TC.seq fun K63 k64 => ?_
        have J66 {x3708 F3709 e65} (h3710 : SlO 3 (kInt .i64) x3708 v64 F3709) (hp : ssa_builder_versions.jn66 x3698 x3708 = some X54) : ∀ w, St E H [bx b1 85 [.int .i64 a2.f.params, .int .i64 a2.f.result, v3, v5, v7, v9, v11, v13, v15, v17, v19, v21, v23, v33, v37], F3283, F48, F3709, F42] w → K63 (ovr e65 [(0, .pointer (some ⟨b1, 0, none⟩)), (4, .int .i64 x57), (5, v64), (30, v41), (31, .int .i64 (len x40)), (32, .int .i64 x50), (97, v3691), (98, .int .i64 (len x3683.ins)), (99, .int .i64 x3698)]) w := by
         exact tg k64 <| TC.region <| tv (bad rfl rfl) rfl <| tm rfl <| nl <| gk hp [0, 1, 2, 3, 4] ⟨_, _, F3709, _, rfl, h3710, ovr_eq _ _ rfl, rfl⟩
        refine TC.block <| sr <| tm rfl <| ti u48 i52 h3692 hp rfl rfl rfl rfl ?_
        rintro x3711 b3712 o3713 _ hp ⟨v3717, rfl, h3718⟩ h3716
        refine tv (lR (ds := [.int .i64 x3711.op, .int .i64 x3711.dst, v3717, .int .i64 x3711.imm, .int .i64 x3711.fn]) ag_52 sH h3716 0 rfl rfl rfl) rfl <| tl i52 rfl fun b3719 => ta rfl <| tS 0 m52 rfl rfl [.int .i64 x3711.op, .int .i64 x3711.dst, v3717, .int .i64 x3711.imm, .int .i64 x3711.fn] rfl (oc rfl (oc rfl (oc (h3718).one (oc rfl (oc rfl oc0))))) rfl rfl <| nz <| sr <| tv (fa f52_1 rfl) rfl <| tv (lb s3 0 rfl rfl rfl) rfl <| tv (bge rfl rfl) rfl <| nz <| cD rfl hp (fun hc68 hp => ?_) fun hc68 hp => ?_
        · refine ch mix [bx b3719 52 [.int .i64 x3711.op, .int .i64 x3711.dst, v3717, .int .i64 x3711.imm, .int .i64 x3711.fn], bx b1 85 [.int .i64 a2.f.params, .int .i64 a2.f.result, v3, v5, v7, v9, v11, v13, v15, v17, v19, v21, v23, v33, v37], F3283, F48, F42] (srcG 0 rfl (srcG 1 rfl (srcG 2 rfl (srcG 3 rfl (srcG 5 rfl srcG0))))) <| hv 0 rfl mv (by kernel_rfl) rfl <| hv 1 rfl (fa f52_1 rfl) (by kernel_rfl) rfl <| hv 2 rfl (lbG s3 0 rfl rfl rfl) (by kernel_rfl) rfl <| hv 3 rfl mv (by kernel_rfl) rfl <| hv 4 rfl (rv_nilCheck rfl) (by kernel_rfl) rfl <| hv 5 rfl (fa f85_9 rfl) (by kernel_rfl) rfl <| hv 6 rfl (lbG s60 1 rfl rfl rfl) (by kernel_rfl) rfl <| hv 7 rfl mv (by kernel_rfl) rfl <| hi 8 rfl u60 i25 h24 hp rfl rfl rfl (by kernel_rfl) rfl ?_
          rintro x6921 b6922 o6923 _ hp ⟨v6927, rfl, h6928⟩ h6926
          refine hv 9 rfl (lr s25 srcInH h6926 0 rfl rfl) (by kernel_rfl) rfl <| hv 10 rfl mv (by kernel_rfl) rfl <| hi 11 rfl u25 i3 h6928 hp rfl rfl rfl (by kernel_rfl) rfl ?_
          rintro x8121 b8122 o8123 _ hp rfl h8126
          exact hv 12 rfl (lr s3 srcInH h8126 0 rfl rfl) (by kernel_rfl) rfl <| hO 13 rfl u25 i3 h3697 hp rfl rfl rfl (by kernel_rfl) rfl fun x8921 b8922 o8923 h8924 hp => ho 14 rfl (by kernel_rfl) fun K72 k73 => tp [4, 0, 1, 2, 3, 5] [_,_,_,_,_,_] rfl rfl <| tE h3697 h8924 m3 rfl ⟨rfl, rfl⟩ w1 fun F9321 h9322 => hk k73 (srcG 1 rfl (srcG 2 rfl (srcG 3 rfl (srcG 4 rfl (srcG 5 rfl srcG0))))) <| hz (by kernel_rfl) <| jn [2, 3, 4, 0, 5] (J66 h9322 hp)
        · exact TC.skip <| jn [1, 2, 3, 4, 5] (J66 h3697 hp)
      · exact TC.exit <| jn [0, 1, 2, 3, 4] (J58 h3697 (ex_ret hp hx55))
     refine lp hz33 [0, 1, 2, 3, 4] rfl (fun s e L => ∃ x75 x78 F76 e31, s = (x75, x78) ∧ SlO 3 (kInt .i64) x75 v64 F76 ∧ e = ovr e31 [(0, .pointer (some ⟨b1, 0, none⟩)), (4, .int .i64 x57), (5, v64), (30, v41), (31, .int .i64 (len x40)), (32, .int .i64 x50), (60, v73), (61, .int .i64 (len x67)), (62, .int .i64 x78)] ∧ L = [bx b1 85 [.int .i64 a2.f.params, .int .i64 a2.f.result, v3, v5, v7, v9, v11, v13, v15, v17, v19, v21, v23, v33, v37], F45, F48, F76, F42]) ⟨_, _, F65, _, rfl, h66, ovr_eq _ _ rfl, rfl⟩ ?_
     rintro _ _ _ ⟨x75, x78, F76, e31, rfl, h77, rfl, rfl⟩ X35 hp hx36
     replace hp : ssa_builder_versions.bd36 a2 x57 x67 x75 x78 = some X35 := hp
     refine sr <| tv (blt rfl rfl) rfl <| nz <| TC.seq fun K78 k79 => cD rfl hp (fun hc80 hp => ?_) fun hc80 hp => ?_
     · refine sk k79 rfl <| TC.seq fun K81 k82 => TC.block <| sr <| tm rfl <| ti u25 i3 h74 hp rfl rfl rfl rfl ?_
       rintro x9721 b9722 o9723 _ hp rfl h9726
       refine tv (lr s3 sH h9726 0 rfl rfl) rfl <| ta rfl <| ta rfl <| nz <| TC.region <| tm rfl <| tm rfl <| tm rfl <| tv (rv_nilCheck rfl) rfl <| tv (fa f85_7 rfl) rfl <| tv (lb s60 0 rfl rfl rfl) rfl <| tm rfl <| ti u60 i25 h20 hp rfl rfl rfl rfl ?_
       rintro x9727 b9728 o9729 _ hp ⟨v9733, rfl, h9734⟩ h9732
       refine tv (lr s25 sH h9732 0 rfl rfl) rfl <| tm rfl <| ti u25 i3 h9734 hp rfl rfl rfl rfl ?_
       rintro x9735 b9736 o9737 _ hp rfl h9740
       exact tv (lr s3 sH h9740 0 rfl rfl) rfl <| tO u25 i3 h77 hp rfl rfl rfl rfl fun x9741 b9742 o9743 h9744 hp => tp [3, 0, 1, 2, 4] [_,_,_,_,_] rfl rfl <| tE h77 h9744 m3 rfl ⟨rfl, rfl⟩ w1 fun F9745 h9746 => nl <| tg k82 <| TC.region <| tv (bad rfl rfl) rfl <| tm rfl <| nl <| gk hp [1, 2, 3, 0, 4] ⟨_, _, F9745, _, rfl, h9746, ovr_eq _ _ rfl, rfl⟩
     · exact TC.exit <| jn [0, 1, 2, 3, 4] (J76 h77 (ex_ret hp hx36))
    refine sr <| tm rfl <| tv (beq rfl rfl) rfl <| nz <| cD rfl hp (fun hc89 hp => ?_) fun hc89 hp => ?_
    · refine TC.region <| tm rfl <| bE hp fun x9747 hy90 hp => tc 0 [_,_,_,_] rfl c81 (fun _ => ssa_builder_first_ok (a2 := (⟨(⟨a2.f.params, a2.f.result, a2.f.regs, a2.f.blocks⟩ : PFunc), a2.in_, a2.front, a2.nearest, a2.phis, a2.zeros, a2.regs, a2.phi, a2.zero_, a2.dst, x44, x47⟩ : PBuilder)) ((bx_cells b1 85 _).mono (subB 0 rfl)) (h4.mono subH) (h6.mono subH) (h8.mono subH) (h10.mono subH) (h12.mono subH) (h14.mono subH) (h16.mono subH) (h18.mono subH) (h20.mono subH) (h22.mono subH) (h24.mono subH) (h46.ro.mono (subB 1 rfl)) (h49.ro.mono (subB 2 rfl)) hy90) rfl ?_
      rintro _ _ ⟨v9748, F9749, rfl, rfl, h9750⟩
      exact ta rfl <| nl <| jn [1, 2, 3, 0, 4] (J27 h9750 hp)
    · refine ch mix [bx b1 85 [.int .i64 a2.f.params, .int .i64 a2.f.result, v3, v5, v7, v9, v11, v13, v15, v17, v19, v21, v23, v33, v37], F45, F48, F42] (srcG 0 rfl (srcG 1 rfl (srcG 2 rfl (srcG 3 rfl srcG0)))) <| hv 0 rfl mv (by kernel_rfl) rfl <| hv 1 rfl (rv_nilCheck rfl) (by kernel_rfl) rfl <| hv 2 rfl (fa f85_11 rfl) (by kernel_rfl) rfl <| hv 3 rfl (lbG s60 0 rfl rfl rfl) (by kernel_rfl) rfl <| hv 4 rfl mv (by kernel_rfl) rfl <| hv 5 rfl (rv_nilCheck rfl) (by kernel_rfl) rfl <| hv 6 rfl (fa f85_3 rfl) (by kernel_rfl) rfl <| hv 7 rfl (lbG s25 0 rfl rfl rfl) (by kernel_rfl) rfl <| hv 8 rfl mv (by kernel_rfl) rfl <| hi 9 rfl u25 i3 h12 hp rfl rfl rfl (by kernel_rfl) rfl ?_
      rintro x13352 b13353 o13354 _ hp rfl h13357
      refine hv 10 rfl (lr s3 srcInH h13357 0 rfl rfl) (by kernel_rfl) rfl <| hi 11 rfl u60 i25 (h49).ro hp rfl rfl rfl (by kernel_rfl) rfl ?_
      rintro x14152 b14153 o14154 _ hp ⟨v14158, rfl, h14159⟩ h14157
      refine hv 12 rfl (lr s25 (srcInG 2 rfl) h14157 0 rfl rfl) (by kernel_rfl) rfl <| ho 13 rfl (by kernel_rfl) fun K94 k95 => bE hp fun x14952 hy96 hp => tc 0 [_,_,_,_] rfl c54 (fun _ => slices_Clone_ok (a1 := x14152) (h14159.mono (subB 2 rfl)) hy96) rfl ?_
      rintro _ _ ⟨v14953, F14954, rfl, rfl, h14955⟩
      exact hk k95 (srcG 1 rfl (srcG 2 rfl (srcG 3 rfl (srcG 4 rfl srcG0)))) <| hv 14 rfl sg (by kernel_rfl) rfl <| hz (by kernel_rfl) <| jn [1, 2, 3, 0, 4] (J27 h14955 hp)
  · exact TC.exit <| jn [0, 1, 2] (J16 h46 h49 (ex_ret hp hx14))
 refine bE hp fun x16953 hY1_3 hp => bE hp fun x17753 hY1_5 hp => ch mix [F26, F29] (srcG 1 rfl (srcG 2 rfl srcG0)) <| hv 0 rfl mv (by kernel_rfl) rfl <| hv 1 rfl mv (by kernel_rfl) rfl <| hv 2 rfl mv (by kernel_rfl) rfl <| hv 4 rfl mv (by kernel_rfl) rfl <| HL.all [3, 5] (by kernel_rfl) (by simp) (HL.al ⟨_, rfl, fun K100 k101 => ?_⟩ (HL.al ⟨_, rfl, fun K117 k118 => ?_⟩ HL.al0))
 · refine tk0 (k := (kSl 3 (kInt .i64))) u60 i25 hY1_3 ⟨_, rfl, SlO.nil 3⟩ rfl rfl rfl rfl rfl rfl fun v16954 F16955 h16956 => hk k101 (srcG 2 rfl (srcG 3 rfl srcG0)) <| hv 6 rfl (rv_nilCheck rfl) (by kernel_rfl) rfl <| hv 7 rfl (fa f85_10 rfl) (by kernel_rfl) rfl <| HL.all [5, 8] (by kernel_rfl) (by simp) (HL.al ⟨_, rfl, fun K103 k104 => ?_⟩ (HL.al ⟨_, rfl, fun K110 k111 => ?_⟩ HL.al0))
   · exact tk0 (k := (kSl 3 (kInt .i64))) u60 i25 hY1_5 ⟨_, rfl, SlO.nil 3⟩ rfl rfl rfl rfl rfl rfl fun v17754 F17755 h17756 => hk k104 (srcG 3 rfl (srcG 4 rfl srcG0)) <| ho 8 rfl (by kernel_rfl) fun K106 k107 => ts 2 m60 rfl rfl h16956.o1 rfl <| hk k107 (srcG 3 rfl (srcG 4 rfl srcG0)) <| hv 9 rfl (rv_nilCheck rfl) (by kernel_rfl) rfl <| hv 10 rfl (fa f85_11 rfl) (by kernel_rfl) rfl <| ho 11 rfl (by kernel_rfl) fun K108 k109 => ts 2 m60 rfl rfl h17756.o1 rfl <| hk k109 (srcG 3 rfl (srcG 4 rfl srcG0)) <| hz (by kernel_rfl) <| jn [2, 1, 0] (J4 h16956 h17756 hp)
   · exact ts 1 m60 rfl rfl h16956.o1 rfl <| hk k111 (srcG 2 rfl (srcG 3 rfl srcG0)) <| ho 5 rfl (by kernel_rfl) fun K112 k113 => tk0 (k := (kSl 3 (kInt .i64))) u60 i25 hY1_5 ⟨_, rfl, SlO.nil 3⟩ rfl rfl rfl rfl rfl rfl fun v17754 F17755 h17756 => hk k113 (srcG 3 rfl (srcG 4 rfl srcG0)) <| hv 9 rfl (rv_nilCheck rfl) (by kernel_rfl) rfl <| hv 10 rfl (fa f85_11 rfl) (by kernel_rfl) rfl <| ho 11 rfl (by kernel_rfl) fun K115 k116 => ts 2 m60 rfl rfl h17756.o1 rfl <| hk k116 (srcG 3 rfl (srcG 4 rfl srcG0)) <| hz (by kernel_rfl) <| jn [2, 1, 0] (J4 h16956 h17756 hp)
 · exact tk0 (k := (kSl 3 (kInt .i64))) u60 i25 hY1_5 ⟨_, rfl, SlO.nil 3⟩ rfl rfl rfl rfl rfl rfl fun v17754 F17755 h17756 => hk k118 (srcG 2 rfl (srcG 3 rfl srcG0)) <| ho 3 rfl (by kernel_rfl) fun K120 k121 => tk0 (k := (kSl 3 (kInt .i64))) u60 i25 hY1_3 ⟨_, rfl, SlO.nil 3⟩ rfl rfl rfl rfl rfl rfl fun v16954 F16955 h16956 => hk k121 (srcG 3 rfl (srcG 4 rfl srcG0)) <| hv 6 rfl (rv_nilCheck rfl) (by kernel_rfl) rfl <| hv 7 rfl (fa f85_10 rfl) (by kernel_rfl) rfl <| ho 8 rfl (by kernel_rfl) fun K123 k124 => ts 2 m60 rfl rfl h16956.o1 rfl <| hk k124 (srcG 3 rfl (srcG 4 rfl srcG0)) <| hv 9 rfl (rv_nilCheck rfl) (by kernel_rfl) rfl <| hv 10 rfl (fa f85_11 rfl) (by kernel_rfl) rfl <| ho 11 rfl (by kernel_rfl) fun K125 k126 => ts 2 m60 rfl rfl h17756.o1 rfl <| hk k126 (srcG 3 rfl (srcG 4 rfl srcG0)) <| hz (by kernel_rfl) <| jn [2, 0, 1] (J4 h16956 h17756 hp)
end Go.Proofs.Yteaknconpkklhaa
