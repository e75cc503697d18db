/- The walk through the program's functions: each one's pure reading, and that a call does what it says. No conditions. -/
import Derived.Test.YteaknconpkklhaaW11
set_option linter.unusedVariables false
set_option linter.unusedSimpArgs false
namespace Go.Proofs.Yteaknconpkklhaa
open Go Go.Proofs
/-! ### (*fettle/ssa.builder).block -/
abbrev ssa_builder_block.R (r : PBlock) (v : Value) (A : List FP) : Prop := ∃ (w1 : Value) (G1 : FP) (w2 : Value) (G2 : FP) (w3 : Value) (G3 : FP), .agg #[w1, w2, .int .i64 r.term.kind, .int .i64 r.term.arg, w3] = v ∧ A = [G1, G2, G3] ∧ SlO 76 kPhi r.phis w1 G1 ∧ SlO 52 kInstr r.ins w2 G2 ∧ SlO 3 (kInt .i64) r.term.to w3 G3
def ssa_builder_block.jn40 (x50 : List PPhi) (x90 : List PInstr) (x97 : PBlock) (x2511 : List Int) (x4111 : Int) : Option PBlock :=
  some (⟨x50, x90, (⟨x97.term.kind, x4111, x2511⟩ : PTerm)⟩ : PBlock)
def ssa_builder_block.nx26 (a2 : PBuilder) (a31 : Int) (x50 : List PPhi) (x90 : List PInstr) (x94 : List Int) : Option PBlock :=
  (idx a2.f.blocks a31).bind fun x97 =>
  (slices_Clone x97.term.to).bind fun x2511 =>
  if x97.term.arg ≥ 0 then
    (idx x94 x97.term.arg).bind fun x4112 =>
    ssa_builder_block.jn40 x50 x90 x97 x2511 x4112
  else
    ssa_builder_block.jn40 x50 x90 x97 x2511 x97.term.arg
def ssa_builder_block.jn71 (x82 : List PInstr) (x89 : Int) (x4118 : PInstr) (x8128 : Int) (x11733 : List Int) (x11737 : List Int) : Option (Ex (List PInstr × List Int) (List PInstr × List Int × Int)) :=
  (cat x82 [(⟨x4118.op, x8128, x11733, x4118.imm, x4118.fn⟩ : PInstr)]).bind fun x11741 =>
  some (.go (x11741, x11737, (w64 (x89 + 1))))
def ssa_builder_block.nx66 (x82 : List PInstr) (x86 : List Int) (x89 : Int) (x4118 : PInstr) (x8128 : Int) (x11733 : List Int) : Option (Ex (List PInstr × List Int) (List PInstr × List Int × Int)) :=
  if x4118.dst ≥ 0 then
    (idx x86 x4118.dst).bind fun x11745 =>
    ssa_builder_block.jn71 x82 x89 x4118 x8128 x11733 (x86.set (x4118.dst).toNat x8128)
  else
    ssa_builder_block.jn71 x82 x89 x4118 x8128 x11733 x86
def ssa_builder_block.jn83 (x11732 : Int) (x11751 : List Int) : Option (Ex (List Int) (List Int × Int)) :=
  some (.go (x11751, (w64 (x11732 + 1))))
def ssa_builder_block.bd66 (x86 : List Int) (x4118 : PInstr) (x11728 : List Int) (x11732 : Int) : Option (Ex (List Int) (List Int × Int)) :=
  if x11732 < (len x4118.args) then
    (idx x4118.args x11732).bind fun x11755 =>
    (idx x86 x11755).bind fun x13362 =>
    (cat x11728 [x13362]).bind fun x14562 =>
    ssa_builder_block.jn83 x11732 x14562
  else
    some (.ret x11728)
def ssa_builder_block.bd26 (a2 : PBuilder) (a31 : Int) (x70 : PBlock) (x82 : List PInstr) (x86 : List Int) (x89 : Int) : Option (Ex (List PInstr × List Int) (List PInstr × List Int × Int)) :=
  if x89 < (len x70.ins) then
    (idx x70.ins x89).bind fun x4118 =>
    (idx a2.dst a31).bind fun x6928 =>
    (idx x6928 x89).bind fun x8128 =>
    (whl (fun (s : (List Int × Int)) => ssa_builder_block.bd66 x86 x4118 s.1 s.2) FUEL (([] : List Int), 0)).bind fun z =>
    ssa_builder_block.nx66 x82 x86 x89 x4118 x8128 z
  else
    some (.ret (x82, x86))
def ssa_builder_block.jn14 (a2 : PBuilder) (a31 : Int) (x50 : List PPhi) (x54 : List PInstr) : Option PBlock :=
  (idx a2.begin a31).bind fun x58 =>
  (slices_Clone x58).bind fun x66 =>
  (idx a2.f.blocks a31).bind fun x70 =>
  (whl (fun (s : (List PInstr × List Int × Int)) => ssa_builder_block.bd26 a2 a31 x70 s.1 s.2.1 s.2.2) FUEL (x54, x66, 0)).bind fun z =>
  ssa_builder_block.nx26 a2 a31 x50 z.1 z.2
def ssa_builder_block.nx114 (a2 : PBuilder) (a31 : Int) (x50 : List PPhi) (x15768 : List PInstr) : Option PBlock :=
  ssa_builder_block.jn14 a2 a31 x50 x15768
def ssa_builder_block.bd114 (a2 : PBuilder) (x15763 : List PInstr) (x15767 : Int) : Option (Ex (List PInstr) (List PInstr × Int)) :=
  if x15767 < (len a2.zero_) then
    (idx a2.zero_ x15767).bind fun x15772 =>
    (cat x15763 [(⟨1, x15772, ([] : List Int), 0, 0⟩ : PInstr)]).bind fun x15779 =>
    some (.go (x15779, (w64 (x15767 + 1))))
  else
    some (.ret x15763)
def ssa_builder_block.nx9 (a2 : PBuilder) (a31 : Int) (x50 : List PPhi) : Option PBlock :=
  if a31 = 0 then
    (whl (fun (s : (List PInstr × Int)) => ssa_builder_block.bd114 a2 s.1 s.2) FUEL (([] : List PInstr), 0)).bind fun z =>
    ssa_builder_block.nx114 a2 a31 x50 z
  else
    ssa_builder_block.jn14 a2 a31 x50 ([] : List PInstr)
def ssa_builder_block.nx144 (x45 : List PPhi) (x49 : Int) (x15800 : Int) (x15812 : List Int) : Option (Ex (List PPhi) (List PPhi × Int)) :=
  (cat x45 [(⟨x15800, x15812⟩ : PPhi)]).bind fun x15817 =>
  some (.go (x15817, (w64 (x49 + 1))))
def ssa_builder_block.jn155 (x15811 : Int) (x15821 : List Int) : Option (Ex (List Int) (List Int × Int)) :=
  some (.go (x15821, (w64 (x15811 + 1))))
def ssa_builder_block.bd144 (a2 : PBuilder) (a32 : List Int) (x15786 : Int) (x15807 : List Int) (x15811 : Int) : Option (Ex (List Int) (List Int × Int)) :=
  if x15811 < (len a32) then
    (idx a32 x15811).bind fun x15825 =>
    (idx a2.end_ x15825).bind fun x18632 =>
    (idx x18632 x15786).bind fun x19832 =>
    (cat x15807 [x19832]).bind fun x21032 =>
    ssa_builder_block.jn155 x15811 x21032
  else
    some (.ret x15807)
def ssa_builder_block.bd9 (a2 : PBuilder) (a31 : Int) (a32 : List Int) (x37 : List Int) (x45 : List PPhi) (x49 : Int) : Option (Ex (List PPhi) (List PPhi × Int)) :=
  if x49 < (len x37) then
    (idx x37 x49).bind fun x15786 =>
    (idx a2.phi a31).bind fun x15792 =>
    (idx x15792 x49).bind fun x15800 =>
    (whl (fun (s : (List Int × Int)) => ssa_builder_block.bd144 a2 a32 x15786 s.1 s.2) FUEL (([] : List Int), 0)).bind fun z =>
    ssa_builder_block.nx144 x45 x49 x15800 z
  else
    some (.ret x45)
def ssa_builder_block (a2 : PBuilder) (a31 : Int) (a32 : List Int) : Option PBlock :=
  (idx a2.phis a31).bind fun x37 =>
  (whl (fun (s : (List PPhi × Int)) => ssa_builder_block.bd9 a2 a31 a32 x37 s.1 s.2) FUEL (([] : List PPhi), 0)).bind fun z =>
  ssa_builder_block.nx9 a2 a31 z
set_option maxHeartbeats 4000000 in
theorem ssa_builder_block_ok {E : World} {H : FP} {w : World} {a2 : PBuilder} {a31 : Int} {a32 : List Int} {b1 : Nat} {o3 : Nat} {v5 : Value} {v7 : Value} {v9 : Value} {v11 : Value} {v13 : Value} {v15 : Value} {v17 : Value} {v19 : Value} {v21 : Value} {v23 : Value} {v25 : Value} {v27 : Value} {v29 : Value} {v33 : Value} {r : PBlock} (h4 : CellsIn H b1 o3 [.int .i64 a2.f.params, .int .i64 a2.f.result, v5, v7, v9, v11, v13, v15, v17, v19, v21, v23, v25, v27, v29]) (h6 : SlI (kInt .i64) H a2.f.regs v5) (h8 : SlI kBlock H a2.f.blocks v7) (h10 : SlI (kSl 4 kBool) H a2.in_ v9) (h12 : SlI (kSl 3 (kInt .i64)) H a2.front v11) (h14 : SlI (kInt .i64) H a2.nearest v13) (h16 : SlI (kSl 3 (kInt .i64)) H a2.phis v15) (h18 : SlI (kInt .i64) H a2.zeros v17) (h20 : SlI (kInt .i64) H a2.regs v19) (h22 : SlI (kSl 3 (kInt .i64)) H a2.phi v21) (h24 : SlI (kInt .i64) H a2.zero_ v23) (h26 : SlI (kSl 3 (kInt .i64)) H a2.dst v25) (h28 : SlI (kSl 3 (kInt .i64)) H a2.begin v27) (h30 : SlI (kSl 3 (kInt .i64)) H a2.end_ v29) (h34 : SlI (kInt .i64) H a32 v33) (hp : ssa_builder_block a2 a31 a32 = some r) (hst : St E H [] w) :
    Fn Try.prog 48 #[.pointer (some ⟨b1, o3, none⟩), .int .i64 a31, v33] w fun v w' => ∃ A, ssa_builder_block.R r v A ∧ St E H A w' := by
 refine Fn.bodyV (fn := Try.f48) (args := [.pointer (some ⟨b1, o3, none⟩), .int .i64 a31, v33]) E H [] 196 Try.func48 rfl rfl (leb rfl) hst <| sr <| tl i50 rfl fun b35 => nz <| sr <| tl i50 rfl fun b36 => nz <| TC.seq fun K1 k2 => sr <| tm rfl <| tv (rv_nilCheck rfl) rfl <| tv (fa f85_4 rfl) rfl <| tv (lr s60 sH h4 7 rfl rfl) rfl <| tm rfl <| ti u60 i25 h16 hp rfl rfl rfl rfl ?_
 rintro x37 b38 o39 _ hp ⟨v43, rfl, h44⟩ h42
 refine tv (lr s25 sH h42 0 rfl rfl) rfl <| tv (ln u25 h44 rfl) rfl <| tm rfl <| nz <| TC.block <| bE hp fun z_5 hz6 hr7 => ?_
 have J127 {x50 v51 F52 e10} (h53 : SlO 76 kPhi x50 v51 F52) (hq128 : x50 = z_5) : ∀ w, St E H [bx b35 50 [.slice none 0 0, .slice none 0 0, .int .i64 0, .int .i64 0, .slice none 0 0], bx b36 50 [v51, .slice none 0 0, .int .i64 0, .int .i64 0, .slice none 0 0], F52] w → K1 (ovr e10 [(0, .pointer (some ⟨b1, o3, none⟩)), (1, .int .i64 a31), (6, .pointer (some ⟨b35, 0, none⟩)), (7, .pointer (some ⟨b36, 0, none⟩))]) w := by
  subst hq128
  replace hp : ssa_builder_block.nx9 a2 a31 x50 = some r := hr7
  refine tg k2 <| TC.seq fun K11 k12 => ?_
  have J14 {x54 v55 F56 e13} (h57 : SlO 52 kInstr x54 v55 F56) (hp : ssa_builder_block.jn14 a2 a31 x50 x54 = some r) : ∀ w, St E H [bx b35 50 [.slice none 0 0, .slice none 0 0, .int .i64 0, .int .i64 0, .slice none 0 0], bx b36 50 [v51, v55, .int .i64 0, .int .i64 0, .slice none 0 0], F52, F56] w → K11 (ovr e13 [(0, .pointer (some ⟨b1, o3, none⟩)), (1, .int .i64 a31), (6, .pointer (some ⟨b35, 0, none⟩)), (7, .pointer (some ⟨b36, 0, none⟩))]) w := by
   refine tg k12 <| sr <| tm rfl <| tv (rv_nilCheck rfl) rfl <| tv (fa f85_10 rfl) rfl <| tv (lr s60 sH h4 13 rfl rfl) rfl <| tm rfl <| ti u60 i25 h28 hp rfl rfl rfl rfl ?_
   rintro x58 b59 o60 _ hp ⟨v64, rfl, h65⟩ h63
   refine tv (lr s25 sH h63 0 rfl rfl) rfl <| bE hp fun x66 hy16 hp => tc 0 [_,_,_,_] rfl c54 (fun _ => slices_Clone_ok (a1 := x58) (h65.mono subH) hy16) rfl ?_
   rintro _ _ ⟨v67, F68, rfl, rfl, h69⟩
   refine ta rfl <| nz <| TC.seq fun K18 k19 => sr <| tm rfl <| tv (rv_nilCheck rfl) rfl <| tv (fa f85_0 rfl) rfl <| tv (fa f40_3 rfl) rfl <| tv (lr s38 sH h4 3 rfl rfl) rfl <| tm rfl <| ti u38 i50 h8 hp rfl rfl rfl rfl ?_
   rintro x70 b71 o72 _ hp ⟨v76, v78, v80, rfl, h77, h79, h81⟩ h75
   refine tv (fa f50_1 rfl) rfl <| tv (lr s48 sH h75 1 rfl rfl) rfl <| tv (ln u48 h79 rfl) rfl <| tm rfl <| nz <| TC.block <| bE hp fun z_22 hz23 hr24 => ?_
   have J43 {x90 x94 v91 F92 F95 e27} (h93 : SlO 52 kInstr x90 v91 F92) (h96 : SlO 3 (kInt .i64) x94 v67 F95) (hq44 : (x90, x94) = z_22) : ∀ w, St E H [bx b35 50 [.slice none 0 0, .slice none 0 0, .int .i64 0, .int .i64 0, .slice none 0 0], bx b36 50 [v51, v91, .int .i64 0, .int .i64 0, .slice none 0 0], F52, F92, F95] w → K18 (ovr e27 [(0, .pointer (some ⟨b1, o3, none⟩)), (1, .int .i64 a31), (6, .pointer (some ⟨b35, 0, none⟩)), (7, .pointer (some ⟨b36, 0, none⟩)), (15, v67)]) w := by
    subst hq44
    replace hp : ssa_builder_block.nx26 a2 a31 x50 x90 x94 = some r := hr24
    refine tg k19 <| sr <| tm rfl <| tv (rv_nilCheck rfl) rfl <| tv (fa f85_0 rfl) rfl <| tv (fa f40_3 rfl) rfl <| tv (lr s38 sH h4 3 rfl rfl) rfl <| tm rfl <| ti u38 i50 h8 hp rfl rfl rfl rfl ?_
    rintro x97 b98 o99 _ hp ⟨v103, v105, v107, rfl, h104, h106, h108⟩ h102
    refine tv (fa f50_2 rfl) rfl <| tv (lR (ds := [.int .i64 x97.term.kind, .int .i64 x97.term.arg, v107]) ag_46 sH h102 2 rfl rfl rfl) rfl <| tl i46 rfl fun b109 => tS 0 m46 rfl rfl [.int .i64 x97.term.kind, .int .i64 x97.term.arg, v107] rfl (oc rfl (oc rfl (oc (h108).one oc0))) rfl rfl <| nz <| TC.seq fun K29 k30 => ch mix [bx b109 46 [.int .i64 x97.term.kind, .int .i64 x97.term.arg, v107], bx b35 50 [.slice none 0 0, .slice none 0 0, .int .i64 0, .int .i64 0, .slice none 0 0], F52, F92, F95] (srcG 0 rfl (srcG 1 rfl (srcG 3 rfl (srcG 4 rfl (srcG 5 rfl srcG0))))) <| hv 0 rfl (fa f46_0 rfl) (by kernel_rfl) rfl <| hv 1 rfl (lbG s3 0 rfl rfl rfl) (by kernel_rfl) rfl <| hv 2 rfl (fa f46_1 rfl) (by kernel_rfl) rfl <| hv 3 rfl (lbG s3 0 rfl rfl rfl) (by kernel_rfl) rfl <| hv 4 rfl (fa f46_2 rfl) (by kernel_rfl) rfl <| hv 5 rfl (lbG s25 0 rfl rfl rfl) (by kernel_rfl) rfl <| ho 6 rfl (by kernel_rfl) fun K31 k32 => bE hp fun x2511 hy33 hp => tc 0 [_,_,_,_,_,_] rfl c54 (fun _ => slices_Clone_ok (a1 := x97.term.to) (h108.mono subH) hy33) rfl ?_
    rintro _ _ ⟨v2512, F2513, rfl, rfl, h2514⟩
    refine hk k32 (srcG 1 rfl (srcG 2 rfl (srcG 4 rfl (srcG 5 rfl (srcG 6 rfl srcG0))))) <| hv 7 rfl (rv_bv (vs := [(0, .int .i64 x97.term.kind), (1, .int .i64 x97.term.arg), (2, v2512)]) (ds := [.int .i64 x97.term.kind, .int .i64 x97.term.arg, v2512]) rfl (fun w => by obtain ⟨_, _, rfl⟩ := (h2514).len; kernel_rfl)) (by kernel_rfl) rfl <| hv 8 rfl (fa f50_2 rfl) (by kernel_rfl) rfl <| ho 9 rfl (by kernel_rfl) fun K35 k36 => tS 3 m46 rfl rfl [.int .i64 x97.term.kind, .int .i64 x97.term.arg, v2512] rfl (oc rfl (oc rfl (oc (h2514).one oc0))) rfl rfl <| hk k36 (srcG 1 rfl (srcG 2 rfl (srcG 4 rfl (srcG 5 rfl (srcG 6 rfl srcG0))))) <| hz (by kernel_rfl) <| tg k30 <| TC.seq fun K37 k38 => ?_
    have J40 {x4111 e39} (hp : ssa_builder_block.jn40 x50 x90 x97 x2511 x4111 = some r) : ∀ w, St E H [bx b35 50 [.slice none 0 0, .slice none 0 0, .int .i64 0, .int .i64 0, .slice none 0 0], bx b36 50 [v51, v91, .int .i64 x97.term.kind, .int .i64 x4111, v2512], F52, F92, F2513] w → K37 (ovr e39 [(6, .pointer (some ⟨b35, 0, none⟩)), (7, .pointer (some ⟨b36, 0, none⟩))]) w := by
     refine tg k38 <| sr <| tv (lA (ds := [v51, v91, .int .i64 x97.term.kind, .int .i64 x4111, v2512]) ag_50 1 rfl rfl rfl rfl) rfl <| tS 0 m50 rfl rfl [v51, v91, .int .i64 x97.term.kind, .int .i64 x4111, v2512] rfl (oc (h53).one (oc (h93).one (oc rfl (oc rfl (oc (h2514).one oc0))))) rfl rfl <| nz <| TC.ret ?_
     obtain rfl := Option.some.inj hp
     exact fun w hw => retC1 hw rfl rfl ag_50 0 rfl rfl ⟨v51, F52, v91, F92, v2512, F2513, rfl, rfl, h53, h93, h2514⟩ (hw.pickA [2, 3, 4] rfl)
    refine sr <| tv (fa f46_1 rfl) rfl <| tv (lb s3 1 rfl rfl rfl) rfl <| tv (bge rfl rfl) rfl <| nz <| cD rfl hp (fun hc41 hp => ?_) fun hc41 hp => ?_
    · refine TC.region <| tm rfl <| tv (fa f46_1 rfl) rfl <| tv (lb s3 1 rfl rfl rfl) rfl <| ti u25 i3 (h96).ro hp rfl rfl rfl rfl ?_
      rintro x4112 b4113 o4114 _ hp rfl h4117
      exact tv (lr s3 (Src.at_ 6 rfl) h4117 0 rfl rfl) rfl <| tv (fa f50_2 rfl) rfl <| tv (fa f46_1 rfl) rfl <| ts 3 m3 rfl rfl w1 rfl <| nl <| jn [2, 3, 4, 5, 0] (J40 hp)
    · exact TC.skip <| jn [2, 3, 4, 5, 0] (J40 hp)
   refine lp hz23 [1, 2, 3, 4, 0] rfl (fun s e L => ∃ x82 x86 x89 v83 F84 F87 e21, s = (x82, x86, x89) ∧ SlO 52 kInstr x82 v83 F84 ∧ SlO 3 (kInt .i64) x86 v67 F87 ∧ e = ovr e21 [(0, .pointer (some ⟨b1, o3, none⟩)), (1, .int .i64 a31), (6, .pointer (some ⟨b35, 0, none⟩)), (7, .pointer (some ⟨b36, 0, none⟩)), (15, v67), (110, v78), (111, .int .i64 (len x70.ins)), (112, .int .i64 x89)] ∧ L = [bx b35 50 [.slice none 0 0, .slice none 0 0, .int .i64 0, .int .i64 0, .slice none 0 0], bx b36 50 [v51, v83, .int .i64 0, .int .i64 0, .slice none 0 0], F52, F84, F87]) ⟨_, _, _, v55, F56, F68, _, rfl, h57, h69, ovr_eq _ _ rfl, rfl⟩ ?_
   rintro _ _ _ ⟨x82, x86, x89, v83, F84, F87, e21, rfl, h85, h88, rfl, rfl⟩ X25 hp hx26
   replace hp : ssa_builder_block.bd26 a2 a31 x70 x82 x86 x89 = some X25 := hp
   refine sr <| tv (blt rfl rfl) rfl <| nz <| TC.seq fun K45 k46 => cD rfl hp (fun hc47 hp => ?_) fun hc47 hp => ?_
   · refine sk k46 rfl <| TC.seq fun K48 k49 => TC.block <| sr <| tm rfl <| ti u48 i52 h79 hp rfl rfl rfl rfl ?_
     rintro x4118 b4119 o4120 _ hp ⟨v4124, rfl, h4125⟩ h4123
     refine tv (lR (ds := [.int .i64 x4118.op, .int .i64 x4118.dst, v4124, .int .i64 x4118.imm, .int .i64 x4118.fn]) ag_52 sH h4123 0 rfl rfl rfl) rfl <| tl i52 rfl fun b4126 => ta rfl <| tS 0 m52 rfl rfl [.int .i64 x4118.op, .int .i64 x4118.dst, v4124, .int .i64 x4118.imm, .int .i64 x4118.fn] rfl (oc rfl (oc rfl (oc (h4125).one (oc rfl (oc rfl oc0))))) rfl rfl <| nz <| TC.seq fun K51 k52 => ch mix [bx b4126 52 [.int .i64 x4118.op, .int .i64 x4118.dst, v4124, .int .i64 x4118.imm, .int .i64 x4118.fn], bx b35 50 [.slice none 0 0, .slice none 0 0, .int .i64 0, .int .i64 0, .slice none 0 0], bx b36 50 [v51, v83, .int .i64 0, .int .i64 0, .slice none 0 0], F52, F84, F87] (srcG 0 rfl (srcG 1 rfl (srcG 2 rfl (srcG 3 rfl (srcG 4 rfl (srcG 5 rfl srcG0)))))) <| hv 0 rfl (fa f52_0 rfl) (by kernel_rfl) rfl <| hv 1 rfl (lbG s3 0 rfl rfl rfl) (by kernel_rfl) rfl <| hv 2 rfl mv (by kernel_rfl) rfl <| hv 3 rfl (rv_nilCheck rfl) (by kernel_rfl) rfl <| hv 4 rfl (fa f85_9 rfl) (by kernel_rfl) rfl <| hv 5 rfl (lr s60 srcInH h4 12 rfl rfl) (by kernel_rfl) rfl <| hv 6 rfl mv (by kernel_rfl) rfl <| hi 7 rfl u60 i25 h26 hp rfl rfl rfl (by kernel_rfl) rfl ?_
     rintro x6928 b6929 o6930 _ hp ⟨v6934, rfl, h6935⟩ h6933
     refine hv 8 rfl (lr s25 srcInH h6933 0 rfl rfl) (by kernel_rfl) rfl <| hv 9 rfl mv (by kernel_rfl) rfl <| hi 10 rfl u25 i3 h6935 hp rfl rfl rfl (by kernel_rfl) rfl ?_
     rintro x8128 b8129 o8130 _ hp rfl h8133
     refine hv 11 rfl (lr s3 srcInH h8133 0 rfl rfl) (by kernel_rfl) rfl <| hv 12 rfl (fa f52_3 rfl) (by kernel_rfl) rfl <| hv 13 rfl (lbG s2 0 rfl rfl rfl) (by kernel_rfl) rfl <| hv 14 rfl (fa f52_4 rfl) (by kernel_rfl) rfl <| hv 15 rfl (lbG s3 0 rfl rfl rfl) (by kernel_rfl) rfl <| hv 16 rfl (rv_bv (vs := [(0, .int .i64 x4118.op), (1, .int .i64 x8128), (3, .int .i64 x4118.imm), (4, .int .i64 x4118.fn)]) (ds := [.int .i64 x4118.op, .int .i64 x8128, .slice none 0 0, .int .i64 x4118.imm, .int .i64 x4118.fn]) rfl (fun w => by kernel_rfl)) (by kernel_rfl) rfl <| ho 17 rfl (by kernel_rfl) fun K55 k56 => tl i52 rfl fun b10928 => hk k56 (srcG 1 rfl (srcG 2 rfl (srcG 3 rfl (srcG 4 rfl (srcG 5 rfl (srcG 6 rfl srcG0)))))) <| ho 18 rfl (by kernel_rfl) fun K57 k58 => tS 0 m52 rfl rfl [.int .i64 x4118.op, .int .i64 x8128, .slice none 0 0, .int .i64 x4118.imm, .int .i64 x4118.fn] rfl (oc rfl (oc rfl (oc rfl (oc rfl (oc rfl oc0))))) rfl rfl <| hk k58 (srcG 1 rfl (srcG 2 rfl (srcG 3 rfl (srcG 4 rfl (srcG 5 rfl (srcG 6 rfl srcG0)))))) <| hz (by kernel_rfl) <| tg k52 <| TC.seq fun K59 k60 => sr <| tv (fa f52_2 rfl) rfl <| tv (lb s25 1 rfl rfl rfl) rfl <| tv (ln u25 h4125 rfl) rfl <| tm rfl <| nz <| TC.block <| bE hp fun z_62 hz63 hr64 => ?_
     have J75 {x11733 v11734 F11735 e67} (h11736 : SlO 3 (kInt .i64) x11733 v11734 F11735) (hq76 : x11733 = z_62) : ∀ w, St E H [bx b35 50 [.slice none 0 0, .slice none 0 0, .int .i64 0, .int .i64 0, .slice none 0 0], bx b36 50 [v51, v83, .int .i64 0, .int .i64 0, .slice none 0 0], F52, F84, F87, bx b4126 52 [.int .i64 x4118.op, .int .i64 x4118.dst, v4124, .int .i64 x4118.imm, .int .i64 x4118.fn], bx b10928 52 [.int .i64 x4118.op, .int .i64 x8128, v11734, .int .i64 x4118.imm, .int .i64 x4118.fn], F11735] w → K59 (ovr e67 [(0, .pointer (some ⟨b1, o3, none⟩)), (1, .int .i64 a31), (6, .pointer (some ⟨b35, 0, none⟩)), (7, .pointer (some ⟨b36, 0, none⟩)), (15, v67), (17, .pointer (some ⟨b4126, 0, none⟩)), (18, .pointer (some ⟨b10928, 0, none⟩)), (110, v78), (111, .int .i64 (len x70.ins)), (112, .int .i64 x89)]) w := by
      subst hq76
      replace hp : ssa_builder_block.nx66 x82 x86 x89 x4118 x8128 x11733 = some X25 := hr64
      refine tg k60 <| TC.seq fun K68 k69 => ?_
      have J71 {x11737 F11738 e70} (h11739 : SlO 3 (kInt .i64) x11737 v67 F11738) (hp : ssa_builder_block.jn71 x82 x89 x4118 x8128 x11733 x11737 = some X25) : ∀ w, St E H [bx b35 50 [.slice none 0 0, .slice none 0 0, .int .i64 0, .int .i64 0, .slice none 0 0], bx b36 50 [v51, v83, .int .i64 0, .int .i64 0, .slice none 0 0], F52, F84, F11738, bx b10928 52 [.int .i64 x4118.op, .int .i64 x8128, v11734, .int .i64 x4118.imm, .int .i64 x4118.fn], F11735] w → K68 (ovr e70 [(0, .pointer (some ⟨b1, o3, none⟩)), (1, .int .i64 a31), (6, .pointer (some ⟨b35, 0, none⟩)), (7, .pointer (some ⟨b36, 0, none⟩)), (15, v67), (18, .pointer (some ⟨b10928, 0, none⟩)), (110, v78), (111, .int .i64 (len x70.ins)), (112, .int .i64 x89)]) w := by
       exact tg k69 <| TC.region <| tv (fa f50_1 rfl) rfl <| tv (lb s48 1 rfl rfl rfl) rfl <| tv (lA (ds := [.int .i64 x4118.op, .int .i64 x8128, v11734, .int .i64 x4118.imm, .int .i64 x4118.fn]) ag_52 5 rfl rfl rfl rfl) rfl <| tbs [(0, .agg #[.int .i64 x4118.op, .int .i64 x8128, v11734, .int .i64 x4118.imm, .int .i64 x4118.fn])] [.int .i64 x4118.op, .int .i64 x8128, v11734, .int .i64 x4118.imm, .int .i64 x4118.fn] u48 i52 (by kernel_rfl) rfl rfl rfl rfl fun b11740 => tp [4, 0, 7, 1, 2, 3, 5, 6] [_,_,_,_,_,_,_,_] rfl rfl <| tp2 u48 i52 h85 hp (RepL.to (G' := F11735) (RepL.cons (k := kInstr) (x := (⟨x4118.op, x8128, x11733, x4118.imm, x4118.fn⟩ : PInstr)) ⟨_, _, rfl, rfl, h11736⟩ RepL.nil) (by simp)) rfl rfl rfl rfl rfl rfl rfl rfl rfl fun x11741 v11742 F11743 h11744 hp => tv (fa f50_1 rfl) rfl <| ts 2 m48 rfl rfl h11744.o1 rfl <| nl <| tg k49 <| TC.region <| tv (bad rfl rfl) rfl <| tm rfl <| nl <| gk hp [1, 2, 3, 0, 4] ⟨_, _, _, v11742, F11743, F11738, _, rfl, h11744, h11739, ovr_eq _ _ rfl, rfl⟩
      refine sr <| tv (fa f52_1 rfl) rfl <| tv (lb s3 5 rfl rfl rfl) rfl <| tv (bge rfl rfl) rfl <| nz <| cD rfl hp (fun hc73 hp => ?_) fun hc73 hp => ?_
      · exact TC.region <| tm rfl <| tv (fa f52_1 rfl) rfl <| tv (lb s3 5 rfl rfl rfl) rfl <| tv (fa f52_1 rfl) rfl <| tv (lb s3 6 rfl rfl rfl) rfl <| tO u25 i3 h88 hp rfl rfl rfl rfl fun x11745 b11746 o11747 h11748 hp => tp [4, 0, 1, 2, 3, 5, 6, 7] [_,_,_,_,_,_,_,_] rfl rfl <| tE h88 h11748 m3 rfl ⟨rfl, rfl⟩ w1 fun F11749 h11750 => nl <| jn [1, 2, 3, 4, 0, 6, 7] (J71 h11750 hp)
      · exact TC.skip <| jn [0, 1, 2, 3, 4, 6, 7] (J71 h88 hp)
     refine W.new0 <| lp hz63 [3, 4, 5, 6, 7, 2, 1, 0] rfl (fun s e L => ∃ x11728 x11732 v11729 F11730 e61, s = (x11728, x11732) ∧ SlO 3 (kInt .i64) x11728 v11729 F11730 ∧ e = ovr e61 [(0, .pointer (some ⟨b1, o3, none⟩)), (1, .int .i64 a31), (6, .pointer (some ⟨b35, 0, none⟩)), (7, .pointer (some ⟨b36, 0, none⟩)), (15, v67), (17, .pointer (some ⟨b4126, 0, none⟩)), (18, .pointer (some ⟨b10928, 0, none⟩)), (110, v78), (111, .int .i64 (len x70.ins)), (112, .int .i64 x89), (135, v4124), (136, .int .i64 (len x4118.args)), (137, .int .i64 x11732)] ∧ L = [bx b35 50 [.slice none 0 0, .slice none 0 0, .int .i64 0, .int .i64 0, .slice none 0 0], bx b36 50 [v51, v83, .int .i64 0, .int .i64 0, .slice none 0 0], F52, F84, F87, bx b4126 52 [.int .i64 x4118.op, .int .i64 x4118.dst, v4124, .int .i64 x4118.imm, .int .i64 x4118.fn], bx b10928 52 [.int .i64 x4118.op, .int .i64 x8128, v11729, .int .i64 x4118.imm, .int .i64 x4118.fn], F11730]) ⟨_, _, (.slice none 0 0), ([] : FP), _, rfl, (SlO.nil 3), ovr_eq _ _ rfl, rfl⟩ ?_
     rintro _ _ _ ⟨x11728, x11732, v11729, F11730, e61, rfl, h11731, rfl, rfl⟩ X65 hp hx66
     replace hp : ssa_builder_block.bd66 x86 x4118 x11728 x11732 = some X65 := hp
     refine sr <| tv (blt rfl rfl) rfl <| nz <| TC.seq fun K77 k78 => cD rfl hp (fun hc79 hp => ?_) fun hc79 hp => ?_
     · refine sk k78 rfl <| TC.seq fun K80 k81 => ?_
       have J83 {x11751 v11752 F11753 e82} (h11754 : SlO 3 (kInt .i64) x11751 v11752 F11753) (hp : ssa_builder_block.jn83 x11732 x11751 = some X65) : ∀ w, St E H [bx b35 50 [.slice none 0 0, .slice none 0 0, .int .i64 0, .int .i64 0, .slice none 0 0], bx b36 50 [v51, v83, .int .i64 0, .int .i64 0, .slice none 0 0], F52, F84, F87, bx b4126 52 [.int .i64 x4118.op, .int .i64 x4118.dst, v4124, .int .i64 x4118.imm, .int .i64 x4118.fn], bx b10928 52 [.int .i64 x4118.op, .int .i64 x8128, v11752, .int .i64 x4118.imm, .int .i64 x4118.fn], F11753] w → K80 (ovr e82 [(0, .pointer (some ⟨b1, o3, none⟩)), (1, .int .i64 a31), (6, .pointer (some ⟨b35, 0, none⟩)), (7, .pointer (some ⟨b36, 0, none⟩)), (15, v67), (17, .pointer (some ⟨b4126, 0, none⟩)), (18, .pointer (some ⟨b10928, 0, none⟩)), (110, v78), (111, .int .i64 (len x70.ins)), (112, .int .i64 x89), (135, v4124), (136, .int .i64 (len x4118.args)), (137, .int .i64 x11732)]) w := by
        exact tg k81 <| TC.region <| tv (bad rfl rfl) rfl <| tm rfl <| nl <| gk hp [0, 1, 2, 3, 4, 5, 6, 7] ⟨_, _, v11752, F11753, _, rfl, h11754, ovr_eq _ _ rfl, rfl⟩
       refine TC.block <| sr <| ti u25 i3 h4125 hp rfl rfl rfl rfl ?_
       rintro x11755 b11756 o11757 _ hp rfl h11760
       refine tv (lr s3 sH h11760 0 rfl rfl) rfl <| ta rfl <| nz <| ch mix [bx b35 50 [.slice none 0 0, .slice none 0 0, .int .i64 0, .int .i64 0, .slice none 0 0], bx b36 50 [v51, v83, .int .i64 0, .int .i64 0, .slice none 0 0], F52, F84, F87, bx b4126 52 [.int .i64 x4118.op, .int .i64 x4118.dst, v4124, .int .i64 x4118.imm, .int .i64 x4118.fn]] (srcG 0 rfl (srcG 1 rfl (srcG 2 rfl (srcG 3 rfl (srcG 4 rfl (srcG 5 rfl srcG0)))))) <| hv 0 rfl (fa f52_2 rfl) (by kernel_rfl) rfl <| hv 2 rfl mv (by kernel_rfl) rfl <| hv 3 rfl mv (by kernel_rfl) rfl <| hi 4 rfl u25 i3 (h88).ro hp rfl rfl rfl (by kernel_rfl) rfl ?_
       rintro x13362 b13363 o13364 _ hp rfl h13367
       refine hv 5 rfl (lr s3 (srcInG 4 rfl) h13367 0 rfl rfl) (by kernel_rfl) rfl <| HL.all [1, 6] (by kernel_rfl) (by simp) (HL.al ⟨_, rfl, fun K86 k87 => ?_⟩ (HL.al ⟨_, rfl, fun K95 k96 => ?_⟩ HL.al0))
       · exact tv (lb s25 6 rfl rfl rfl) rfl <| hk k87 (srcG 0 rfl (srcG 1 rfl (srcG 2 rfl (srcG 3 rfl (srcG 4 rfl (srcG 5 rfl srcG0)))))) <| ho 6 rfl (by kernel_rfl) fun K88 k89 => tbs [(0, .int .i64 x13362)] [.int .i64 x13362] u25 i3 (by kernel_rfl) rfl rfl rfl rfl fun b14162 => hk k89 (srcG 1 rfl (srcG 2 rfl (srcG 3 rfl (srcG 4 rfl (srcG 5 rfl (srcG 6 rfl srcG0)))))) <| ho 7 rfl (by kernel_rfl) fun K90 k91 => tp [8, 0, 1, 2, 3, 4, 5, 6, 7] [_,_,_,_,_,_,_,_,_] rfl rfl <| tf 2 0 [_,_,_,_,_,_,_,_,_,_] rfl <| tp2 u25 i3 h11731 hp (RepL.to (RepL.cons (k := (kInt .i64)) (x := x13362) ⟨rfl, rfl⟩ RepL.nil) rfl) rfl rfl rfl rfl rfl rfl rfl rfl rfl fun x14562 v14563 F14564 h14565 hp => hk k91 (srcG 1 rfl (srcG 2 rfl (srcG 3 rfl (srcG 4 rfl (srcG 5 rfl (srcG 6 rfl srcG0)))))) <| hv 8 rfl (fa f52_2 rfl) (by kernel_rfl) rfl <| ho 9 rfl (by kernel_rfl) fun K93 k94 => ts 7 m25 rfl rfl h14565.o1 rfl <| hk k94 (srcG 1 rfl (srcG 2 rfl (srcG 3 rfl (srcG 4 rfl (srcG 5 rfl (srcG 6 rfl srcG0)))))) <| hz (by kernel_rfl) <| jn [1, 2, 3, 4, 5, 6, 7, 0] (J83 h14565 hp)
       · exact tbs [(0, .int .i64 x13362)] [.int .i64 x13362] u25 i3 (by kernel_rfl) rfl rfl rfl rfl fun b14162 => hk k96 (srcG 1 rfl (srcG 2 rfl (srcG 3 rfl (srcG 4 rfl (srcG 5 rfl (srcG 6 rfl srcG0)))))) <| ho 1 rfl (by kernel_rfl) fun K97 k98 => tv (lb s25 7 rfl rfl rfl) rfl <| hk k98 (srcG 1 rfl (srcG 2 rfl (srcG 3 rfl (srcG 4 rfl (srcG 5 rfl (srcG 6 rfl srcG0)))))) <| ho 7 rfl (by kernel_rfl) fun K99 k100 => tp [8, 0, 1, 2, 3, 4, 5, 6, 7] [_,_,_,_,_,_,_,_,_] rfl rfl <| tf 2 0 [_,_,_,_,_,_,_,_,_,_] rfl <| tp2 u25 i3 h11731 hp (RepL.to (RepL.cons (k := (kInt .i64)) (x := x13362) ⟨rfl, rfl⟩ RepL.nil) rfl) rfl rfl rfl rfl rfl rfl rfl rfl rfl fun x14562 v14563 F14564 h14565 hp => hk k100 (srcG 1 rfl (srcG 2 rfl (srcG 3 rfl (srcG 4 rfl (srcG 5 rfl (srcG 6 rfl srcG0)))))) <| hv 8 rfl (fa f52_2 rfl) (by kernel_rfl) rfl <| ho 9 rfl (by kernel_rfl) fun K102 k103 => ts 7 m25 rfl rfl h14565.o1 rfl <| hk k103 (srcG 1 rfl (srcG 2 rfl (srcG 3 rfl (srcG 4 rfl (srcG 5 rfl (srcG 6 rfl srcG0)))))) <| hz (by kernel_rfl) <| jn [1, 2, 3, 4, 5, 6, 7, 0] (J83 h14565 hp)
     · exact TC.exit <| jn [0, 1, 2, 3, 4, 5, 6, 7] (J75 h11731 (ex_ret hp hx66))
   · exact TC.exit <| jn [0, 1, 2, 3, 4] (J43 h85 h88 (ex_ret hp hx26))
  refine sr <| tm rfl <| tv (beq rfl rfl) rfl <| nz <| cD rfl hp (fun hc108 hp => ?_) fun hc108 hp => ?_
  · refine sr <| tm rfl <| tv (rv_nilCheck rfl) rfl <| tv (fa f85_8 rfl) rfl <| tv (lr s25 sH h4 11 rfl rfl) rfl <| tv (ln u25 h24 rfl) rfl <| tm rfl <| nz <| TC.block <| bE hp fun z_110 hz111 hr112 => ?_
    have J116 {x15768 v15769 F15770 e115} (h15771 : SlO 52 kInstr x15768 v15769 F15770) (hq117 : x15768 = z_110) : ∀ w, St E H [bx b35 50 [.slice none 0 0, .slice none 0 0, .int .i64 0, .int .i64 0, .slice none 0 0], bx b36 50 [v51, v15769, .int .i64 0, .int .i64 0, .slice none 0 0], F52, F15770] w → K11 (ovr e115 [(0, .pointer (some ⟨b1, o3, none⟩)), (1, .int .i64 a31), (6, .pointer (some ⟨b35, 0, none⟩)), (7, .pointer (some ⟨b36, 0, none⟩))]) w := by
     subst hq117
     replace hp : ssa_builder_block.nx114 a2 a31 x50 x15768 = some r := hr112
     exact jn [0, 1, 2, 3] (J14 h15771 hp)
    refine W.new0 <| lp hz111 [1, 2, 3, 0] rfl (fun s e L => ∃ x15763 x15767 v15764 F15765 e109, s = (x15763, x15767) ∧ SlO 52 kInstr x15763 v15764 F15765 ∧ e = ovr e109 [(0, .pointer (some ⟨b1, o3, none⟩)), (1, .int .i64 a31), (6, .pointer (some ⟨b35, 0, none⟩)), (7, .pointer (some ⟨b36, 0, none⟩)), (80, v23), (81, .int .i64 (len a2.zero_)), (82, .int .i64 x15767)] ∧ L = [bx b35 50 [.slice none 0 0, .slice none 0 0, .int .i64 0, .int .i64 0, .slice none 0 0], bx b36 50 [v51, v15764, .int .i64 0, .int .i64 0, .slice none 0 0], F52, F15765]) ⟨_, _, (.slice none 0 0), ([] : FP), _, rfl, (SlO.nil 52), ovr_eq _ _ rfl, rfl⟩ ?_
    rintro _ _ _ ⟨x15763, x15767, v15764, F15765, e109, rfl, h15766, rfl, rfl⟩ X113 hp hx114
    replace hp : ssa_builder_block.bd114 a2 x15763 x15767 = some X113 := hp
    refine sr <| tv (blt rfl rfl) rfl <| nz <| TC.seq fun K118 k119 => cD rfl hp (fun hc120 hp => ?_) fun hc120 hp => ?_
    · refine sk k119 rfl <| TC.seq fun K121 k122 => TC.block <| sr <| ti u25 i3 h24 hp rfl rfl rfl rfl ?_
      rintro x15772 b15773 o15774 _ hp rfl h15777
      exact tv (lr s3 sH h15777 0 rfl rfl) rfl <| ta rfl <| nz <| TC.region <| tv (fa f50_1 rfl) rfl <| tv (lb s48 1 rfl rfl rfl) rfl <| tm rfl <| tv (rv_bv (vs := [(0, .int .i64 1), (1, .int .i64 x15772)]) (ds := [.int .i64 1, .int .i64 x15772, .slice none 0 0, .int .i64 0, .int .i64 0]) rfl (fun w => by kernel_rfl)) rfl <| tbs [(0, .agg #[.int .i64 1, .int .i64 x15772, .slice none 0 0, .int .i64 0, .int .i64 0])] [.int .i64 1, .int .i64 x15772, .slice none 0 0, .int .i64 0, .int .i64 0] u48 i52 (by kernel_rfl) rfl rfl rfl rfl fun b15778 => TL.new0 <| tp [5, 1, 0, 2, 3, 4] [_,_,_,_,_,_] rfl rfl <| tp2 u48 i52 h15766 hp (RepL.to (G' := ([] : FP)) (RepL.cons (k := kInstr) (x := (⟨1, x15772, ([] : List Int), 0, 0⟩ : PInstr)) ⟨_, _, rfl, rfl, (SlO.nil 3)⟩ RepL.nil) (by simp)) rfl rfl rfl rfl rfl rfl rfl rfl rfl fun x15779 v15781 F15782 h15783 hp => tv (fa f50_1 rfl) rfl <| ts 2 m48 rfl rfl h15783.o1 rfl <| nl <| tg k122 <| TC.region <| tv (bad rfl rfl) rfl <| tm rfl <| nl <| gk hp [1, 2, 3, 0] ⟨_, _, v15781, F15782, _, rfl, h15783, ovr_eq _ _ rfl, rfl⟩
    · exact TC.exit <| jn [0, 1, 2, 3] (J116 h15766 (ex_ret hp hx114))
  · exact TC.skip <| W.new0 <| jn [1, 2, 3, 0] (J14 (SlO.nil 52) hp)
 refine W.new0 <| lp hz6 [2, 1, 0] rfl (fun s e L => ∃ x45 x49 v46 F47 e4, s = (x45, x49) ∧ SlO 76 kPhi x45 v46 F47 ∧ e = ovr e4 [(0, .pointer (some ⟨b1, o3, none⟩)), (1, .int .i64 a31), (2, v33), (6, .pointer (some ⟨b35, 0, none⟩)), (7, .pointer (some ⟨b36, 0, none⟩)), (28, v43), (29, .int .i64 (len x37)), (30, .int .i64 x49)] ∧ L = [bx b35 50 [.slice none 0 0, .slice none 0 0, .int .i64 0, .int .i64 0, .slice none 0 0], bx b36 50 [v46, .slice none 0 0, .int .i64 0, .int .i64 0, .slice none 0 0], F47]) ⟨_, _, (.slice none 0 0), ([] : FP), _, rfl, (SlO.nil 76), ovr_eq _ _ rfl, rfl⟩ ?_
 rintro _ _ _ ⟨x45, x49, v46, F47, e4, rfl, h48, rfl, rfl⟩ X8 hp hx9
 replace hp : ssa_builder_block.bd9 a2 a31 a32 x37 x45 x49 = some X8 := hp
 refine sr <| tv (blt rfl rfl) rfl <| nz <| TC.seq fun K129 k130 => cD rfl hp (fun hc131 hp => ?_) fun hc131 hp => ?_
 · refine sk k130 rfl <| TC.seq fun K132 k133 => TC.block <| sr <| tm rfl <| ti u25 i3 h44 hp rfl rfl rfl rfl ?_
   rintro x15786 b15787 o15788 _ hp rfl h15791
   refine tv (lr s3 sH h15791 0 rfl rfl) rfl <| ta rfl <| ta rfl <| nz <| sr <| tm rfl <| tv (rv_nilCheck rfl) rfl <| tv (fa f85_7 rfl) rfl <| tv (lr s60 sH h4 10 rfl rfl) rfl <| tm rfl <| ti u60 i25 h22 hp rfl rfl rfl rfl ?_
   rintro x15792 b15793 o15794 _ hp ⟨v15798, rfl, h15799⟩ h15797
   refine tv (lr s25 sH h15797 0 rfl rfl) rfl <| tm rfl <| ti u25 i3 h15799 hp rfl rfl rfl rfl ?_
   rintro x15800 b15801 o15802 _ hp rfl h15805
   refine tv (lr s3 sH h15805 0 rfl rfl) rfl <| tv (rv_bv (vs := [(0, .int .i64 x15800)]) (ds := [.int .i64 x15800, .slice none 0 0]) rfl (fun w => by kernel_rfl)) rfl <| tl i76 rfl fun b15806 => tS 0 m76 rfl rfl [.int .i64 x15800, .slice none 0 0] rfl (oc rfl (oc rfl oc0)) rfl rfl <| nz <| TC.seq fun K137 k138 => sr <| tm rfl <| tv (ln u25 h34 rfl) rfl <| tm rfl <| nz <| TC.block <| bE hp fun z_140 hz141 hr142 => ?_
   have J147 {x15812 v15813 F15814 e145} (h15815 : SlO 3 (kInt .i64) x15812 v15813 F15814) (hq148 : x15812 = z_140) : ∀ w, St E H [bx b35 50 [.slice none 0 0, .slice none 0 0, .int .i64 0, .int .i64 0, .slice none 0 0], bx b36 50 [v46, .slice none 0 0, .int .i64 0, .int .i64 0, .slice none 0 0], F47, bx b15806 76 [.int .i64 x15800, v15813], F15814] w → K137 (ovr e145 [(0, .pointer (some ⟨b1, o3, none⟩)), (1, .int .i64 a31), (2, v33), (6, .pointer (some ⟨b35, 0, none⟩)), (7, .pointer (some ⟨b36, 0, none⟩)), (10, .pointer (some ⟨b15806, 0, none⟩)), (28, v43), (29, .int .i64 (len x37)), (30, .int .i64 x49)]) w := by
    subst hq148
    replace hp : ssa_builder_block.nx144 x45 x49 x15800 x15812 = some X8 := hr142
    exact tg k138 <| TC.region <| tv (fa f50_0 rfl) rfl <| tv (lb s47 1 rfl rfl rfl) rfl <| tv (lA (ds := [.int .i64 x15800, v15813]) ag_76 3 rfl rfl rfl rfl) rfl <| tbs [(0, .agg #[.int .i64 x15800, v15813])] [.int .i64 x15800, v15813] u47 i76 (by kernel_rfl) rfl rfl rfl rfl fun b15816 => tp [3, 0, 5, 1, 2, 4] [_,_,_,_,_,_] rfl rfl <| tp2 u47 i76 h48 hp (RepL.to (G' := F15814) (RepL.cons (k := kPhi) (x := (⟨x15800, x15812⟩ : PPhi)) ⟨_, _, rfl, rfl, h15815⟩ RepL.nil) (by simp)) rfl rfl rfl rfl rfl rfl rfl rfl rfl fun x15817 v15818 F15819 h15820 hp => tv (fa f50_0 rfl) rfl <| ts 2 m47 rfl rfl h15820.o1 rfl <| nl <| tg k133 <| TC.region <| tv (bad rfl rfl) rfl <| tm rfl <| nl <| gk hp [1, 2, 0] ⟨_, _, v15818, F15819, _, rfl, h15820, ovr_eq _ _ rfl, rfl⟩
   refine W.new0 <| lp hz141 [2, 3, 4, 1, 0] rfl (fun s e L => ∃ x15807 x15811 v15808 F15809 e139, s = (x15807, x15811) ∧ SlO 3 (kInt .i64) x15807 v15808 F15809 ∧ e = ovr e139 [(0, .pointer (some ⟨b1, o3, none⟩)), (1, .int .i64 a31), (2, v33), (6, .pointer (some ⟨b35, 0, none⟩)), (7, .pointer (some ⟨b36, 0, none⟩)), (9, .int .i64 x15786), (10, .pointer (some ⟨b15806, 0, none⟩)), (28, v43), (29, .int .i64 (len x37)), (30, .int .i64 x49), (46, v33), (47, .int .i64 (len a32)), (48, .int .i64 x15811)] ∧ L = [bx b35 50 [.slice none 0 0, .slice none 0 0, .int .i64 0, .int .i64 0, .slice none 0 0], bx b36 50 [v46, .slice none 0 0, .int .i64 0, .int .i64 0, .slice none 0 0], F47, bx b15806 76 [.int .i64 x15800, v15808], F15809]) ⟨_, _, (.slice none 0 0), ([] : FP), _, rfl, (SlO.nil 3), ovr_eq _ _ rfl, rfl⟩ ?_
   rintro _ _ _ ⟨x15807, x15811, v15808, F15809, e139, rfl, h15810, rfl, rfl⟩ X143 hp hx144
   replace hp : ssa_builder_block.bd144 a2 a32 x15786 x15807 x15811 = some X143 := hp
   refine sr <| tv (blt rfl rfl) rfl <| nz <| TC.seq fun K149 k150 => cD rfl hp (fun hc151 hp => ?_) fun hc151 hp => ?_
   · refine sk k150 rfl <| TC.seq fun K152 k153 => ?_
     have J155 {x15821 v15822 F15823 e154} (h15824 : SlO 3 (kInt .i64) x15821 v15822 F15823) (hp : ssa_builder_block.jn155 x15811 x15821 = some X143) : ∀ w, St E H [bx b35 50 [.slice none 0 0, .slice none 0 0, .int .i64 0, .int .i64 0, .slice none 0 0], bx b36 50 [v46, .slice none 0 0, .int .i64 0, .int .i64 0, .slice none 0 0], F47, bx b15806 76 [.int .i64 x15800, v15822], F15823] w → K152 (ovr e154 [(0, .pointer (some ⟨b1, o3, none⟩)), (1, .int .i64 a31), (2, v33), (6, .pointer (some ⟨b35, 0, none⟩)), (7, .pointer (some ⟨b36, 0, none⟩)), (9, .int .i64 x15786), (10, .pointer (some ⟨b15806, 0, none⟩)), (28, v43), (29, .int .i64 (len x37)), (30, .int .i64 x49), (46, v33), (47, .int .i64 (len a32)), (48, .int .i64 x15811)]) w := by
      exact tg k153 <| TC.region <| tv (bad rfl rfl) rfl <| tm rfl <| nl <| gk hp [0, 1, 2, 3, 4] ⟨_, _, v15822, F15823, _, rfl, h15824, ovr_eq _ _ rfl, rfl⟩
     refine TC.block <| sr <| ti u25 i3 h34 hp rfl rfl rfl rfl ?_
     rintro x15825 b15826 o15827 _ hp rfl h15830
     refine tv (lr s3 sH h15830 0 rfl rfl) rfl <| ta rfl <| nz <| ch mix [bx b35 50 [.slice none 0 0, .slice none 0 0, .int .i64 0, .int .i64 0, .slice none 0 0], bx b36 50 [v46, .slice none 0 0, .int .i64 0, .int .i64 0, .slice none 0 0], F47] (srcG 0 rfl (srcG 1 rfl (srcG 2 rfl srcG0))) <| hv 0 rfl (fa f76_1 rfl) (by kernel_rfl) rfl <| hv 2 rfl mv (by kernel_rfl) rfl <| hv 3 rfl (rv_nilCheck rfl) (by kernel_rfl) rfl <| hv 4 rfl (fa f85_11 rfl) (by kernel_rfl) rfl <| hv 5 rfl (lr s60 srcInH h4 14 rfl rfl) (by kernel_rfl) rfl <| hv 6 rfl mv (by kernel_rfl) rfl <| hi 7 rfl u60 i25 h30 hp rfl rfl rfl (by kernel_rfl) rfl ?_
     rintro x18632 b18633 o18634 _ hp ⟨v18638, rfl, h18639⟩ h18637
     refine hv 8 rfl (lr s25 srcInH h18637 0 rfl rfl) (by kernel_rfl) rfl <| hv 9 rfl mv (by kernel_rfl) rfl <| hi 10 rfl u25 i3 h18639 hp rfl rfl rfl (by kernel_rfl) rfl ?_
     rintro x19832 b19833 o19834 _ hp rfl h19837
     refine hv 11 rfl (lr s3 srcInH h19837 0 rfl rfl) (by kernel_rfl) rfl <| HL.all [1, 12] (by kernel_rfl) (by simp) (HL.al ⟨_, rfl, fun K159 k160 => ?_⟩ (HL.al ⟨_, rfl, fun K168 k169 => ?_⟩ HL.al0))
     · exact tv (lb s25 3 rfl rfl rfl) rfl <| hk k160 (srcG 0 rfl (srcG 1 rfl (srcG 2 rfl srcG0))) <| ho 12 rfl (by kernel_rfl) fun K161 k162 => tbs [(0, .int .i64 x19832)] [.int .i64 x19832] u25 i3 (by kernel_rfl) rfl rfl rfl rfl fun b20632 => hk k162 (srcG 1 rfl (srcG 2 rfl (srcG 3 rfl srcG0))) <| ho 13 rfl (by kernel_rfl) fun K163 k164 => tp [5, 0, 1, 2, 3, 4] [_,_,_,_,_,_] rfl rfl <| tf 2 0 [_,_,_,_,_,_,_] rfl <| tp2 u25 i3 h15810 hp (RepL.to (RepL.cons (k := (kInt .i64)) (x := x19832) ⟨rfl, rfl⟩ RepL.nil) rfl) rfl rfl rfl rfl rfl rfl rfl rfl rfl fun x21032 v21033 F21034 h21035 hp => hk k164 (srcG 1 rfl (srcG 2 rfl (srcG 3 rfl srcG0))) <| hv 14 rfl (fa f76_1 rfl) (by kernel_rfl) rfl <| ho 15 rfl (by kernel_rfl) fun K166 k167 => ts 4 m25 rfl rfl h21035.o1 rfl <| hk k167 (srcG 1 rfl (srcG 2 rfl (srcG 3 rfl srcG0))) <| hz (by kernel_rfl) <| jn [1, 2, 3, 4, 0] (J155 h21035 hp)
     · exact tbs [(0, .int .i64 x19832)] [.int .i64 x19832] u25 i3 (by kernel_rfl) rfl rfl rfl rfl fun b20632 => hk k169 (srcG 1 rfl (srcG 2 rfl (srcG 3 rfl srcG0))) <| ho 1 rfl (by kernel_rfl) fun K170 k171 => tv (lb s25 4 rfl rfl rfl) rfl <| hk k171 (srcG 1 rfl (srcG 2 rfl (srcG 3 rfl srcG0))) <| ho 13 rfl (by kernel_rfl) fun K172 k173 => tp [5, 0, 1, 2, 3, 4] [_,_,_,_,_,_] rfl rfl <| tf 2 0 [_,_,_,_,_,_,_] rfl <| tp2 u25 i3 h15810 hp (RepL.to (RepL.cons (k := (kInt .i64)) (x := x19832) ⟨rfl, rfl⟩ RepL.nil) rfl) rfl rfl rfl rfl rfl rfl rfl rfl rfl fun x21032 v21033 F21034 h21035 hp => hk k173 (srcG 1 rfl (srcG 2 rfl (srcG 3 rfl srcG0))) <| hv 14 rfl (fa f76_1 rfl) (by kernel_rfl) rfl <| ho 15 rfl (by kernel_rfl) fun K175 k176 => ts 4 m25 rfl rfl h21035.o1 rfl <| hk k176 (srcG 1 rfl (srcG 2 rfl (srcG 3 rfl srcG0))) <| hz (by kernel_rfl) <| jn [1, 2, 3, 4, 0] (J155 h21035 hp)
   · exact TC.exit <| jn [0, 1, 2, 3, 4] (J147 h15810 (ex_ret hp hx144))
 · exact TC.exit <| jn [0, 1, 2] (J127 h48 (ex_ret hp hx9))
end Go.Proofs.Yteaknconpkklhaa
