/- The walk through the program's functions: each one's pure reading, and that a call does what it says. No conditions. -/
import Derived.Test.YtpomfbdbkejedaaE11
set_option linter.unusedVariables false
set_option linter.unusedSimpArgs false
namespace Go.Proofs.Ytpomfbdbkejedaa
open Go Go.Proofs

/-! ### (*fettle/run.runner).to -/
abbrev run_runner_to.R (b1 : Nat) (a2 : PRunner) (v3 : Value) (v5 : Value) (v18 : Value) (r : List PFrame) (v : Value) (A : List FP) : Prop := ∃ (w1 : Value) (G1 : FP), .tuple #[] = v ∧ A = [bx b1 80 (([v3, v5, w1, .bool a2.out.done, .int .i64 a2.out.trap, .int .i64 a2.out.value, v18, .int .i64 a2.out.steps] : List Value) ++ (arrC a2.out.memory ++ ([] : List Value))), G1] ∧ SlO 102 kFrame r w1 G1
def run_runner_to.nx26 (a2 : PRunner) (a8 : PFrame) (a9 : Int) (a21 : Int) (x76 : List Int) : Option (List PFrame) :=
  some (a2.frames.set (a9).toNat (⟨a8.f, x76, a21, 0, a8.dst⟩ : PFrame))
def run_runner_to.bd26 (x49 : PBlock) (x66 : List Int) (x70 : List Int) (x75 : Int) : Option (Ex (List Int) (List Int × Int)) :=
  if x75 < (len x49.phis) then
    (idx x49.phis x75).bind fun x87 =>
    (idx x66 x75).bind fun x3297 =>
    (idx x70 x87.dst).bind fun x4097 =>
    some (.go ((x70.set (x87.dst).toNat x3297), (w64 (x75 + 1))))
  else
    some (.ret x70)
def run_runner_to.nx17 (a2 : PRunner) (a8 : PFrame) (a9 : Int) (a21 : Int) (x49 : PBlock) (x66 : List Int) : Option (List PFrame) :=
  (whl (fun (s : (List Int × Int)) => run_runner_to.bd26 x49 x66 s.1 s.2) FUEL (a8.regs, 0)).bind fun z =>
  run_runner_to.nx26 a2 a8 a9 a21 z
def run_runner_to.bd17 (a8 : PFrame) (x38 : Int) (x49 : PBlock) (x61 : List Int) (x65 : Int) : Option (Ex (List Int) (List Int × Int)) :=
  if x65 < (len x49.phis) then
    (idx x49.phis x65).bind fun x4897 =>
    (idx x4897.args x38).bind fun x8107 =>
    (idx a8.regs x8107).bind fun x8907 =>
    (cat x61 [x8907]).bind fun x10107 =>
    some (.go (x10107, (w64 (x65 + 1))))
  else
    some (.ret x61)
def run_runner_to (a2 : PRunner) (a8 : PFrame) (a9 : Int) (a21 : Int) : Option (List PFrame) :=
  (idx a2.ahead a8.f).bind fun x22 =>
  (idx x22 a21).bind fun x30 =>
  (slices_Index x30 a8.block).bind fun x38 =>
  (idx a2.m.funcs a8.f).bind fun x39 =>
  (idx x39.blocks a21).bind fun x49 =>
  (whl (fun (s : (List Int × Int)) => run_runner_to.bd17 a8 x38 x49 s.1 s.2) FUEL (([] : List Int), 0)).bind fun z =>
  run_runner_to.nx17 a2 a8 a9 a21 x49 z
set_option maxHeartbeats 4000000 in
theorem run_runner_to_ok {E : World} {H : FP} {w : World} {a2 : PRunner} {a8 : PFrame} {a9 : Int} {a21 : Int} {b1 : Nat} {v3 : Value} {v5 : Value} {v7 : Value} {b10 : Nat} {F11 : FP} {v14 : Value} {F15 : FP} {v18 : Value} {r : List PFrame} (h4 : SlI kFunc H a2.m.funcs v3) (h6 : SlI (kSl 36 (kSl 3 (kInt .i64))) H a2.ahead v5) (h12 : Hole 102 kFrame a2.frames (a9).toNat v7 b10 [.int .i64 a8.f, v14, .int .i64 a8.block, .int .i64 a8.at_, .int .i64 a8.dst] F11) (h13 : 0 ≤ a9) (h16 : SlO 2 (kInt .i64) a8.regs v14 F15) (h19 : SlI (kInt .i64) H a2.out.out v18) (hp : run_runner_to a2 a8 a9 a21 = some r) (hst : St E H [bx b1 80 (([v3, v5, v7, .bool a2.out.done, .int .i64 a2.out.trap, .int .i64 a2.out.value, v18, .int .i64 a2.out.steps] : List Value) ++ (arrC a2.out.memory ++ ([] : List Value))), F11, F15] w) :
    Fn Try.prog 64 #[.pointer (some ⟨b1, 0, none⟩), .pointer (some ⟨b10, (a9).toNat * 5, none⟩), .int .i64 a21] w fun v w' => ∃ A, run_runner_to.R b1 a2 v3 v5 v18 r v A ∧ St E H A w' := by
 refine fb 94 [] Try.func64 rfl rfl rfl rfl rfl hst <| TC.seq fun K1 k2 => cq mix (by kernel_rfl) <| qv mv rfl <| qv (rv_nilCheck rfl) rfl <| qv (fa f80_1 rfl) rfl <| qv (lb s77 0 rfl rfl rfl) rfl <| qv mv rfl <| qv (rv_nilCheck rfl) rfl <| qv (fa f102_0 rfl) rfl <| qv (lr s3 (Src.at_ 1 rfl) (Hole.cells h12) 0 rfl rfl) rfl <| qi u77 i65 h6 hp rfl rfl rfl rfl ?_
 rintro x22 b23 o24 _ hp ⟨v28, rfl, h29⟩ h27
 refine qv (lr s65 sH h27 0 rfl rfl) rfl <| qv mv rfl <| qi u65 i36 h29 hp rfl rfl rfl rfl ?_
 rintro x30 b31 o32 _ hp ⟨v36, rfl, h37⟩ h35
 refine qv (lr s36 sH h35 0 rfl rfl) rfl <| qv mv rfl <| qv (rv_nilCheck rfl) rfl <| qv (fa f102_2 rfl) rfl <| qv (lr s3 (Src.at_ 1 rfl) (Hole.cells h12) 2 rfl rfl) rfl <| bE hp fun x38 hy5 hp => qc (.int .i64 x38) c44 (fun _ => slices_Index_ok (a1 := x30) (a4 := a8.block) (h37.mono subH) hy5) (fun _ _ h => ⟨h.1.symm, h.2⟩) rfl <| qv sg rfl <| QL.nil <| tg k2 <| TC.seq fun K6 k7 => cq mix (by kernel_rfl) <| qv mv rfl <| qv (rv_nilCheck rfl) rfl <| qv (fa f80_0 rfl) rfl <| qv (fa f24_0 rfl) rfl <| qv (lb s22 0 rfl rfl rfl) rfl <| qv mv rfl <| qv (rv_nilCheck rfl) rfl <| qv (fa f102_0 rfl) rfl <| qv (lr s3 (Src.at_ 1 rfl) (Hole.cells h12) 0 rfl rfl) rfl <| qi u22 i39 h4 hp rfl rfl rfl rfl ?_
 rintro x39 b40 o41 _ hp ⟨v45, v47, rfl, h46, h48⟩ h44
 refine qv (fa f39_3 rfl) rfl <| qv (lr s37 sH h44 3 rfl rfl) rfl <| qv mv rfl <| qi u37 i45 h48 hp rfl rfl rfl rfl ?_
 rintro x49 b50 o51 _ hp ⟨v55, v57, v59, rfl, h56, h58, h60⟩ h54
 refine qv (fa f45_0 rfl) rfl <| qv (lr s40 sH h54 0 rfl rfl) rfl <| qv sg rfl <| QL.nil <| tg k7 <| sr <| ta rfl <| nz <| TC.seq fun K10 k11 => sr <| tm rfl <| tv (ln u40 h56 rfl) rfl <| tm rfl <| nz <| TC.block <| bE hp fun z_13 hz14 hr15 => ?_
 have J42 {x66 v67 F68 e18} (h69 : SlO 2 (kInt .i64) x66 v67 F68) (hq43 : x66 = z_13) : ∀ w, St E H [bx b1 80 (([v3, v5, v7, .bool a2.out.done, .int .i64 a2.out.trap, .int .i64 a2.out.value, v18, .int .i64 a2.out.steps] : List Value) ++ (arrC a2.out.memory ++ ([] : List Value))), F15, F11, F68] w → K10 (ovr e18 [(1, .pointer (some ⟨b10, (a9).toNat * 5, none⟩)), (2, .int .i64 a21), (7, v55), (8, v67)]) w := by
  subst hq43
  replace hp : run_runner_to.nx17 a2 a8 a9 a21 x49 x66 = some r := hr15
  refine tg k11 <| TC.seq fun K19 k20 => sr <| tm rfl <| tv (ln u40 h56 rfl) rfl <| tm rfl <| nz <| TC.block <| bE hp fun z_22 hz23 hr24 => ?_
  have J28 {x76 F77 F79 e27} (h78 : SlO 2 (kInt .i64) x76 v14 F77) (h80 : Hole 102 kFrame a2.frames (a9).toNat v7 b10 [.int .i64 a8.f, v14, .int .i64 a8.block, .int .i64 a8.at_, .int .i64 a8.dst] F79) (hq29 : x76 = z_22) : ∀ w, St E H [bx b1 80 (([v3, v5, v7, .bool a2.out.done, .int .i64 a2.out.trap, .int .i64 a2.out.value, v18, .int .i64 a2.out.steps] : List Value) ++ (arrC a2.out.memory ++ ([] : List Value))), F77, F79] w → K19 (ovr e27 [(1, .pointer (some ⟨b10, (a9).toNat * 5, none⟩)), (2, .int .i64 a21)]) w := by
   subst hq29
   replace hp : run_runner_to.nx26 a2 a8 a9 a21 x76 = some r := hr24
   exact tg k20 <| TC.region <| tm rfl <| tm rfl <| tm rfl <| tv (rv_nilCheck rfl) rfl <| tv (fa f102_2 rfl) rfl <| tp [2, 0, 1] [_,_,_] rfl rfl <| tsH h80 m3 2 rfl w1 rfl fun F81 h82 => tv (rv_nilCheck rfl) rfl <| tv (fa f102_3 rfl) rfl <| tsH h82 m3 3 rfl w1 rfl fun F83 h84 => nl <| wp [0, 2, 1] [_,_,_] rfl rfl <| W.shut (a := (⟨a8.f, x76, a21, 0, a8.dst⟩ : PFrame)) h84 ⟨_, _, rfl, rfl, h78⟩ fun F85 h86 => rt hp [1, 0] ⟨v7, F85, rfl, rfl, h86⟩
  refine lp hz23 [0, 1, 2, 3] rfl (fun s e L => ∃ x70 x75 F71 F73 e21, s = (x70, x75) ∧ SlO 2 (kInt .i64) x70 v14 F71 ∧ Hole 102 kFrame a2.frames (a9).toNat v7 b10 [.int .i64 a8.f, v14, .int .i64 a8.block, .int .i64 a8.at_, .int .i64 a8.dst] F73 ∧ e = ovr e21 [(1, .pointer (some ⟨b10, (a9).toNat * 5, none⟩)), (2, .int .i64 a21), (8, v67), (68, v55), (69, .int .i64 (len x49.phis)), (70, .int .i64 x75)] ∧ L = [bx b1 80 (([v3, v5, v7, .bool a2.out.done, .int .i64 a2.out.trap, .int .i64 a2.out.value, v18, .int .i64 a2.out.steps] : List Value) ++ (arrC a2.out.memory ++ ([] : List Value))), F71, F73, F68]) ⟨_, _, F15, F11, _, rfl, h16, h12, ovr_eq _ _ rfl, rfl⟩ ?_
  rintro _ _ _ ⟨x70, x75, F71, F73, e21, rfl, h72, h74, rfl, rfl⟩ X25 hp hx26
  replace hp : run_runner_to.bd26 x49 x66 x70 x75 = some X25 := hp
  refine sr <| tv (blt rfl rfl) rfl <| nz <| TC.seq fun K30 k31 => cD rfl hp (fun hc32 hp => ?_) fun hc32 hp => ?_
  · refine sk k31 rfl <| TC.seq fun K33 k34 => TC.block <| sr <| tm rfl <| ti u40 i62 h56 hp rfl rfl rfl rfl ?_
    rintro x87 b88 o89 _ hp ⟨v93, rfl, h94⟩ h92
    refine tv (lR (ds := [.int .i64 x87.dst, v93]) ag_62 sH h92 0 rfl rfl rfl) rfl <| tl i62 rfl fun b95 => ta rfl <| tS 0 m62 rfl rfl [.int .i64 x87.dst, v93] rfl (oc rfl (oc (h94).one oc0)) rfl rfl <| nz <| ch mix [bx b95 62 [.int .i64 x87.dst, v93], bx b1 80 (([v3, v5, v7, .bool a2.out.done, .int .i64 a2.out.trap, .int .i64 a2.out.value, v18, .int .i64 a2.out.steps] : List Value) ++ (arrC a2.out.memory ++ ([] : List Value))), F73, F68] (srcG 0 rfl (srcG 1 rfl (srcG 3 rfl (srcG 4 rfl srcG0)))) <| hv 0 rfl mv (by kernel_rfl) rfl <| hv 1 rfl (rv_nilCheck rfl) (by kernel_rfl) rfl <| hv 2 rfl (fa f102_1 rfl) (by kernel_rfl) rfl <| hv 3 rfl (lr s54 (srcInG 2 rfl) (Hole.cells h74) 1 rfl rfl) (by kernel_rfl) rfl <| hv 4 rfl (fa f62_0 rfl) (by kernel_rfl) rfl <| hv 5 rfl (lbG s3 0 rfl rfl rfl) (by kernel_rfl) rfl <| hv 6 rfl mv (by kernel_rfl) rfl <| hv 7 rfl mv (by kernel_rfl) rfl <| hi 8 rfl u54 i2 (h69).ro hp rfl rfl rfl (by kernel_rfl) rfl ?_
    rintro x3297 b3298 o3299 _ hp rfl h3302
    exact hv 9 rfl (lr s2 (srcInG 3 rfl) h3302 0 rfl rfl) (by kernel_rfl) rfl <| hO 10 rfl u54 i2 h72 hp rfl rfl rfl (by kernel_rfl) rfl fun x4097 b4098 o4099 h4100 hp => ho 11 rfl (by kernel_rfl) fun K38 k39 => tp [2, 0, 1, 3, 4] [_,_,_,_,_] rfl rfl <| tE h72 h4100 m2 rfl ⟨rfl, rfl⟩ w1 fun F4497 h4498 => hk k39 (srcG 1 rfl (srcG 2 rfl (srcG 3 rfl (srcG 4 rfl srcG0)))) <| hz (by kernel_rfl) <| tg k34 <| TC.region <| tv (bad rfl rfl) rfl <| tm rfl <| nl <| gk hp [2, 0, 3, 4] ⟨_, _, F4497, F73, _, rfl, h4498, h74, ovr_eq _ _ rfl, rfl⟩
  · exact TC.exit <| jn [0, 1, 2] (J28 h72 h74 (ex_ret hp hx26))
 refine W.new0 <| lp hz14 [1, 3, 2, 0] rfl (fun s e L => ∃ x61 x65 v62 F63 e12, s = (x61, x65) ∧ SlO 2 (kInt .i64) x61 v62 F63 ∧ e = ovr e12 [(1, .pointer (some ⟨b10, (a9).toNat * 5, none⟩)), (2, .int .i64 a21), (6, .int .i64 x38), (7, v55), (8, v62), (47, v55), (48, .int .i64 (len x49.phis)), (49, .int .i64 x65)] ∧ L = [bx b1 80 (([v3, v5, v7, .bool a2.out.done, .int .i64 a2.out.trap, .int .i64 a2.out.value, v18, .int .i64 a2.out.steps] : List Value) ++ (arrC a2.out.memory ++ ([] : List Value))), F15, F11, F63]) ⟨_, _, (.slice none 0 0), ([] : FP), _, rfl, (SlO.nil 2), ovr_eq _ _ rfl, rfl⟩ ?_
 rintro _ _ _ ⟨x61, x65, v62, F63, e12, rfl, h64, rfl, rfl⟩ X16 hp hx17
 replace hp : run_runner_to.bd17 a8 x38 x49 x61 x65 = some X16 := hp
 refine sr <| tv (blt rfl rfl) rfl <| nz <| TC.seq fun K44 k45 => cD rfl hp (fun hc46 hp => ?_) fun hc46 hp => ?_
 · refine sk k45 rfl <| TC.seq fun K47 k48 => TC.block <| sr <| ti u40 i62 h56 hp rfl rfl rfl rfl ?_
   rintro x4897 b4898 o4899 _ hp ⟨v4903, rfl, h4904⟩ h4902
   refine tv (lR (ds := [.int .i64 x4897.dst, v4903]) ag_62 sH h4902 0 rfl rfl rfl) rfl <| tl i62 rfl fun b4905 => tS 0 m62 rfl rfl [.int .i64 x4897.dst, v4903] rfl (oc rfl (oc (h4904).one oc0)) rfl rfl <| nz <| ch mix [bx b4905 62 [.int .i64 x4897.dst, v4903], bx b1 80 (([v3, v5, v7, .bool a2.out.done, .int .i64 a2.out.trap, .int .i64 a2.out.value, v18, .int .i64 a2.out.steps] : List Value) ++ (arrC a2.out.memory ++ ([] : List Value))), F15, F11] (srcG 0 rfl (srcG 1 rfl (srcG 2 rfl (srcG 3 rfl srcG0)))) <| hv 0 rfl mv (by kernel_rfl) rfl <| hv 1 rfl mv (by kernel_rfl) rfl <| hv 2 rfl (rv_nilCheck rfl) (by kernel_rfl) rfl <| hv 3 rfl (fa f102_1 rfl) (by kernel_rfl) rfl <| hv 4 rfl (lr s54 (srcInG 3 rfl) (Hole.cells h12) 1 rfl rfl) (by kernel_rfl) rfl <| hv 5 rfl (fa f62_1 rfl) (by kernel_rfl) rfl <| hv 6 rfl (lbG s36 0 rfl rfl rfl) (by kernel_rfl) rfl <| hv 7 rfl mv (by kernel_rfl) rfl <| hi 8 rfl u36 i3 h4904 hp rfl rfl rfl (by kernel_rfl) rfl ?_
   rintro x8107 b8108 o8109 _ hp rfl h8112
   refine hv 9 rfl (lr s3 srcInH h8112 0 rfl rfl) (by kernel_rfl) rfl <| hi 10 rfl u54 i2 (h16).ro hp rfl rfl rfl (by kernel_rfl) rfl ?_
   rintro x8907 b8908 o8909 _ hp rfl h8912
   exact hv 11 rfl (lr s2 (srcInG 2 rfl) h8912 0 rfl rfl) (by kernel_rfl) rfl <| ho 12 rfl (by kernel_rfl) fun K52 k53 => tbs [(0, .int .i64 x8907)] [.int .i64 x8907] u54 i2 (by kernel_rfl) rfl rfl rfl rfl fun b9707 => hk k53 (srcG 1 rfl (srcG 2 rfl (srcG 3 rfl (srcG 4 rfl srcG0)))) <| ho 13 rfl (by kernel_rfl) fun K54 k55 => tp [5, 0, 1, 2, 3, 4] [_,_,_,_,_,_] rfl rfl <| tf 2 0 [_,_,_,_,_,_,_] rfl <| tp2 u54 i2 h64 hp (RepL.to (RepL.cons (k := (kInt .i64)) (x := x8907) ⟨rfl, rfl⟩ RepL.nil) rfl) rfl rfl rfl rfl rfl rfl rfl rfl rfl fun x10107 v10108 F10109 h10110 hp => hk k55 (srcG 1 rfl (srcG 2 rfl (srcG 3 rfl (srcG 4 rfl srcG0)))) <| hv 14 rfl sg (by kernel_rfl) rfl <| hz (by kernel_rfl) <| tg k48 <| TC.region <| tv (bad rfl rfl) rfl <| tm rfl <| nl <| gk hp [2, 3, 4, 0] ⟨_, _, v10108, F10109, _, rfl, h10110, ovr_eq _ _ rfl, rfl⟩
 · exact TC.exit <| jn [0, 1, 2, 3] (J42 h64 (ex_ret hp hx17))

/-! ### (*fettle/run.runner).end -/
abbrev run_runner_end.R (b1 : Nat) (a2 : PRunner) (v3 : Value) (v5 : Value) (v18 : Value) (r : List PFrame × Bool × Int) (v : Value) (A : List FP) : Prop := ∃ (w1 : Value) (G1 : FP), .tuple #[] = v ∧ A = [bx b1 80 (([v3, v5, w1, .bool r.2.1, .int .i64 a2.out.trap, .int .i64 r.2.2, v18, .int .i64 a2.out.steps] : List Value) ++ (arrC a2.out.memory ++ ([] : List Value))), G1] ∧ SlO 102 kFrame r.1 w1 G1
def run_runner_end.jn11 (a2 : PRunner) (x35 : List PFrame) : Option (List PFrame × Bool × Int) :=
  some (x35, a2.out.done, a2.out.value)
def run_runner_end.jn29 (a2 : PRunner) (a8 : PFrame) (x65 : Int) (x66 : List PFrame) : Option (List PFrame × Bool × Int) :=
  if (len x66) = 0 then
    some (x66, true, x65)
  else
    if a8.dst ≥ 0 then
      (idx x66 (w64 ((len x66) - 1))).bind fun x4071 =>
      (idx x4071.regs a8.dst).bind fun x6071 =>
      some ((x66.set ((w64 ((len x66) - 1))).toNat (⟨x4071.f, (x4071.regs.set (a8.dst).toNat x65), x4071.block, x4071.at_, x4071.dst⟩ : PFrame)), a2.out.done, a2.out.value)
    else
      some (x66, a2.out.done, a2.out.value)
def run_runner_end.jn25 (a2 : PRunner) (a8 : PFrame) (a9 : Int) (x65 : Int) : Option (List PFrame × Bool × Int) :=
  (upto (a2.frames.set (a9).toNat a8) (w64 ((len (a2.frames.set (a9).toNat a8)) - 1))).bind fun x11276 =>
  run_runner_end.jn29 a2 a8 x65 x11276
def run_runner_end (a2 : PRunner) (a8 : PFrame) (a9 : Int) (a21 : PTerm) : Option (List PFrame × Bool × Int) :=
  if a21.kind = 1 then
    (idx a21.to 0).bind fun x25 =>
    (run_runner_to a2 a8 a9 x25).bind fun x31 =>
    some (x31, a2.out.done, a2.out.value)
  else
    if a21.kind = 2 then
      (idx a8.regs a21.arg).bind fun x39 =>
      if ¬ x39 = 0 then
        (idx a21.to 0).bind fun x45 =>
        (run_runner_to a2 a8 a9 x45).bind fun x51 =>
        run_runner_end.jn11 a2 x51
      else
        (idx a21.to 1).bind fun x55 =>
        (run_runner_to a2 a8 a9 x55).bind fun x61 =>
        run_runner_end.jn11 a2 x61
    else
      if a21.arg ≥ 0 then
        (idx a8.regs a21.arg).bind fun x12876 =>
        run_runner_end.jn25 a2 a8 a9 x12876
      else
        run_runner_end.jn25 a2 a8 a9 0
set_option maxHeartbeats 4000000 in
theorem run_runner_end_ok {E : World} {H : FP} {w : World} {a2 : PRunner} {a8 : PFrame} {a9 : Int} {a21 : PTerm} {b1 : Nat} {v3 : Value} {v5 : Value} {v7 : Value} {b10 : Nat} {F11 : FP} {v14 : Value} {F15 : FP} {v18 : Value} {v22 : Value} {r : List PFrame × Bool × Int} (h4 : SlI kFunc H a2.m.funcs v3) (h6 : SlI (kSl 36 (kSl 3 (kInt .i64))) H a2.ahead v5) (h12 : Hole 102 kFrame a2.frames (a9).toNat v7 b10 [.int .i64 a8.f, v14, .int .i64 a8.block, .int .i64 a8.at_, .int .i64 a8.dst] F11) (h13 : 0 ≤ a9) (h16 : SlO 2 (kInt .i64) a8.regs v14 F15) (h19 : SlI (kInt .i64) H a2.out.out v18) (h23 : SlI (kInt .i64) H a21.to v22) (hp : run_runner_end a2 a8 a9 a21 = some r) (hst : St E H [bx b1 80 (([v3, v5, v7, .bool a2.out.done, .int .i64 a2.out.trap, .int .i64 a2.out.value, v18, .int .i64 a2.out.steps] : List Value) ++ (arrC a2.out.memory ++ ([] : List Value))), F11, F15] w) :
    Fn Try.prog 49 #[.pointer (some ⟨b1, 0, none⟩), .pointer (some ⟨b10, (a9).toNat * 5, none⟩), .agg #[.int .i64 a21.kind, .int .i64 a21.arg, v22]] w fun v w' => ∃ A, run_runner_end.R b1 a2 v3 v5 v18 r v A ∧ St E H A w' := by
 refine fb 106 [] Try.func49 rfl rfl rfl rfl rfl hst <| sr <| tb [.int .i64 a21.kind, .int .i64 a21.arg, v22] rfl rfl fun b24 => nz <| TC.seq fun K1 k2 => sr <| tv (fa f43_0 rfl) rfl <| tv (lb s3 0 rfl rfl rfl) rfl <| nz <| TC.block <| sr <| tv (beq rfl rfl) rfl <| ta rfl <| nz <| cD rfl hp (fun hc3 hp => ?_) fun hc3 hp => ?_
 · refine sr <| tm rfl <| tm rfl <| tv (fa f43_2 rfl) rfl <| tv (lb s36 0 rfl rfl rfl) rfl <| ti u36 i3 h23 hp rfl rfl rfl rfl ?_
   rintro x25 b26 o27 _ hp rfl h30
   refine tv (lr s3 sH h30 0 rfl rfl) rfl <| tp [1, 2, 3, 0] [_,_,_,_] rfl rfl <| bE hp fun x31 hy5 hp => tc 3 [_] rfl c64 (fun _ => run_runner_to_ok (a2 := a2) (a8 := a8) (a9 := a9) (a21 := x25) (h4.mono subH) (h6.mono subH) h12 h13 h16 (h19.mono subH) hy5) rfl ?_
   rintro _ _ ⟨v32, F33, rfl, rfl, h34⟩
   exact nz <| TC.ret <| rt hp [0, 1] ⟨v32, F33, rfl, rfl, h34⟩
 · refine sr <| tv (beq rfl rfl) rfl <| ta rfl <| nz <| cD rfl hp (fun hc7 hp => ?_) fun hc7 hp => ?_
   · refine TC.seq fun K8 k9 => ?_
     have J11 {x35 v36 F37 e10} (h38 : SlO 102 kFrame x35 v36 F37) (hp : run_runner_end.jn11 a2 x35 = some r) : ∀ w, St E H [bx b1 80 (([v3, v5, v36, .bool a2.out.done, .int .i64 a2.out.trap, .int .i64 a2.out.value, v18, .int .i64 a2.out.steps] : List Value) ++ (arrC a2.out.memory ++ ([] : List Value))), F37] w → K8 (ovr e10 []) w := by
      exact tg k9 <| TC.ret <| rt hp [0, 1] ⟨v36, F37, rfl, rfl, h38⟩
     refine TC.seq fun K12 k13 => cq mix (by kernel_rfl) <| qv mv rfl <| qv (rv_nilCheck rfl) rfl <| qv (fa f102_1 rfl) rfl <| qv (lr s54 (Src.at_ 2 rfl) (Hole.cells h12) 1 rfl rfl) rfl <| qv (fa f43_1 rfl) rfl <| qv (lb s3 0 rfl rfl rfl) rfl <| qi u54 i2 (h16).ro hp rfl rfl rfl rfl ?_
     rintro x39 b40 o41 _ hp rfl h44
     refine qv (lr s2 (Src.at_ 3 rfl) h44 0 rfl rfl) rfl <| qv (bne rfl rfl) rfl <| QL.nil <| tg k13 <| cD rfl hp (fun hc15 hp => ?_) fun hc15 hp => ?_
     · refine TC.region <| tm rfl <| tm rfl <| tv (fa f43_2 rfl) rfl <| tv (lb s36 0 rfl rfl rfl) rfl <| ti u36 i3 h23 hp rfl rfl rfl rfl ?_
       rintro x45 b46 o47 _ hp rfl h50
       refine tv (lr s3 sH h50 0 rfl rfl) rfl <| tp [1, 2, 3, 0] [_,_,_,_] rfl rfl <| bE hp fun x51 hy17 hp => tc 3 [_] rfl c64 (fun _ => run_runner_to_ok (a2 := a2) (a8 := a8) (a9 := a9) (a21 := x45) (h4.mono subH) (h6.mono subH) h12 h13 h16 (h19.mono subH) hy17) rfl ?_
       rintro _ _ ⟨v52, F53, rfl, rfl, h54⟩
       exact nl <| jn [0, 1] (J11 h54 hp)
     · refine TC.region <| tm rfl <| tm rfl <| tv (fa f43_2 rfl) rfl <| tv (lb s36 0 rfl rfl rfl) rfl <| ti u36 i3 h23 hp rfl rfl rfl rfl ?_
       rintro x55 b56 o57 _ hp rfl h60
       refine tv (lr s3 sH h60 0 rfl rfl) rfl <| tp [1, 2, 3, 0] [_,_,_,_] rfl rfl <| bE hp fun x61 hy20 hp => tc 3 [_] rfl c64 (fun _ => run_runner_to_ok (a2 := a2) (a8 := a8) (a9 := a9) (a21 := x55) (h4.mono subH) (h6.mono subH) h12 h13 h16 (h19.mono subH) hy20) rfl ?_
       rintro _ _ ⟨v62, F63, rfl, rfl, h64⟩
       exact nl <| jn [0, 1] (J11 h64 hp)
   · refine sk k2 rfl <| sr <| ta rfl <| nz <| TC.seq fun K22 k23 => ?_
     have J25 {x65 e24} (hp : run_runner_end.jn25 a2 a8 a9 x65 = some r) : ∀ w, St E H [bx b1 80 (([v3, v5, v7, .bool a2.out.done, .int .i64 a2.out.trap, .int .i64 a2.out.value, v18, .int .i64 a2.out.steps] : List Value) ++ (arrC a2.out.memory ++ ([] : List Value))), F15, F11] w → K22 (ovr e24 [(0, .pointer (some ⟨b1, 0, none⟩)), (1, .pointer (some ⟨b10, (a9).toNat * 5, none⟩)), (6, .int .i64 x65)]) w := by
      refine tg k23 <| sr <| tm rfl <| tv (rv_nilCheck rfl) rfl <| tv (fa f102_4 rfl) rfl <| tv (lr s3 (Src.at_ 2 rfl) (Hole.cells h12) 4 rfl rfl) rfl <| ta rfl <| nz <| TC.seq fun K26 k27 => ?_
      have J29 {x66 v67 F68 e28} (h69 : SlO 102 kFrame x66 v67 F68) (hp : run_runner_end.jn29 a2 a8 x65 x66 = some r) : ∀ w, St E H [bx b1 80 (([v3, v5, v67, .bool a2.out.done, .int .i64 a2.out.trap, .int .i64 a2.out.value, v18, .int .i64 a2.out.steps] : List Value) ++ (arrC a2.out.memory ++ ([] : List Value))), F68] w → K26 (ovr e28 [(0, .pointer (some ⟨b1, 0, none⟩)), (6, .int .i64 x65), (7, .int .i64 a8.dst)]) w := by
       refine tg k27 <| TC.seq fun K30 k31 => sr <| tm rfl <| tv (rv_nilCheck rfl) rfl <| tv (fa f80_2 rfl) rfl <| tv (lb s78 0 rfl rfl rfl) rfl <| tv (ln u78 h69.ro rfl) rfl <| tv (beq rfl rfl) rfl <| nz <| cD rfl hp (fun hc32 hp => ?_) fun hc32 hp => ?_
       · exact sr <| tm rfl <| tm rfl <| tm rfl <| tv (rv_nilCheck rfl) rfl <| tv (fa f80_3 rfl) rfl <| tv (fa f57_0 rfl) rfl <| TL.stB (ds := [.bool true]) (o := 3) (cs := (([v3, v5, v67, .bool a2.out.done, .int .i64 a2.out.trap, .int .i64 a2.out.value, v18, .int .i64 a2.out.steps] : List Value) ++ (arrC a2.out.memory ++ ([] : List Value)))) (b := b1) (u := .bool true) 0 rfl m4 rfl rfl rfl (oc rfl oc0) (leb rfl) <| tv (rv_nilCheck rfl) rfl <| tv (fa f80_3 rfl) rfl <| tv (fa f57_2 rfl) rfl <| TL.stB (ds := [.int .i64 x65]) (o := 5) (cs := (([v3, v5, v67, .bool true, .int .i64 a2.out.trap, .int .i64 a2.out.value, v18, .int .i64 a2.out.steps] : List Value) ++ (arrC a2.out.memory ++ ([] : List Value)))) (b := b1) (u := .int .i64 x65) 0 rfl m2 rfl rfl rfl (oc rfl oc0) (leb rfl) <| nz <| TC.ret <| rt hp [0, 1] ⟨v67, F68, rfl, rfl, h69⟩
       · refine sk k31 rfl <| sr <| tm rfl <| tv (bge rfl rfl) rfl <| nz <| cD rfl hp (fun hc33 hp => ?_) fun hc33 hp => ?_
         · refine ch mix [bx b1 80 (([v3, v5, v67, .bool a2.out.done, .int .i64 a2.out.trap, .int .i64 a2.out.value, v18, .int .i64 a2.out.steps] : List Value) ++ (arrC a2.out.memory ++ ([] : List Value)))] (srcG 0 rfl srcG0) <| hv 0 rfl mv (by kernel_rfl) rfl <| hv 1 rfl (rv_nilCheck rfl) (by kernel_rfl) rfl <| hv 2 rfl (fa f80_2 rfl) (by kernel_rfl) rfl <| hv 3 rfl (lbG s78 0 rfl rfl rfl) (by kernel_rfl) rfl <| hv 4 rfl mv (by kernel_rfl) rfl <| hv 5 rfl (rv_nilCheck rfl) (by kernel_rfl) rfl <| hv 6 rfl (fa f80_2 rfl) (by kernel_rfl) rfl <| hv 7 rfl (lbG s78 0 rfl rfl rfl) (by kernel_rfl) rfl <| hv 8 rfl (ln u78 h69.ro rfl) (by kernel_rfl) rfl <| hv 9 rfl (bsu rfl rfl) (by kernel_rfl) rfl <| hv 13 rfl mv (by kernel_rfl) rfl <| hv 14 rfl mv (by kernel_rfl) rfl <| ho 10 rfl (by kernel_rfl) fun K34 k35 => tp [1, 0] [_,_] rfl rfl <| bE hp fun x4071 hx36 hp => TL.open_ h69 hx36 ?_
           rintro b4072 _ F4074 F4075 h4076 ⟨v4078, F4079, rfl, rfl, h4080⟩
           exact tv (rv_ixH u78 i102 rfl rfl (idx_some hx36).1 h4076) rfl <| hk k35 (srcG 2 rfl srcG0) <| hv 11 rfl (fa f102_1 rfl) (by kernel_rfl) rfl <| ho 12 rfl (by kernel_rfl) fun K37 k38 => tv (lr s54 (Src.at_ 0 rfl) (Hole.cells h4076) 1 rfl rfl) rfl <| hk k38 (srcG 2 rfl srcG0) <| hO 15 rfl u54 i2 h4080 hp rfl rfl rfl (by kernel_rfl) rfl fun x6071 b6072 o6073 h6074 hp => ho 16 rfl (by kernel_rfl) fun K40 k41 => tp [1, 0, 2] [_,_,_] rfl rfl <| tE h4080 h6074 m2 rfl ⟨rfl, rfl⟩ w1 fun F6471 h6472 => hk k41 (srcG 2 rfl srcG0) <| hz (by kernel_rfl) <| wp [1, 0, 2] [_,_,_] rfl rfl <| W.shut (a := (⟨x4071.f, (x4071.regs.set (a8.dst).toNat x65), x4071.block, x4071.at_, x4071.dst⟩ : PFrame)) h4076 ⟨_, _, rfl, rfl, h6472⟩ fun F6871 h6872 => rt hp [1, 0] ⟨v67, F6871, rfl, rfl, h6872⟩
         · exact TC.skip <| rt hp [0, 1] ⟨v67, F68, rfl, rfl, h69⟩
      refine cp [2, 1, 0] [_,_,_] rfl rfl <| TC.shut (a := a8) h12 ⟨_, _, rfl, rfl, h16⟩ fun F6873 h6874 => ch mix [] srcG0 <| hv 0 rfl mv (by kernel_rfl) rfl <| hv 1 rfl mv (by kernel_rfl) rfl <| hv 2 rfl (rv_nilCheck rfl) (by kernel_rfl) rfl <| hv 3 rfl (fa f80_2 rfl) (by kernel_rfl) rfl <| hv 5 rfl mv (by kernel_rfl) rfl <| hv 6 rfl (rv_nilCheck rfl) (by kernel_rfl) rfl <| hv 7 rfl (fa f80_2 rfl) (by kernel_rfl) rfl <| HL.all [4, 8] (by kernel_rfl) (by simp) (HL.al ⟨_, rfl, fun K42 k43 => ?_⟩ (HL.al ⟨_, rfl, fun K51 k52 => ?_⟩ HL.al0))
      · exact tv (lb s78 1 rfl rfl rfl) rfl <| hk k43 srcG0 <| ho 8 rfl (by kernel_rfl) fun K44 k45 => tv (lb s78 1 rfl rfl rfl) rfl <| hk k45 srcG0 <| hv 9 rfl (ln u78 h6874.ro rfl) (by kernel_rfl) rfl <| hv 10 rfl (bsu rfl rfl) (by kernel_rfl) rfl <| ho 11 rfl (by kernel_rfl) fun K46 k47 => bE hp fun x11276 hz48 hp => TL.slOwn u78 i102 rfl (ltb rfl) rfl rfl h6874 hz48 fun v11277 F11278 h11279 => hk k47 srcG0 <| hv 12 rfl (rv_nilCheck rfl) (by kernel_rfl) rfl <| hv 13 rfl (fa f80_2 rfl) (by kernel_rfl) rfl <| ho 14 rfl (by kernel_rfl) fun K49 k50 => TL.stB (ds := [v11277]) (o := 2) (cs := (([v3, v5, v7, .bool a2.out.done, .int .i64 a2.out.trap, .int .i64 a2.out.value, v18, .int .i64 a2.out.steps] : List Value) ++ (arrC a2.out.memory ++ ([] : List Value)))) (b := b1) (u := v11277) 1 rfl m78 rfl rfl (SlO.cells h11279) (oc (h11279).one oc0) (leb rfl) <| hk k50 srcG0 <| hz (by kernel_rfl) <| jn [1, 0] (J29 h11279 hp)
      · exact tv (lb s78 1 rfl rfl rfl) rfl <| hk k52 srcG0 <| hv 9 rfl (ln u78 h6874.ro rfl) (by kernel_rfl) rfl <| hv 10 rfl (bsu rfl rfl) (by kernel_rfl) rfl <| ho 4 rfl (by kernel_rfl) fun K53 k54 => tv (lb s78 1 rfl rfl rfl) rfl <| hk k54 srcG0 <| ho 11 rfl (by kernel_rfl) fun K55 k56 => bE hp fun x11276 hz57 hp => TL.slOwn u78 i102 rfl (ltb rfl) rfl rfl h6874 hz57 fun v11277 F11278 h11279 => hk k56 srcG0 <| hv 12 rfl (rv_nilCheck rfl) (by kernel_rfl) rfl <| hv 13 rfl (fa f80_2 rfl) (by kernel_rfl) rfl <| ho 14 rfl (by kernel_rfl) fun K58 k59 => TL.stB (ds := [v11277]) (o := 2) (cs := (([v3, v5, v7, .bool a2.out.done, .int .i64 a2.out.trap, .int .i64 a2.out.value, v18, .int .i64 a2.out.steps] : List Value) ++ (arrC a2.out.memory ++ ([] : List Value)))) (b := b1) (u := v11277) 1 rfl m78 rfl rfl (SlO.cells h11279) (oc (h11279).one oc0) (leb rfl) <| hk k59 srcG0 <| hz (by kernel_rfl) <| jn [1, 0] (J29 h11279 hp)
     refine sr <| tv (fa f43_1 rfl) rfl <| tv (lb s3 0 rfl rfl rfl) rfl <| tv (bge rfl rfl) rfl <| nz <| cD rfl hp (fun hc60 hp => ?_) fun hc60 hp => ?_
     · refine cq mix (by kernel_rfl) <| qv mv rfl <| qv (rv_nilCheck rfl) rfl <| qv (fa f102_1 rfl) rfl <| qv (lr s54 (Src.at_ 2 rfl) (Hole.cells h12) 1 rfl rfl) rfl <| qv (fa f43_1 rfl) rfl <| qv (lb s3 0 rfl rfl rfl) rfl <| qi u54 i2 (h16).ro hp rfl rfl rfl rfl ?_
       rintro x12876 b12877 o12878 _ hp rfl h12881
       exact qv (lr s2 (Src.at_ 3 rfl) h12881 0 rfl rfl) rfl <| qv sg rfl <| QL.nil <| jn [1, 3, 2] (J25 hp)
     · exact TC.skip <| jn [1, 3, 2] (J25 hp)

/-! ### fettle/run.word -/
abbrev run_word.R (r : Bool) (v : Value) (A : List FP) : Prop := .bool r = v ∧ A = []
def run_word (a1 : Int) : Option Bool :=
  some (decide (a1 ≥ 0 ∧ a1 < 64))
theorem run_word_ok {E : World} {H : FP} {w : World} {a1 : Int} {r : Bool}  (hp : run_word a1 = some r) (hst : St E H [] w) :
    Fn Try.prog 65 #[.int .i64 a1] w fun v w' => ∃ A, run_word.R r v A ∧ St E H A w' := by
 refine fb 9 [.tmp 2] Try.func65 rfl rfl rfl rfl rfl hst <| sr <| ta rfl <| nz <| sr <| tm rfl <| tv (bge rfl rfl) rfl <| tm rfl <| TL.cut 3 fun K1 k2 => ?_
 have J3 {e5} : ∀ w, St E H [] w → K1 (ovr e5 [(8, .bool (decide (a1 ≥ 0 ∧ a1 < 64)))]) w := by
  exact tlg k2 <| ta rfl <| nz <| TC.ret <| rt hp [] ⟨rfl, rfl⟩
 by_cases hc4 : a1 ≥ 0
 · exact gy rfl (bT hc4) <| tm rfl <| gy rfl (bT hc4) <| tv (blt rfl rfl) rfl <| tv (pT (bT hc4)) rfl <| nj J3 (bAt hc4)
 · exact gn rfl (bF hc4) rfl rfl <| gn rfl (bF hc4) rfl rfl <| tv (pF (bF hc4)) rfl <| nj J3 (bAf hc4)

/-! ### (*fettle/run.runner).trap -/
abbrev run_runner_trap.R (b1 : Nat) (a2 : PRunner) (v3 : Value) (v5 : Value) (v7 : Value) (v9 : Value) (r : Bool × Int) (v : Value) (A : List FP) : Prop := .tuple #[] = v ∧ A = [bx b1 80 (([v3, v5, v7, .bool r.1, .int .i64 r.2, .int .i64 a2.out.value, v9, .int .i64 a2.out.steps] : List Value) ++ (arrC a2.out.memory ++ ([] : List Value)))]
def run_runner_trap (a2 : PRunner) (a12 : Int) : Option (Bool × Int) :=
  some (true, a12)
theorem run_runner_trap_ok {E : World} {H : FP} {w : World} {a2 : PRunner} {a12 : Int} {b1 : Nat} {v3 : Value} {v5 : Value} {v7 : Value} {v9 : Value} {r : Bool × Int} (h4 : SlI kFunc H a2.m.funcs v3) (h6 : SlI (kSl 36 (kSl 3 (kInt .i64))) H a2.ahead v5) (h8 : SlI kFrame H a2.frames v7) (h10 : SlI (kInt .i64) H a2.out.out v9) (hp : run_runner_trap a2 a12 = some r) (hst : St E H [bx b1 80 (([v3, v5, v7, .bool a2.out.done, .int .i64 a2.out.trap, .int .i64 a2.out.value, v9, .int .i64 a2.out.steps] : List Value) ++ (arrC a2.out.memory ++ ([] : List Value)))] w) :
    Fn Try.prog 66 #[.pointer (some ⟨b1, 0, none⟩), .int .i64 a12] w fun v w' => ∃ A, run_runner_trap.R b1 a2 v3 v5 v7 v9 r v A ∧ St E H A w' := by
 exact fb 13 [] Try.func66 rfl rfl rfl rfl rfl hst <| TC.region <| tm rfl <| tm rfl <| tm rfl <| tv (rv_nilCheck rfl) rfl <| tv (fa f80_3 rfl) rfl <| tv (fa f57_0 rfl) rfl <| TL.stB (ds := [.bool true]) (o := 3) (cs := (([v3, v5, v7, .bool a2.out.done, .int .i64 a2.out.trap, .int .i64 a2.out.value, v9, .int .i64 a2.out.steps] : List Value) ++ (arrC a2.out.memory ++ ([] : List Value)))) (b := b1) (u := .bool true) 0 rfl m4 rfl rfl rfl (oc rfl oc0) (leb rfl) <| tv (rv_nilCheck rfl) rfl <| tv (fa f80_3 rfl) rfl <| tv (fa f57_1 rfl) rfl <| TL.stB (ds := [.int .i64 a12]) (o := 4) (cs := (([v3, v5, v7, .bool true, .int .i64 a2.out.trap, .int .i64 a2.out.value, v9, .int .i64 a2.out.steps] : List Value) ++ (arrC a2.out.memory ++ ([] : List Value)))) (b := b1) (u := .int .i64 a12) 0 rfl m3 rfl rfl rfl (oc rfl oc0) (leb rfl) <| nl <| rt hp [0] ⟨rfl, rfl⟩

/-! ### fettle/arith.bit -/
abbrev arith_bit.R (r : Int) (v : Value) (A : List FP) : Prop := .int .i64 r = v ∧ A = []
def arith_bit (a1 : Bool) : Option Int :=
  if a1 = true then
    some 1
  else
    some 0
theorem arith_bit_ok {E : World} {H : FP} {w : World} {a1 : Bool} {r : Int}  (hp : arith_bit a1 = some r) (hst : St E H [] w) :
    Fn Try.prog 96 #[.bool a1] w fun v w' => ∃ A, arith_bit.R r v A ∧ St E H A w' := by
 refine fb 4 [.tmp 2] Try.func96 rfl rfl rfl rfl rfl hst <| sr <| ta rfl <| nz <| TC.seq fun K1 k2 => sr <| tm rfl <| nz <| cB rfl hp (fun hc3 hp => ?_) fun hc3 hp => ?_
 · exact sr <| ta rfl <| nz <| TC.ret <| rt hp [] ⟨rfl, rfl⟩
 · exact sk k2 rfl <| sr <| ta rfl <| nz <| TC.ret <| rt hp [] ⟨rfl, rfl⟩

/-! ### fettle/arith.Eval -/
abbrev arith_Eval.R (r : Int × GErr) (v : Value) (A : List FP) : Prop := ∃ (w1 : Value) (G1 : FP), .tuple #[.int .i64 r.1, w1] = v ∧ A = [G1] ∧ ErO 75 84 86 r.2 w1 G1
def arith_Eval (a1 : Int) (a2 : List Int) : Option (Int × GErr) :=
  (arith_Args a1).bind fun x5 =>
  if (!x5.2) = true ∨ (¬ (len a2) = x5.1) then
    some (0, (GErr.code 1))
  else
    (idx a2 0).bind fun x7 =>
    if a1 = 2 then
      some (x7, GErr.no)
    else
      if a1 = 14 then
        some ((w64 (1 - x7)), GErr.no)
      else
        (idx a2 1).bind fun x15 =>
        if a1 = 3 then
          some ((w64 (x7 + x15)), GErr.no)
        else
          if a1 = 4 then
            some ((w64 (x7 - x15)), GErr.no)
          else
            if a1 = 5 then
              some ((w64 (x7 * x15)), GErr.no)
            else
              if a1 = 6 then
                some ((bitw .and x7 x15), GErr.no)
              else
                if a1 = 7 then
                  some ((bitw .or x7 x15), GErr.no)
                else
                  if a1 = 8 then
                    some ((bitw .xor x7 x15), GErr.no)
                  else
                    if a1 = 9 then
                      some ((shlw x7 (andU (u64of x15) 63)), GErr.no)
                    else
                      if a1 = 10 then
                        some ((shrw x7 (andU (u64of x15) 63)), GErr.no)
                      else
                        if a1 = 12 then
                          (arith_bit (decide (x7 < x15))).bind fun x29 =>
                          some (x29, GErr.no)
                        else
                          if a1 = 13 then
                            (arith_bit (decide (x7 = x15))).bind fun x31 =>
                            some (x31, GErr.no)
                          else
                            if x15 = 0 then
                              some (0, (GErr.code 7))
                            else
                              some ((w64 (Int.tdiv x7 x15)), GErr.no)
set_option maxHeartbeats 4000000 in
theorem arith_Eval_ok {E : World} {H : FP} {w : World} {a1 : Int} {a2 : List Int} {v3 : Value} {r : Int × GErr} (h4 : SlI (kInt .i64) H a2 v3) (hp : arith_Eval a1 a2 = some r) (hst : St E H [] w) :
    Fn Try.prog 67 #[.int .i64 a1, v3] w fun v w' => ∃ A, arith_Eval.R r v A ∧ St E H A w' := by
 refine fb 101 [.tmp 4, .tmp 5] Try.func67 rfl rfl rfl rfl rfl hst <| sr <| ta rfl <| ta rfl <| nz <| sr <| tm rfl <| bE hp fun x5 hy1 hp => tc 0 [] rfl c47 (fun _ => arith_Args_ok (a1 := a1) hy1) rfl ?_
 rintro _ _ ⟨rfl, rfl⟩
 refine tm rfl <| tv (xt rfl rfl) rfl <| tv (xt rfl rfl) rfl <| ta rfl <| ta rfl <| nz <| TC.seq fun K3 k4 => sr <| tm rfl <| tv (rv_not rfl) rfl <| tm rfl <| TL.cut 5 fun K5 k6 => ?_
 have J7 {e9} : ∀ w, St E H [] w → K5 (ovr e9 [(22, .bool (decide ((!x5.2) = true ∨ (¬ (len a2) = x5.1)))), (0, .int .i64 a1), (1, v3)]) w := by
  refine tlg k6 <| nz <| cD rfl hp (fun hc10 hp => ?_) fun hc10 hp => ?_
  · exact sr <| tv (mI u75 rfl) rfl <| ta rfl <| ta rfl <| nz <| TC.ret <| W.new0 <| rt hp [0] ⟨(.iface 75 (.int .i64 1)), ([] : FP), rfl, rfl, (ErO.mk _ : ErO 75 84 86 (GErr.code 1) (.iface 75 (.int .i64 1)) [])⟩
  · refine sk k4 rfl <| sr <| tm rfl <| ti u54 i2 h4 hp rfl rfl rfl rfl ?_
    rintro x7 b8 o9 _ hp rfl h12
    refine tv (lr s2 sH h12 0 rfl rfl) rfl <| ta rfl <| nz <| TC.seq fun K12 k13 => sr <| tm rfl <| nz <| TC.block <| sr <| tv (beq rfl rfl) rfl <| ta rfl <| nz <| cD rfl hp (fun hc14 hp => ?_) fun hc14 hp => ?_
    · exact sr <| tm rfl <| ta rfl <| ta rfl <| nz <| TC.ret <| W.new0 <| rt hp [0] ⟨.nilIface, ([] : FP), rfl, rfl, (ErO.nil : ErO 75 84 86 GErr.no .nilIface [])⟩
    · refine sr <| tv (beq rfl rfl) rfl <| ta rfl <| nz <| cD rfl hp (fun hc15 hp => ?_) fun hc15 hp => ?_
      · exact sr <| tm rfl <| tv (bsu rfl rfl) rfl <| ta rfl <| ta rfl <| nz <| TC.ret <| W.new0 <| rt hp [0] ⟨.nilIface, ([] : FP), rfl, rfl, (ErO.nil : ErO 75 84 86 GErr.no .nilIface [])⟩
      · refine sk k13 rfl <| sr <| tm rfl <| ti u54 i2 h4 hp rfl rfl rfl rfl ?_
        rintro x15 b16 o17 _ hp rfl h20
        refine tv (lr s2 sH h20 0 rfl rfl) rfl <| ta rfl <| nz <| TC.seq fun K17 k18 => sr <| tm rfl <| nz <| TC.block <| sr <| tv (beq rfl rfl) rfl <| ta rfl <| nz <| cD rfl hp (fun hc19 hp => ?_) fun hc19 hp => ?_
        · exact sr <| tm rfl <| tm rfl <| tv (bad rfl rfl) rfl <| ta rfl <| ta rfl <| nz <| TC.ret <| W.new0 <| rt hp [0] ⟨.nilIface, ([] : FP), rfl, rfl, (ErO.nil : ErO 75 84 86 GErr.no .nilIface [])⟩
        · refine sr <| tv (beq rfl rfl) rfl <| ta rfl <| nz <| cD rfl hp (fun hc20 hp => ?_) fun hc20 hp => ?_
          · exact sr <| tm rfl <| tm rfl <| tv (bsu rfl rfl) rfl <| ta rfl <| ta rfl <| nz <| TC.ret <| W.new0 <| rt hp [0] ⟨.nilIface, ([] : FP), rfl, rfl, (ErO.nil : ErO 75 84 86 GErr.no .nilIface [])⟩
          · refine sr <| tv (beq rfl rfl) rfl <| ta rfl <| nz <| cD rfl hp (fun hc21 hp => ?_) fun hc21 hp => ?_
            · exact sr <| tm rfl <| tm rfl <| tv (bmu rfl rfl) rfl <| ta rfl <| ta rfl <| nz <| TC.ret <| W.new0 <| rt hp [0] ⟨.nilIface, ([] : FP), rfl, rfl, (ErO.nil : ErO 75 84 86 GErr.no .nilIface [])⟩
            · refine sr <| tv (beq rfl rfl) rfl <| ta rfl <| nz <| cD rfl hp (fun hc22 hp => ?_) fun hc22 hp => ?_
              · exact sr <| tm rfl <| tm rfl <| tv (rv_and (m := x7) (n := x15) rfl rfl) rfl <| ta rfl <| ta rfl <| nz <| TC.ret <| W.new0 <| rt hp [0] ⟨.nilIface, ([] : FP), rfl, rfl, (ErO.nil : ErO 75 84 86 GErr.no .nilIface [])⟩
              · refine sr <| tv (beq rfl rfl) rfl <| ta rfl <| nz <| cD rfl hp (fun hc23 hp => ?_) fun hc23 hp => ?_
                · exact sr <| tm rfl <| tm rfl <| tv (rv_or (m := x7) (n := x15) rfl rfl) rfl <| ta rfl <| ta rfl <| nz <| TC.ret <| W.new0 <| rt hp [0] ⟨.nilIface, ([] : FP), rfl, rfl, (ErO.nil : ErO 75 84 86 GErr.no .nilIface [])⟩
                · refine sr <| tv (beq rfl rfl) rfl <| ta rfl <| nz <| cD rfl hp (fun hc24 hp => ?_) fun hc24 hp => ?_
                  · exact sr <| tm rfl <| tm rfl <| tv (rv_xor (m := x7) (n := x15) rfl rfl) rfl <| ta rfl <| ta rfl <| nz <| TC.ret <| W.new0 <| rt hp [0] ⟨.nilIface, ([] : FP), rfl, rfl, (ErO.nil : ErO 75 84 86 GErr.no .nilIface [])⟩
                  · refine sr <| tv (beq rfl rfl) rfl <| ta rfl <| nz <| cD rfl hp (fun hc25 hp => ?_) fun hc25 hp => ?_
                    · exact sr <| tm rfl <| tm rfl <| tv (rv_toU (k := .i64) (m := x15) (by kernel_rfl) Try.underlying141 rfl) rfl <| tv (rv_andU (m := (u64of x15)) (n := 63) rfl rfl) rfl <| tv (rv_shl (m := x7) (n := (andU (u64of x15) 63)) (andU_nn _ _) rfl rfl) rfl <| ta rfl <| ta rfl <| nz <| TC.ret <| W.new0 <| rt hp [0] ⟨.nilIface, ([] : FP), rfl, rfl, (ErO.nil : ErO 75 84 86 GErr.no .nilIface [])⟩
                    · refine sr <| tv (beq rfl rfl) rfl <| ta rfl <| nz <| cD rfl hp (fun hc26 hp => ?_) fun hc26 hp => ?_
                      · exact sr <| tm rfl <| tm rfl <| tv (rv_toU (k := .i64) (m := x15) (by kernel_rfl) Try.underlying141 rfl) rfl <| tv (rv_andU (m := (u64of x15)) (n := 63) rfl rfl) rfl <| tv (rv_shr (m := x7) (n := (andU (u64of x15) 63)) (andU_nn _ _) rfl rfl) rfl <| ta rfl <| ta rfl <| nz <| TC.ret <| W.new0 <| rt hp [0] ⟨.nilIface, ([] : FP), rfl, rfl, (ErO.nil : ErO 75 84 86 GErr.no .nilIface [])⟩
                      · refine sr <| tv (beq rfl rfl) rfl <| ta rfl <| nz <| cD rfl hp (fun hc27 hp => ?_) fun hc27 hp => ?_
                        · refine sr <| tm rfl <| tm rfl <| tv (blt rfl rfl) rfl <| bE hp fun x29 hy28 hp => tc 0 [] rfl c96 (fun _ => arith_bit_ok (a1 := (decide (x7 < x15))) hy28) rfl ?_
                          rintro _ _ ⟨rfl, rfl⟩
                          exact ta rfl <| ta rfl <| nz <| TC.ret <| W.new0 <| rt hp [0] ⟨.nilIface, ([] : FP), rfl, rfl, (ErO.nil : ErO 75 84 86 GErr.no .nilIface [])⟩
                        · refine sr <| tv (beq rfl rfl) rfl <| ta rfl <| nz <| cD rfl hp (fun hc30 hp => ?_) fun hc30 hp => ?_
                          · refine sr <| tm rfl <| tm rfl <| tv (beq rfl rfl) rfl <| bE hp fun x31 hy31 hp => tc 0 [] rfl c96 (fun _ => arith_bit_ok (a1 := (decide (x7 = x15))) hy31) rfl ?_
                            rintro _ _ ⟨rfl, rfl⟩
                            exact ta rfl <| ta rfl <| nz <| TC.ret <| W.new0 <| rt hp [0] ⟨.nilIface, ([] : FP), rfl, rfl, (ErO.nil : ErO 75 84 86 GErr.no .nilIface [])⟩
                          · refine sk k18 rfl <| TC.seq fun K33 k34 => sr <| tm rfl <| tv (beq rfl rfl) rfl <| nz <| cD rfl hp (fun hc35 hp => ?_) fun hc35 hp => ?_
                            · exact sr <| tv (mI u75 rfl) rfl <| ta rfl <| ta rfl <| nz <| TC.ret <| W.new0 <| rt hp [0] ⟨(.iface 75 (.int .i64 7)), ([] : FP), rfl, rfl, (ErO.mk _ : ErO 75 84 86 (GErr.code 7) (.iface 75 (.int .i64 7)) [])⟩
                            · exact sk k34 rfl <| sr <| tm rfl <| tm rfl <| tv (bqu rfl rfl hc35) rfl <| ta rfl <| ta rfl <| nz <| TC.ret <| W.new0 <| rt hp [0] ⟨.nilIface, ([] : FP), rfl, rfl, (ErO.nil : ErO 75 84 86 GErr.no .nilIface [])⟩
 by_cases hc8 : (!x5.2) = true
 · exact gn rfl (bbT hc8) rfl rfl <| gn rfl (bbT hc8) rfl rfl <| gn rfl (bbT hc8) rfl rfl <| gn rfl (bbT hc8) rfl rfl <| tv (pT (bbT hc8)) rfl <| nj J7 (bOt hc8)
 · exact gy rfl (bbF hc8) <| tm rfl <| gy rfl (bbF hc8) <| tv (ln u54 h4 rfl) rfl <| gy rfl (bbF hc8) <| tm rfl <| gy rfl (bbF hc8) <| tv (bne rfl rfl) rfl <| tv (pF (bbF hc8)) rfl <| nj J7 (bOf hc8)
end Go.Proofs.Ytpomfbdbkejedaa
