/- The walk through the program's functions: each one's pure reading, and that a call does what it says. No conditions. -/
import Derived.Test.YtpomfbdbkejedaaGreatDoorZ1
set_option linter.unusedVariables false
set_option linter.unusedSimpArgs false
namespace Go.Proofs.YtpomfbdbkejedaaGreatDoor
open Go Go.Proofs

/-! ### (*fettle/check.looker).arity -/
abbrev check_looker_arity.R (r : Int × Int × GErr) (v : Value) (A : List FP) : Prop := ∃ (w1 : Value) (G1 : FP), .tuple #[.int .i64 r.1, .int .i64 r.2.1, w1] = v ∧ A = [G1] ∧ ErO 73 60 65 r.2.2 w1 G1
def check_looker_arity (a2 : PLooker) (a11 : PInstr) : Option (Int × Int × GErr) :=
  (arith_Args a11.op).bind fun x15 =>
  if x15.2 = true then
    some (x15.1, 1, GErr.no)
  else
    if a11.op = 1 then
      some (0, 1, GErr.no)
    else
      if a11.op = 15 then
        some (1, 1, GErr.no)
      else
        if a11.op = 18 then
          some (1, 0, GErr.no)
        else
          if a11.op = 16 then
            some (2, 0, GErr.no)
          else
            if a11.op = 17 then
              if a11.fn < 0 ∨ a11.fn ≥ (len a2.m.funcs) then
                some (0, 0, (GErr.code 4))
              else
                (idx a2.m.funcs a11.fn).bind fun x2823 =>
                some (x2823.params, x2823.result, GErr.no)
            else
              some (0, 0, (GErr.code 6))
set_option maxHeartbeats 4000000 in
theorem check_looker_arity_ok {E : World} {H : FP} {w : World} {a2 : PLooker} {a11 : PInstr} {b1 : Nat} {o3 : Nat} {v5 : Value} {v7 : Value} {v9 : Value} {v12 : Value} {r : Int × Int × GErr} (h4 : CellsIn H b1 o3 [v5, .int .i64 a2.f.params, .int .i64 a2.f.result, v7, v9]) (h6 : SlI kFunc H a2.m.funcs v5) (h8 : SlI (kInt .i64) H a2.f.regs v7) (h10 : SlI kBlock H a2.f.blocks v9) (h13 : SlI (kInt .i64) H a11.args v12) (hp : check_looker_arity a2 a11 = some r) (hst : St E H [] w) :
    Fn Tryz.prog 98 #[.pointer (some ⟨b1, o3, none⟩), .agg #[.int .i64 a11.op, .int .i64 a11.dst, v12, .int .i64 a11.imm, .int .i64 a11.fn]] w fun v w' => ∃ A, check_looker_arity.R r v A ∧ St E H A w' := by
 refine fb 59 [.tmp 4, .tmp 5, .tmp 6] Tryz.func98 rfl rfl rfl rfl rfl hst <| sr <| tb [.int .i64 a11.op, .int .i64 a11.dst, v12, .int .i64 a11.imm, .int .i64 a11.fn] rfl rfl fun b14 => ta rfl <| ta rfl <| ta rfl <| nz <| TC.seq fun K1 k2 => sr <| tv (fa f50_0 rfl) rfl <| tv (lb s3 0 rfl rfl rfl) rfl <| bE hp fun x15 hy3 hp => tc 0 [_] rfl c111 (fun _ => arith_Args_ok (a1 := a11.op) hy3) rfl ?_
 rintro _ _ ⟨rfl, rfl⟩
 refine tm rfl <| tv (xt rfl rfl) rfl <| tv (xt rfl rfl) rfl <| ta rfl <| ta rfl <| nz <| sr <| tm rfl <| nz <| cB rfl hp (fun hc5 hp => ?_) fun hc5 hp => ?_
 · exact sr <| tm rfl <| ta rfl <| ta rfl <| ta rfl <| nz <| TC.ret <| W.new0 <| rt hp [0] ⟨.nilIface, ([] : FP), rfl, rfl, (ErO.nil : ErO 73 60 65 GErr.no .nilIface [])⟩
 · refine sk k2 rfl <| TC.seq fun K6 k7 => sr <| tv (fa f50_0 rfl) rfl <| tv (lb s3 0 rfl rfl rfl) rfl <| nz <| TC.block <| sr <| tv (beq rfl rfl) rfl <| ta rfl <| nz <| cD rfl hp (fun hc8 hp => ?_) fun hc8 hp => ?_
   · exact sr <| ta rfl <| ta rfl <| ta rfl <| nz <| TC.ret <| W.new0 <| rt hp [0] ⟨.nilIface, ([] : FP), rfl, rfl, (ErO.nil : ErO 73 60 65 GErr.no .nilIface [])⟩
   · refine sr <| tv (beq rfl rfl) rfl <| ta rfl <| nz <| cD rfl hp (fun hc9 hp => ?_) fun hc9 hp => ?_
     · exact sr <| ta rfl <| ta rfl <| ta rfl <| nz <| TC.ret <| W.new0 <| rt hp [0] ⟨.nilIface, ([] : FP), rfl, rfl, (ErO.nil : ErO 73 60 65 GErr.no .nilIface [])⟩
     · refine sr <| tv (beq rfl rfl) rfl <| ta rfl <| nz <| cD rfl hp (fun hc10 hp => ?_) fun hc10 hp => ?_
       · exact sr <| ta rfl <| ta rfl <| ta rfl <| nz <| TC.ret <| W.new0 <| rt hp [0] ⟨.nilIface, ([] : FP), rfl, rfl, (ErO.nil : ErO 73 60 65 GErr.no .nilIface [])⟩
       · refine sr <| tv (beq rfl rfl) rfl <| ta rfl <| nz <| cD rfl hp (fun hc11 hp => ?_) fun hc11 hp => ?_
         · exact sr <| ta rfl <| ta rfl <| ta rfl <| nz <| TC.ret <| W.new0 <| rt hp [0] ⟨.nilIface, ([] : FP), rfl, rfl, (ErO.nil : ErO 73 60 65 GErr.no .nilIface [])⟩
         · refine sr <| tv (beq rfl rfl) rfl <| ta rfl <| nz <| cD rfl hp (fun hc12 hp => ?_) fun hc12 hp => ?_
           · refine TC.seq fun K13 k14 => TC.seq fun K15 k16 => cq mix (by kernel_rfl) <| qv (fa f50_4 rfl) rfl <| qv (lb s3 0 rfl rfl rfl) rfl <| qv (blt rfl rfl) rfl <| qv mv rfl <| QL.cut 10 fun K17 k18 => ?_
             have J19 {e21} : K17 (ovr e21 [(43, .bool (decide (a11.fn < 0 ∨ a11.fn ≥ (len a2.m.funcs)))), (0, .pointer (some ⟨b1, o3, none⟩)), (3, .pointer (some ⟨b14, 0, none⟩))]) := by
              refine k18 _ <| QL.nil <| tg k16 <| cD rfl hp (fun hc22 hp => ?_) fun hc22 hp => ?_
              · exact sr <| tv (mI u73 rfl) rfl <| ta rfl <| ta rfl <| ta rfl <| nz <| TC.ret <| W.new0 <| rt hp [0] ⟨(.iface 73 (.int .i64 4)), ([] : FP), rfl, rfl, (ErO.mk _ : ErO 73 60 65 (GErr.code 4) (.iface 73 (.int .i64 4)) [])⟩
              · refine sk k14 rfl <| TC.seq fun K23 k24 => ch mix [bx b14 50 [.int .i64 a11.op, .int .i64 a11.dst, v12, .int .i64 a11.imm, .int .i64 a11.fn]] (srcG 0 rfl srcG0) <| hv 0 rfl mv (by kernel_rfl) rfl <| hv 1 rfl (rv_nilCheck rfl) (by kernel_rfl) rfl <| hv 2 rfl (fa f104_0 rfl) (by kernel_rfl) rfl <| hv 3 rfl (fa f24_0 rfl) (by kernel_rfl) rfl <| hv 4 rfl (lr s22 srcInH h4 0 rfl rfl) (by kernel_rfl) rfl <| hv 5 rfl (fa f50_4 rfl) (by kernel_rfl) rfl <| hv 6 rfl (lbG s3 0 rfl rfl rfl) (by kernel_rfl) rfl <| hi 7 rfl u22 i47 h6 hp rfl rfl rfl (by kernel_rfl) rfl ?_
                rintro x2823 b2824 o2825 _ hp ⟨v2829, v2831, rfl, h2830, h2832⟩ h2828
                exact hv 8 rfl (lR (ds := [.int .i64 x2823.params, .int .i64 x2823.result, v2829, v2831]) ag_47 srcInH h2828 0 rfl rfl rfl) (by kernel_rfl) rfl <| ho 9 rfl (by kernel_rfl) fun K26 k27 => tl i47 rfl fun b3623 => hk k27 (srcG 1 rfl srcG0) <| ho 10 rfl (by kernel_rfl) fun K28 k29 => tS 0 m47 rfl rfl [.int .i64 x2823.params, .int .i64 x2823.result, v2829, v2831] rfl (oc rfl (oc rfl (oc (h2830).one (oc (h2832).one oc0)))) rfl rfl <| hk k29 (srcG 1 rfl srcG0) <| hz (by kernel_rfl) <| tg k24 <| TC.seq fun K30 k31 => cq mix (by kernel_rfl) <| qv (fa f47_0 rfl) rfl <| qv (lb s3 0 rfl rfl rfl) rfl <| qv (fa f47_1 rfl) rfl <| qv (lb s3 0 rfl rfl rfl) rfl <| qv sg rfl <| qv sg rfl <| qv sg rfl <| QL.nil <| tg k31 <| TC.ret <| W.new0 <| rt hp [0] ⟨.nilIface, ([] : FP), rfl, rfl, (ErO.nil : ErO 73 60 65 GErr.no .nilIface [])⟩
             by_cases hc20 : a11.fn < 0
             · exact qgn rfl (bT hc20) rfl rfl <| qgn rfl (bT hc20) rfl rfl <| qgn rfl (bT hc20) rfl rfl <| qgn rfl (bT hc20) rfl rfl <| qgn rfl (bT hc20) rfl rfl <| qgn rfl (bT hc20) rfl rfl <| qgn rfl (bT hc20) rfl rfl <| qgn rfl (bT hc20) rfl rfl <| qgn rfl (bT hc20) rfl rfl <| qv (pT (bT hc20)) rfl <| qj J19 (bOt hc20)
             · exact qgy rfl (bF hc20) <| qv (fa f50_4 rfl) rfl <| qgy rfl (bF hc20) <| qv (lb s3 0 rfl rfl rfl) rfl <| qgy rfl (bF hc20) <| qv mv rfl <| qgy rfl (bF hc20) <| qv (rv_nilCheck rfl) rfl <| qgy rfl (bF hc20) <| qv (fa f104_0 rfl) rfl <| qgy rfl (bF hc20) <| qv (fa f24_0 rfl) rfl <| qgy rfl (bF hc20) <| qv (lr s22 sH h4 0 rfl rfl) rfl <| qgy rfl (bF hc20) <| qv (ln u22 h6 rfl) rfl <| qgy rfl (bF hc20) <| qv (bge rfl rfl) rfl <| qv (pF (bF hc20)) rfl <| qj J19 (bOf hc20)
           · exact sk k7 rfl <| sr <| tv (mI u73 rfl) rfl <| ta rfl <| ta rfl <| ta rfl <| nz <| TC.ret <| W.new0 <| rt hp [0] ⟨(.iface 73 (.int .i64 6)), ([] : FP), rfl, rfl, (ErO.mk _ : ErO 73 60 65 (GErr.code 6) (.iface 73 (.int .i64 6)) [])⟩

/-! ### (*fettle/check.looker).call -/
abbrev check_looker_call.R (r : Bool) (v : Value) (A : List FP) : Prop := .bool r = v ∧ A = []
def check_looker_call.nx23 (a2 : PLooker) (a11 : PInstr) (x2816 : PFunc) : Option Bool :=
  (if x2816.result = 0 then some true else (check_looker_are a2 x2816.result ([a11.dst])).bind fun x4421 =>
  some x4421).bind fun t4417 =>
  some t4417
def check_looker_call.bd23 (a2 : PLooker) (a11 : PInstr) (x2816 : PFunc) (x4416 : Int) : Option (Ex (Ex Bool Unit) Int) :=
  if x4416 < (len a11.args) then
    (idx a11.args x4416).bind fun x4422 =>
    (idx x2816.regs x4416).bind fun x4428 =>
    (check_looker_are a2 x4428 ([x4422])).bind fun x4437 =>
    if (!x4437) = true then
      some (.ret (.ret false))
    else
      some (.go (w64 (x4416 + 1)))
  else
    some (.ret (.go ()))
def check_looker_call (a2 : PLooker) (a11 : PInstr) : Option Bool :=
  (idx a2.m.funcs a11.fn).bind fun x2816 =>
  if x2816.params < 0 ∨ x2816.params > (len x2816.regs) then
    some false
  else
    (whl (fun (s : Int) => check_looker_call.bd23 a2 a11 x2816 s) FUEL 0).bind fun z =>
    match z with
      | .ret r => some r
      | .go p => check_looker_call.nx23 a2 a11 x2816
set_option maxHeartbeats 4000000 in
theorem check_looker_call_ok {E : World} {H : FP} {w : World} {a2 : PLooker} {a11 : PInstr} {b1 : Nat} {o3 : Nat} {v5 : Value} {v7 : Value} {v9 : Value} {v12 : Value} {r : Bool} (h4 : CellsIn H b1 o3 [v5, .int .i64 a2.f.params, .int .i64 a2.f.result, v7, v9]) (h6 : SlI kFunc H a2.m.funcs v5) (h8 : SlI (kInt .i64) H a2.f.regs v7) (h10 : SlI kBlock H a2.f.blocks v9) (h13 : SlI (kInt .i64) H a11.args v12) (hp : check_looker_call a2 a11 = some r) (hst : St E H [] w) :
    Fn Tryz.prog 112 #[.pointer (some ⟨b1, o3, none⟩), .agg #[.int .i64 a11.op, .int .i64 a11.dst, v12, .int .i64 a11.imm, .int .i64 a11.fn]] w fun v w' => ∃ A, check_looker_call.R r v A ∧ St E H A w' := by
 refine fb 59 [.tmp 4] Tryz.func112 rfl rfl rfl rfl rfl hst <| sr <| tb [.int .i64 a11.op, .int .i64 a11.dst, v12, .int .i64 a11.imm, .int .i64 a11.fn] rfl rfl fun b14 => ta rfl <| nz <| TC.seq fun K1 k2 => ch mix [bx b14 50 [.int .i64 a11.op, .int .i64 a11.dst, v12, .int .i64 a11.imm, .int .i64 a11.fn]] (srcG 0 rfl srcG0) <| hv 0 rfl mv (by kernel_rfl) rfl <| hv 1 rfl (rv_nilCheck rfl) (by kernel_rfl) rfl <| hv 2 rfl (fa f104_0 rfl) (by kernel_rfl) rfl <| hv 3 rfl (fa f24_0 rfl) (by kernel_rfl) rfl <| hv 4 rfl (lr s22 srcInH h4 0 rfl rfl) (by kernel_rfl) rfl <| hv 5 rfl (fa f50_4 rfl) (by kernel_rfl) rfl <| hv 6 rfl (lbG s3 0 rfl rfl rfl) (by kernel_rfl) rfl <| hi 7 rfl u22 i47 h6 hp rfl rfl rfl (by kernel_rfl) rfl ?_
 rintro x2816 b2817 o2818 _ hp ⟨v2822, v2824, rfl, h2823, h2825⟩ h2821
 refine hv 8 rfl (lR (ds := [.int .i64 x2816.params, .int .i64 x2816.result, v2822, v2824]) ag_47 srcInH h2821 0 rfl rfl rfl) (by kernel_rfl) rfl <| ho 9 rfl (by kernel_rfl) fun K4 k5 => tl i47 rfl fun b3616 => hk k5 (srcG 1 rfl srcG0) <| ho 10 rfl (by kernel_rfl) fun K6 k7 => tS 0 m47 rfl rfl [.int .i64 x2816.params, .int .i64 x2816.result, v2822, v2824] rfl (oc rfl (oc rfl (oc (h2823).one (oc (h2825).one oc0)))) rfl rfl <| hk k7 (srcG 1 rfl srcG0) <| hz (by kernel_rfl) <| tg k2 <| TC.seq fun K8 k9 => sr <| tv (fa f47_0 rfl) rfl <| tv (lb s3 0 rfl rfl rfl) rfl <| tv (blt rfl rfl) rfl <| tm rfl <| TL.cut 7 fun K10 k11 => ?_
 have J12 {e14} : ∀ w, St E H [bx b3616 47 [.int .i64 x2816.params, .int .i64 x2816.result, v2822, v2824], bx b14 50 [.int .i64 a11.op, .int .i64 a11.dst, v12, .int .i64 a11.imm, .int .i64 a11.fn]] w → K10 (ovr e14 [(27, .bool (decide (x2816.params < 0 ∨ x2816.params > (len x2816.regs)))), (0, .pointer (some ⟨b1, o3, none⟩)), (3, .pointer (some ⟨b14, 0, none⟩)), (5, .pointer (some ⟨b3616, 0, none⟩))]) w := by
  refine tlg k11 <| nz <| cD rfl hp (fun hc15 hp => ?_) fun hc15 hp => ?_
  · exact sr <| ta rfl <| nz <| TC.ret <| rt hp [] ⟨rfl, rfl⟩
  · refine sk k9 rfl <| TC.seq fun K16 k17 => sr <| tv (fa f50_2 rfl) rfl <| tv (lb s38 1 rfl rfl rfl) rfl <| tv (ln u38 h13 rfl) rfl <| tm rfl <| nz <| TC.block <| bE hp fun z_19 hz20 hr21 => ?_
    have J33 {e24} (hq34 : .go () = z_19) : ∀ w, St E H [bx b14 50 [.int .i64 a11.op, .int .i64 a11.dst, v12, .int .i64 a11.imm, .int .i64 a11.fn], bx b3616 47 [.int .i64 x2816.params, .int .i64 x2816.result, v2822, v2824]] w → K16 (ovr e24 [(0, .pointer (some ⟨b1, o3, none⟩)), (3, .pointer (some ⟨b14, 0, none⟩)), (5, .pointer (some ⟨b3616, 0, none⟩))]) w := by
     subst hq34
     replace hp : check_looker_call.nx23 a2 a11 x2816 = some r := hr21
     refine tg k17 <| sr <| tv (fa f47_1 rfl) rfl <| tv (lb s3 1 rfl rfl rfl) rfl <| tv (beq rfl rfl) rfl <| tm rfl <| bE hp fun t4417 ht30 hp => TL.cut 8 fun K25 k26 => ?_
     have J27 {e29} : ∀ w, St E H [bx b14 50 [.int .i64 a11.op, .int .i64 a11.dst, v12, .int .i64 a11.imm, .int .i64 a11.fn], bx b3616 47 [.int .i64 x2816.params, .int .i64 x2816.result, v2822, v2824]] w → K25 (ovr e29 [(58, .bool t4417)]) w := by
      exact tlg k26 <| ta rfl <| nz <| TC.ret <| rt hp [] ⟨rfl, rfl⟩
     refine ifE ht30 (fun hc28 hp => ?_) fun hc28 hp => ?_
     · refine gn rfl (bT hc28) rfl rfl <| gn rfl (bT hc28) rfl rfl <| gn rfl (bT hc28) rfl rfl <| gn rfl (bT hc28) rfl rfl <| gn rfl (bT hc28) rfl rfl <| gn rfl (bT hc28) rfl rfl <| gn rfl (bT hc28) rfl rfl <| tv (pT (bT hc28)) rfl ?_
       obtain rfl := Option.some.inj hp
       exact nj J27 rfl
     · refine gy rfl (bF hc28) <| tm rfl <| gy rfl (bF hc28) <| tv (fa f47_1 rfl) rfl <| gy rfl (bF hc28) <| tv (lb s3 1 rfl rfl rfl) rfl <| gy rfl (bF hc28) <| tv (fa f50_1 rfl) rfl <| gy rfl (bF hc28) <| tv (lb s3 0 rfl rfl rfl) rfl <| gy rfl (bF hc28) <| tbs [(0, .int .i64 a11.dst)] [.int .i64 a11.dst] u38 i3 (by kernel_rfl) rfl rfl rfl rfl fun b4418 => gy rfl (bF hc28) <| tf 1 0 [_,_,_,_] rfl <| TL.litOwn (n := 1) (xs := [a11.dst]) (RepL.to (RepL.cons (k := (kInt .i64)) (x := a11.dst) ⟨rfl, rfl⟩ RepL.nil) rfl) rfl rfl (ltb rfl) fun F4419 h4420 => bE hp fun x4421 hy31 hp => tc 0 [_,_,_] rfl c97 (fun _ => check_looker_are_ok (a2 := a2) (a11 := x2816.result) (a12 := [a11.dst]) (h4.mono subH) (h6.mono subH) (h8.mono subH) (h10.mono subH) (h4420.ro.mono (subB 0 rfl)) hy31) rfl ?_
       rintro _ _ ⟨rfl, rfl⟩
       refine tv (pF (bF hc28)) rfl <| tp [1, 2] [_,_] rfl rfl ?_
       obtain rfl := Option.some.inj hp
       exact nj J27 rfl
    refine lp hz20 [1, 0] rfl (fun s e L => ∃ e18, e = ovr e18 [(0, .pointer (some ⟨b1, o3, none⟩)), (3, .pointer (some ⟨b14, 0, none⟩)), (5, .pointer (some ⟨b3616, 0, none⟩)), (29, v12), (30, .int .i64 (len a11.args)), (31, .int .i64 s)] ∧ L = [bx b14 50 [.int .i64 a11.op, .int .i64 a11.dst, v12, .int .i64 a11.imm, .int .i64 a11.fn], bx b3616 47 [.int .i64 x2816.params, .int .i64 x2816.result, v2822, v2824]]) ⟨_, ovr_eq _ _ rfl, rfl⟩ ?_
    rintro x4416 _ _ ⟨e18, rfl, rfl⟩ X22 hp hx23
    replace hp : check_looker_call.bd23 a2 a11 x2816 x4416 = some X22 := hp
    refine sr <| tv (blt rfl rfl) rfl <| nz <| TC.seq fun K35 k36 => cD rfl hp (fun hc37 hp => ?_) fun hc37 hp => ?_
    · refine sk k36 rfl <| TC.seq fun K38 k39 => TC.block <| sr <| tm rfl <| ti u38 i3 h13 hp rfl rfl rfl rfl ?_
      rintro x4422 b4423 o4424 _ hp rfl h4427
      refine tv (lr s3 sH h4427 0 rfl rfl) rfl <| ta rfl <| ta rfl <| nz <| sr <| tm rfl <| tv (fa f47_2 rfl) rfl <| tv (lb s38 1 rfl rfl rfl) rfl <| tm rfl <| ti u38 i3 h2823 hp rfl rfl rfl rfl ?_
      rintro x4428 b4429 o4430 _ hp rfl h4433
      refine tv (lr s3 sH h4433 0 rfl rfl) rfl <| tm rfl <| tbs [(0, .int .i64 x4422)] [.int .i64 x4422] u38 i3 (by kernel_rfl) rfl rfl rfl rfl fun b4434 => tf 1 0 [_,_,_,_] rfl <| TL.litOwn (n := 1) (xs := [x4422]) (RepL.to (RepL.cons (k := (kInt .i64)) (x := x4422) ⟨rfl, rfl⟩ RepL.nil) rfl) rfl rfl (ltb rfl) fun F4435 h4436 => bE hp fun x4437 hy42 hp => tc 0 [_,_,_] rfl c97 (fun _ => check_looker_are_ok (a2 := a2) (a11 := x4428) (a12 := [x4422]) (h4.mono subH) (h6.mono subH) (h8.mono subH) (h10.mono subH) (h4436.ro.mono (subB 0 rfl)) hy42) rfl ?_
      rintro _ _ ⟨rfl, rfl⟩
      refine tv (rv_not rfl) rfl <| nz <| cB rfl hp (fun hc44 hp => ?_) fun hc44 hp => ?_
      · refine sr <| ta rfl <| nz <| TC.ret ?_
        obtain rfl := ex_ret hp hx23
        exact rt hr21 [] ⟨rfl, rfl⟩
      · exact sk k39 rfl <| TC.region <| tv (bad rfl rfl) rfl <| tm rfl <| nl <| gk hp [1, 2] ⟨_, ovr_eq _ _ rfl, rfl⟩
    · exact TC.exit <| jn [0, 1] (J33 (ex_ret hp hx23))
 by_cases hc13 : x2816.params < 0
 · exact gn rfl (bT hc13) rfl rfl <| gn rfl (bT hc13) rfl rfl <| gn rfl (bT hc13) rfl rfl <| gn rfl (bT hc13) rfl rfl <| gn rfl (bT hc13) rfl rfl <| gn rfl (bT hc13) rfl rfl <| tv (pT (bT hc13)) rfl <| nj J12 (bOt hc13)
 · exact gy rfl (bF hc13) <| tv (fa f47_0 rfl) rfl <| gy rfl (bF hc13) <| tv (lb s3 0 rfl rfl rfl) rfl <| gy rfl (bF hc13) <| tv (fa f47_2 rfl) rfl <| gy rfl (bF hc13) <| tv (lb s38 0 rfl rfl rfl) rfl <| gy rfl (bF hc13) <| tv (ln u38 h2823 rfl) rfl <| gy rfl (bF hc13) <| tv (bgt rfl rfl) rfl <| tv (pF (bF hc13)) rfl <| nj J12 (bOf hc13)

/-! ### (*fettle/check.looker).fits -/
abbrev check_looker_fits.R (r : Bool) (v : Value) (A : List FP) : Prop := .bool r = v ∧ A = []
def check_looker_fits.jn56 (a2 : PLooker) (a11 : PInstr) (x10830 : Bool) : Option Bool :=
  if x10830 = true then
    (check_looker_are a2 1 a11.args).bind fun x10831 =>
    some x10831
  else
    if a11.op = 17 then
      (check_looker_call a2 a11).bind fun x10832 =>
      some x10832
    else
      (check_looker_are a2 1 a11.args).bind fun x10833 =>
      (if x10833 = true then (check_looker_are a2 1 ([a11.dst])).bind fun x10838 =>
      some x10838 else some false).bind fun t10834 =>
      some t10834
def check_looker_fits.jn31 (a2 : PLooker) (a11 : PInstr) (x6822 : Bool) : Option Bool :=
  if x6822 = true then
    (check_looker_are a2 1 a11.args).bind fun x6823 =>
    (if x6823 = true then (check_looker_are a2 2 ([a11.dst])).bind fun x6828 =>
    some x6828 else some false).bind fun t6824 =>
    some t6824
  else
    if a11.op = 14 then
      (idx a11.args 0).bind fun x8030 =>
      (check_looker_are a2 2 ([x8030, a11.dst])).bind fun x10032 =>
      some x10032
    else
      if a11.op = 18 then
        check_looker_fits.jn56 a2 a11 (decide (a11.op = 18))
      else
        check_looker_fits.jn56 a2 a11 (decide (a11.op = 16))
def check_looker_fits (a2 : PLooker) (a11 : PInstr) : Option Bool :=
  if a11.op = 1 then
    (idx a2.f.regs a11.dst).bind fun x15 =>
    some (decide ((x15 = 1 ∨ a11.imm = 0) ∨ a11.imm = 1))
  else
    if a11.op = 2 then
      (idx a11.args 0).bind fun x3222 =>
      (idx a2.f.regs x3222).bind fun x4022 =>
      (check_looker_are a2 x4022 ([a11.dst])).bind fun x6024 =>
      some x6024
    else
      if a11.op = 12 then
        check_looker_fits.jn31 a2 a11 (decide (a11.op = 12))
      else
        check_looker_fits.jn31 a2 a11 (decide (a11.op = 13))
set_option maxHeartbeats 4000000 in
theorem check_looker_fits_ok {E : World} {H : FP} {w : World} {a2 : PLooker} {a11 : PInstr} {b1 : Nat} {o3 : Nat} {v5 : Value} {v7 : Value} {v9 : Value} {v12 : Value} {r : Bool} (h4 : CellsIn H b1 o3 [v5, .int .i64 a2.f.params, .int .i64 a2.f.result, v7, v9]) (h6 : SlI kFunc H a2.m.funcs v5) (h8 : SlI (kInt .i64) H a2.f.regs v7) (h10 : SlI kBlock H a2.f.blocks v9) (h13 : SlI (kInt .i64) H a11.args v12) (hp : check_looker_fits a2 a11 = some r) (hst : St E H [] w) :
    Fn Tryz.prog 99 #[.pointer (some ⟨b1, o3, none⟩), .agg #[.int .i64 a11.op, .int .i64 a11.dst, v12, .int .i64 a11.imm, .int .i64 a11.fn]] w fun v w' => ∃ A, check_looker_fits.R r v A ∧ St E H A w' := by
 refine fb 95 [.tmp 4] Tryz.func99 rfl rfl rfl rfl rfl hst <| sr <| tb [.int .i64 a11.op, .int .i64 a11.dst, v12, .int .i64 a11.imm, .int .i64 a11.fn] rfl rfl fun b14 => ta rfl <| nz <| TC.seq fun K1 k2 => sr <| tv (fa f50_0 rfl) rfl <| tv (lb s3 0 rfl rfl rfl) rfl <| nz <| TC.block <| sr <| tv (beq rfl rfl) rfl <| ta rfl <| nz <| cD rfl hp (fun hc3 hp => ?_) fun hc3 hp => ?_
 · refine TC.seq fun K4 k5 => cq mix (by kernel_rfl) <| qv mv rfl <| qv (rv_nilCheck rfl) rfl <| qv (fa f104_1 rfl) rfl <| qv (fa f47_2 rfl) rfl <| qv (lr s38 sH h4 3 rfl rfl) rfl <| qv (fa f50_1 rfl) rfl <| qv (lb s3 0 rfl rfl rfl) rfl <| qi u38 i3 h8 hp rfl rfl rfl rfl ?_
   rintro x15 b16 o17 _ hp rfl h20
   refine qv (lr s3 sH h20 0 rfl rfl) rfl <| qv (beq rfl rfl) rfl <| qv mv rfl <| QL.cut 4 fun K7 k8 => ?_
   have J9 {e11} : K7 (ovr e11 [(23, .bool (decide (x15 = 1 ∨ a11.imm = 0))), (3, .pointer (some ⟨b14, 0, none⟩))]) := by
    refine k8 _ <| qv mv rfl <| QL.cut 4 fun K12 k13 => ?_
    have J14 {e16} : K12 (ovr e16 [(28, .bool (decide ((x15 = 1 ∨ a11.imm = 0) ∨ a11.imm = 1)))]) := by
     exact k13 _ <| qv sg rfl <| QL.nil <| tg k5 <| TC.ret <| rt hp [] ⟨rfl, rfl⟩
    by_cases hc15 : x15 = 1 ∨ a11.imm = 0
    · exact qgn rfl (bT hc15) rfl rfl <| qgn rfl (bT hc15) rfl rfl <| qgn rfl (bT hc15) rfl rfl <| qv (pT (bT hc15)) rfl <| qj J14 (bOt hc15)
    · exact qgy rfl (bF hc15) <| qv (fa f50_3 rfl) rfl <| qgy rfl (bF hc15) <| qv (lb s2 0 rfl rfl rfl) rfl <| qgy rfl (bF hc15) <| qv (beq rfl rfl) rfl <| qv (pF (bF hc15)) rfl <| qj J14 (bOf hc15)
   by_cases hc10 : x15 = 1
   · exact qgn rfl (bT hc10) rfl rfl <| qgn rfl (bT hc10) rfl rfl <| qgn rfl (bT hc10) rfl rfl <| qv (pT (bT hc10)) rfl <| qj J9 (bOt hc10)
   · exact qgy rfl (bF hc10) <| qv (fa f50_3 rfl) rfl <| qgy rfl (bF hc10) <| qv (lb s2 0 rfl rfl rfl) rfl <| qgy rfl (bF hc10) <| qv (beq rfl rfl) rfl <| qv (pF (bF hc10)) rfl <| qj J9 (bOf hc10)
 · refine sr <| tv (beq rfl rfl) rfl <| ta rfl <| nz <| cD rfl hp (fun hc17 hp => ?_) fun hc17 hp => ?_
   · refine TC.seq fun K18 k19 => ch mix [bx b14 50 [.int .i64 a11.op, .int .i64 a11.dst, v12, .int .i64 a11.imm, .int .i64 a11.fn]] (srcG 0 rfl srcG0) <| hv 0 rfl mv (by kernel_rfl) rfl <| hv 1 rfl mv (by kernel_rfl) rfl <| hv 2 rfl (rv_nilCheck rfl) (by kernel_rfl) rfl <| hv 3 rfl (fa f104_1 rfl) (by kernel_rfl) rfl <| hv 4 rfl (fa f47_2 rfl) (by kernel_rfl) rfl <| hv 5 rfl (lr s38 srcInH h4 3 rfl rfl) (by kernel_rfl) rfl <| hv 6 rfl (fa f50_2 rfl) (by kernel_rfl) rfl <| hv 7 rfl (lbG s38 0 rfl rfl rfl) (by kernel_rfl) rfl <| hi 8 rfl u38 i3 h13 hp rfl rfl rfl (by kernel_rfl) rfl ?_
     rintro x3222 b3223 o3224 _ hp rfl h3227
     refine hv 9 rfl (lr s3 srcInH h3227 0 rfl rfl) (by kernel_rfl) rfl <| hi 10 rfl u38 i3 h8 hp rfl rfl rfl (by kernel_rfl) rfl ?_
     rintro x4022 b4023 o4024 _ hp rfl h4027
     refine hv 11 rfl (lr s3 srcInH h4027 0 rfl rfl) (by kernel_rfl) rfl <| hv 12 rfl (fa f50_1 rfl) (by kernel_rfl) rfl <| hv 13 rfl (lbG s3 0 rfl rfl rfl) (by kernel_rfl) rfl <| ho 14 rfl (by kernel_rfl) fun K22 k23 => tbs [(0, .int .i64 a11.dst)] [.int .i64 a11.dst] u38 i3 (by kernel_rfl) rfl rfl rfl rfl fun b5622 => hk k23 (srcG 1 rfl srcG0) <| ho 15 rfl (by kernel_rfl) fun K24 k25 => tf 1 0 [_,_,_] rfl <| TL.litOwn (n := 1) (xs := [a11.dst]) (RepL.to (RepL.cons (k := (kInt .i64)) (x := a11.dst) ⟨rfl, rfl⟩ RepL.nil) rfl) rfl rfl (ltb rfl) fun F6022 h6023 => bE hp fun x6024 hy26 hp => tc 0 [_,_] rfl c97 (fun _ => check_looker_are_ok (a2 := a2) (a11 := x4022) (a12 := [a11.dst]) (h4.mono subH) (h6.mono subH) (h8.mono subH) (h10.mono subH) (h6023.ro.mono (subB 0 rfl)) hy26) rfl ?_
     rintro _ _ ⟨rfl, rfl⟩
     exact hk k25 (srcG 1 rfl srcG0) <| hv 16 rfl sg (by kernel_rfl) rfl <| hz (by kernel_rfl) <| tg k19 <| TC.ret <| rt hp [] ⟨rfl, rfl⟩
   · refine TC.seq fun K28 k29 => ?_
     have J31 {x6822 e30} (hp : check_looker_fits.jn31 a2 a11 x6822 = some r) : ∀ w, St E H [bx b14 50 [.int .i64 a11.op, .int .i64 a11.dst, v12, .int .i64 a11.imm, .int .i64 a11.fn]] w → K28 (ovr e30 [(0, .pointer (some ⟨b1, o3, none⟩)), (3, .pointer (some ⟨b14, 0, none⟩)), (6, .int .i64 a11.op), (47, .bool x6822)]) w := by
      refine tg k29 <| cB rfl hp (fun hc32 hp => ?_) fun hc32 hp => ?_
      · refine sr <| tm rfl <| tv (fa f50_2 rfl) rfl <| tv (lb s38 0 rfl rfl rfl) rfl <| bE hp fun x6823 hy33 hp => tc 0 [_] rfl c97 (fun _ => check_looker_are_ok (a2 := a2) (a11 := 1) (a12 := a11.args) (h4.mono subH) (h6.mono subH) (h8.mono subH) (h10.mono subH) (h13.mono subH) hy33) rfl ?_
        rintro _ _ ⟨rfl, rfl⟩
        refine tm rfl <| bE hp fun t6824 ht40 hp => TL.cut 6 fun K35 k36 => ?_
        have J37 {e39} : ∀ w, St E H [bx b14 50 [.int .i64 a11.op, .int .i64 a11.dst, v12, .int .i64 a11.imm, .int .i64 a11.fn]] w → K35 (ovr e39 [(60, .bool t6824)]) w := by
         exact tlg k36 <| ta rfl <| nz <| TC.ret <| rt hp [] ⟨rfl, rfl⟩
        refine ifE ht40 (fun hc38 hp => ?_) fun hc38 hp => ?_
        · refine gy rfl (bbT hc38) <| tm rfl <| gy rfl (bbT hc38) <| tv (fa f50_1 rfl) rfl <| gy rfl (bbT hc38) <| tv (lb s3 0 rfl rfl rfl) rfl <| gy rfl (bbT hc38) <| tbs [(0, .int .i64 a11.dst)] [.int .i64 a11.dst] u38 i3 (by kernel_rfl) rfl rfl rfl rfl fun b6825 => gy rfl (bbT hc38) <| tf 1 0 [_,_,_] rfl <| TL.litOwn (n := 1) (xs := [a11.dst]) (RepL.to (RepL.cons (k := (kInt .i64)) (x := a11.dst) ⟨rfl, rfl⟩ RepL.nil) rfl) rfl rfl (ltb rfl) fun F6826 h6827 => bE hp fun x6828 hy41 hp => tc 0 [_,_] rfl c97 (fun _ => check_looker_are_ok (a2 := a2) (a11 := 2) (a12 := [a11.dst]) (h4.mono subH) (h6.mono subH) (h8.mono subH) (h10.mono subH) (h6827.ro.mono (subB 0 rfl)) hy41) rfl ?_
          rintro _ _ ⟨rfl, rfl⟩
          refine tv (pT (bbT hc38)) rfl <| tp [1] [_] rfl rfl ?_
          obtain rfl := Option.some.inj hp
          exact nj J37 rfl
        · refine gn rfl (bbF hc38) rfl rfl <| gn rfl (bbF hc38) rfl rfl <| gn rfl (bbF hc38) rfl rfl <| gn rfl (bbF hc38) rfl rfl <| gn rfl (bbF hc38) rfl rfl <| tv (pF (bbF hc38)) rfl ?_
          obtain rfl := Option.some.inj hp
          exact nj J37 rfl
      · refine sr <| tv (beq rfl rfl) rfl <| ta rfl <| nz <| cD rfl hp (fun hc43 hp => ?_) fun hc43 hp => ?_
        · refine TC.seq fun K44 k45 => ch mix [bx b14 50 [.int .i64 a11.op, .int .i64 a11.dst, v12, .int .i64 a11.imm, .int .i64 a11.fn]] (srcG 0 rfl srcG0) <| hv 0 rfl mv (by kernel_rfl) rfl <| hv 1 rfl (fa f50_2 rfl) (by kernel_rfl) rfl <| hv 2 rfl (lbG s38 0 rfl rfl rfl) (by kernel_rfl) rfl <| hi 3 rfl u38 i3 h13 hp rfl rfl rfl (by kernel_rfl) rfl ?_
          rintro x8030 b8031 o8032 _ hp rfl h8035
          refine hv 4 rfl (lr s3 srcInH h8035 0 rfl rfl) (by kernel_rfl) rfl <| hv 5 rfl (fa f50_1 rfl) (by kernel_rfl) rfl <| hv 6 rfl (lbG s3 0 rfl rfl rfl) (by kernel_rfl) rfl <| ho 7 rfl (by kernel_rfl) fun K47 k48 => tbs [(0, .int .i64 x8030), (1, .int .i64 a11.dst)] [.int .i64 x8030, .int .i64 a11.dst] u38 i3 (by kernel_rfl) rfl rfl rfl rfl fun b9630 => hk k48 (srcG 1 rfl srcG0) <| ho 8 rfl (by kernel_rfl) fun K49 k50 => tf 1 0 [_,_,_] rfl <| TL.litOwn (n := 2) (xs := [x8030, a11.dst]) (RepL.to (RepL.cons (k := (kInt .i64)) (x := x8030) ⟨rfl, rfl⟩ (RepL.cons (k := (kInt .i64)) (x := a11.dst) ⟨rfl, rfl⟩ RepL.nil)) rfl) rfl rfl (ltb rfl) fun F10030 h10031 => bE hp fun x10032 hy51 hp => tc 0 [_,_] rfl c97 (fun _ => check_looker_are_ok (a2 := a2) (a11 := 2) (a12 := [x8030, a11.dst]) (h4.mono subH) (h6.mono subH) (h8.mono subH) (h10.mono subH) (h10031.ro.mono (subB 0 rfl)) hy51) rfl ?_
          rintro _ _ ⟨rfl, rfl⟩
          exact hk k50 (srcG 1 rfl srcG0) <| hv 9 rfl sg (by kernel_rfl) rfl <| hz (by kernel_rfl) <| tg k45 <| TC.ret <| rt hp [] ⟨rfl, rfl⟩
        · refine TC.seq fun K53 k54 => ?_
          have J56 {x10830 e55} (hp : check_looker_fits.jn56 a2 a11 x10830 = some r) : ∀ w, St E H [bx b14 50 [.int .i64 a11.op, .int .i64 a11.dst, v12, .int .i64 a11.imm, .int .i64 a11.fn]] w → K53 (ovr e55 [(0, .pointer (some ⟨b1, o3, none⟩)), (3, .pointer (some ⟨b14, 0, none⟩)), (6, .int .i64 a11.op), (72, .bool x10830)]) w := by
           refine tg k54 <| cB rfl hp (fun hc57 hp => ?_) fun hc57 hp => ?_
           · refine sr <| tm rfl <| tv (fa f50_2 rfl) rfl <| tv (lb s38 0 rfl rfl rfl) rfl <| bE hp fun x10831 hy58 hp => tc 0 [_] rfl c97 (fun _ => check_looker_are_ok (a2 := a2) (a11 := 1) (a12 := a11.args) (h4.mono subH) (h6.mono subH) (h8.mono subH) (h10.mono subH) (h13.mono subH) hy58) rfl ?_
             rintro _ _ ⟨rfl, rfl⟩
             exact ta rfl <| nz <| TC.ret <| rt hp [] ⟨rfl, rfl⟩
           · refine sr <| tv (beq rfl rfl) rfl <| ta rfl <| nz <| cD rfl hp (fun hc60 hp => ?_) fun hc60 hp => ?_
             · refine sr <| tm rfl <| tv (lA (ds := [.int .i64 a11.op, .int .i64 a11.dst, v12, .int .i64 a11.imm, .int .i64 a11.fn]) ag_50 0 rfl rfl rfl rfl) rfl <| bE hp fun x10832 hy61 hp => tc 0 [_] rfl c112 (fun _ => check_looker_call_ok (a2 := a2) (a11 := a11) (h4.mono subH) (h6.mono subH) (h8.mono subH) (h10.mono subH) (h13.mono subH) hy61) rfl ?_
               rintro _ _ ⟨rfl, rfl⟩
               exact ta rfl <| nz <| TC.ret <| rt hp [] ⟨rfl, rfl⟩
             · refine sk k2 rfl <| sr <| tm rfl <| tv (fa f50_2 rfl) rfl <| tv (lb s38 0 rfl rfl rfl) rfl <| bE hp fun x10833 hy63 hp => tc 0 [_] rfl c97 (fun _ => check_looker_are_ok (a2 := a2) (a11 := 1) (a12 := a11.args) (h4.mono subH) (h6.mono subH) (h8.mono subH) (h10.mono subH) (h13.mono subH) hy63) rfl ?_
               rintro _ _ ⟨rfl, rfl⟩
               refine tm rfl <| bE hp fun t10834 ht70 hp => TL.cut 6 fun K65 k66 => ?_
               have J67 {e69} : ∀ w, St E H [bx b14 50 [.int .i64 a11.op, .int .i64 a11.dst, v12, .int .i64 a11.imm, .int .i64 a11.fn]] w → K65 (ovr e69 [(94, .bool t10834)]) w := by
                exact tlg k66 <| ta rfl <| nz <| TC.ret <| rt hp [] ⟨rfl, rfl⟩
               refine ifE ht70 (fun hc68 hp => ?_) fun hc68 hp => ?_
               · refine gy rfl (bbT hc68) <| tm rfl <| gy rfl (bbT hc68) <| tv (fa f50_1 rfl) rfl <| gy rfl (bbT hc68) <| tv (lb s3 0 rfl rfl rfl) rfl <| gy rfl (bbT hc68) <| tbs [(0, .int .i64 a11.dst)] [.int .i64 a11.dst] u38 i3 (by kernel_rfl) rfl rfl rfl rfl fun b10835 => gy rfl (bbT hc68) <| tf 1 0 [_,_,_] rfl <| TL.litOwn (n := 1) (xs := [a11.dst]) (RepL.to (RepL.cons (k := (kInt .i64)) (x := a11.dst) ⟨rfl, rfl⟩ RepL.nil) rfl) rfl rfl (ltb rfl) fun F10836 h10837 => bE hp fun x10838 hy71 hp => tc 0 [_,_] rfl c97 (fun _ => check_looker_are_ok (a2 := a2) (a11 := 1) (a12 := [a11.dst]) (h4.mono subH) (h6.mono subH) (h8.mono subH) (h10.mono subH) (h10837.ro.mono (subB 0 rfl)) hy71) rfl ?_
                 rintro _ _ ⟨rfl, rfl⟩
                 refine tv (pT (bbT hc68)) rfl <| tp [1] [_] rfl rfl ?_
                 obtain rfl := Option.some.inj hp
                 exact nj J67 rfl
               · refine gn rfl (bbF hc68) rfl rfl <| gn rfl (bbF hc68) rfl rfl <| gn rfl (bbF hc68) rfl rfl <| gn rfl (bbF hc68) rfl rfl <| gn rfl (bbF hc68) rfl rfl <| tv (pF (bbF hc68)) rfl ?_
                 obtain rfl := Option.some.inj hp
                 exact nj J67 rfl
          refine sr <| tv (beq rfl rfl) rfl <| ta rfl <| nz <| cD rfl hp (fun hc73 hp => ?_) fun hc73 hp => ?_
          · exact TC.skip <| jn [0] (J56 hp)
          · exact TC.region <| tv (beq rfl rfl) rfl <| ta rfl <| nl <| jn [0] (J56 hp)
     refine sr <| tv (beq rfl rfl) rfl <| ta rfl <| nz <| cD rfl hp (fun hc74 hp => ?_) fun hc74 hp => ?_
     · exact TC.skip <| jn [0] (J31 hp)
     · exact TC.region <| tv (beq rfl rfl) rfl <| ta rfl <| nl <| jn [0] (J31 hp)

/-! ### (*fettle/check.looker).instr -/
abbrev check_looker_instr.R (r : GErr) (v : Value) (A : List FP) : Prop := ∃ (w1 : Value) (G1 : FP), w1 = v ∧ A = [G1] ∧ ErO 73 60 65 r w1 G1
def check_looker_instr (a2 : PLooker) (a11 : PInstr) : Option GErr :=
  (check_looker_arity a2 a11).bind fun x15 =>
  if ¬ x15.2.2 = GErr.no then
    some x15.2.2
  else
    if ¬ (len a11.args) = x15.1 then
      some (GErr.code 6)
    else
      (check_looker_has a2 a11.args).bind fun x20 =>
      (if (!x20) = true then some true else (if ¬ (x15.2.1 = 0) then (check_looker_has a2 ([a11.dst])).bind fun x31 =>
      some (!x31) else some false).bind fun t27 =>
      some t27).bind fun t21 =>
      if t21 = true then
        some (GErr.code 4)
      else
        (if ((x15.2.1 = 0 ∧ (¬ a11.dst = -1)) ∨ ((¬ a11.op = 1) ∧ (¬ a11.imm = 0))) ∨ ((¬ a11.op = 17) ∧ (¬ a11.fn = 0)) then some true else (check_looker_fits a2 a11).bind fun x26 =>
        some (!x26)).bind fun t23 =>
        if t23 = true then
          some (GErr.code 3)
        else
          some GErr.no
set_option maxHeartbeats 4000000 in
theorem check_looker_instr_ok {E : World} {H : FP} {w : World} {a2 : PLooker} {a11 : PInstr} {b1 : Nat} {o3 : Nat} {v5 : Value} {v7 : Value} {v9 : Value} {v12 : Value} {r : GErr} (h4 : CellsIn H b1 o3 [v5, .int .i64 a2.f.params, .int .i64 a2.f.result, v7, v9]) (h6 : SlI kFunc H a2.m.funcs v5) (h8 : SlI (kInt .i64) H a2.f.regs v7) (h10 : SlI kBlock H a2.f.blocks v9) (h13 : SlI (kInt .i64) H a11.args v12) (hp : check_looker_instr a2 a11 = some r) (hst : St E H [] w) :
    Fn Tryz.prog 71 #[.pointer (some ⟨b1, o3, none⟩), .agg #[.int .i64 a11.op, .int .i64 a11.dst, v12, .int .i64 a11.imm, .int .i64 a11.fn]] w fun v w' => ∃ A, check_looker_instr.R r v A ∧ St E H A w' := by
 refine fb 82 [.tmp 4] Tryz.func71 rfl rfl rfl rfl rfl hst <| sr <| tb [.int .i64 a11.op, .int .i64 a11.dst, v12, .int .i64 a11.imm, .int .i64 a11.fn] rfl rfl fun b14 => ta rfl <| nz <| sr <| tm rfl <| tv (lA (ds := [.int .i64 a11.op, .int .i64 a11.dst, v12, .int .i64 a11.imm, .int .i64 a11.fn]) ag_50 0 rfl rfl rfl rfl) rfl <| bE hp fun x15 hy1 hp => tc 0 [_] rfl c98 (fun _ => check_looker_arity_ok (a2 := a2) (a11 := a11) (h4.mono subH) (h6.mono subH) (h8.mono subH) (h10.mono subH) (h13.mono subH) hy1) rfl ?_
 rintro _ _ ⟨v16, F17, rfl, rfl, h18⟩
 refine tm rfl <| tv (xt rfl rfl) rfl <| tv (xt rfl rfl) rfl <| tv (xt rfl rfl) rfl <| ta rfl <| ta rfl <| ta rfl <| nz <| sr <| tm rfl <| tv (beq rfl rfl) rfl <| ta rfl <| nz <| TC.seq fun K3 k4 => TC.block <| sr <| tm rfl <| tv (rv_neqEN ifc_29 h18 rfl) rfl <| ta rfl <| nz <| cD rfl hp (fun hc5 hp => ?_) fun hc5 hp => ?_
 · exact sr <| tm rfl <| ta rfl <| nz <| TC.ret <| rt hp [0] ⟨v16, F17, rfl, rfl, h18⟩
 · refine sr <| tv (fa f50_2 rfl) rfl <| tv (lb s38 1 rfl rfl rfl) rfl <| tv (ln u38 h13 rfl) rfl <| tm rfl <| tv (bne rfl rfl) rfl <| ta rfl <| nz <| cD rfl hp (fun hc6 hp => ?_) fun hc6 hp => ?_
   · exact sr <| tv (mI u73 rfl) rfl <| ta rfl <| nz <| TC.ret <| W.new0 <| rt hp [0] ⟨(.iface 73 (.int .i64 6)), ([] : FP), rfl, rfl, (ErO.mk _ : ErO 73 60 65 (GErr.code 6) (.iface 73 (.int .i64 6)) [])⟩
   · refine sr <| tm rfl <| tv (fa f50_2 rfl) rfl <| tv (lb s38 1 rfl rfl rfl) rfl <| bE hp fun x20 hy7 hp => tc 0 [_,_] rfl c96 (fun _ => check_looker_has_ok (a2 := a2) (a11 := a11.args) (h4.mono subH) (h6.mono subH) (h8.mono subH) (h10.mono subH) (h13.mono subH) hy7) rfl ?_
     rintro _ _ ⟨rfl, rfl⟩
     refine tv (rv_not rfl) rfl <| tm rfl <| bE hp fun t21 ht49 hp => TL.cut 11 fun K9 k10 => ?_
     have J11 {e13} : ∀ w, St E H [F17, bx b14 50 [.int .i64 a11.op, .int .i64 a11.dst, v12, .int .i64 a11.imm, .int .i64 a11.fn]] w → K9 (ovr e13 [(46, .bool t21), (0, .pointer (some ⟨b1, o3, none⟩)), (3, .pointer (some ⟨b14, 0, none⟩)), (8, .bool (decide (x15.2.1 = 0)))]) w := by
      refine tlg k10 <| ta rfl <| nz <| cB rfl hp (fun hc14 hp => ?_) fun hc14 hp => ?_
      · exact sr <| tv (mI u73 rfl) rfl <| ta rfl <| nz <| TC.ret <| W.new0 <| rt hp [0] ⟨(.iface 73 (.int .i64 4)), ([] : FP), rfl, rfl, (ErO.mk _ : ErO 73 60 65 (GErr.code 4) (.iface 73 (.int .i64 4)) [])⟩
      · refine sr <| tm rfl <| tm rfl <| TL.cut 4 fun K15 k16 => ?_
        have J17 {e19} : ∀ w, St E H [F17, bx b14 50 [.int .i64 a11.op, .int .i64 a11.dst, v12, .int .i64 a11.imm, .int .i64 a11.fn]] w → K15 (ovr e19 [(54, .bool (decide (x15.2.1 = 0 ∧ (¬ a11.dst = -1)))), (0, .pointer (some ⟨b1, o3, none⟩)), (3, .pointer (some ⟨b14, 0, none⟩))]) w := by
         refine tlg k16 <| tm rfl <| TL.cut 9 fun K20 k21 => ?_
         have J22 {e24} : ∀ w, St E H [F17, bx b14 50 [.int .i64 a11.op, .int .i64 a11.dst, v12, .int .i64 a11.imm, .int .i64 a11.fn]] w → K20 (ovr e24 [(64, .bool (decide ((x15.2.1 = 0 ∧ (¬ a11.dst = -1)) ∨ ((¬ a11.op = 1) ∧ (¬ a11.imm = 0))))), (0, .pointer (some ⟨b1, o3, none⟩)), (3, .pointer (some ⟨b14, 0, none⟩))]) w := by
          refine tlg k21 <| tm rfl <| TL.cut 9 fun K25 k26 => ?_
          have J27 {e29} : ∀ w, St E H [F17, bx b14 50 [.int .i64 a11.op, .int .i64 a11.dst, v12, .int .i64 a11.imm, .int .i64 a11.fn]] w → K25 (ovr e29 [(74, .bool (decide (((x15.2.1 = 0 ∧ (¬ a11.dst = -1)) ∨ ((¬ a11.op = 1) ∧ (¬ a11.imm = 0))) ∨ ((¬ a11.op = 17) ∧ (¬ a11.fn = 0))))), (0, .pointer (some ⟨b1, o3, none⟩)), (3, .pointer (some ⟨b14, 0, none⟩))]) w := by
           refine tlg k26 <| tm rfl <| bE hp fun t23 ht36 hp => TL.cut 5 fun K30 k31 => ?_
           have J32 {e34} : ∀ w, St E H [F17, bx b14 50 [.int .i64 a11.op, .int .i64 a11.dst, v12, .int .i64 a11.imm, .int .i64 a11.fn]] w → K30 (ovr e34 [(80, .bool t23)]) w := by
            refine tlg k31 <| ta rfl <| nz <| cB rfl hp (fun hc35 hp => ?_) fun hc35 hp => ?_
            · exact sr <| tv (mI u73 rfl) rfl <| ta rfl <| nz <| TC.ret <| W.new0 <| rt hp [0] ⟨(.iface 73 (.int .i64 3)), ([] : FP), rfl, rfl, (ErO.mk _ : ErO 73 60 65 (GErr.code 3) (.iface 73 (.int .i64 3)) [])⟩
            · exact sk k4 rfl <| sr <| ta rfl <| nz <| TC.ret <| W.new0 <| rt hp [0] ⟨.nilIface, ([] : FP), rfl, rfl, (ErO.nil : ErO 73 60 65 GErr.no .nilIface [])⟩
           refine ifE ht36 (fun hc33 hp => ?_) fun hc33 hp => ?_
           · refine gn rfl (bT hc33) rfl rfl <| gn rfl (bT hc33) rfl rfl <| gn rfl (bT hc33) rfl rfl <| gn rfl (bT hc33) rfl rfl <| tv (pT (bT hc33)) rfl ?_
             obtain rfl := Option.some.inj hp
             exact nj J32 rfl
           · refine gy rfl (bF hc33) <| tm rfl <| gy rfl (bF hc33) <| tv (lA (ds := [.int .i64 a11.op, .int .i64 a11.dst, v12, .int .i64 a11.imm, .int .i64 a11.fn]) ag_50 1 rfl rfl rfl rfl) rfl <| gy rfl (bF hc33) <| bE hp fun x26 hy37 hp => tc 0 [_,_] rfl c99 (fun _ => check_looker_fits_ok (a2 := a2) (a11 := a11) (h4.mono subH) (h6.mono subH) (h8.mono subH) (h10.mono subH) (h13.mono subH) hy37) rfl ?_
             rintro _ _ ⟨rfl, rfl⟩
             refine gy rfl (bF hc33) <| tv (rv_not rfl) rfl <| tv (pF (bF hc33)) rfl ?_
             obtain rfl := Option.some.inj hp
             exact nj J32 rfl
          by_cases hc28 : (x15.2.1 = 0 ∧ (¬ a11.dst = -1)) ∨ ((¬ a11.op = 1) ∧ (¬ a11.imm = 0))
          · exact gn rfl (bT hc28) rfl rfl <| gn rfl (bT hc28) rfl rfl <| gn rfl (bT hc28) rfl rfl <| gn rfl (bT hc28) rfl rfl <| gu rfl rfl rfl <| gu rfl rfl rfl <| gu rfl rfl rfl <| gn rfl (bT hc28) rfl rfl <| tv (pT (bT hc28)) rfl <| nj J27 (bOt hc28)
          · refine gy rfl (bF hc28) <| tv (fa f50_0 rfl) rfl <| gy rfl (bF hc28) <| tv (lb s3 1 rfl rfl rfl) rfl <| gy rfl (bF hc28) <| tv (bne rfl rfl) rfl <| gy rfl (bF hc28) <| tm rfl <| TL.cut 4 fun K39 k40 => ?_
            have J41 {e43} : ∀ w, St E H [F17, bx b14 50 [.int .i64 a11.op, .int .i64 a11.dst, v12, .int .i64 a11.imm, .int .i64 a11.fn]] w → K39 (ovr e43 [(73, .bool (decide ((¬ a11.op = 17) ∧ (¬ a11.fn = 0)))), (0, .pointer (some ⟨b1, o3, none⟩)), (3, .pointer (some ⟨b14, 0, none⟩)), (65, .bool (decide ((x15.2.1 = 0 ∧ (¬ a11.dst = -1)) ∨ ((¬ a11.op = 1) ∧ (¬ a11.imm = 0)))))]) w := by
             exact tlg k40 <| tv (pF (bF hc28)) rfl <| nj J27 (bOf hc28)
            by_cases hc42 : ¬ a11.op = 17
            · exact gy rfl (bT hc42) <| tv (fa f50_4 rfl) rfl <| gy rfl (bT hc42) <| tv (lb s3 1 rfl rfl rfl) rfl <| gy rfl (bT hc42) <| tv (bne rfl rfl) rfl <| gy rfl (bF hc28) <| tv (pT (bT hc42)) rfl <| nj J41 (bAt hc42)
            · exact gn rfl (bF hc42) rfl rfl <| gn rfl (bF hc42) rfl rfl <| gn rfl (bF hc42) rfl rfl <| gy rfl (bF hc28) <| tv (pF (bF hc42)) rfl <| nj J41 (bAf hc42)
         by_cases hc23 : x15.2.1 = 0 ∧ (¬ a11.dst = -1)
         · exact gn rfl (bT hc23) rfl rfl <| gn rfl (bT hc23) rfl rfl <| gn rfl (bT hc23) rfl rfl <| gn rfl (bT hc23) rfl rfl <| gu rfl rfl rfl <| gu rfl rfl rfl <| gu rfl rfl rfl <| gn rfl (bT hc23) rfl rfl <| tv (pT (bT hc23)) rfl <| nj J22 (bOt hc23)
         · refine gy rfl (bF hc23) <| tv (fa f50_0 rfl) rfl <| gy rfl (bF hc23) <| tv (lb s3 1 rfl rfl rfl) rfl <| gy rfl (bF hc23) <| tv (bne rfl rfl) rfl <| gy rfl (bF hc23) <| tm rfl <| TL.cut 4 fun K44 k45 => ?_
           have J46 {e48} : ∀ w, St E H [F17, bx b14 50 [.int .i64 a11.op, .int .i64 a11.dst, v12, .int .i64 a11.imm, .int .i64 a11.fn]] w → K44 (ovr e48 [(63, .bool (decide ((¬ a11.op = 1) ∧ (¬ a11.imm = 0)))), (0, .pointer (some ⟨b1, o3, none⟩)), (3, .pointer (some ⟨b14, 0, none⟩)), (55, .bool (decide (x15.2.1 = 0 ∧ (¬ a11.dst = -1))))]) w := by
            exact tlg k45 <| tv (pF (bF hc23)) rfl <| nj J22 (bOf hc23)
           by_cases hc47 : ¬ a11.op = 1
           · exact gy rfl (bT hc47) <| tv (fa f50_3 rfl) rfl <| gy rfl (bT hc47) <| tv (lb s2 1 rfl rfl rfl) rfl <| gy rfl (bT hc47) <| tv (bne rfl rfl) rfl <| gy rfl (bF hc23) <| tv (pT (bT hc47)) rfl <| nj J46 (bAt hc47)
           · exact gn rfl (bF hc47) rfl rfl <| gn rfl (bF hc47) rfl rfl <| gn rfl (bF hc47) rfl rfl <| gy rfl (bF hc23) <| tv (pF (bF hc47)) rfl <| nj J46 (bAf hc47)
        by_cases hc18 : x15.2.1 = 0
        · exact gy rfl (bT hc18) <| tv (fa f50_1 rfl) rfl <| gy rfl (bT hc18) <| tv (lb s3 1 rfl rfl rfl) rfl <| gy rfl (bT hc18) <| tv (bne rfl rfl) rfl <| tv (pT (bT hc18)) rfl <| nj J17 (bAt hc18)
        · exact gn rfl (bF hc18) rfl rfl <| gn rfl (bF hc18) rfl rfl <| gn rfl (bF hc18) rfl rfl <| tv (pF (bF hc18)) rfl <| nj J17 (bAf hc18)
     refine ifE ht49 (fun hc12 hp => ?_) fun hc12 hp => ?_
     · refine gn rfl (bbT hc12) rfl rfl <| gn rfl (bbT hc12) rfl rfl <| gn rfl (bbT hc12) rfl rfl <| gu rfl rfl rfl <| gu rfl rfl rfl <| gu rfl rfl rfl <| gu rfl rfl rfl <| gu rfl rfl rfl <| gu rfl rfl rfl <| gn rfl (bbT hc12) rfl rfl <| tv (pT (bbT hc12)) rfl ?_
       obtain rfl := Option.some.inj hp
       exact nj J11 rfl
     · refine gy rfl (bbF hc12) <| tm rfl <| gy rfl (bbF hc12) <| tv (rv_notD (p := x15.2.1 = 0) rfl) rfl <| gy rfl (bbF hc12) <| tm rfl <| bE hp fun t27 ht55 hp => TL.cut 7 fun K50 k51 => ?_
       have J52 {e54} : ∀ w, St E H [F17, bx b14 50 [.int .i64 a11.op, .int .i64 a11.dst, v12, .int .i64 a11.imm, .int .i64 a11.fn]] w → K50 (ovr e54 [(45, .bool t27), (0, .pointer (some ⟨b1, o3, none⟩)), (3, .pointer (some ⟨b14, 0, none⟩)), (8, .bool (decide (x15.2.1 = 0))), (35, .bool (!x20))]) w := by
        refine tlg k51 <| tv (pF (bbF hc12)) rfl ?_
        obtain rfl := Option.some.inj hp
        exact nj J11 rfl
       refine ifE ht55 (fun hc53 hp => ?_) fun hc53 hp => ?_
       · refine gy rfl (bT hc53) <| tm rfl <| gy rfl (bT hc53) <| tv (fa f50_1 rfl) rfl <| gy rfl (bT hc53) <| tv (lb s3 1 rfl rfl rfl) rfl <| gy rfl (bT hc53) <| tbs [(0, .int .i64 a11.dst)] [.int .i64 a11.dst] u38 i3 (by kernel_rfl) rfl rfl rfl rfl fun b28 => gy rfl (bT hc53) <| tf 1 0 [_,_,_,_] rfl <| TL.litOwn (n := 1) (xs := [a11.dst]) (RepL.to (RepL.cons (k := (kInt .i64)) (x := a11.dst) ⟨rfl, rfl⟩ RepL.nil) rfl) rfl rfl (ltb rfl) fun F29 h30 => bE hp fun x31 hy56 hp => tc 0 [_,_,_] rfl c96 (fun _ => check_looker_has_ok (a2 := a2) (a11 := [a11.dst]) (h4.mono subH) (h6.mono subH) (h8.mono subH) (h10.mono subH) (h30.ro.mono (subB 0 rfl)) hy56) rfl ?_
         rintro _ _ ⟨rfl, rfl⟩
         refine gy rfl (bT hc53) <| tv (rv_not rfl) rfl <| gy rfl (bbF hc12) <| tv (pT (bT hc53)) rfl <| tp [1, 2] [_,_] rfl rfl ?_
         obtain rfl := Option.some.inj hp
         exact nj J52 rfl
       · refine gn rfl (bF hc53) rfl rfl <| gn rfl (bF hc53) rfl rfl <| gn rfl (bF hc53) rfl rfl <| gn rfl (bF hc53) rfl rfl <| gn rfl (bF hc53) rfl rfl <| gn rfl (bF hc53) rfl rfl <| gy rfl (bbF hc12) <| tv (pF (bF hc53)) rfl ?_
         obtain rfl := Option.some.inj hp
         exact nj J52 rfl

/-! ### (*fettle/check.looker).end -/
abbrev check_looker_end.R (r : GErr) (v : Value) (A : List FP) : Prop := ∃ (w1 : Value) (G1 : FP), w1 = v ∧ A = [G1] ∧ ErO 73 60 65 r w1 G1
def check_looker_end.jn15 (a2 : PLooker) (a11 : PTerm) (x17 : Int) : Option GErr :=
  (check_looker_has a2 ([a11.arg])).bind fun x21 =>
  if (!x21) = true then
    some (GErr.code 4)
  else
    (check_looker_are a2 x17 ([a11.arg])).bind fun x26 =>
    if (!x26) = true then
      some (GErr.code 3)
    else
      some GErr.no
def check_looker_end (a2 : PLooker) (a11 : PTerm) : Option GErr :=
  if a11.kind = 1 ∨ (a11.kind = 3 ∧ a2.f.result = 0) then
    if ¬ a11.arg = -1 then
      some (GErr.code 3)
    else
      some GErr.no
  else
    if a11.kind = 3 then
      check_looker_end.jn15 a2 a11 a2.f.result
    else
      check_looker_end.jn15 a2 a11 2
set_option maxHeartbeats 4000000 in
theorem check_looker_end_ok {E : World} {H : FP} {w : World} {a2 : PLooker} {a11 : PTerm} {b1 : Nat} {o3 : Nat} {v5 : Value} {v7 : Value} {v9 : Value} {v12 : Value} {r : GErr} (h4 : CellsIn H b1 o3 [v5, .int .i64 a2.f.params, .int .i64 a2.f.result, v7, v9]) (h6 : SlI kFunc H a2.m.funcs v5) (h8 : SlI (kInt .i64) H a2.f.regs v7) (h10 : SlI kBlock H a2.f.blocks v9) (h13 : SlI (kInt .i64) H a11.to v12) (hp : check_looker_end a2 a11 = some r) (hst : St E H [] w) :
    Fn Tryz.prog 72 #[.pointer (some ⟨b1, o3, none⟩), .agg #[.int .i64 a11.kind, .int .i64 a11.arg, v12]] w fun v w' => ∃ A, check_looker_end.R r v A ∧ St E H A w' := by
 refine fb 51 [.tmp 4] Tryz.func72 rfl rfl rfl rfl rfl hst <| sr <| tb [.int .i64 a11.kind, .int .i64 a11.arg, v12] rfl rfl fun b14 => ta rfl <| nz <| TC.seq fun K1 k2 => sr <| tv (fa f40_0 rfl) rfl <| tv (lb s3 0 rfl rfl rfl) rfl <| tv (beq rfl rfl) rfl <| tm rfl <| TL.cut 12 fun K3 k4 => ?_
 have J5 {e7} : ∀ w, St E H [bx b14 40 [.int .i64 a11.kind, .int .i64 a11.arg, v12]] w → K3 (ovr e7 [(21, .bool (decide (a11.kind = 1 ∨ (a11.kind = 3 ∧ a2.f.result = 0)))), (0, .pointer (some ⟨b1, o3, none⟩)), (3, .pointer (some ⟨b14, 0, none⟩))]) w := by
  refine tlg k4 <| nz <| cD rfl hp (fun hc8 hp => ?_) fun hc8 hp => ?_
  · refine TC.seq fun K9 k10 => sr <| tv (fa f40_1 rfl) rfl <| tv (lb s3 0 rfl rfl rfl) rfl <| tv (bne rfl rfl) rfl <| nz <| cD rfl hp (fun hc11 hp => ?_) fun hc11 hp => ?_
    · exact sr <| tv (mI u73 rfl) rfl <| ta rfl <| nz <| TC.ret <| W.new0 <| rt hp [0] ⟨(.iface 73 (.int .i64 3)), ([] : FP), rfl, rfl, (ErO.mk _ : ErO 73 60 65 (GErr.code 3) (.iface 73 (.int .i64 3)) [])⟩
    · exact sk k10 rfl <| sr <| ta rfl <| nz <| TC.ret <| W.new0 <| rt hp [0] ⟨.nilIface, ([] : FP), rfl, rfl, (ErO.nil : ErO 73 60 65 GErr.no .nilIface [])⟩
  · refine sk k2 rfl <| sr <| ta rfl <| nz <| TC.seq fun K12 k13 => ?_
    have J15 {x17 e14} (hp : check_looker_end.jn15 a2 a11 x17 = some r) : ∀ w, St E H [bx b14 40 [.int .i64 a11.kind, .int .i64 a11.arg, v12]] w → K12 (ovr e14 [(0, .pointer (some ⟨b1, o3, none⟩)), (3, .pointer (some ⟨b14, 0, none⟩)), (5, .int .i64 x17)]) w := by
     refine tg k13 <| TC.seq fun K16 k17 => TC.block <| sr <| tm rfl <| tv (fa f40_1 rfl) rfl <| tv (lb s3 0 rfl rfl rfl) rfl <| tbs [(0, .int .i64 a11.arg)] [.int .i64 a11.arg] u38 i3 (by kernel_rfl) rfl rfl rfl rfl fun b18 => tf 1 0 [_,_,_] rfl <| TL.litOwn (n := 1) (xs := [a11.arg]) (RepL.to (RepL.cons (k := (kInt .i64)) (x := a11.arg) ⟨rfl, rfl⟩ RepL.nil) rfl) rfl rfl (ltb rfl) fun F19 h20 => bE hp fun x21 hy18 hp => tc 0 [_,_] rfl c96 (fun _ => check_looker_has_ok (a2 := a2) (a11 := [a11.arg]) (h4.mono subH) (h6.mono subH) (h8.mono subH) (h10.mono subH) (h20.ro.mono (subB 0 rfl)) hy18) rfl ?_
     rintro _ _ ⟨rfl, rfl⟩
     refine tv (rv_not rfl) rfl <| ta rfl <| nz <| cB rfl hp (fun hc20 hp => ?_) fun hc20 hp => ?_
     · exact sr <| tv (mI u73 rfl) rfl <| ta rfl <| nz <| TC.ret <| W.new0 <| rt hp [0] ⟨(.iface 73 (.int .i64 4)), ([] : FP), rfl, rfl, (ErO.mk _ : ErO 73 60 65 (GErr.code 4) (.iface 73 (.int .i64 4)) [])⟩
     · refine sr <| tm rfl <| tm rfl <| tv (fa f40_1 rfl) rfl <| tv (lb s3 1 rfl rfl rfl) rfl <| tbs [(0, .int .i64 a11.arg)] [.int .i64 a11.arg] u38 i3 (by kernel_rfl) rfl rfl rfl rfl fun b23 => tf 1 0 [_,_,_,_] rfl <| TL.litOwn (n := 1) (xs := [a11.arg]) (RepL.to (RepL.cons (k := (kInt .i64)) (x := a11.arg) ⟨rfl, rfl⟩ RepL.nil) rfl) rfl rfl (ltb rfl) fun F24 h25 => bE hp fun x26 hy21 hp => tc 0 [_,_,_] rfl c97 (fun _ => check_looker_are_ok (a2 := a2) (a11 := x17) (a12 := [a11.arg]) (h4.mono subH) (h6.mono subH) (h8.mono subH) (h10.mono subH) (h25.ro.mono (subB 0 rfl)) hy21) rfl ?_
       rintro _ _ ⟨rfl, rfl⟩
       refine tv (rv_not rfl) rfl <| ta rfl <| nz <| cB rfl hp (fun hc23 hp => ?_) fun hc23 hp => ?_
       · exact sr <| tv (mI u73 rfl) rfl <| ta rfl <| nz <| TC.ret <| W.new0 <| rt hp [0] ⟨(.iface 73 (.int .i64 3)), ([] : FP), rfl, rfl, (ErO.mk _ : ErO 73 60 65 (GErr.code 3) (.iface 73 (.int .i64 3)) [])⟩
       · exact sk k17 rfl <| sr <| ta rfl <| nz <| TC.ret <| W.new0 <| rt hp [0] ⟨.nilIface, ([] : FP), rfl, rfl, (ErO.nil : ErO 73 60 65 GErr.no .nilIface [])⟩
    refine sr <| tv (fa f40_0 rfl) rfl <| tv (lb s3 0 rfl rfl rfl) rfl <| tv (beq rfl rfl) rfl <| nz <| cD rfl hp (fun hc24 hp => ?_) fun hc24 hp => ?_
    · exact TC.region <| tm rfl <| tv (rv_nilCheck rfl) rfl <| tv (fa f104_1 rfl) rfl <| tv (fa f47_1 rfl) rfl <| tv (lr s3 sH h4 2 rfl rfl) rfl <| ta rfl <| nl <| jn [0] (J15 hp)
    · exact TC.skip <| jn [0] (J15 hp)
 by_cases hc6 : a11.kind = 1
 · exact gn rfl (bT hc6) rfl rfl <| gn rfl (bT hc6) rfl rfl <| gn rfl (bT hc6) rfl rfl <| gn rfl (bT hc6) rfl rfl <| gu rfl rfl rfl <| gu rfl rfl rfl <| gu rfl rfl rfl <| gu rfl rfl rfl <| gu rfl rfl rfl <| gu rfl rfl rfl <| gn rfl (bT hc6) rfl rfl <| tv (pT (bT hc6)) rfl <| nj J5 (bOt hc6)
 · refine gy rfl (bF hc6) <| tv (fa f40_0 rfl) rfl <| gy rfl (bF hc6) <| tv (lb s3 0 rfl rfl rfl) rfl <| gy rfl (bF hc6) <| tv (beq rfl rfl) rfl <| gy rfl (bF hc6) <| tm rfl <| TL.cut 7 fun K25 k26 => ?_
   have J27 {e29} : ∀ w, St E H [bx b14 40 [.int .i64 a11.kind, .int .i64 a11.arg, v12]] w → K25 (ovr e29 [(20, .bool (decide (a11.kind = 3 ∧ a2.f.result = 0))), (0, .pointer (some ⟨b1, o3, none⟩)), (3, .pointer (some ⟨b14, 0, none⟩)), (9, .bool (decide (a11.kind = 1)))]) w := by
    exact tlg k26 <| tv (pF (bF hc6)) rfl <| nj J5 (bOf hc6)
   by_cases hc28 : a11.kind = 3
   · exact gy rfl (bT hc28) <| tm rfl <| gy rfl (bT hc28) <| tv (rv_nilCheck rfl) rfl <| gy rfl (bT hc28) <| tv (fa f104_1 rfl) rfl <| gy rfl (bT hc28) <| tv (fa f47_1 rfl) rfl <| gy rfl (bT hc28) <| tv (lr s3 sH h4 2 rfl rfl) rfl <| gy rfl (bT hc28) <| tv (beq rfl rfl) rfl <| gy rfl (bF hc6) <| tv (pT (bT hc28)) rfl <| nj J27 (bAt hc28)
   · exact gn rfl (bF hc28) rfl rfl <| gn rfl (bF hc28) rfl rfl <| gn rfl (bF hc28) rfl rfl <| gn rfl (bF hc28) rfl rfl <| gn rfl (bF hc28) rfl rfl <| gn rfl (bF hc28) rfl rfl <| gy rfl (bF hc6) <| tv (pF (bF hc28)) rfl <| nj J27 (bAf hc28)

/-! ### (*fettle/check.looker).block -/
abbrev check_looker_block.R (r : GErr) (v : Value) (A : List FP) : Prop := ∃ (w1 : Value) (G1 : FP), w1 = v ∧ A = [G1] ∧ ErO 73 60 65 r w1 G1
def check_looker_block.nx17 (a2 : PLooker) (a11 : PBlock) : Option GErr :=
  (check_looker_end a2 a11.term).bind fun x21 =>
  some x21
def check_looker_block.bd17 (a2 : PLooker) (a11 : PBlock) (x20 : Int) : Option (Ex (Ex GErr Unit) Int) :=
  if x20 < (len a11.ins) then
    (idx a11.ins x20).bind fun x25 =>
    (check_looker_instr a2 x25).bind fun x34 =>
    if ¬ x34 = GErr.no then
      some (.ret (.ret x34))
    else
      some (.go (w64 (x20 + 1)))
  else
    some (.ret (.go ()))
def check_looker_block.nx8 (a2 : PLooker) (a11 : PBlock) : Option GErr :=
  (whl (fun (s : Int) => check_looker_block.bd17 a2 a11 s) FUEL 0).bind fun z =>
  match z with
    | .ret r => some r
    | .go p => check_looker_block.nx17 a2 a11
def check_looker_block.bd8 (a2 : PLooker) (a11 : PBlock) (x19 : Int) : Option (Ex (Ex GErr Unit) Int) :=
  if x19 < (len a11.phis) then
    (idx a11.phis x19).bind fun x38 =>
    (check_looker_phi a2 x38).bind fun x47 =>
    if ¬ x47 = GErr.no then
      some (.ret (.ret x47))
    else
      some (.go (w64 (x19 + 1)))
  else
    some (.ret (.go ()))
def check_looker_block (a2 : PLooker) (a11 : PBlock) : Option GErr :=
  (whl (fun (s : Int) => check_looker_block.bd8 a2 a11 s) FUEL 0).bind fun z =>
  match z with
    | .ret r => some r
    | .go p => check_looker_block.nx8 a2 a11
set_option maxHeartbeats 4000000 in
theorem check_looker_block_ok {E : World} {H : FP} {w : World} {a2 : PLooker} {a11 : PBlock} {b1 : Nat} {o3 : Nat} {v5 : Value} {v7 : Value} {v9 : Value} {v12 : Value} {v14 : Value} {v16 : Value} {r : GErr} (h4 : CellsIn H b1 o3 [v5, .int .i64 a2.f.params, .int .i64 a2.f.result, v7, v9]) (h6 : SlI kFunc H a2.m.funcs v5) (h8 : SlI (kInt .i64) H a2.f.regs v7) (h10 : SlI kBlock H a2.f.blocks v9) (h13 : SlI kPhi H a11.phis v12) (h15 : SlI kInstr H a11.ins v14) (h17 : SlI (kInt .i64) H a11.term.to v16) (hp : check_looker_block a2 a11 = some r) (hst : St E H [] w) :
    Fn Tryz.prog 51 #[.pointer (some ⟨b1, o3, none⟩), .agg #[v12, v14, .int .i64 a11.term.kind, .int .i64 a11.term.arg, v16]] w fun v w' => ∃ A, check_looker_block.R r v A ∧ St E H A w' := by
 refine fb 43 [.tmp 4] Tryz.func51 rfl rfl rfl rfl rfl hst <| sr <| tb [v12, v14, .int .i64 a11.term.kind, .int .i64 a11.term.arg, v16] rfl rfl fun b18 => ta rfl <| nz <| TC.seq fun K1 k2 => sr <| tv (fa f44_0 rfl) rfl <| tv (lb s41 0 rfl rfl rfl) rfl <| tv (ln u41 h13 rfl) rfl <| tm rfl <| nz <| TC.block <| bE hp fun z_4 hz5 hr6 => ?_
 have J34 {e9} (hq35 : .go () = z_4) : ∀ w, St E H [bx b18 44 [v12, v14, .int .i64 a11.term.kind, .int .i64 a11.term.arg, v16]] w → K1 (ovr e9 [(0, .pointer (some ⟨b1, o3, none⟩)), (3, .pointer (some ⟨b18, 0, none⟩))]) w := by
  subst hq35
  replace hp : check_looker_block.nx8 a2 a11 = some r := hr6
  refine tg k2 <| TC.seq fun K10 k11 => sr <| tv (fa f44_1 rfl) rfl <| tv (lb s42 0 rfl rfl rfl) rfl <| tv (ln u42 h15 rfl) rfl <| tm rfl <| nz <| TC.block <| bE hp fun z_13 hz14 hr15 => ?_
  have J21 {e18} (hq22 : .go () = z_13) : ∀ w, St E H [bx b18 44 [v12, v14, .int .i64 a11.term.kind, .int .i64 a11.term.arg, v16]] w → K10 (ovr e18 [(0, .pointer (some ⟨b1, o3, none⟩)), (3, .pointer (some ⟨b18, 0, none⟩))]) w := by
   subst hq22
   replace hp : check_looker_block.nx17 a2 a11 = some r := hr15
   refine tg k11 <| sr <| tm rfl <| tv (fa f44_2 rfl) rfl <| tv (lA (ds := [.int .i64 a11.term.kind, .int .i64 a11.term.arg, v16]) ag_40 0 rfl rfl rfl rfl) rfl <| bE hp fun x21 hy19 hp => tc 0 [_] rfl c72 (fun _ => check_looker_end_ok (a2 := a2) (a11 := a11.term) (h4.mono subH) (h6.mono subH) (h8.mono subH) (h10.mono subH) (h17.mono subH) hy19) rfl ?_
   rintro _ _ ⟨v22, F23, rfl, rfl, h24⟩
   exact ta rfl <| nz <| TC.ret <| rt hp [0] ⟨v22, F23, rfl, rfl, h24⟩
  refine lp hz14 [0] rfl (fun s e L => ∃ e12, e = ovr e12 [(0, .pointer (some ⟨b1, o3, none⟩)), (3, .pointer (some ⟨b18, 0, none⟩)), (26, v14), (27, .int .i64 (len a11.ins)), (28, .int .i64 s)] ∧ L = [bx b18 44 [v12, v14, .int .i64 a11.term.kind, .int .i64 a11.term.arg, v16]]) ⟨_, ovr_eq _ _ rfl, rfl⟩ ?_
  rintro x20 _ _ ⟨e12, rfl, rfl⟩ X16 hp hx17
  replace hp : check_looker_block.bd17 a2 a11 x20 = some X16 := hp
  refine sr <| tv (blt rfl rfl) rfl <| nz <| TC.seq fun K23 k24 => cD rfl hp (fun hc25 hp => ?_) fun hc25 hp => ?_
  · refine sk k24 rfl <| TC.seq fun K26 k27 => TC.block <| sr <| ti u42 i50 h15 hp rfl rfl rfl rfl ?_
    rintro x25 b26 o27 _ hp ⟨v31, rfl, h32⟩ h30
    refine tv (lR (ds := [.int .i64 x25.op, .int .i64 x25.dst, v31, .int .i64 x25.imm, .int .i64 x25.fn]) ag_50 sH h30 0 rfl rfl rfl) rfl <| tl i50 rfl fun b33 => tS 0 m50 rfl rfl [.int .i64 x25.op, .int .i64 x25.dst, v31, .int .i64 x25.imm, .int .i64 x25.fn] rfl (oc rfl (oc rfl (oc (h32).one (oc rfl (oc rfl oc0))))) rfl rfl <| nz <| sr <| tm rfl <| tv (lA (ds := [.int .i64 x25.op, .int .i64 x25.dst, v31, .int .i64 x25.imm, .int .i64 x25.fn]) ag_50 0 rfl rfl rfl rfl) rfl <| bE hp fun x34 hy29 hp => tc 0 [_,_] rfl c71 (fun _ => check_looker_instr_ok (a2 := a2) (a11 := x25) (h4.mono subH) (h6.mono subH) (h8.mono subH) (h10.mono subH) (h32.mono subH) hy29) rfl ?_
    rintro _ _ ⟨v35, F36, rfl, rfl, h37⟩
    refine ta rfl <| nz <| sr <| tm rfl <| tv (rv_neqEN ifc_29 h37 rfl) rfl <| nz <| cD rfl hp (fun hc31 hp => ?_) fun hc31 hp => ?_
    · refine sr <| tm rfl <| ta rfl <| nz <| TC.ret ?_
      obtain rfl := ex_ret hp hx17
      exact rt hr15 [0] ⟨v35, F36, rfl, rfl, h37⟩
    · exact sk k27 rfl <| TC.region <| tv (bad rfl rfl) rfl <| tm rfl <| nl <| gk hp [2] ⟨_, ovr_eq _ _ rfl, rfl⟩
  · exact TC.exit <| jn [0] (J21 (ex_ret hp hx17))
 refine lp hz5 [0] rfl (fun s e L => ∃ e3, e = ovr e3 [(0, .pointer (some ⟨b1, o3, none⟩)), (3, .pointer (some ⟨b18, 0, none⟩)), (12, v12), (13, .int .i64 (len a11.phis)), (14, .int .i64 s)] ∧ L = [bx b18 44 [v12, v14, .int .i64 a11.term.kind, .int .i64 a11.term.arg, v16]]) ⟨_, ovr_eq _ _ rfl, rfl⟩ ?_
 rintro x19 _ _ ⟨e3, rfl, rfl⟩ X7 hp hx8
 replace hp : check_looker_block.bd8 a2 a11 x19 = some X7 := hp
 refine sr <| tv (blt rfl rfl) rfl <| nz <| TC.seq fun K36 k37 => cD rfl hp (fun hc38 hp => ?_) fun hc38 hp => ?_
 · refine sk k37 rfl <| TC.seq fun K39 k40 => TC.block <| sr <| ti u41 i52 h13 hp rfl rfl rfl rfl ?_
   rintro x38 b39 o40 _ hp ⟨v44, rfl, h45⟩ h43
   refine tv (lR (ds := [.int .i64 x38.dst, v44]) ag_52 sH h43 0 rfl rfl rfl) rfl <| tl i52 rfl fun b46 => tS 0 m52 rfl rfl [.int .i64 x38.dst, v44] rfl (oc rfl (oc (h45).one oc0)) rfl rfl <| nz <| sr <| tm rfl <| tv (lA (ds := [.int .i64 x38.dst, v44]) ag_52 0 rfl rfl rfl rfl) rfl <| bE hp fun x47 hy42 hp => tc 0 [_,_] rfl c70 (fun _ => check_looker_phi_ok (a2 := a2) (a11 := x38) (h4.mono subH) (h6.mono subH) (h8.mono subH) (h10.mono subH) (h45.mono subH) hy42) rfl ?_
   rintro _ _ ⟨v48, F49, rfl, rfl, h50⟩
   refine ta rfl <| nz <| sr <| tm rfl <| tv (rv_neqEN ifc_29 h50 rfl) rfl <| nz <| cD rfl hp (fun hc44 hp => ?_) fun hc44 hp => ?_
   · refine sr <| tm rfl <| ta rfl <| nz <| TC.ret ?_
     obtain rfl := ex_ret hp hx8
     exact rt hr6 [0] ⟨v48, F49, rfl, rfl, h50⟩
   · exact sk k40 rfl <| TC.region <| tv (bad rfl rfl) rfl <| tm rfl <| nl <| gk hp [2] ⟨_, ovr_eq _ _ rfl, rfl⟩
 · exact TC.exit <| jn [0] (J34 (ex_ret hp hx8))
end Go.Proofs.YtpomfbdbkejedaaGreatDoor
