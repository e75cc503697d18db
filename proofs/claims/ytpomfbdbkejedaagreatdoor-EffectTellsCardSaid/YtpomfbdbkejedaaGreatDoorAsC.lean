/- errors.As at an error that is an api.Code: false. No conditions. -/
import Derived.Test.YtpomfbdbkejedaaGreatDoorAs
namespace Go.Proofs.YtpomfbdbkejedaaGreatDoor
open Go.RowKit Go.Extern.Stop Go.Stop Go.Extern
theorem As.typeOf38 (v : Value) (w : World) : (ReflectliteType.typeOf #[.iface 73 v]).run Tryz.prog w = .ok (.iface 122 (.agg #[.pointer (some ⟨1, 73, none⟩)])) w := by kernel_rfl
theorem As.assignable38 (w : World) : (ReflectliteType.relation "AssignableTo" ReflectliteType.assignableTo #[.agg #[.pointer (some ⟨1, 73, none⟩)], .iface 122 (.agg #[.pointer (some ⟨1, 60, none⟩)])]).run Tryz.prog w = .ok (.bool false) w := by kernel_rfl
theorem As.no124 (v : Value) (xT : TypeId) (w : World) : (Instr.typeAssert (.iface 73 v) xT 127 true).run Tryz.prog w = .ok (.tuple #[.nilIface, .bool false]) w := run_typeAssert_lacksB Tryz.underlying127 (by kernel_rfl) (by kernel_rfl) v xT w
theorem As.no127 (v : Value) (xT : TypeId) (w : World) : (Instr.typeAssert (.iface 73 v) xT 130 true).run Tryz.prog w = .ok (.tuple #[.nilIface, .bool false]) w := run_typeAssert_lacksB Tryz.underlying130 (by kernel_rfl) (by kernel_rfl) v xT w
theorem As.no129 (v : Value) (xT : TypeId) (w : World) : (Instr.typeAssert (.iface 73 v) xT 132 true).run Tryz.prog w = .ok (.tuple #[.nilIface, .bool false]) w := run_typeAssert_lacksB Tryz.underlying132 (by kernel_rfl) (by kernel_rfl) v xT w
set_option maxRecDepth 100000 in
set_option maxHeartbeats 8000000 in
theorem as_code (c : Int) (t : Addr) (old : Value) (w : World) (hg : w.cell? ⟨0, 0, none⟩ = some (.iface 122 (.agg #[.pointer (some ⟨1, 29, none⟩)]))) (ht0 : w.cell? t = some old) :
    Calls Tryz.prog 18 #[.iface 73 (.int .i64 c), .iface 62 (.pointer (some t))] w fun ev w' => ev = .returned (.bool false) ∧ w' = (((w.alloc (.cells #[.pointer (some t)] 62)).alloc (.cells #[.pointer (some ⟨1, 62, none⟩), .pointer (some ⟨w.heap.size, 0, none⟩), .int .u64 150] 86)).alloc (.cells #[.pointer (some ⟨1, 62, none⟩), .pointer (some ⟨w.heap.size, 0, none⟩), .int .u64 150] 86)) := by
  have h6 := @run_callFunc_extern Tryz.prog 35 _ (fun args => ReflectliteValue.unpack (args.getD 0 (.tuple #[]))) Tryz.func35 (by kernel_rfl) (by kernel_rfl) (by kernel_rfl) (by kernel_rfl)
  have h7 := @run_callFunc_extern Tryz.prog 36 _ (ReflectliteValue.methodAny (ReflectliteValue.valueError "reflectlite.Value.Type" 0) (fun t _ _ _ => ReflectliteType.toType t)) Tryz.func36 (by kernel_rfl) (by kernel_rfl) (by kernel_rfl) (by kernel_rfl)
  have h8 := @run_callFunc_extern Tryz.prog 37 _ (ReflectliteValue.method (ReflectliteValue.valueError "reflectlite.Value.IsNil" 0) ReflectliteValue.isNil) Tryz.func37 (by kernel_rfl) (by kernel_rfl) (by kernel_rfl) (by kernel_rfl)
  have h27 := @run_callFunc_extern Tryz.prog 129 _ (ReflectliteType.abiMethod fun t => do pure (.int .u8 (← Rtype.kind t))) Tryz.func129 (by kernel_rfl) (by kernel_rfl) (by kernel_rfl) (by kernel_rfl)
  have h37 := @run_callFunc_extern Tryz.prog 141 _ (ReflectliteType.method ReflectliteType.elem) Tryz.func141 (by kernel_rfl) (by kernel_rfl) (by kernel_rfl) (by kernel_rfl)
  have h38 := @run_callFunc_extern Tryz.prog 142 _ (ReflectliteType.relation "Implements" ReflectliteType.implements_) Tryz.func142 (by kernel_rfl) (by kernel_rfl) (by kernel_rfl) (by kernel_rfl)
  have h10 := @run_callFunc_extern Tryz.prog 62 _ ReflectliteType.typeOf Tryz.func62 (by kernel_rfl) (by kernel_rfl) (by kernel_rfl) (by kernel_rfl)
  have h35 := @run_callFunc_extern Tryz.prog 139 _ (ReflectliteType.relation "AssignableTo" ReflectliteType.assignableTo) Tryz.func139 (by kernel_rfl) (by kernel_rfl) (by kernel_rfl) (by kernel_rfl)
  have no124 := As.no124
  have no127 := As.no127
  have no129 := As.no129
  have tO := As.typeOf38
  have mA := As.methodAssignableTo
  have a38 := As.assignable38
  have f6 := As.valueOf27
  have f7 := As.type27
  have mK := As.methodKind
  have mE := As.methodElem
  have mI := As.methodImplements
  have k27 := As.kind27
  have k25 := As.kind25
  have e27 := As.elem27
  have i25 := As.implements25
  have n8 := As.isNil27 ⟨w.heap.size, 0, none⟩ t ((w.alloc (.cells #[.pointer (some t)] 62)).alloc (.cells #[.pointer (some ⟨1, 62, none⟩), .pointer (some ⟨w.heap.size, 0, none⟩), .int .u64 150] 86)) (by simp)
  have hlt : 0 < w.heap.size := by
    rcases Nat.eq_zero_or_pos w.heap.size with h0 | h
    · simp [World.cell?, h0] at hg
    · exact h
  have hg2 : ((w.alloc (.cells #[.pointer (some t)] 62)).alloc (.cells #[.pointer (some ⟨1, 62, none⟩), .pointer (some ⟨w.heap.size, 0, none⟩), .int .u64 150] 86)).cell? ⟨0, 0, none⟩ = some (.iface 122 (.agg #[.pointer (some ⟨1, 29, none⟩)])) := by
    rw [World.cell?_alloc_lt _ _ ⟨0, 0, none⟩ (by simp), World.cell?_alloc_lt _ _ ⟨0, 0, none⟩ hlt]; exact hg
  have htl : t.block < w.heap.size := by
    rcases Nat.lt_or_ge t.block w.heap.size with h | h
    · exact h
    · simp [World.cell?, Array.getElem?_eq_none h] at ht0
  have el := As.elemV27 ⟨w.heap.size, 0, none⟩ t (((w.alloc (.cells #[.pointer (some t)] 62)).alloc (.cells #[.pointer (some ⟨1, 62, none⟩), .pointer (some ⟨w.heap.size, 0, none⟩), .int .u64 150] 86)).alloc (.cells #[.pointer (some ⟨1, 62, none⟩), .pointer (some ⟨w.heap.size, 0, none⟩), .int .u64 150] 86)) (by rw [World.cell?_alloc_lt _ _ ⟨w.heap.size, 0, none⟩ (by simp; omega)]; simp)
  go_enter Tryz.func18, Tryz.ntmps18
  go_wp2
  refine wp_loop_rounds 1 ?_
  rw [rounds_succ]
  go_wp2
  go_ret
  exact ⟨rfl, rfl⟩
end Go.Proofs.YtpomfbdbkejedaaGreatDoor
