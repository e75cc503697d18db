/- errors.As at an error that is an api.Code: false. No conditions. -/
import Derived.Test.YteaknconpkklhaaDoorAs
namespace Go.Proofs.YteaknconpkklhaaDoor
open Go.RowKit Go.Extern.Stop Go.Stop Go.Extern
theorem As.typeOf38 (v : Value) (w : World) : (ReflectliteType.typeOf #[.iface 38 v]).run Tryd.prog w = .ok (.iface 119 (.agg #[.pointer (some ⟨1, 38, none⟩)])) w := by kernel_rfl
theorem As.assignable38 (w : World) : (ReflectliteType.relation "AssignableTo" ReflectliteType.assignableTo #[.agg #[.pointer (some ⟨1, 38, none⟩)], .iface 119 (.agg #[.pointer (some ⟨1, 69, none⟩)])]).run Tryd.prog w = .ok (.bool false) w := by kernel_rfl
theorem As.no124 (v : Value) (xT : TypeId) (w : World) : (Instr.typeAssert (.iface 38 v) xT 124 true).run Tryd.prog w = .ok (.tuple #[.nilIface, .bool false]) w := run_typeAssert_lacksB Tryd.underlying124 (by kernel_rfl) (by kernel_rfl) v xT w
theorem As.no127 (v : Value) (xT : TypeId) (w : World) : (Instr.typeAssert (.iface 38 v) xT 127 true).run Tryd.prog w = .ok (.tuple #[.nilIface, .bool false]) w := run_typeAssert_lacksB Tryd.underlying127 (by kernel_rfl) (by kernel_rfl) v xT w
theorem As.no129 (v : Value) (xT : TypeId) (w : World) : (Instr.typeAssert (.iface 38 v) xT 129 true).run Tryd.prog w = .ok (.tuple #[.nilIface, .bool false]) w := run_typeAssert_lacksB Tryd.underlying129 (by kernel_rfl) (by kernel_rfl) v xT w
set_option maxRecDepth 100000 in
set_option maxHeartbeats 8000000 in
theorem as_code (c : Int) (t : Addr) (old : Value) (w : World) (hg : w.cell? ⟨0, 0, none⟩ = some (.iface 119 (.agg #[.pointer (some ⟨1, 29, none⟩)]))) (ht0 : w.cell? t = some old) :
    Calls Tryd.prog 25 #[.iface 38 (.int .i64 c), .iface 71 (.pointer (some t))] w fun ev w' => ev = .returned (.bool false) ∧ w' = (((w.alloc (.cells #[.pointer (some t)] 71)).alloc (.cells #[.pointer (some ⟨1, 71, none⟩), .pointer (some ⟨w.heap.size, 0, none⟩), .int .u64 150] 96)).alloc (.cells #[.pointer (some ⟨1, 71, none⟩), .pointer (some ⟨w.heap.size, 0, none⟩), .int .u64 150] 96)) := by
  have h6 := @run_callFunc_extern Tryd.prog 45 _ (fun args => ReflectliteValue.unpack (args.getD 0 (.tuple #[]))) Tryd.func45 (by kernel_rfl) (by kernel_rfl) (by kernel_rfl) (by kernel_rfl)
  have h7 := @run_callFunc_extern Tryd.prog 46 _ (ReflectliteValue.methodAny (ReflectliteValue.valueError "reflectlite.Value.Type" 0) (fun t _ _ _ => ReflectliteType.toType t)) Tryd.func46 (by kernel_rfl) (by kernel_rfl) (by kernel_rfl) (by kernel_rfl)
  have h8 := @run_callFunc_extern Tryd.prog 47 _ (ReflectliteValue.method (ReflectliteValue.valueError "reflectlite.Value.IsNil" 0) ReflectliteValue.isNil) Tryd.func47 (by kernel_rfl) (by kernel_rfl) (by kernel_rfl) (by kernel_rfl)
  have h27 := @run_callFunc_extern Tryd.prog 108 _ (ReflectliteType.abiMethod fun t => do pure (.int .u8 (← Rtype.kind t))) Tryd.func108 (by kernel_rfl) (by kernel_rfl) (by kernel_rfl) (by kernel_rfl)
  have h37 := @run_callFunc_extern Tryd.prog 120 _ (ReflectliteType.method ReflectliteType.elem) Tryd.func120 (by kernel_rfl) (by kernel_rfl) (by kernel_rfl) (by kernel_rfl)
  have h38 := @run_callFunc_extern Tryd.prog 121 _ (ReflectliteType.relation "Implements" ReflectliteType.implements_) Tryd.func121 (by kernel_rfl) (by kernel_rfl) (by kernel_rfl) (by kernel_rfl)
  have h10 := @run_callFunc_extern Tryd.prog 65 _ ReflectliteType.typeOf Tryd.func65 (by kernel_rfl) (by kernel_rfl) (by kernel_rfl) (by kernel_rfl)
  have h35 := @run_callFunc_extern Tryd.prog 118 _ (ReflectliteType.relation "AssignableTo" ReflectliteType.assignableTo) Tryd.func118 (by kernel_rfl) (by kernel_rfl) (by kernel_rfl) (by kernel_rfl)
  have no124 := As.no124
  have no127 := As.no127
  have no129 := As.no129
  have tO := As.typeOf38
  have mA := As.methodAssignableTo
  have a38 := As.assignable38
  have f6 := As.valueOf27
  have f7 := As.type27
  have mK := As.methodKind
  have mE := As.methodElem
  have mI := As.methodImplements
  have k27 := As.kind27
  have k25 := As.kind25
  have e27 := As.elem27
  have i25 := As.implements25
  have n8 := As.isNil27 ⟨w.heap.size, 0, none⟩ t ((w.alloc (.cells #[.pointer (some t)] 71)).alloc (.cells #[.pointer (some ⟨1, 71, none⟩), .pointer (some ⟨w.heap.size, 0, none⟩), .int .u64 150] 96)) (by simp)
  have hlt : 0 < w.heap.size := by
    rcases Nat.eq_zero_or_pos w.heap.size with h0 | h
    · simp [World.cell?, h0] at hg
    · exact h
  have hg2 : ((w.alloc (.cells #[.pointer (some t)] 71)).alloc (.cells #[.pointer (some ⟨1, 71, none⟩), .pointer (some ⟨w.heap.size, 0, none⟩), .int .u64 150] 96)).cell? ⟨0, 0, none⟩ = some (.iface 119 (.agg #[.pointer (some ⟨1, 29, none⟩)])) := by
    rw [World.cell?_alloc_lt _ _ ⟨0, 0, none⟩ (by simp), World.cell?_alloc_lt _ _ ⟨0, 0, none⟩ hlt]; exact hg
  have htl : t.block < w.heap.size := by
    rcases Nat.lt_or_ge t.block w.heap.size with h | h
    · exact h
    · simp [World.cell?, Array.getElem?_eq_none h] at ht0
  have el := As.elemV27 ⟨w.heap.size, 0, none⟩ t (((w.alloc (.cells #[.pointer (some t)] 71)).alloc (.cells #[.pointer (some ⟨1, 71, none⟩), .pointer (some ⟨w.heap.size, 0, none⟩), .int .u64 150] 96)).alloc (.cells #[.pointer (some ⟨1, 71, none⟩), .pointer (some ⟨w.heap.size, 0, none⟩), .int .u64 150] 96)) (by rw [World.cell?_alloc_lt _ _ ⟨w.heap.size, 0, none⟩ (by simp; omega)]; simp)
  go_enter Tryd.func25, Tryd.ntmps25
  go_wp2
  refine wp_loop_rounds 1 ?_
  rw [rounds_succ]
  go_wp2
  go_ret
  exact ⟨rfl, rfl⟩
end Go.Proofs.YteaknconpkklhaaDoor
