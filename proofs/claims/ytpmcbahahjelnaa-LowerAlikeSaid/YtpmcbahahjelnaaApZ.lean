/- By hand: append of so many zeros (append(s, make([]int64, n)...)). No conditions. -/
import Derived.Test.YtpmcbahahjelnaaTb
set_option linter.unusedVariables false
set_option linter.unusedSimpArgs false
namespace Go.Proofs.Ytpmcbahahjelnaa
open Go

/-- xs and so many zeros behind it. -/
def catZ (xs : List Int) (m : Int) : Option (List Int) := if xs ≠ [] ∧ 0 ≤ m then cat xs (List.replicate m.toNat 0) else none
theorem zeroCells_one (z : Value) (m : Nat) : (Builtin.zeroCells #[z] m).toList = List.replicate m z := by
  simp [Builtin.zeroCells]
  apply List.ext_getElem
  · simp
  · intro i h1 h2
    simp [Nat.mod_one]
theorem zeros_flat (m : Nat) : ((List.replicate m (0 : Int)).map (fInt .i64).enc).flatten = List.replicate m (Value.int .i64 0) := by
  induction m with
  | zero => rfl
  | succ m ih => rw [List.replicate_succ, List.map_cons, List.flatten_cons, ih, List.replicate_succ]; rfl
section
variable {P : Program} (w : World)
theorem run_zeros_room (t tn ty e : TypeId) (i : TypeInfo) (z : Value) (ht : P.underlying t = some (.slice e)) (htn : P.underlying tn = some (.int .i64)) (hi : P.info? e = some i) (hz : i.zero = some z) (hs1 : i.size = 1) (hzc : z.cells = #[z]) (h1 : z.oneCell' = true)
    (g sLen sCap : Nat) (cur : Array Value) (hg : w.heap[g]? = some (.cells cur e (0, 0))) (m : Nat) (hm0 : 0 < m) (hm : m ≤ 1099511627776) (hb : m * i.bytes ≤ 281474976710656)
    (hroom : sLen + m ≤ sCap) (hfit : sLen + m ≤ cur.size) :
    (Builtin.append_ #[t, tn] ty #[.slice (some ⟨g, 0, none⟩) sLen sCap, .int .i64 m]).run P w =
      .ok (.slice (some ⟨g, 0, none⟩) (sLen + m) sCap) (w.setRow g (cur.toList.take sLen ++ List.replicate m z ++ cur.toList.drop (sLen + m)).toArray) := by
  have hw : IntKind.i64.wrap (m : Int) = m := by rw [IntKind.wrap_i64]; omega
  have hneg : ¬ ((m : Int) < 0) := by omega
  have h48i : ¬ (281474976710656 < (m : Int) * (i.bytes : Int)) := by
    rw [← Int.natCast_mul]
    omega
  have hst := run_storeCells_at P g sLen e (List.replicate m z) 0 cur w hg (by simpa using hfit) (by intro u hu; rw [List.eq_of_mem_replicate hu]; exact h1)
  simp only [Nat.add_zero, List.length_replicate] at hst
  have hzl := zeroCells_one z m
  have hm0' : m ≠ 0 := by omega
  simp [Builtin.append_, run_underlying ht, run_underlying htn, sizeOf, typeInfo, zeroValue, hi, hz, hs1, asInt, asIntOf, hw, hneg, h48i, hroom, hm0', hzc, hzl, Addr.add_lit, hst]
theorem run_zeros_grow (t tn ty e : TypeId) (i : TypeInfo) (z : Value) (ht : P.underlying t = some (.slice e)) (htn : P.underlying tn = some (.int .i64)) (hi : P.info? e = some i) (hz : i.zero = some z) (hs1 : i.size = 1) (hzc : z.cells = #[z])
    (b : Addr) (sLen sCap : Nat) (olds : List Value) (hlo : olds.length = sLen * i.size) (holds : ∀ j v, olds[j]? = some v → w.cell? (b.add j) = some v) (m : Nat) (hm0 : 0 < m) (hm : m ≤ 1099511627776) (hb : m * i.bytes ≤ 281474976710656)
    (hg : sCap < sLen + m) (h63 : ((sLen + m : Nat) : Int) ≤ 9223372036854775807) (hfit : Builtin.nextslicecap (sLen + m) sCap * i.bytes ≤ 281474976710656) :
    (Builtin.append_ #[t, tn] ty #[.slice (some b) sLen sCap, .int .i64 m]).run P w =
      .ok (.slice (some ⟨w.heap.size, 0, none⟩) (sLen + m) (grownCap w (sLen + m) sCap e))
        (w.drew.alloc (.cells (olds.toArray ++ (List.replicate m z).toArray ++ Builtin.zeroCells z.cells (grownCap w (sLen + m) sCap e - (sLen + m))) e)) := by
  have hn : ¬ (sLen + m ≤ sCap) := by omega
  have h63' : ¬ (9223372036854775807 < ((sLen : Int) + (m : Int))) := by omega
  have h48' : ¬ (281474976710656 < Builtin.nextslicecap (sLen + m) sCap * i.bytes) := by omega
  have hw : IntKind.i64.wrap (m : Int) = m := by rw [IntKind.wrap_i64]; omega
  have hneg : ¬ ((m : Int) < 0) := by omega
  have h48i : ¬ (281474976710656 < (m : Int) * (i.bytes : Int)) := by
    rw [← Int.natCast_mul]
    omega
  have hfo := run_firstCells_some (P := P) w.drew i.size sLen b sLen sCap olds hlo (by simpa using holds)
  rw [hs1] at hfo
  have hm0' : m ≠ 0 := by omega
  have hzl : Builtin.zeroCells #[z] m = (List.replicate m z).toArray := by rw [← zeroCells_one z m]
  simp [Builtin.append_, run_underlying ht, run_underlying htn, sizeOf, typeInfo, zeroValue, hi, hz, hs1, asInt, asIntOf, hw, hneg, h48i, hn, h63', h48', Question.forced, hm0', hzc, hzl, hfo, newRow, grownCap]
theorem run_zeros_own_at (t tn ty e : TypeId) (i : TypeInfo) (z : Value) (bytes : Nat) (ht : P.underlying t = some (.slice e)) (htn : P.underlying tn = some (.int .i64)) (hi : P.info? e = some i) (hz : i.zero = some z)
    (hsize : i.size = 1) (hby : i.bytes = bytes) (hzc : z.cells = #[z]) (h1 : z.oneCell' = true)
    (g n cap : Nat) (xs : List Value) (hown : w.ownsRow 0 e 1 (.slice (some ⟨g, 0, none⟩) n cap) n xs) (m : Nat) (hm : m ≤ 1099511627776)
    (h63 : n + m ≤ maxLen) (hbytes : (n + m) * bytes ≤ 140737488355328) :
    ∃ v' w', (Builtin.append_ #[t, tn] ty #[.slice (some ⟨g, 0, none⟩) n cap, .int .i64 m]).run P w = .ok v' w' ∧ w'.ownsRow 0 e 1 v' (n + m) (xs ++ List.replicate m z) ∧ w.grownBy w' (some g) ∧
      (v'.ownBlock = some g ∨ v'.ownBlock = some w.heap.size) := by
  subst hby
  have hsmall : n + m ≤ 9223372036854775807 := by simp only [maxLen] at h63; omega
  have hb : m * i.bytes ≤ 281474976710656 := by
    have : m * i.bytes ≤ (n + m) * i.bytes := Nat.mul_le_mul_right _ (by omega)
    omega
  rcases hown.2 with ⟨h, _⟩ | ⟨g', cap', cur, h, hbg, hg, hnc, hcm, hcs, htake⟩
  · cases h
  cases h
  by_cases hm0 : m = 0
  · subst hm0
    refine ⟨.slice (some ⟨g, 0, none⟩) n cap, w, ?_, by simpa using hown, ⟨rfl, rfl, rfl, Nat.le_refl _, fun _ _ _ => rfl⟩, .inl rfl⟩
    have hw : IntKind.i64.wrap (0 : Int) = 0 := by rw [IntKind.wrap_i64]; rfl
    simp [Builtin.append_, run_underlying ht, run_underlying htn, sizeOf, typeInfo, hi, asInt, asIntOf, hw, hnc, storeCells]
  have hlen : (xs ++ List.replicate m z).length = (n + m) * 1 := by rw [List.length_append, hown.1, List.length_replicate]; omega
  by_cases hroom : n + m ≤ cap
  · have hfit : n + m ≤ cur.size := by rw [hcs]; omega
    have hr := run_zeros_room (P := P) w t tn ty e i z ht htn hi hz hsize hzc h1 g n cap cur hg m (by omega) hm hb hroom hfit
    rw [Nat.mul_one] at htake
    refine ⟨_, _, hr, ⟨hlen, .inr ⟨g, cap, _, rfl, hbg, setRow_heap w g cur _ e _ hg, hroom, hcm, ?_, ?_⟩⟩, ⟨rfl, rfl, rfl, by simp, fun k _ hk => setRow_other w g k _ (fun e => hk (by rw [e]))⟩, .inl rfl⟩
    · simp only [List.size_toArray, List.length_append, List.length_take, List.length_drop, Array.length_toList, List.length_replicate]
      omega
    · rw [htake, ← hlen]
      exact List.take_left
  · have holds : ∀ j u, xs[j]? = some u → w.cell? ((⟨g, 0, none⟩ : Addr).add j) = some u := hown.cells (g := g) rfl
    have hr := run_zeros_grow (P := P) w t tn ty e i z ht htn hi hz hsize hzc ⟨g, 0, none⟩ n cap xs (by rw [hsize]; exact hown.1) holds m (by omega) hm hb (by omega) (by omega) (growslice_fits (by omega) hbytes)
    have hge := grownCap_ge w (n + m) cap e
    have hcm' : grownCap w (n + m) cap e ≤ maxLen := grownCap_le_maxLen w (n + m) cap e h63
    have hzs : z.cells.size = 1 := by rw [hzc]; rfl
    refine ⟨_, _, hr, ⟨hlen, .inr ⟨w.heap.size, _, _, rfl, Nat.zero_le _, heap_alloc_new w.drew _, hge, hcm', ?_, ?_⟩⟩, ⟨rfl, rfl, rfl, by simp, fun k hk _ => heap_alloc_old w.drew _ hk⟩, .inr rfl⟩
    · simp only [Array.size_append, List.size_toArray, size_zeroCells, hzs, hown.1, List.length_replicate]
      omega
    · simp only [Array.toList_append, List.append_assoc]
      rw [← List.append_assoc, ← hlen]
      exact List.take_left
end
section
variable {X : Cx} {Q : Post} {H : FP} {L : List FP} {e : Env} {ops : Array Oper} {rest : List Oper} {d : Nat} {ty : TypeId} {pos : String} {af : Array Edge}
  {t tn E : TypeId} {x y : Operand} {xs : List Int} {v : Value} {by_ : Nat}
/-- append(v, make([]int64, m)...). -/
theorem TL.appZ {F : FP} {m : Int} {zs : List Int} (ht : X.P.underlying t = some (.slice E)) (htn : X.P.underlying tn = some (.int .i64)) (hs : inf X.P E (.int .i64 0) 1 by_) (hd : d < X.n) (hb : by_ ≤ 128)
    (hx : evO e x = v) (hy : evO e y = .int .i64 m) (hv : SlO E (kInt .i64) xs v F) (hne : xs ≠ []) (h0 : 0 ≤ m) (hcat : cat xs (List.replicate m.toNat 0) = some zs)
    (h : ∀ v' F', SlO E (kInt .i64) zs v' F' → TL X ops Q H (F' :: L) rest (upd e d v')) :
    TL X ops Q H (F :: L) (⟨some d, .call ⟨.builtin .append, #[x, y], #[t, tn]⟩, ty, pos, af, none⟩ :: rest) e := by
  refine TL.eff rfl (fun x hx => by cases hx; exact hd) fun w hw => ?_
  obtain ⟨hlim, rfl⟩ := cat_some hcat
  obtain ⟨m, rfl⟩ : ∃ k : Nat, m = k := ⟨m.toNat, by omega⟩
  simp only [Int.toNat_natCast] at hlim h
  rw [List.length_replicate] at hlim
  have hlim' : xs.length + m < 1099511627776 := hlim
  obtain ⟨css, G', hown, hrep, hF⟩ := hv.row hw
  rcases hF with ⟨rfl, _, _⟩ | ⟨b, obj, c, rfl, rfl⟩
  · obtain ⟨_, ⟨_, hn, _⟩ | ⟨b, _, _, _, _, hc, _⟩⟩ := hv
    · exact absurd hn hne
    · cases hc
  obtain ⟨i, hi, hzz, his, hib⟩ := hs.get
  obtain ⟨v', w', hrun, hown', hg, hat⟩ := run_zeros_own_at (P := X.P) w t tn ty E i (.int .i64 0) by_ ht htn hi hzz his hib rfl rfl b xs.length c css.flatten hown m (by omega) (by simp only [maxLen]; omega)
    (by have : (xs.length + m) * by_ ≤ 1099511627776 * 128 := Nat.mul_le_mul (by omega) hb
        omega)
  have hr := (fInt .i64).rep (List.replicate m (0 : Int))
  have hw2 : St X.E H (((b, obj) :: G') :: [] :: L) w := hw.perm (by simp)
  have hfl := zeros_flat m
  obtain ⟨F', hF', hst⟩ := SlO.back (E := E) hw2 (.inr ⟨b, obj, c, rfl, rfl⟩) hrep hr (by rw [List.length_replicate, hfl]; exact hown') hg hat (by rw [List.length_replicate]; exact hlim)
  refine ⟨v', w', F' :: L, ?_, hst, h v' F' hF'⟩
  simp only [execOp, resolve, invoke, builtin, Sem.run_bind, Sem.run_pure, Result.andThen_ok, List.map_toArray, List.map_cons, List.map_nil, hx, hy, hrun]
theorem tpZ {β : Type} {f : List Int → Option β} {r : β} {F : FP} {m : Int} (ht : X.P.underlying t = some (.slice E)) (htn : X.P.underlying tn = some (.int .i64)) (hs : inf X.P E (.int .i64 0) 1 by_) (hv : SlO E (kInt .i64) xs v F) (hp : (catZ xs m).bind f = some r)
    (hx : evO e x = v) (hy : evO e y = .int .i64 m) (hb : Nat.ble by_ 128 = true) (hd : Nat.blt d X.n = true)
    (h : ∀ zs v' F', SlO E (kInt .i64) zs v' F' → f zs = some r → TL X ops Q H (F' :: L) rest (upd e d v')) :
    TL X ops Q H (F :: L) (⟨some d, .call ⟨.builtin .append, #[x, y], #[t, tn]⟩, ty, pos, af, none⟩ :: rest) e := by
  obtain ⟨q, h1, h2⟩ := bind_some' hp
  unfold catZ at h1
  split at h1
  · rename_i hc
    exact TL.appZ ht htn hs (ltb hd) (leb hb) hx hy hv hc.1 hc.2 h1 fun v F hf => h q v F hf h2
  · cases h1
end
end Go.Proofs.Ytpmcbahahjelnaa
