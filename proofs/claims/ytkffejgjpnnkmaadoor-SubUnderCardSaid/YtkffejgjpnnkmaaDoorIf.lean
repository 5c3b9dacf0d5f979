/- append of zeros to a row of words: append(rows, make([]uint64, len(rows))...). -/
import Derived.Test.YtkffejgjpnnkmaaDoorIe
import Derived.Lib.AppendZerosOnto
import Derived.Deep.RegionLaw
set_option linter.unusedVariables false
set_option linter.unusedSimpArgs false
namespace Go.Proofs.YtkffejgjpnnkmaaDoor
open Go.RowKit Go.W

theorem Tryd.infoU64 : (Tryd.prog.info? 109).map (fun i => (i.zero, i.size, i.bytes)) = some (some (.int .u64 0), 1, 8) := by kernel_rfl

theorem zeros_list (n : Nat) : (Builtin.zeroCells (Value.int .u64 0).cells n).toList = List.replicate n (Value.int .u64 0) := by
  have e : (Value.int .u64 0).cells = #[Value.int .u64 0] := rfl
  rw [e]
  apply List.ext_getElem
  · simp [Builtin.zeroCells]
  · intro i h1 h2
    simp [Builtin.zeroCells, Nat.mod_one]

theorem run_zeros (w : World) (base : Nat) (v : Value) (n : Nat) (xs : List Value) (hown : w.ownsRow base 109 1 v n xs) (h0 : 0 < n) (hb : n ≤ 1000000) (hbase : base ≤ w.heap.size) (ty : TypeId) :
    ∃ v' w', (Builtin.append_ #[106, 3] ty #[v, .int .i64 n]).run Tryd.prog w = .ok v' w' ∧ w'.ownsRow base 109 1 v' (n + n) (xs ++ List.replicate n (Value.int .u64 0)) ∧ w.grownBy w' v.ownBlock ∧
      (∀ g, v'.ownBlock = some g → v.ownBlock = some g ∨ w.heap.size ≤ g) := by
  obtain ⟨i, hi, hz, hs, hby⟩ := info_parts Tryd.infoU64
  have ht : Tryd.prog.underlying 106 = some (.slice 109) := by kernel_rfl
  have htn : Tryd.prog.underlying 3 = some (.int .i64) := by kernel_rfl
  have hm : maxLen = 9223372036854775807 := rfl
  have hxl : xs.length = n := by have := hown.1; omega
  rcases hown.2 with ⟨rfl, rfl⟩ | ⟨g, cap, cur, rfl, hbg, hg, hnc, hcm, hcs, htake⟩
  · omega
  · rw [Nat.mul_one] at hcs htake
    by_cases hroom : n + n ≤ cap
    · have hw : IntKind.i64.wrap (n : Int) = n := by rw [IntKind.wrap_i64]; omega
      have hneg : ¬ ((n : Int) < 0) := by omega
      have h48i : ¬ (281474976710656 < (n : Int) * 8) := by omega
      have hns : ¬ (n = 0) := by omega
      have hst := run_storeCells_at Tryd.prog g n 109 (List.replicate n (Value.int .u64 0)) 0 cur w hg (by simp; omega) (by intro u hu; rw [List.eq_of_mem_replicate hu]; rfl)
      simp only [Nat.add_zero] at hst
      have hr : (Builtin.append_ #[106, 3] ty #[.slice (some ⟨g, 0, none⟩) n cap, .int .i64 n]).run Tryd.prog w =
          .ok (.slice (some ⟨g, 0, none⟩) (n + n) cap) (w.setRow g (cur.toList.take n ++ List.replicate n (Value.int .u64 0) ++ cur.toList.drop (n + (List.replicate n (Value.int .u64 0)).length)).toArray) := by
        simp [Builtin.append_, run_underlying ht, run_underlying htn, sizeOf, typeInfo, zeroValue, hi, hz, hs, hby, asInt, asIntOf, hw, hneg, h48i, hns, hroom, zeros_list, Addr.add_lit, hst]
      refine ⟨_, _, hr, ⟨by simp; omega, .inr ⟨g, cap, _, rfl, hbg, setRow_heap w g cur _ _ _ hg, hroom, hcm, ?_, ?_⟩⟩, ⟨rfl, rfl, rfl, by simp, fun k _ hk => setRow_other w g k _ (fun e => hk (by simp [Value.ownBlock, e]))⟩, fun g' h => .inl h⟩
      · simp only [List.size_toArray, List.length_append, List.length_take, List.length_drop, Array.length_toList, List.length_replicate]
        omega
      · rw [htake, Nat.mul_one]
        have e : n + n = (xs ++ List.replicate n (Value.int .u64 0)).length := by simp; omega
        rw [e]
        exact List.take_left
    · have hold : (Builtin.firstCells i.size n (.slice (some ⟨g, 0, none⟩) n cap)).run Tryd.prog w.drew = .ok xs.toArray w.drew := by
        rw [hs]
        exact run_firstCells_some w.drew 1 n ⟨g, 0, none⟩ n cap xs (by omega) (fun j v hj => by
          have hj' := (List.getElem?_eq_some_iff.1 hj).1
          rw [Addr.add_lit]
          show w.cell? _ = _
          rw [cellAt hg, Nat.zero_add, ← Array.getElem?_toList]
          rw [← htake, List.getElem?_take, if_pos (by omega)] at hj
          exact hj)
      have hr := Go.Lib.run_append_grow_zeros w 106 3 ty 109 i _ .i64 .i64 ht htn hi hz (some ⟨g, 0, none⟩) n cap xs hold n h0 (by omega) (by omega) (by omega) (by rw [hby]; omega) (by rw [hby]; exact growslice_fits (by omega) (by omega))
      have hG1 := grownCap_ge w (n + n) cap 109
      have hG2 := grownCap_le_maxLen w (n + n) cap 109 (by omega)
      generalize grownCap w (n + n) cap 109 = G at hr hG1 hG2
      refine ⟨_, _, hr, ⟨by simp; omega, .inr ⟨w.heap.size, G, _, rfl, hbase, heap_alloc_new w.drew _, hG1, hG2, ?_, ?_⟩⟩, ⟨rfl, rfl, rfl, by simp, fun k hk _ => heapAllocOld w.drew _ k hk⟩, fun g' h => .inr (by cases h; exact Nat.le_refl _)⟩
      · have e1 : (Value.int .u64 0).cells.size = 1 := rfl
        simp only [Array.size_append, size_zeroCells, e1, List.size_toArray]
        omega
      · rw [Nat.mul_one, Array.toList_append, Array.toList_append, zeros_list, zeros_list]
        have e : n + n = (xs ++ List.replicate n (Value.int .u64 0)).length := by simp; omega
        rw [e]
        exact List.take_left

/-- .. as one step of a region that draws -/
theorem step_zeros {ops : Array Oper} {o : Oper} {a : Act} {w : World} {K : Act → World → Prop} {Q : Exit → Act → World → Prop} {E : Prop}
    (hg : o.guard = none) (s x : Operand) (hop : o.op = Op.call { callee := Callee.builtin Builtin.append, args := #[s, x], argTypes := #[106, 3] })
    (base : Nat) (v : Value) (n : Nat) (xs : List Value) (hs : a.eval s = v) (hx : a.eval x = .int .i64 n) (hown : w.ownsRow base 109 1 v n xs) (h0 : 0 < n) (hb : n ≤ 1000000) (hbase : base ≤ w.heap.size)
    (hK : ∀ v' w', w'.ownsRow base 109 1 v' (n + n) (xs ++ List.replicate n (Value.int .u64 0)) → w.grownBy w' v.ownBlock →
      (∀ g, v'.ownBlock = some g → v.ownBlock = some g ∨ w.heap.size ≤ g) → K (a.put o.dst v') w') :
    if Region.wanted o (yielded ops a.tmps) = true then Oper.wp Tryd.prog o a w K Q else E := by
  have hw : Region.wanted o (yielded ops a.tmps) = true := by simp [Region.wanted, hg]
  rw [if_pos hw]
  obtain ⟨v', w', hrun, h1, h2, h3⟩ := run_zeros w base v n xs hown h0 hb hbase o.type
  unfold Oper.wp
  simp [execOp, hop, resolve, invoke, builtin, hs, hx, hrun, Result.andThen]
  exact hK v' w' h1 h2 h3
end Go.Proofs.YtkffejgjpnnkmaaDoor
