/- append, with where the new row lies; Of and Merge of sets. -/
import Derived.Test.YtkffejgjpnnkmaaDoorIm
import Derived.Deep.AppendSrc
import Derived.Lib.AppendZeros
set_option linter.unusedVariables false
set_option linter.unusedSimpArgs false
namespace Go.Proofs.YtkffejgjpnnkmaaDoor
open Go.RowKit Go.W

theorem Tryd.infoInt0 : (Tryd.prog.info? 3).map (fun i => (i.zero, i.size, i.bytes)) = some (some (.int .i64 0), 1, 8) := by kernel_rfl

theorem run_appendI2 (w : World) (base : Nat) (v : Value) (xs : List Int) (hown : IntsOwn w base v xs) (u : Value) (l : List Int) (hu : IntsAt w u l) (h0 : 0 < l.length) (hb : xs.length + l.length ≤ 10000000)
    (hbase : base ≤ w.heap.size) (ty : TypeId) :
    ∃ v' w', (Builtin.append_ #[41, 41] ty #[v, u]).run Tryd.prog w = .ok v' w' ∧ IntsOwn w' base v' (xs ++ l) ∧ w.grownBy w' v.ownBlock ∧ (v'.ownBlock = v.ownBlock ∨ v'.ownBlock = some w.heap.size) := by
  obtain ⟨i, hi, hz, hs, hby⟩ := info_parts Tryd.infoInt0
  have ht : Tryd.prog.underlying 41 = some (.slice 3) := by kernel_rfl
  have hm : maxLen = 9223372036854775807 := rfl
  obtain ⟨ao, c, rfl, h1, h2, h3, h4⟩ := hu
  obtain ⟨b, off, rfl, h5⟩ := h4 h0
  have hlm : (l.map (Value.int .i64)).length = l.length := by simp
  have hsrc : Src Tryd.prog i.size 41 (.slice (some ⟨b, off, none⟩) l.length c) l.length (l.map (Value.int .i64)) w := by
    rw [hs]
    exact Src.ofSlice w ht ⟨b, off, none⟩ l.length c _ (by simp) (fun j u hj => by
      rw [List.getElem?_map, Option.map_eq_some_iff] at hj
      obtain ⟨y, hy, rfl⟩ := hj
      rw [Addr.add_lit]
      exact h5 j y hy) (map_one l)
  have hxl : (xs.map (Value.int .i64) ++ l.map (Value.int .i64)).length = xs.length + l.length := by simp
  have grow : ∀ (base' : Option Addr) (cap : Nat), cap < xs.length + l.length → (Builtin.firstCells i.size xs.length (.slice base' xs.length cap)).run Tryd.prog w.drew = .ok (xs.map (Value.int .i64)).toArray w.drew → xs.length ≤ cap →
      ∃ v' w', (Builtin.append_ #[41, 41] ty #[.slice base' xs.length cap, .slice (some ⟨b, off, none⟩) l.length c]).run Tryd.prog w = .ok v' w' ∧ IntsOwn w' base v' (xs ++ l) ∧ w.grownBy w' (Value.slice base' xs.length cap).ownBlock ∧
        (v'.ownBlock = (Value.slice base' xs.length cap).ownBlock ∨ v'.ownBlock = some w.heap.size) := by
    intro base' cap hc hold hnc
    have hr := run_append_grow_src w 41 41 ty 3 i _ ht hi hz base' xs.length cap _ hold _ l.length _ hsrc hc (by omega) (by rw [hby]; exact growslice_fits (by omega) (by omega))
    have hG1 := grownCap_ge w (xs.length + l.length) cap 3
    have hG2 := grownCap_le_maxLen w (xs.length + l.length) cap 3 (by omega)
    generalize grownCap w (xs.length + l.length) cap 3 = G at hr hG1 hG2
    have e1 : (Value.int .i64 0).cells.size = 1 := rfl
    refine ⟨_, _, hr, ⟨by simp, .inr ⟨w.heap.size, G, _, by rw [List.length_append], hbase, heap_alloc_new w.drew _, by rw [List.length_append]; exact hG1, hG2, ?_, ?_⟩⟩, ⟨rfl, rfl, rfl, by simp, fun k hk _ => heapAllocOld w.drew _ k hk⟩, .inr rfl⟩
    · rw [Array.size_append, size_zeroCells, e1]
      simp
      omega
    · rw [List.length_append, Nat.mul_one, Array.toList_append, List.map_append]
      show List.take _ ((xs.map (Value.int .i64) ++ l.map (Value.int .i64)) ++ _) = _
      rw [← hxl, List.take_left]
  rcases hown.2 with ⟨rfl, hl0⟩ | ⟨g, cap, cur, rfl, hg, hh, hcap, hmax, hcs, hct⟩
  · obtain rfl := List.length_eq_zero_iff.1 hl0
    exact grow none 0 (by simpa using h0) (run_firstCells_none w.drew i.size 0 0 0) (Nat.le_refl _)
  · rw [Nat.mul_one] at hcs hct
    by_cases hroom : xs.length + l.length ≤ cap
    · have hr := run_append_room_src w 41 41 ty 3 i ht hi g 0 xs.length cap _ l.length _ hsrc hroom
        (fun j hj => by rw [hs, cellAt hh, Array.getElem?_eq_getElem (by rw [hlm] at hj; omega)]; rfl) (fun j hj => freeAt hh _)
      rw [hs, Nat.mul_one, Nat.zero_add] at hr
      obtain ⟨cur', k1, k2, k3⟩ := setCells_heap (l.map (Value.int .i64)) xs.length w cur hh (by rw [hlm]; omega)
      refine ⟨_, _, hr, ⟨by simp, .inr ⟨g, cap, cur', by rw [List.length_append], hg, k1, by rw [List.length_append]; exact hroom, hmax, by omega, ?_⟩⟩, ⟨?_, ?_, ?_, ?_, ?_⟩, .inl rfl⟩
      · rw [List.length_append, Nat.mul_one, k3, hct, List.map_append, ← hxl, List.take_left]
      · exact (setCells_ch _ _ _).os
      · exact (setCells_ch _ _ _).tape
      · exact (setCells_ch _ _ _).output
      · exact (setCells_ch (b := g) _ _ _).size
      · intro k hk hne
        have ho : w.heap[k]? = some w.heap[k] := Array.getElem?_eq_getElem hk
        rw [ho]
        exact (setCells_ch (b := g) _ _ _).keep k _ ho (fun e => hne (by rw [e]; rfl))
    · refine grow (some ⟨g, 0, none⟩) cap (by omega) ?_ hcap
      rw [hs]
      exact run_firstCells_some w.drew 1 xs.length ⟨g, 0, none⟩ xs.length cap _ (by simp) (fun j v hj => by
        have hj' := (List.getElem?_eq_some_iff.1 hj).1
        rw [List.length_map] at hj'
        rw [Addr.add_lit]
        show w.cell? _ = _
        rw [cellAt hh, Nat.zero_add, ← Array.getElem?_toList]
        rw [← hct, List.getElem?_take, if_pos hj'] at hj
        exact hj)

/-- append to an own row: the new row is the old one, or a new block -/
theorem wpAppendI2 {w : World} {ops : Array Oper} {rest : List Oper} {o : Oper} {a : Act} {Q : Exit → Act → World → Prop} (hgd : o.guard = none) (s x : Operand)
    (ho : o.op = .call { callee := .builtin .append, args := #[s, x], argTypes := #[41, 41] })
    (base : Nat) (v : Value) (xs l : List Int) (hs : a.eval s = v) (hown : IntsOwn w base v xs) (u : Value) (hx : a.eval x = u) (hu : IntsAt w u l) (h0 : 0 < l.length)
    (hb : xs.length + l.length ≤ 10000000) (hbase : base ≤ w.heap.size)
    (h : ∀ v' w', IntsOwn w' base v' (xs ++ l) → w.grownBy w' v.ownBlock → (v'.ownBlock = v.ownBlock ∨ v'.ownBlock = some w.heap.size) → wpList Tryd.prog ops Q rest (a.put o.dst v') w') : wpList Tryd.prog ops Q (o :: rest) a w := by
  obtain ⟨v', w', hr, h1, h2, h3⟩ := run_appendI2 w base v xs hown u l hu h0 hb hbase o.type
  exact Go.Lib.wpList_append_run w hgd s x _ _ ho _ _ hs hx _ _ hr (h v' w' h1 h2 h3)
end Go.Proofs.YtkffejgjpnnkmaaDoor
