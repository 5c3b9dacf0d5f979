/- A queue of numbers: a slice that is shortened in front and appended to. -/
import Derived.Test.YtkffejgjpnnkmaaDoorHu
import Derived.Deep.Upon
set_option linter.unusedVariables false
set_option linter.unusedSimpArgs false
namespace Go.Proofs.YtkffejgjpnnkmaaDoor
open Go.RowKit Go.W

/-- v holds the numbers l, in a block of its own from base on -/
def IntsQ (w : World) (base : Nat) (v : Value) (l : List Int) : Prop :=
  (v = .slice none 0 0 ∧ l = []) ∨ ∃ g off cap cur, v = .slice (some ⟨g, off, none⟩) l.length cap ∧ base ≤ g ∧ w.heap[g]? = some (.cells cur 3 (0, 0)) ∧ l.length ≤ cap ∧ cap ≤ maxLen ∧ off + cap ≤ cur.size ∧
    ∀ (i : Nat) (x : Int), l[i]? = some x → cur[off + i]? = some (.int .i64 x)
theorem IntsOwn.q {w : World} {base : Nat} {v : Value} {l : List Int} (h : IntsOwn w base v l) : IntsQ w base v l := by
  rcases h.2 with ⟨rfl, hl0⟩ | ⟨g, cap, cur, rfl, hg, hh, hcap, hmax, hcs, hct⟩
  · exact .inl ⟨rfl, List.length_eq_zero_iff.1 hl0⟩
  · rw [Nat.mul_one] at hcs hct
    refine .inr ⟨g, 0, cap, cur, rfl, hg, hh, hcap, hmax, by omega, fun i x hx => ?_⟩
    have hi := (List.getElem?_eq_some_iff.1 hx).1
    have : (l.map (Value.int .i64))[i]? = some (.int .i64 x) := by rw [List.getElem?_map, hx]; rfl
    rw [← hct, List.getElem?_take, if_pos hi] at this
    rw [Nat.zero_add, ← Array.getElem?_toList]
    exact this
theorem IntsQ.shape {w : World} {base : Nat} {v : Value} {l : List Int} (h : IntsQ w base v l) : ∃ ao cap, v = .slice ao l.length cap ∧ l.length ≤ cap ∧ cap ≤ maxLen := by
  rcases h with ⟨rfl, rfl⟩ | ⟨g, off, cap, cur, rfl, _, _, h1, h2, _⟩
  · exact ⟨_, _, rfl, Nat.le_refl _, Nat.zero_le _⟩
  · exact ⟨_, _, rfl, h1, h2⟩
theorem IntsQ.ch {S : Nat → Obj → Prop} {w w' : World} {base : Nat} {v : Value} {l : List Int} (h : IntsQ w base v l) (hc : Ch S w w') (hS : ∀ g o, v.ownBlock = some g → base ≤ g → ¬ S g o) : IntsQ w' base v l := by
  rcases h with h | ⟨g, off, cap, cur, rfl, h1, h2, h3⟩
  · exact .inl h
  · exact .inr ⟨g, off, cap, cur, rfl, h1, hc.keep _ _ h2 (hS g _ rfl h1), h3⟩
theorem IntsQ.lt {w : World} {base : Nat} {v : Value} {l : List Int} (h : IntsQ w base v l) : ∀ g, v.ownBlock = some g → base ≤ g ∧ g < w.heap.size := by
  rcases h with ⟨rfl, _⟩ | ⟨g, off, cap, cur, rfl, h1, h2, h3⟩
  · intro g hg; simp [Value.ownBlock] at hg
  · intro k hk
    have e : g = k := by simpa [Value.ownBlock] using hk
    subst e
    exact ⟨h1, lt_size h2⟩
/-- the first one, and the rest -/
theorem IntsQ.head {w : World} {base : Nat} {v : Value} {x : Int} {l : List Int} (h : IntsQ w base v (x :: l)) :
    ∃ g off cap, v = .slice (some ⟨g, off, none⟩) (l.length + 1) cap ∧ l.length + 1 ≤ cap ∧ cap ≤ maxLen ∧ w.cell? ⟨g, off, none⟩ = some (.int .i64 x) ∧ (cap = 1 → IntsQ w base (.slice (some ⟨g, off, none⟩) l.length 0) l) ∧ (1 < cap → IntsQ w base (.slice (some ⟨g, off + 1, none⟩) l.length (cap - 1)) l) := by
  rcases h with ⟨_, h⟩ | ⟨g, off, cap, cur, rfl, h1, h2, h3, h4, h5, h6⟩
  · cases h
  · rw [List.length_cons] at h3
    have h0 := h6 0 x rfl
    refine ⟨g, off, cap, by rw [List.length_cons], h3, h4, by rw [cellAt h2]; simpa using h0, fun hc => ?_, fun hc => ?_⟩
    · have : l = [] := List.length_eq_zero_iff.1 (by omega)
      subst this
      exact .inr ⟨g, off, 0, cur, rfl, h1, h2, Nat.le_refl _, Nat.zero_le _, by omega, fun i y hy => by simp at hy⟩
    · refine .inr ⟨g, off + 1, cap - 1, cur, rfl, h1, h2, by omega, by omega, by omega, fun i y hy => ?_⟩
      have := h6 (i + 1) y (by simpa using hy)
      rw [show off + 1 + i = off + (i + 1) from by omega]
      exact this

theorem run_appendQ (w : World) (base : Nat) (v : Value) (xs : List Int) (hq : IntsQ w base v xs) (u : Value) (l : List Int) (hu : IntsAt w u l) (hb : xs.length + l.length ≤ 10000000) (hbase : base ≤ w.heap.size) (ty : TypeId) :
    ∃ v' w', (Builtin.append_ #[41, 41] ty #[v, u]).run Tryd.prog w = .ok v' w' ∧ IntsQ w' base v' (xs ++ l) ∧ Ch (fun k _ => v.ownBlock = some k) w w' ∧ (v'.ownBlock = v.ownBlock ∨ v'.ownBlock = some w.heap.size) := by
  obtain ⟨i, hi, hz, hs, hby⟩ := info_parts Tryd.infoInt0
  have ht : Tryd.prog.underlying 41 = some (.slice 3) := by kernel_rfl
  have hm : maxLen = 9223372036854775807 := rfl
  obtain ⟨uo, uc, rfl, h1, h2, h3, h4⟩ := hu
  have hlm : (l.map (Value.int .i64)).length = l.length := by simp
  have hsrc : Src Tryd.prog i.size 41 (.slice uo l.length uc) l.length (l.map (Value.int .i64)) w := by
    rw [hs]
    cases uo with
    | none =>
      have hl : l = [] := by
        cases l with
        | nil => rfl
        | cons x l =>
          obtain ⟨b, off, e, _⟩ := h4 (by simp)
          cases e
      subst hl
      exact Src.ofNil w ht uc
    | some a =>
      refine Src.ofSlice w ht a l.length uc _ (by simp) (fun j u hj => ?_) (map_one l)
      rw [List.getElem?_map, Option.map_eq_some_iff] at hj
      obtain ⟨y, hy, rfl⟩ := hj
      obtain ⟨b, off, e, h5⟩ := h4 (by have := (List.getElem?_eq_some_iff.1 hy).1; omega)
      cases e
      rw [Addr.add_lit]
      exact h5 j y hy
  by_cases hl0 : l = []
  · subst hl0
    obtain ⟨ao, cap, rfl, hle, _⟩ := hq.shape
    have hr := run_append_nothing w 41 41 ty 3 i ht hi ao xs.length cap hle _ hsrc
    refine ⟨_, w, hr, by simpa using hq, Ch.refl _ _, .inl rfl⟩
  have h0 : 0 < l.length := List.length_pos_iff.2 hl0
  have grow : ∀ (base' : Option Addr) (cap : Nat), cap < xs.length + l.length → (Builtin.firstCells i.size xs.length (.slice base' xs.length cap)).run Tryd.prog w.drew = .ok (xs.map (Value.int .i64)).toArray w.drew → xs.length ≤ cap →
      ∃ v' w', (Builtin.append_ #[41, 41] ty #[.slice base' xs.length cap, .slice uo l.length uc]).run Tryd.prog w = .ok v' w' ∧ IntsQ w' base v' (xs ++ l) ∧ Ch (fun k _ => (Value.slice base' xs.length cap).ownBlock = some k) w w' ∧
        (v'.ownBlock = (Value.slice base' xs.length cap).ownBlock ∨ v'.ownBlock = some w.heap.size) := by
    intro base' cap hc hold hnc
    have hr := run_append_grow_src w 41 41 ty 3 i _ ht hi hz base' xs.length cap _ hold _ l.length _ hsrc hc (by omega) (by rw [hby]; exact growslice_fits (by omega) (by omega))
    have hG1 := grownCap_ge w (xs.length + l.length) cap 3
    have hG2 := grownCap_le_maxLen w (xs.length + l.length) cap 3 (by omega)
    generalize grownCap w (xs.length + l.length) cap 3 = G at hr hG1 hG2
    have e1 : (Value.int .i64 0).cells.size = 1 := rfl
    refine ⟨_, _, hr, .inr ⟨w.heap.size, 0, G, _, by rw [List.length_append], hbase, heap_alloc_new w.drew _, by rw [List.length_append]; exact hG1, hG2, ?_, fun j x hx => ?_⟩, ((Ch.refl _ w).drew).alloc _, .inr rfl⟩
    · rw [Array.size_append, size_zeroCells, e1]
      simp
      omega
    · have hj := (List.getElem?_eq_some_iff.1 hx).1
      rw [Nat.zero_add, ← Array.getElem?_toList, Array.toList_append]
      show ((xs.map (Value.int .i64) ++ l.map (Value.int .i64)) ++ _)[j]? = _
      rw [← List.map_append, List.getElem?_append_left (by rw [List.length_map]; exact hj), List.getElem?_map, hx]
      rfl
  rcases hq with ⟨rfl, rfl⟩ | ⟨g, off, cap, cur, rfl, hg, hh, hcap, hmax, hcs, hct⟩
  · exact grow none 0 (by simpa using h0) (run_firstCells_none w.drew i.size 0 0 0) (Nat.le_refl _)
  · by_cases hroom : xs.length + l.length ≤ cap
    · have hr := run_append_room_src w 41 41 ty 3 i ht hi g off xs.length cap _ l.length _ hsrc hroom
        (fun j hj => by rw [hs, cellAt hh, Array.getElem?_eq_getElem (by rw [hlm] at hj; omega)]; rfl) (fun j hj => freeAt hh _)
      rw [hs, Nat.mul_one] at hr
      obtain ⟨cur', k1, k2, k3⟩ := setCells_heap (l.map (Value.int .i64)) (off + xs.length) w cur hh (by rw [hlm]; omega)
      refine ⟨_, _, hr, .inr ⟨g, off, cap, cur', by rw [List.length_append], hg, k1, by rw [List.length_append]; exact hroom, hmax, by omega, fun j x hx => ?_⟩, (setCells_ch (b := g) _ _ _).mono (fun k _ _ e => by rw [e]; rfl), .inl rfl⟩
      rw [← Array.getElem?_toList, k3]
      have hcl : cur.toList.length = cur.size := by simp
      by_cases hj : j < xs.length
      · rw [List.append_assoc, List.getElem?_append_left (by rw [List.length_take]; omega), List.getElem?_take, if_pos (by omega), Array.getElem?_toList]
        exact hct j x (by rw [List.getElem?_append_left hj] at hx; exact hx)
      · rw [List.getElem?_append_right (by omega)] at hx
        have hj2 := (List.getElem?_eq_some_iff.1 hx).1
        rw [List.append_assoc, List.getElem?_append_right (by rw [List.length_take]; omega), List.length_take, Nat.min_eq_left (by omega), show off + j - (off + xs.length) = j - xs.length from by omega,
          List.getElem?_append_left (by rw [hlm]; exact hj2), List.getElem?_map, hx]
        rfl
    · refine grow (some ⟨g, off, none⟩) cap (by omega) ?_ hcap
      rw [hs]
      exact run_firstCells_some w.drew 1 xs.length ⟨g, off, none⟩ xs.length cap _ (by simp) (fun j v hj => by
        rw [List.getElem?_map, Option.map_eq_some_iff] at hj
        obtain ⟨y, hy, rfl⟩ := hj
        rw [Addr.add_lit]
        show w.cell? _ = _
        rw [cellAt hh]
        exact hct j y hy)

theorem wpAppendQ {w : World} {ops : Array Oper} {rest : List Oper} {o : Oper} {a : Act} {Q : Exit → Act → World → Prop} (hgd : o.guard = none) (s x : Operand)
    (ho : o.op = .call { callee := .builtin .append, args := #[s, x], argTypes := #[41, 41] }) (base : Nat) (v : Value) (xs l : List Int) (hsv : a.eval s = v) (hq : IntsQ w base v xs)
    (u : Value) (hxv : a.eval x = u) (hu : IntsAt w u l) (hb : xs.length + l.length ≤ 10000000) (hbase : base ≤ w.heap.size)
    (hK : ∀ v' w', IntsQ w' base v' (xs ++ l) → Ch (fun k _ => v.ownBlock = some k) w w' → (v'.ownBlock = v.ownBlock ∨ v'.ownBlock = some w.heap.size) → wpList Tryd.prog ops Q rest (a.put o.dst v') w') :
    wpList Tryd.prog ops Q (o :: rest) a w := by
  refine wpList_plain hgd fun K hK' => ?_
  obtain ⟨v', w', hr, h1, h2, h3⟩ := run_appendQ w base v xs hq u l hu hb hbase o.type
  unfold Oper.wp
  simp [execOp, ho, resolve, invoke, builtin, hsv, hxv, hr, Result.andThen]
  exact hK' _ _ (hK v' w' h1 h2 h3)
end Go.Proofs.YtkffejgjpnnkmaaDoor
