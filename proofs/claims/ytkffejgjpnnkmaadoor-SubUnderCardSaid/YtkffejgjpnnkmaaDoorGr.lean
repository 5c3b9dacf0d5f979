/- Plain: graphs of numbers below n, what is above what, an order. -/
import Derived.Test.YtkffejgjpnnkmaaDoorLib
namespace Gr
/-- one above another, over one link or more -/
inductive Reach (up : Nat → List Nat) : Nat → Nat → Prop
  | one {i j} : j ∈ up i → Reach up i j
  | step {i j k} : j ∈ up i → Reach up j k → Reach up i k

theorem Reach.trans {up : Nat → List Nat} {i j k : Nat} (h : Reach up i j) (h' : Reach up j k) : Reach up i k := by
  induction h with
  | one h => exact .step h h'
  | step h _ ih => exact .step h (ih h')

theorem Reach.snoc {up : Nat → List Nat} {i j k : Nat} (h : Reach up i j) (h' : k ∈ up j) : Reach up i k := h.trans (.one h')

theorem Reach.lt {up : Nat → List Nat} {n : Nat} (hu : ∀ i, ∀ j ∈ up i, j < n) {i j : Nat} (h : Reach up i j) : j < n := by
  induction h with
  | one h => exact hu _ _ h
  | step _ _ ih => exact ih

/-- a set that holds all right above each of its own holds all above -/
theorem Reach.mem_of {up : Nat → List Nat} {S : Nat → Prop} (hS : ∀ i, S i → ∀ j ∈ up i, S j) {i j : Nat} (h : Reach up i j) (hi : S i) : S j := by
  induction h with
  | one h => exact hS _ hi _ h
  | step h _ ih => exact ih (hS _ hi _ h)

/-- the first that isn't done, and all right above it are -/
def pick (n : Nat) (up : Nat → List Nat) (done : List Nat) : Option Nat :=
  (List.range n).find? (fun i => !done.contains i && (up i).all (fun j => done.contains j))

/-- a list of the numbers below n in which each one stands behind those right above it -/
inductive Ord (n : Nat) (up : Nat → List Nat) : List Nat → Prop
  | nil : Ord n up []
  | snoc {l i} : Ord n up l → i < n → i ∉ l → (∀ j ∈ up i, j ∈ l) → Ord n up (l ++ [i])

theorem Ord.lt {n : Nat} {up : Nat → List Nat} {l : List Nat} (h : Ord n up l) : ∀ i ∈ l, i < n := by
  induction h with
  | nil => simp
  | snoc _ h1 _ _ ih =>
    intro i hi
    rcases List.mem_append.1 hi with hi | hi
    · exact ih i hi
    · simp at hi; omega

theorem Ord.nodup {n : Nat} {up : Nat → List Nat} {l : List Nat} (h : Ord n up l) : l.Nodup := by
  induction h with
  | nil => simp
  | snoc _ _ h2 _ ih =>
    rw [List.nodup_append]
    exact ⟨ih, by simp, fun a ha b hb => by simp at hb; subst hb; intro e; subst e; exact h2 ha⟩

theorem Ord.closed {n : Nat} {up : Nat → List Nat} {l : List Nat} (h : Ord n up l) : ∀ i ∈ l, ∀ j ∈ up i, j ∈ l := by
  induction h with
  | nil => simp
  | snoc _ _ _ h3 ih =>
    intro i hi j hj
    rcases List.mem_append.1 hi with hi | hi
    · exact List.mem_append.2 (.inl (ih i hi j hj))
    · simp at hi; subst hi; exact List.mem_append.2 (.inl (h3 j hj))

theorem Ord.reach {n : Nat} {up : Nat → List Nat} {l : List Nat} (h : Ord n up l) {i j : Nat} (hi : i ∈ l) (hr : Reach up i j) : j ∈ l :=
  hr.mem_of (S := (· ∈ l)) (fun i hi j hj => h.closed i hi j hj) hi

theorem Ord.noring {n : Nat} {up : Nat → List Nat} {l : List Nat} (h : Ord n up l) : ∀ i ∈ l, ¬ Reach up i i := by
  induction h with
  | nil => simp
  | @snoc l i h h1 h2 h3 ih =>
    intro k hk hr
    rcases List.mem_append.1 hk with hk | hk
    · exact ih k hk hr
    · simp at hk; subst hk
      cases hr with
      | one h => exact h2 (h3 _ h)
      | step h' h'' => exact h2 (h.reach (h3 _ h') h'')

/-- those that a set holds and that are above none of it: there is one, if nothing goes round -/
theorem least {up : Nat → List Nat} (hno : ∀ i, ¬ Reach up i i) : ∀ (m : Nat) (S : List Nat), S.length ≤ m → S ≠ [] → ∃ x ∈ S, ∀ y ∈ S, ¬ Reach up x y := by
  classical
  intro m
  induction m with
  | zero => intro S h hne; exact absurd (List.length_eq_zero_iff.1 (by omega)) hne
  | succ m ih =>
    intro S h hne
    obtain ⟨x, hx⟩ := List.exists_mem_of_ne_nil S hne
    by_cases he : ∃ y ∈ S, Reach up x y
    · obtain ⟨y, hy, hxy⟩ := he
      have hlt : (S.filter (fun z => decide (Reach up x z))).length < S.length := by
        rw [← List.countP_eq_length_filter]
        rcases Nat.lt_or_ge (S.countP (fun z => decide (Reach up x z))) S.length with h' | h'
        · exact h'
        · have := List.countP_le_length (p := fun z => decide (Reach up x z)) (l := S)
          have h3 := List.countP_eq_length.1 (Nat.le_antisymm this h') x hx
          exact absurd (by simpa using h3) (hno x)
      obtain ⟨z, hz, hz'⟩ := ih (S.filter (fun z => decide (Reach up x z))) (by omega) (by
        intro e
        have : y ∈ S.filter (fun z => decide (Reach up x z)) := List.mem_filter.2 ⟨hy, by simpa using hxy⟩
        rw [e] at this; cases this)
      have hz2 := List.mem_filter.1 hz
      refine ⟨z, hz2.1, fun u hu hzu => hz' u (List.mem_filter.2 ⟨hu, ?_⟩) hzu⟩
      have : Reach up x z := by simpa using hz2.2
      simpa using this.trans hzu
    · exact ⟨x, hx, fun y hy h => he ⟨y, hy, h⟩⟩

theorem pick_some {n : Nat} {up : Nat → List Nat} {done : List Nat} {i : Nat} (h : pick n up done = some i) : i < n ∧ i ∉ done ∧ ∀ j ∈ up i, j ∈ done := by
  unfold pick at h
  have h1 := List.find?_some h
  have h2 := List.mem_of_find?_eq_some h
  simp at h1 h2
  exact ⟨h2, h1.1, h1.2⟩

theorem pick_none {n : Nat} {up : Nat → List Nat} {done : List Nat} (h : pick n up done = none) {i : Nat} (hi : i < n) (hd : i ∉ done) : ∃ j ∈ up i, j ∉ done := by
  unfold pick at h
  rw [List.find?_eq_none] at h
  have := h i (List.mem_range.2 hi)
  simp at this
  exact this hd

theorem all_done {n : Nat} {up : Nat → List Nat} (hu : ∀ i, ∀ j ∈ up i, j < n) (hno : ∀ i, i < n → ¬ Reach up i i) {done : List Nat} (h : pick n up done = none) : ∀ i, i < n → i ∈ done := by
  intro i hi
  by_cases hd : i ∈ done
  · exact hd
  exfalso
  have hno' : ∀ i, ¬ Reach up i i := fun i hr => hno i (hr.lt hu) hr
  obtain ⟨x, hx, hx'⟩ := least hno' _ ((List.range n).filter (fun k => !done.contains k)) (Nat.le_refl _) (by
    intro e
    have : i ∈ (List.range n).filter (fun k => !done.contains k) := List.mem_filter.2 ⟨List.mem_range.2 hi, by simpa using hd⟩
    rw [e] at this; cases this)
  have h1 := List.mem_filter.1 hx
  obtain ⟨j, hj, hjd⟩ := pick_none h (List.mem_range.1 h1.1) (by simpa using h1.2)
  exact hx' j (List.mem_filter.2 ⟨List.mem_range.2 (hu _ _ hj), by simpa using hjd⟩) (.one hj)

/-- the order: of at most m more -/
def order (n : Nat) (up : Nat → List Nat) : Nat → List Nat → List Nat
  | 0, done => done
  | m + 1, done => match pick n up done with
    | some i => order n up m (done ++ [i])
    | none => done

theorem order_ord {n : Nat} {up : Nat → List Nat} : ∀ (m : Nat) (done : List Nat), Ord n up done → Ord n up (order n up m done)
  | 0, done, h => h
  | m + 1, done, h => by
    unfold order
    cases hp : pick n up done with
    | none => exact h
    | some i =>
      obtain ⟨h1, h2, h3⟩ := pick_some hp
      exact order_ord m _ (.snoc h h1 h2 h3)

theorem nodup_sub {α : Type} [DecidableEq α] : ∀ (l m : List α), l.Nodup → (∀ x ∈ l, x ∈ m) → l.length ≤ m.length
  | [], m, _, _ => Nat.zero_le _
  | x :: l, m, hd, hl => by
    have hx := hl x (by simp)
    have h1 := List.nodup_cons.1 hd
    have := nodup_sub l (m.erase x) h1.2 (fun y hy => (List.mem_erase_of_ne (by intro e; subst e; exact h1.1 hy)).2 (hl y (by simp [hy])))
    rw [List.length_erase_of_mem hx] at this
    have : 0 < m.length := List.length_pos_of_mem hx
    simp; omega

theorem nodup_len {n : Nat} {l : List Nat} (hd : l.Nodup) (hl : ∀ i ∈ l, i < n) : l.length ≤ n := by
  have := nodup_sub l (List.range n) hd (fun i hi => List.mem_range.2 (hl i hi))
  simpa using this

theorem order_none {n : Nat} {up : Nat → List Nat} : ∀ (m : Nat) (done : List Nat), Ord n up done → n ≤ m + done.length → pick n up (order n up m done) = none
  | 0, done, h, hm => by
    unfold order
    cases hp : pick n up done with
    | none => rfl
    | some i =>
      obtain ⟨h1, h2, h3⟩ := pick_some hp
      have := nodup_len (Ord.snoc h h1 h2 h3).nodup (Ord.snoc h h1 h2 h3).lt
      simp at this
      omega
  | m + 1, done, h, hm => by
    unfold order
    cases hp : pick n up done with
    | none => exact hp
    | some i =>
      obtain ⟨h1, h2, h3⟩ := pick_some hp
      exact order_none m _ (.snoc h h1 h2 h3) (by simp; omega)
end Gr
