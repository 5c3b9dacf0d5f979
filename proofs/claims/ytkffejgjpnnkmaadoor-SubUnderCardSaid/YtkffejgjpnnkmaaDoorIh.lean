/- Rising lists of numbers; a set in memory. -/
import Derived.Test.YtkffejgjpnnkmaaDoorIg
set_option linter.unusedVariables false
set_option linter.unusedSimpArgs false
namespace Go.Proofs.YtkffejgjpnnkmaaDoor
open Go.RowKit Go.W

/-- rising, and within the bounds -/
def Good (l : List Int) : Prop := l.Pairwise (· < ·) ∧ ∀ x ∈ l, 0 ≤ x ∧ x ≤ 1048575

theorem good_nil : Good [] := ⟨List.Pairwise.nil, by simp⟩

theorem len_le : ∀ (l : List Int) (a b : Int), l.Pairwise (· < ·) → (∀ x ∈ l, a ≤ x ∧ x ≤ b) → (l.length : Int) ≤ max 0 (b - a + 1)
  | [], a, b, _, _ => by simp; omega
  | x :: r, a, b, h, h2 => by
    obtain ⟨h3, h4⟩ := List.pairwise_cons.1 h
    have := h2 x (by simp)
    have := len_le r (x + 1) b h4 (fun y hy => ⟨by have := h3 y hy; omega, (h2 y (by simp [hy])).2⟩)
    simp only [List.length_cons]
    omega

theorem Good.len {l : List Int} (h : Good l) : l.length ≤ 1048576 := by
  have := len_le l 0 1048575 h.1 h.2
  omega

theorem Good.take {l : List Int} (h : Good l) (k : Nat) : Good (l.take k) := ⟨h.1.sublist (List.take_sublist _ _), fun x hx => h.2 x (List.mem_of_mem_take hx)⟩
theorem Good.filter {l : List Int} (h : Good l) (p : Int → Bool) : Good (l.filter p) := ⟨h.1.sublist List.filter_sublist, fun x hx => h.2 x (List.mem_filter.1 hx).1⟩

theorem mem_putS {l : List Int} {n m : Int} : m ∈ putS l n ↔ m ∈ l ∨ (m = n ∧ 0 ≤ n ∧ n ≤ 1048575) := by
  unfold putS
  split
  · rename_i h
    constructor
    · exact .inl
    · rintro (h1 | ⟨rfl, h1, h2⟩)
      · exact h1
      · rcases h with h | h | h
        · omega
        · omega
        · exact h
  · rename_i h
    have hl := List.takeWhile_append_dropWhile (p := (· < n)) (l := l)
    constructor
    · intro hm
      rcases List.mem_append.1 hm with hm | hm
      · exact .inl (by rw [← hl]; exact List.mem_append_left _ hm)
      · rcases List.mem_cons.1 hm with rfl | hm
        · exact .inr ⟨rfl, by omega, by omega⟩
        · exact .inl (by rw [← hl]; exact List.mem_append_right _ hm)
    · rintro (hm | ⟨rfl, _, _⟩)
      · rw [← hl] at hm
        rcases List.mem_append.1 hm with hm | hm
        · exact List.mem_append_left _ hm
        · exact List.mem_append_right _ (List.mem_cons_of_mem _ hm)
      · exact List.mem_append_right _ (List.mem_cons_self)

theorem tw_lt {l : List Int} {n : Int} : ∀ x ∈ l.takeWhile (· < n), x < n := by
  induction l with
  | nil => simp
  | cons y r ih =>
    intro x hx
    by_cases hy : y < n
    · simp only [List.takeWhile, hy, decide_true] at hx
      rcases List.mem_cons.1 hx with rfl | hx
      · exact hy
      · exact ih x hx
    · simp [List.takeWhile, hy] at hx

theorem dw_ge {l : List Int} {n : Int} (h : l.Pairwise (· < ·)) : ∀ x ∈ l.dropWhile (· < n), n ≤ x := by
  induction l with
  | nil => simp
  | cons y r ih =>
    obtain ⟨h3, h4⟩ := List.pairwise_cons.1 h
    intro x hx
    by_cases hy : y < n
    · simp only [List.dropWhile, hy, decide_true] at hx
      exact ih h4 x hx
    · simp only [List.dropWhile, hy, decide_false] at hx
      rcases List.mem_cons.1 hx with rfl | hx
      · omega
      · have := h3 x hx; omega

theorem Good.putS {l : List Int} (h : Good l) (n : Int) : Good (putS l n) := by
  refine ⟨?_, fun x hx => ?_⟩
  · unfold Go.Proofs.YtkffejgjpnnkmaaDoor.putS
    split
    · exact h.1
    · rename_i hn
      have hl := List.takeWhile_append_dropWhile (p := (· < n)) (l := l)
      have h1 := h.1
      rw [← hl] at h1
      obtain ⟨ha, hb, hc⟩ := List.pairwise_append.1 h1
      refine List.pairwise_append.2 ⟨ha, List.pairwise_cons.2 ⟨fun y hy => ?_, hb⟩, fun x hx y hy => ?_⟩
      · have := dw_ge h.1 y hy
        have : y ≠ n := by
          rintro rfl
          exact hn (.inr (.inr (by rw [← hl]; exact List.mem_append_right _ hy)))
        omega
      · rcases List.mem_cons.1 hy with rfl | hy
        · exact tw_lt x hx
        · exact hc x hx y hy
  · rcases mem_putS.1 hx with hx | ⟨rfl, h1, h2⟩
    · exact h.2 x hx
    · exact ⟨h1, h2⟩

theorem sorted_eq : ∀ {l l' : List Int}, l.Pairwise (· < ·) → l'.Pairwise (· < ·) → (∀ m, m ∈ l ↔ m ∈ l') → l = l'
  | [], [], _, _, _ => rfl
  | [], y :: r, _, _, h => absurd ((h y).2 (by simp)) (by simp)
  | x :: r, [], _, _, h => absurd ((h x).1 (by simp)) (by simp)
  | x :: r, y :: s, h1, h2, h => by
    obtain ⟨a, b⟩ := List.pairwise_cons.1 h1
    obtain ⟨c, d⟩ := List.pairwise_cons.1 h2
    have hxy : x = y := by
      have e1 := (h x).1 (by simp)
      have e2 := (h y).2 (by simp)
      rcases List.mem_cons.1 e1 with e | e1
      · exact e
      · rcases List.mem_cons.1 e2 with e | e2
        · exact e.symm
        · have := c x e1; have := a y e2; omega
    subst hxy
    rw [sorted_eq b d (fun m => ?_)]
    constructor
    · intro hm
      rcases List.mem_cons.1 ((h m).1 (by simp [hm])) with rfl | hm'
      · exact absurd (a m hm) (by omega)
      · exact hm'
    · intro hm
      rcases List.mem_cons.1 ((h m).2 (by simp [hm])) with rfl | hm'
      · exact absurd (c m hm) (by omega)
      · exact hm'

theorem countP_tw {l : List Int} {n : Int} (h : l.Pairwise (· < ·)) : l.takeWhile (· < n) = l.take (l.countP (· < n)) ∧ l.dropWhile (· < n) = l.drop (l.countP (· < n)) := by
  have hl := List.takeWhile_append_dropWhile (p := (· < n)) (l := l)
  have e : l.countP (· < n) = (l.takeWhile (· < n)).length := by
    conv => lhs; rw [← hl]
    rw [List.countP_append, List.countP_eq_length.2 (fun x hx => by simpa using tw_lt x hx), List.countP_eq_zero.2 (fun x hx => by have := dw_ge h x hx; simpa using this)]
    omega
  rw [e]
  constructor
  · have := @List.take_left _ (l.takeWhile (· < n)) (l.dropWhile (· < n))
    rw [hl] at this
    exact this.symm
  · have := @List.drop_left _ (l.takeWhile (· < n)) (l.dropWhile (· < n))
    rw [hl] at this
    exact this.symm

theorem putS_ins {l : List Int} {n : Int} (h : l.Pairwise (· < ·)) (h0 : 0 ≤ n) (h1 : n ≤ 1048575) (hn : n ∉ l) : putS l n = l.take (l.countP (· < n)) ++ n :: l.drop (l.countP (· < n)) := by
  obtain ⟨a, b⟩ := countP_tw (n := n) h
  unfold putS
  rw [if_neg (fun h => by rcases h with h | h | h <;> first | omega | exact hn h), a, b]

theorem putS_len {l : List Int} {n : Int} (h0 : 0 ≤ n) (h1 : n ≤ 1048575) (hn : n ∉ l) : (putS l n).length = l.length + 1 := by
  unfold putS
  rw [if_neg (fun h => by rcases h with h | h | h <;> first | omega | exact hn h)]
  have := congrArg List.length (List.takeWhile_append_dropWhile (p := (· < n)) (l := l))
  simp only [List.length_append, List.length_cons] at this ⊢
  omega

theorem putS_same {l : List Int} {n : Int} (h : ¬ (0 ≤ n ∧ n ≤ 1048575 ∧ n ∉ l)) : putS l n = l := by
  unfold putS
  rw [if_pos (by
    by_cases h1 : n < 0
    · exact .inl h1
    · by_cases h2 : 1048575 < n
      · exact .inr (.inl h2)
      · exact .inr (.inr (Classical.byContradiction fun h3 => h ⟨by omega, by omega, h3⟩)))]

/-- block sb is a set of the numbers l; ob: the block of its data -/
def SetAt (w : World) (sb : Nat) (l : List Int) (ob : Option Nat) : Prop :=
  Good l ∧ ((∃ lv, w.heap[sb]? = some (.cells #[lv, .slice none 0 0, .int .i64 l.length] 108 (0, 0)) ∧ IntsOwn w 0 lv l ∧ lv.ownBlock = ob ∧ ob ≠ some sb ∧ l.length ≤ 16) ∨
    (∃ b ws, ob = some b ∧ RowsAt w sb b l.length ws ∧ 0 < ws.length ∧ ws.length ≤ 32768 ∧ (∀ x ∈ ws, x < 18446744073709551616) ∧ ∀ n : Nat, (n : Int) ∈ l ↔ bit ws n = true))

/-- a set may change: its struct, its data -/
def So (sb : Nat) (ob : Option Nat) : Nat → Obj → Prop := fun k _ => k = sb ∨ ob = some k

theorem RowsAt.ch {S : Nat → Obj → Prop} {w w' : World} {sb ob : Nat} {c : Int} {ws : List Nat} (h : RowsAt w sb ob c ws) (hc : Ch S w w') (h1 : ∀ o, ¬ S sb o) (h2 : ∀ o, ¬ S ob o) : RowsAt w' sb ob c ws := by
  obtain ⟨hne, cap, ha, hb⟩ := h
  exact ⟨hne, cap, hc.keep _ _ ha (h1 _), ownsRow_ch hb hc (fun g cur e _ _ => by cases e; exact h2 _)⟩

theorem SetAt.ch {S : Nat → Obj → Prop} {w w' : World} {sb : Nat} {l : List Int} {ob : Option Nat} (h : SetAt w sb l ob) (hc : Ch S w w') (h1 : ∀ o, ¬ S sb o) (h2 : ∀ b o, ob = some b → ¬ S b o) : SetAt w' sb l ob := by
  obtain ⟨hg, h | ⟨b, ws, rfl, h, r⟩⟩ := h
  · obtain ⟨lv, ha, hb, hcb, r⟩ := h
    exact ⟨hg, .inl ⟨lv, hc.keep _ _ ha (h1 _), hb.ch hc (fun g o e _ _ => h2 g o (by rw [← hcb]; exact e)), hcb, r⟩⟩
  · exact ⟨hg, .inr ⟨b, ws, rfl, h.ch hc h1 (fun o => h2 b o rfl), r⟩⟩

theorem SetAt.no {w w' : World} {sb : Nat} {l : List Int} {ob : Option Nat} (h : SetAt w sb l ob) (hc : Ch No w w') : SetAt w' sb l ob := h.ch hc (fun _ h => h) (fun _ _ _ h => h)

theorem SetAt.lt {w : World} {sb : Nat} {l : List Int} {ob : Option Nat} (h : SetAt w sb l ob) : sb < w.heap.size ∧ ∀ b, ob = some b → b < w.heap.size := by
  obtain ⟨hg, h | ⟨b, ws, rfl, ⟨hne, cap, ha, hb⟩, r⟩⟩ := h
  · obtain ⟨lv, ha, hb, hcb, r⟩ := h
    exact ⟨lt_size ha, fun b e => (hb.lt b (hcb.trans e)).2⟩
  · exact ⟨lt_size ha, fun b' e => by cases e; exact (hb.lt b rfl).2⟩

set_option maxHeartbeats 1000000 in
theorem many_list {w : World} {sb : Nat} {lv : Value} {c : Int} (h : w.heap[sb]? = some (.cells #[lv, .slice none 0 0, .int .i64 c] 108 (0, 0))) :
    Calls Tryd.prog 70 #[.pointer (some ⟨sb, 0, none⟩)] w fun e w' => e = .returned (.bool false) ∧ w' = w := by
  have c1 := cellAt h 1
  have H := hid h
  clear h
  go_enter Tryd.func70, Tryd.ntmps70
  go_wp2_with fail
  go_ret
  exact ⟨rfl, rfl⟩

set_option maxHeartbeats 1000000 in
theorem many_rows {w : World} {sb b : Nat} {c : Int} {ws : List Nat} (h : RowsAt w sb b c ws) :
    Calls Tryd.prog 70 #[.pointer (some ⟨sb, 0, none⟩)] w fun e w' => e = .returned (.bool true) ∧ w' = w := by
  obtain ⟨_, cap, h, _⟩ := h
  have c1 := cellAt h 1
  have H := hid h
  clear h
  go_enter Tryd.func70, Tryd.ntmps70
  go_wp2_with fail
  go_ret
  exact ⟨rfl, rfl⟩
end Go.Proofs.YtkffejgjpnnkmaaDoor
