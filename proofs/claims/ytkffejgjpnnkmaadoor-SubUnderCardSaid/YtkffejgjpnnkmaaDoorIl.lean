/- The bits of the words, lowest first (plain); Clone, Equal. -/
import Derived.Test.YtkffejgjpnnkmaaDoorIk
set_option linter.unusedVariables false
set_option linter.unusedSimpArgs false
namespace Go.Proofs.YtkffejgjpnnkmaaDoor
open Go.RowKit Go.W

/-- the numbers of the bits of a word -/
def wb (i x : Nat) : List Int := ((List.range 64).filter (x.testBit ·)).map (fun j => ((64 * i + j : Nat) : Int))
/-- the numbers of the bits of the first k words -/
def rl (ws : List Nat) (k : Nat) : List Int := ((List.range (64 * k)).filter (bit ws ·)).map (fun j => ((j : Nat) : Int))

theorem rl_zero (ws : List Nat) : rl ws 0 = [] := rfl

theorem rl_succ (ws : List Nat) (k : Nat) : rl ws (k + 1) = rl ws k ++ wb k (ws.getD k 0) := by
  unfold rl wb
  rw [show 64 * (k + 1) = 64 * k + 64 by omega, List.range_add, List.filter_append, List.map_append, List.filter_map, List.map_map]
  congr 1
  have e : (List.range 64).filter ((bit ws ·) ∘ (64 * k + ·)) = (List.range 64).filter ((ws.getD k 0).testBit ·) := by
    apply List.filter_congr
    intro j hj
    have hj' : j < 64 := by simpa using hj
    show bit ws (64 * k + j) = _
    unfold bit
    rw [show (64 * k + j) / 64 = k by omega, show (64 * k + j) % 64 = j by omega]
  rw [e]
  rfl

theorem natSorted {l l' : List Nat} (h : l.Pairwise (· < ·)) (h' : l'.Pairwise (· < ·)) (hm : ∀ m, m ∈ l ↔ m ∈ l') : l = l' := by
  have hs : ∀ l : List Nat, l.Pairwise (· < ·) → (l.map (fun (n : Nat) => (n : Int))).Pairwise (· < ·) := fun l h => by
    rw [List.pairwise_map]; exact h.imp (fun h => by omega)
  have := sorted_eq (hs l h) (hs l' h') (fun m => by
    constructor
    · intro hx
      obtain ⟨n, hn, rfl⟩ := List.mem_map.1 hx
      exact List.mem_map.2 ⟨n, (hm n).1 hn, rfl⟩
    · intro hx
      obtain ⟨n, hn, rfl⟩ := List.mem_map.1 hx
      exact List.mem_map.2 ⟨n, (hm n).2 hn, rfl⟩)
  exact List.map_inj_right (fun a b h => by exact_mod_cast h) |>.1 this

theorem low_bits (x : Nat) (h0 : x ≠ 0) (hx : x < 18446744073709551616) :
    (List.range 64).filter (x.testBit ·) = Go.Lib.ctz 64 x :: (List.range 64).filter ((x &&& (x - 1)).testBit ·) ∧ Go.Lib.ctz 64 x < 64 ∧ x &&& (x - 1) < x := by
  obtain ⟨m, hm, hk⟩ := Go.Lib.ctzFrom_spec 64 x (by omega) hx
  have e : Go.Lib.ctz 64 x = Go.Lib.ctzFrom 64 x := by simp [Go.Lib.ctz, h0]
  rw [e]
  generalize Go.Lib.ctzFrom 64 x = c at hm hk ⊢
  have hp : 0 < 2 ^ c := Nat.two_pow_pos c
  have h1 : x = 2 ^ c * (2 * m + 1) + 0 := by omega
  have h2 : x - 1 = 2 ^ c * (2 * m) + (2 ^ c - 1) := by
    rw [hm, Nat.mul_add, Nat.mul_one]; omega
  have t1 : ∀ j, x.testBit j = if j < c then false else (2 * m + 1).testBit (j - c) := fun j => by
    rw [h1, Nat.testBit_two_pow_mul_add _ hp]; simp
  have t2 : ∀ j, (x - 1).testBit j = if j < c then (2 ^ c - 1).testBit j else (2 * m).testBit (j - c) := fun j => by
    rw [h2, Nat.testBit_two_pow_mul_add _ (by omega)]
  have t3 : ∀ j, (x &&& (x - 1)).testBit j = (x.testBit j && j != c) := fun j => by
    rw [Nat.testBit_and, t1, t2]
    by_cases hj : j < c
    · simp [hj]
    · simp only [if_neg hj]
      by_cases hjc : j = c
      · subst hjc; simp
      · obtain ⟨d, hd⟩ : ∃ d, j - c = d + 1 := ⟨j - c - 1, by omega⟩
        rw [hd, Nat.testBit_succ, Nat.testBit_succ, show (2 * m + 1) / 2 = m by omega, show 2 * m / 2 = m by omega]
        simp [hjc]
  have tc : x.testBit c = true := by rw [t1]; simp
  have tlow : ∀ j, x.testBit j = true → c ≤ j := fun j hj => by
    rw [t1] at hj
    by_cases h : j < c
    · simp [h] at hj
    · omega
  refine ⟨?_, hk, ?_⟩
  · refine natSorted (List.pairwise_lt_range.sublist List.filter_sublist) (List.pairwise_cons.2 ⟨fun j hj => ?_, List.pairwise_lt_range.sublist List.filter_sublist⟩) (fun j => ?_)
    · rw [List.mem_filter, t3] at hj
      have := hj.2
      simp only [Bool.and_eq_true, bne_iff_ne] at this
      have := tlow j this.1
      omega
    · rw [List.mem_cons, List.mem_filter, List.mem_filter, t3]
      constructor
      · rintro ⟨a, b⟩
        by_cases hjc : j = c
        · exact .inl hjc
        · exact .inr ⟨a, by simp [b, hjc]⟩
      · rintro (rfl | ⟨a, b⟩)
        · exact ⟨by simpa using hk, tc⟩
        · simp only [Bool.and_eq_true] at b
          exact ⟨a, b.1⟩
  · have hle : x &&& (x - 1) ≤ x := Nat.and_le_left
    have hne : x &&& (x - 1) ≠ x := fun h => by
      have := t3 c
      rw [h, tc] at this
      simp at this
    omega

theorem wb_zero (i : Nat) : wb i 0 = [] := by simp [wb]

theorem wb_low (i x : Nat) (h0 : x ≠ 0) (hx : x < 18446744073709551616) : wb i x = ((64 * i + Go.Lib.ctz 64 x : Nat) : Int) :: wb i (x &&& (x - 1)) := by
  unfold wb
  rw [(low_bits x h0 hx).1]
  rfl

theorem rl_good {ws : List Nat} {l : List Int} (hg : Good l) (hh : Holds ws l) : rl ws ws.length = l := by
  refine sorted_eq ?_ hg.1 (fun m => ?_)
  · unfold rl
    rw [List.pairwise_map]
    exact (List.pairwise_lt_range.sublist List.filter_sublist).imp (fun h => by omega)
  · unfold rl
    constructor
    · intro h
      obtain ⟨n, hn, rfl⟩ := List.mem_map.1 h
      exact (hh.2.2.2 n).2 (List.mem_filter.1 hn).2
    · intro h
      have h2 := hg.2 m h
      obtain ⟨n, rfl⟩ : ∃ n : Nat, m = (n : Int) := ⟨m.toNat, by omega⟩
      have hb := (hh.2.2.2 n).1 h
      refine List.mem_map.2 ⟨n, List.mem_filter.2 ⟨?_, hb⟩, rfl⟩
      rw [List.mem_range]
      apply Classical.byContradiction
      intro hn
      have : bit ws n = false := by
        unfold bit
        rw [List.getD_eq_getElem?_getD, List.getElem?_eq_none (by omega)]
        simp
      rw [this] at hb
      cases hb

theorem wb_len (i x : Nat) : (wb i x).length ≤ 64 := by
  unfold wb
  rw [List.length_map]
  have := List.length_filter_le (x.testBit ·) (List.range 64)
  simpa using this

theorem rl_len (ws : List Nat) (k : Nat) : (rl ws k).length ≤ 64 * k := by
  unfold rl
  rw [List.length_map]
  have := List.length_filter_le (bit ws ·) (List.range (64 * k))
  simpa using this

set_option maxHeartbeats 1000000 in
theorem sclone {w : World} {v : Value} {l : List Int} (h : IntsAt w v l) (hl : l.length ≤ 5000000) :
    Calls Tryd.prog 52 #[v] w fun e w' => ∃ u, e = .returned u ∧ IntsOwn w' w.heap.size u l ∧ Ch No w w' := by
  have h' := h
  obtain ⟨ao, cap, rfl, hcap, hmax, hnc, hcell⟩ := h
  have ht : Tryd.prog.underlying 41 = some (.slice 3) := by kernel_rfl
  have q22 : ∀ (w : World) (a : Option Addr) (n c n' c' : Nat), (binOp .eql 41 (.slice a n c) (.slice none n' c')).run Tryd.prog w = .ok (.bool a.isNone) w := fun w a n c n' c' => Go.Lib.run_eql_slice_nil w _ _ a n c n' c' ht
  clear ht
  cases ao with
  | none =>
    obtain rfl := hnc rfl
    obtain rfl := List.length_eq_zero_iff.1 (Nat.le_zero.1 hcap)
    clear h' hcell hnc
    go_enter Tryd.func52, Tryd.ntmps52
    go_wp2_with fail
    go_ret
    exact ⟨_, rfl, IntsOwn.nil _ _, Ch.refl _ _⟩
  | some ad =>
    have ha := h'.alloc (.cells #[] 3)
    have hb : ([] : List Int).length + l.length ≤ 10000000 := by simp; omega
    have ho : IntsOwn (w.alloc (.cells #[] 3)) w.heap.size (.slice (some ⟨w.heap.size, 0, none⟩) 0 0) [] := World.ownsRow_made w #[] 0 (Nat.le_refl _) (Nat.zero_le _) rfl
    have hsz : w.heap.size ≤ (w.alloc (.cells #[] 3)).heap.size := ((Ch.refl No w).alloc _).size
    clear h' hcell hnc
    go_enter Tryd.func52, Tryd.ntmps52
    go_wp2_with (at_builtin; go_must (refine wpAppendI rfl _ _ rfl w.heap.size _ [] l rfl ho _ rfl ha hb hsz ?_))
    intro v1 w1 hown1 hgrow1
    go_wp2_with fail
    go_ret
    refine ⟨_, rfl, ?_, ((Ch.refl No w).alloc _).grown hgrow1 (fun k o h1 h2 => ?_)⟩
    · simpa using hown1
    · have e : w.heap.size = k := Option.some.inj h1
      have := lt_size h2
      omega
end Go.Proofs.YtkffejgjpnnkmaaDoor
