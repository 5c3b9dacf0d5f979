/- What Same, Minus, Put and Of of the reference 01 answer. -/
import Derived.Test.YtkffejgjpnnkmaaDoorIa
set_option linter.unusedVariables false
set_option linter.unusedSimpArgs false
namespace Go.Proofs.YtkffejgjpnnkmaaDoor
open Go.RowKit Go.W

/-- a sorted list with a number more -/
def putS (l : List Int) (n : Int) : List Int :=
  if n < 0 ∨ 1048575 < n ∨ n ∈ l then l else l.takeWhile (· < n) ++ n :: l.dropWhile (· < n)

set_option maxHeartbeats 2000000 in
theorem rsame {w : World} {v v' : Value} {l l' : List Int} (h : IntsAt w v l) (h' : IntsAt w v' l') :
    Calls Tryd.prog 19 #[v, v'] w fun e w' => e = .returned (.bool (decide (l = l'))) ∧ ∃ q, w' = w.drewN q := by
  obtain ⟨ao, cap, rfl, hcap, hmax, hnc, hcell⟩ := h
  obtain ⟨ao', cap', rfl, hcap', hmax', hnc', hcell'⟩ := h'
  obtain ⟨len, hlen⟩ : ∃ len, l.length = len := ⟨_, rfl⟩
  obtain ⟨len', hlen'⟩ : ∃ len', l'.length = len' := ⟨_, rfl⟩
  rw [hlen] at hcap hcell ⊢
  rw [hlen'] at hcap' hcell' ⊢
  unfold maxLen at hmax hmax'
  have HL := hid hlen
  have HL' := hid hlen'
  obtain ⟨r, hr⟩ : ∃ r, decide (l = l') = r := ⟨_, rfl⟩
  rw [hr]
  have HR := hid hr
  clear hlen hr hlen' hnc hnc'
  by_cases hne : len = len'
  · subst hne
    go_enter Tryd.func19, Tryd.ntmps19
    go_wp2_with fail
    go_loopg [5] len (fun g s5 wr => ∃ k q : Nat, k ≤ len ∧ len - k ≤ g ∧ s5 = .int .i64 k ∧ wr = w.drewN q ∧ l.take k = l'.take k)
    case atStart => exact ⟨0, 0, Nat.zero_le _, by omega, rfl, rfl, by simp⟩
    case round =>
      obtain ⟨k, q, hk, hg, rfl, rfl, heq⟩ := hrel
      have HQ := hid heq
      clear heq
      cases hd : decide (k < len) with
      | true =>
        have hkl : k < len := by simpa using hd
        obtain ⟨b, off, rfl, hc⟩ := hcell (by omega)
        obtain ⟨b', off', rfl, hc'⟩ := hcell' (by omega)
        obtain ⟨x, hx⟩ : ∃ x, l[k]? = some x := ⟨_, List.getElem?_eq_getElem (by have := HL.out; omega)⟩
        obtain ⟨y, hy⟩ : ∃ y, l'[k]? = some y := ⟨_, List.getElem?_eq_getElem (by have := HL'.out; omega)⟩
        have hq := hc k x hx
        have hq' := hc' k y hy
        have HX := hid hx
        have HY := hid hy
        clear hc hcell hx hc' hcell' hy
        cases e0 : (x != y) with
        | false =>
          go_wp2_with fail
          go_quiet (fail)
          go_wp2_with fail
          go_roundg (len - k - 1)
          case rel =>
            refine ⟨k + 1, _, by omega, by omega, by go_num, rfl, ?_⟩
            have hx := HX.out
            have hy := HY.out
            have : x = y := by simpa using e0
            subst this
            rw [List.take_add_one, List.take_add_one, hx, hy, HQ.out]
          case measure => omega
        | true =>
          go_wp2_with fail
          go_quiet (fail)
          go_wp2_with fail
          go_ret
          refine ⟨ret_bool ?_, _, World.drewN_drewN ..⟩
          rw [← HR.out]; symm; rw [decide_eq_false_iff_not]
          rintro rfl
          have hx := HX.out
          have hy := HY.out
          rw [hx] at hy
          cases hy
          simp at e0
      | false =>
        go_wp2_with fail
        go_ret
        refine ⟨ret_bool ?_, _, rfl⟩
        rw [← HR.out]; symm; rw [decide_eq_true_eq]
        have hkl : ¬ k < len := by simpa using hd
        have := HQ.out
        rwa [List.take_of_length_le (by have := HL.out; omega), List.take_of_length_le (by have := HL'.out; omega)] at this
  · have e1 : ((len : Int) == (len' : Int)) = false := by simp; omega
    go_enter Tryd.func19, Tryd.ntmps19
    go_wp2_with fail
    go_ret
    refine ⟨ret_bool ?_, 0, rfl⟩
    rw [← HR.out]; symm; rw [decide_eq_false_iff_not]
    rintro rfl
    exact hne (HL.out.symm.trans HL'.out)

theorem one_at (w : World) (x : Int) : IntsAt (w.alloc (.cells #[.int .i64 x] 3)) (.slice (some ⟨w.heap.size, 0, none⟩) 1 1) [x] := by
  refine ⟨_, 1, rfl, Nat.le_refl _, by decide, (fun h => by cases h), fun _ => ⟨_, _, rfl, fun i y hy => ?_⟩⟩
  have hi := (List.getElem?_eq_some_iff.1 hy).1
  have : i = 0 := by simp at hi; omega
  subst this
  simp at hy; subst hy
  exact World.cell?_alloc_new ..

theorem take_filter {l : List Int} {k : Nat} {x : Int} (p : Int → Bool) (hx : l[k]? = some x) : (l.take (k + 1)).filter p = (l.take k).filter p ++ (if p x then [x] else []) := by
  rw [List.take_add_one, hx, List.filter_append]
  cases h : p x <;> simp [h]


end Go.Proofs.YtkffejgjpnnkmaaDoor
