/- What Same, Minus, Put and Of of the reference 01 answer. -/
import Derived.Test.YtbcbdjeoloepjaaDoorIa
set_option linter.unusedVariables false
namespace Go.Proofs.YtbcbdjeoloepjaaDoor
open Go.RowKit Go.W

/-- a sorted list with a number more -/
def putS (l : List Int) (n : Int) : List Int :=
  if n < 0 ∨ 1048575 < n ∨ n ∈ l then l else l.takeWhile (· < n) ++ n :: l.dropWhile (· < n)

set_option maxHeartbeats 2000000 in
theorem rsame {w : World} {v v' : Value} {l l' : List Int} (h : IntsAt w v l) (h' : IntsAt w v' l') :
    Calls Tryd.prog 12 #[v, v'] w fun e w' => e = .returned (.bool (decide (l = l'))) ∧ ∃ q, w' = w.drewN q := by
  obtain ⟨ao, cap, rfl, hcap, hmax, hnc, hcell⟩ := h
  obtain ⟨ao', cap', rfl, hcap', hmax', hnc', hcell'⟩ := h'
  obtain ⟨len, hlen⟩ : ∃ len, l.length = len := ⟨_, rfl⟩
  obtain ⟨len', hlen'⟩ : ∃ len', l'.length = len' := ⟨_, rfl⟩
  rw [hlen] at hcap hcell ⊢
  rw [hlen'] at hcap' hcell' ⊢
  unfold maxLen at hmax hmax'
  have HL := hid hlen
  have HL' := hid hlen'
  obtain ⟨r, hr⟩ : ∃ r, decide (l = l') = r := ⟨_, rfl⟩
  rw [hr]
  have HR := hid hr
  clear hlen hr hlen' hnc hnc'
  by_cases hne : len = len'
  · subst hne
    go_enter Tryd.func12, Tryd.ntmps12
    go_wp2_with fail
    go_loopg [5] len (fun g s5 wr => ∃ k q : Nat, k ≤ len ∧ len - k ≤ g ∧ s5 = .int .i64 k ∧ wr = w.drewN q ∧ l.take k = l'.take k)
    case atStart => exact ⟨0, 0, Nat.zero_le _, by omega, rfl, rfl, by simp⟩
    case round =>
      obtain ⟨k, q, hk, hg, rfl, rfl, heq⟩ := hrel
      have HQ := hid heq
      clear heq
      cases hd : decide (k < len) with
      | true =>
        have hkl : k < len := by simpa using hd
        obtain ⟨b, off, rfl, hc⟩ := hcell (by omega)
        obtain ⟨b', off', rfl, hc'⟩ := hcell' (by omega)
        obtain ⟨x, hx⟩ : ∃ x, l[k]? = some x := ⟨_, List.getElem?_eq_getElem (by have := HL.out; omega)⟩
        obtain ⟨y, hy⟩ : ∃ y, l'[k]? = some y := ⟨_, List.getElem?_eq_getElem (by have := HL'.out; omega)⟩
        have hq := hc k x hx
        have hq' := hc' k y hy
        have HX := hid hx
        have HY := hid hy
        clear hc hcell hx hc' hcell' hy
        cases e0 : (x != y) with
        | false =>
          go_wp2_with fail
          go_quiet (fail)
          go_wp2_with fail
          go_roundg (len - k - 1)
          case rel =>
            refine ⟨k + 1, _, by omega, by omega, by go_num, rfl, ?_⟩
            have hx := HX.out
            have hy := HY.out
            have : x = y := by simpa using e0
            subst this
            rw [List.take_add_one, List.take_add_one, hx, hy, HQ.out]
          case measure => omega
        | true =>
          go_wp2_with fail
          go_quiet (fail)
          go_wp2_with fail
          go_ret
          refine ⟨ret_bool ?_, _, World.drewN_drewN ..⟩
          rw [← HR.out]; symm; rw [decide_eq_false_iff_not]
          rintro rfl
          have hx := HX.out
          have hy := HY.out
          rw [hx] at hy
          cases hy
          simp at e0
      | false =>
        go_wp2_with fail
        go_ret
        refine ⟨ret_bool ?_, _, rfl⟩
        rw [← HR.out]; symm; rw [decide_eq_true_eq]
        have hkl : ¬ k < len := by simpa using hd
        have := HQ.out
        rwa [List.take_of_length_le (by have := HL.out; omega), List.take_of_length_le (by have := HL'.out; omega)] at this
  · have e1 : ((len : Int) == (len' : Int)) = false := by simp; omega
    go_enter Tryd.func12, Tryd.ntmps12
    go_wp2_with fail
    go_ret
    refine ⟨ret_bool ?_, 0, rfl⟩
    rw [← HR.out]; symm; rw [decide_eq_false_iff_not]
    rintro rfl
    exact hne (HL.out.symm.trans HL'.out)

theorem one_at (w : World) (x : Int) : IntsAt (w.alloc (.cells #[.int .i64 x] 3)) (.slice (some ⟨w.heap.size, 0, none⟩) 1 1) [x] := by
  refine ⟨_, 1, rfl, Nat.le_refl _, by decide, (fun h => by cases h), fun _ => ⟨_, _, rfl, fun i y hy => ?_⟩⟩
  have hi := (List.getElem?_eq_some_iff.1 hy).1
  have : i = 0 := by simp at hi; omega
  subst this
  simp at hy; subst hy
  exact World.cell?_alloc_new ..

theorem take_filter {l : List Int} {k : Nat} {x : Int} (p : Int → Bool) (hx : l[k]? = some x) : (l.take (k + 1)).filter p = (l.take k).filter p ++ (if p x then [x] else []) := by
  rw [List.take_add_one, hx, List.filter_append]
  cases h : p x <;> simp [h]

set_option maxHeartbeats 2000000 in
theorem rminus {w : World} {v v' : Value} {l l' : List Int} (h : IntsAt w v l) (h' : IntsAt w v' l') (hlen5 : l.length ≤ 5000000) :
    Calls Tryd.prog 14 #[v, v'] w fun e w' => ∃ u, e = .returned u ∧ IntsOwn w' w.heap.size u (l.filter (fun x => !decide (x ∈ l'))) ∧ Ch No w w' := by
  obtain ⟨ao, cap, rfl, hcap, hmax, hnc, hcell⟩ := h
  obtain ⟨len, hlen⟩ : ∃ len, l.length = len := ⟨_, rfl⟩
  rw [hlen] at hcap hcell hlen5 ⊢
  unfold maxLen at hmax
  obtain ⟨f, hf⟩ : ∃ f : Int → Bool, f = (fun x => !decide (x ∈ l')) := ⟨_, rfl⟩
  rw [← hf]
  have HF := hid hf
  have HL := hid hlen
  clear hlen hnc hf
  go_enter Tryd.func14, Tryd.ntmps14
  go_wp2_with fail
  go_loopg [5, 6] len (fun g s5 s6 wr => ∃ (k : Nat), k ≤ len ∧ len - k ≤ g ∧ s6 = .int .i64 k ∧ IntsOwn wr w.heap.size s5 ((l.take k).filter f) ∧ Ch No w wr)
  case atStart => exact ⟨0, Nat.zero_le _, by omega, rfl, by simpa using IntsOwn.nil _ _, Ch.refl _ _⟩
  case round =>
    obtain ⟨k, hk, hg, rfl, hown, hch⟩ := hrel
    cases hd : decide (k < len) with
    | true =>
      have hkl : k < len := by simpa using hd
      obtain ⟨b, off, rfl, hc⟩ := hcell (by omega)
      obtain ⟨x, hx⟩ : ∃ x, l[k]? = some x := ⟨_, List.getElem?_eq_getElem (by have := HL.out; omega)⟩
      have hq := cell_ch (hc k x hx) hch (fun _ _ h => h)
      have HX := hid hx
      have hu := h'.no hch
      have hsz := hch.size
      clear hc hcell hx h'
      go_wp2_with fail
      refine (rhas hu x).mono ?_
      rintro e w' ⟨rfl, rfl⟩
      have hfl : ((l.take k).filter f).length ≤ 5000000 := Nat.le_trans (List.length_filter_le _ _) (by rw [List.length_take]; omega)
      have hb1 : ((l.take k).filter f).length + [x].length ≤ 10000000 := by simp; omega
      cases e0 : decide (x ∈ l') with
      | true =>
        go_wp2_with fail
        go_roundg (len - k - 1)
        case rel =>
          refine ⟨k + 1, by omega, by omega, by go_num, ?_, hch⟩
          rw [take_filter f HX.out, HF.out]
          simpa [e0, HF.out] using hown
        case measure => omega
      | false =>
        go_wp2_with (at_builtin; go_must (refine wpAppendI rfl _ _ rfl w.heap.size _ _ [x] rfl (hown.alloc _) (.slice (some ⟨w'.heap.size, 0, none⟩) 1 1) rfl (one_at w' x) hb1 (hch.alloc _).size ?_))
        intro v1 w1 hown1 hgrow1
        go_wp2_with fail
        go_roundg (len - k - 1)
        case rel =>
          refine ⟨k + 1, by omega, by omega, by go_num, ?_, ?_⟩
          · rw [take_filter f HX.out]
            have : f x = true := by rw [HF.out]; simp [e0]
            simpa [this] using hown1
          · exact (hch.alloc _).grown hgrow1 (fun k o hk ho => by
              have := hown.lt k hk
              have := lt_size ho
              omega)
        case measure => omega
    | false =>
      go_wp2_with fail
      go_ret
      have hkl : ¬ k < len := by simpa using hd
      refine ⟨_, rfl, ?_, hch⟩
      rwa [List.take_of_length_le (by have := HL.out; omega)] at hown
end Go.Proofs.YtbcbdjeoloepjaaDoor
