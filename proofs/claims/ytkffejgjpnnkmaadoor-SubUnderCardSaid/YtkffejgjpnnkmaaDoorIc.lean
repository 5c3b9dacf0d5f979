/- What Put and Of of the reference 01 answer. -/
import Derived.Test.YtkffejgjpnnkmaaDoorIb
set_option linter.unusedVariables false
set_option linter.unusedSimpArgs false
namespace Go.Proofs.YtkffejgjpnnkmaaDoor
open Go.RowKit Go.W

theorem tw_take {l : List Int} {n : Int} : ∀ {k : Nat}, (∀ x ∈ l.take k, x < n) → (∀ x, l[k]? = some x → ¬ x < n) → l.takeWhile (· < n) = l.take k ∧ l.dropWhile (· < n) = l.drop k := by
  induction l with
  | nil => intro k _ _; simp
  | cons y r ih =>
    intro k h1 h2
    cases k with
    | zero =>
      have := h2 y rfl
      simp [List.takeWhile, List.dropWhile, this]
    | succ k =>
      have hy : y < n := h1 y (by simp)
      obtain ⟨a, b⟩ := @ih k (fun x hx => h1 x (by simp [hx])) (fun x hx => h2 x (by simpa using hx))
      simp [List.takeWhile, List.dropWhile, hy, a, b]

theorem drop_at {w : World} {ao : Option Addr} {len cap k : Nat} {l : List Int} (h : IntsAt w (.slice ao len cap) l) (hk : k ≤ len) :
    ∀ b off, ao = some ⟨b, off, none⟩ → IntsAt w (.slice (some ⟨b, off + k, none⟩) (len - k) (cap - k)) (l.drop k) := by
  rintro b off rfl
  obtain ⟨ao, c, e, h1, h2, h3, h4⟩ := h
  cases e
  refine ⟨_, _, by rw [List.length_drop], by rw [List.length_drop]; omega, by omega, (fun h => by cases h), fun h0 => ⟨b, off + k, rfl, fun i x hx => ?_⟩⟩
  rw [List.length_drop] at h0
  obtain ⟨b', off', e, h5⟩ := h4 (by omega)
  cases e
  rw [List.getElem?_drop] at hx
  rw [Nat.add_assoc]
  exact h5 _ _ hx

set_option maxHeartbeats 4000000 in
theorem rput {w : World} {v : Value} {l : List Int} (h : IntsAt w v l) (n : Int) (hlen5 : l.length ≤ 3000000) :
    Calls Tryd.prog 18 #[v, .int .i64 n] w fun e w' => ∃ u, e = .returned u ∧ (u = v ∧ putS l n = l ∨ IntsOwn w' w.heap.size u (putS l n)) ∧ Ch No w w' := by
  have h' := h
  obtain ⟨ao, cap, rfl, hcap, hmax, hnc, hcell⟩ := h
  obtain ⟨len, hlen⟩ : ∃ len, l.length = len := ⟨_, rfl⟩
  rw [hlen] at hcap hcell hlen5 h' ⊢
  unfold maxLen at hmax
  have HL := hid hlen
  clear hlen
  cases e1 : decide (n < 0) with
  | true =>
    go_enter Tryd.func18, Tryd.ntmps18
    go_wp2_with fail
    go_ret
    exact ⟨_, rfl, .inl ⟨rfl, by simp at e1; simp [putS, e1]⟩, Ch.refl _ _⟩
  | false =>
  cases e2 : decide (n > 1048575) with
  | true =>
    go_enter Tryd.func18, Tryd.ntmps18
    go_wp2_with fail
    go_ret
    exact ⟨_, rfl, .inl ⟨rfl, by simp at e2; simp [putS, e2]⟩, Ch.refl _ _⟩
  | false =>
  cases e3 : decide (n ∈ l) with
  | true =>
    go_enter Tryd.func18, Tryd.ntmps18
    go_wp2_with (refine (rhas h' n).mono ?_; rintro e w' ⟨rfl, rfl⟩; rw [e3])
    go_ret
    exact ⟨_, rfl, .inl ⟨rfl, by simp at e3; simp [putS, e3]⟩, Ch.refl _ _⟩
  | false =>
    go_enter Tryd.func18, Tryd.ntmps18
    go_wp2_with (refine (rhas h' n).mono ?_; rintro e w' ⟨rfl, rfl⟩; rw [e3])
    go_loopg [5, 6] len (fun g s5 s6 wr => ∃ (k : Nat), k ≤ len ∧ len - k ≤ g ∧ s6 = .int .i64 k ∧ IntsOwn wr w'.heap.size s5 (l.take k) ∧ Ch No w' wr ∧ Hid (∀ x ∈ l.take k, x < n))
    case atStart => exact ⟨0, Nat.zero_le _, by omega, rfl, by simpa using IntsOwn.nil _ _, Ch.refl _ _, hid (by simp)⟩
    case round =>
      obtain ⟨k, hk, hg, rfl, hown, hch, HA⟩ := hrel
      have hfl : (l.take k).length = k := by rw [List.length_take]; have := HL.out; omega
      cases hd : decide (k < len) with
      | true =>
        have hkl : k < len := by simpa using hd
        obtain ⟨b, off, rfl, hc⟩ := hcell (by omega)
        obtain ⟨x, hx⟩ : ∃ x, l[k]? = some x := ⟨_, List.getElem?_eq_getElem (by have := HL.out; omega)⟩
        have hq := cell_ch (hc k x hx) hch (fun _ _ h => h)
        have HX := hid hx
        have hsz := hch.size
        clear hc hcell hx
        cases e4 : decide (x < n) with
        | true =>
          have hb1 : (l.take k).length + [x].length ≤ 10000000 := by simp only [List.length_singleton]; omega
          go_wp2_with (at_builtin; go_must (refine wpAppendI rfl _ _ rfl w'.heap.size _ _ [x] rfl (hown.alloc _) (.slice (some ⟨wr.heap.size, 0, none⟩) 1 1) rfl (one_at wr x) hb1 (hch.alloc _).size ?_))
          intro v1 w1 hown1 hgrow1
          go_wp2_with fail
          go_roundg (len - k - 1)
          case rel =>
            refine ⟨k + 1, by omega, by omega, by go_num, ?_, ?_, hid ?_⟩
            · rw [List.take_add_one, HX.out]; exact hown1
            · exact (hch.alloc _).grown hgrow1 (fun k o hk ho => by
                have := hown.lt k hk
                have := lt_size ho
                omega)
            · intro y hy
              rw [List.take_add_one, HX.out] at hy
              rcases List.mem_append.1 hy with hy | hy
              · exact HA.out y hy
              · simp at hy; subst hy; simpa using e4
          case measure => omega
        | false =>
          have hb1 : (l.take k).length + [n].length ≤ 10000000 := by simp only [List.length_singleton]; omega
          go_wp2_with (at_builtin; go_must (refine wpAppendI rfl _ _ rfl w'.heap.size _ _ [n] rfl (hown.alloc _) (.slice (some ⟨wr.heap.size, 0, none⟩) 1 1) rfl (one_at wr n) hb1 (hch.alloc _).size ?_))
          intro v1 w1 hown1 hgrow1
          have hch1 : Ch No w' w1 := (hch.alloc _).grown hgrow1 (fun k o hk ho => by
                have := hown.lt k hk
                have := lt_size ho
                omega)
          have hdr : IntsAt w1 (.slice (some ⟨b, off + k, none⟩) (len - k) (cap - k)) (l.drop k) := drop_at (h'.no hch1) hk b off rfl
          have hb2 : (l.take k ++ [n]).length + (l.drop k).length ≤ 10000000 := by have := HL.out; simp; omega
          go_wp2_with (at_builtin; go_must (refine wpAppendI rfl _ _ rfl w'.heap.size _ _ (l.drop k) rfl hown1 (.slice (some ⟨b, off + k, none⟩) (len - k) (cap - k)) rfl hdr hb2 hch1.size ?_))
          intro v2 w2 hown2 hgrow2
          go_wp2_with fail
          go_ret
          refine ⟨_, rfl, .inr ?_, hch1.grown hgrow2 (fun k o hk ho => by
                have := hown1.lt k hk
                have := lt_size ho
                omega)⟩
          obtain ⟨t1, t2⟩ := tw_take HA.out (fun y hy => by rw [HX.out] at hy; cases hy; simpa using e4)
          have : putS l n = l.take k ++ n :: l.drop k := by
            simp at e1 e2 e3
            unfold putS
            rw [if_neg (by simp [e3]; omega), t1, t2]
          rw [this]; exact hown2
      | false =>
        have hkl : ¬ k < len := by simpa using hd
        have hkk : k = len := by omega
        subst hkk
        cases ao with
        | some ad =>
          have hb1 : (l.take k).length + [n].length ≤ 10000000 := by simp only [List.length_singleton]; omega
          go_wp2_with (at_builtin; go_must (refine wpAppendI rfl _ _ rfl w'.heap.size _ _ [n] rfl (hown.alloc _) (.slice (some ⟨wr.heap.size, 0, none⟩) 1 1) rfl (one_at wr n) hb1 (hch.alloc _).size ?_))
          intro v1 w1 hown1 hgrow1
          have hch1 : Ch No w' w1 := (hch.alloc _).grown hgrow1 (fun k o hk ho => by
                have := hown.lt k hk
                have := lt_size ho
                omega)
          have hdr : ∀ a : Addr, IntsAt w1 (.slice (some a) 0 (cap - k)) (l.drop k) := fun a => by rw [List.drop_of_length_le (by have := HL.out; omega)]; exact ⟨_, _, rfl, Nat.zero_le _, by unfold maxLen; omega, (fun h => by cases h), fun h => by simp at h⟩
          have hb2 : (l.take k ++ [n]).length + (l.drop k).length ≤ 10000000 := by have := HL.out; simp; omega
          go_wp2_with (at_builtin; go_must (refine wpAppendI rfl _ _ rfl w'.heap.size _ _ (l.drop k) rfl hown1 (.slice (if cap = k then some ad else some (ad.add k)) 0 (cap - k)) rfl (by split <;> exact hdr _) hb2 hch1.size ?_))
          all_goals (
            intro v2 w2 hown2 hgrow2
            go_wp2_with fail
            go_ret
            refine ⟨_, rfl, .inr ?_, hch1.grown hgrow2 (fun k o hk ho => by
                  have := hown1.lt k hk
                  have := lt_size ho
                  omega)⟩
            obtain ⟨t1, t2⟩ := tw_take HA.out (fun y hy => by have := (List.getElem?_eq_some_iff.1 hy).1; have := HL.out; omega)
            have : putS l n = l.take k ++ n :: l.drop k := by
              simp at e1 e2 e3
              unfold putS
              rw [if_neg (by simp [e3]; omega), t1, t2]
            rw [this]; exact hown2)
        | none =>
          obtain rfl := hnc rfl
          have hk0 : k = 0 := by omega
          subst hk0
          have hb1 : (l.take 0).length + [n].length ≤ 10000000 := by simp only [List.length_singleton]; omega
          go_wp2_with (at_builtin; go_must (refine wpAppendI rfl _ _ rfl w'.heap.size _ _ [n] rfl (hown.alloc _) (.slice (some ⟨wr.heap.size, 0, none⟩) 1 1) rfl (one_at wr n) hb1 (hch.alloc _).size ?_))
          intro v1 w1 hown1 hgrow1
          have hch1 : Ch No w' w1 := (hch.alloc _).grown hgrow1 (fun k o hk ho => by
                have := hown.lt k hk
                have := lt_size ho
                omega)
          have hdr : IntsAt w1 (.slice none 0 0) (l.drop 0) := by rw [List.drop_of_length_le (by have := HL.out; omega)]; exact IntsAt.nil _
          have hb2 : (l.take 0 ++ [n]).length + (l.drop 0).length ≤ 10000000 := by have := HL.out; simp; omega
          go_wp2_with (at_builtin; go_must (refine wpAppendI rfl _ _ rfl w'.heap.size _ _ (l.drop 0) rfl hown1 (.slice none 0 0) rfl hdr hb2 hch1.size ?_))
          intro v2 w2 hown2 hgrow2
          go_wp2_with fail
          go_ret
          refine ⟨_, rfl, .inr ?_, hch1.grown hgrow2 (fun k o hk ho => by
                have := hown1.lt k hk
                have := lt_size ho
                omega)⟩
          obtain ⟨t1, t2⟩ := tw_take HA.out (fun y hy => by have := (List.getElem?_eq_some_iff.1 hy).1; have := HL.out; omega)
          have : putS l n = l.take 0 ++ n :: l.drop 0 := by
            simp at e1 e2 e3
            unfold putS
            rw [if_neg (by simp [e3]; omega), t1, t2]
          rw [this]; exact hown2

theorem putS_length (l : List Int) (n : Int) : (putS l n).length ≤ l.length + 1 := by
  unfold putS
  split
  · omega
  · have := congrArg List.length (List.takeWhile_append_dropWhile (p := (· < n)) (l := l))
    simp only [List.length_append, List.length_cons] at this ⊢
    omega

theorem foldS_length (l ns : List Int) : (ns.foldl putS l).length ≤ l.length + ns.length := by
  induction ns generalizing l with
  | nil => simp
  | cons n r ih => have := ih (putS l n); have := putS_length l n; simp only [List.foldl_cons, List.length_cons]; omega


end Go.Proofs.YtkffejgjpnnkmaaDoor
