/- Add, Has and Len of a set. -/
import Derived.Test.YtkffejgjpnnkmaaDoorIi
set_option linter.unusedVariables false
set_option linter.unusedSimpArgs false
namespace Go.Proofs.YtkffejgjpnnkmaaDoor
open Go.RowKit Go.W

/-- what Add(n) does -/
def AddP (w : World) (sb : Nat) (l : List Int) (ob : Option Nat) (n : Int) (e : Ending) (w' : World) : Prop :=
  e = .returned (.bool (decide (0 ≤ n ∧ n ≤ 1048575 ∧ n ∉ l))) ∧ ∃ ob', SetAt w' sb (putS l n) ob' ∧ Ch (So sb ob) w w' ∧ (ob' = ob ∨ ∃ g, ob' = some g ∧ w.heap.size ≤ g)

set_option maxHeartbeats 2000000 in
theorem add_out {w : World} {sb : Nat} {l : List Int} {ob : Option Nat} (h : SetAt w sb l ob) (n : Int) (hn : ¬ (0 ≤ n ∧ n ≤ 1048575)) :
    Calls Tryd.prog 69 #[.pointer (some ⟨sb, 0, none⟩), .int .i64 n] w (AddP w sb l ob n) := by
  have fin : AddP w sb l ob n (.returned (.bool false)) w :=
    ⟨ret_bool (by symm; rw [decide_eq_false_iff_not]; exact fun h => hn ⟨h.1, h.2.1⟩), ob, by rw [putS_same (fun h => hn ⟨h.1, h.2.1⟩)]; exact h, Ch.refl _ _, .inl rfl⟩
  have FIN := hid fin
  clear fin h
  cases e1 : decide (n < 0) with
  | true =>
    go_enter Tryd.func69, Tryd.ntmps69
    go_wp2_with fail
    go_ret
    exact FIN.out
  | false =>
    have e2 : decide (1048576 ≤ n) = true := by simp at e1 ⊢; omega
    go_enter Tryd.func69, Tryd.ntmps69
    go_wp2_with fail
    go_ret
    exact FIN.out

set_option maxHeartbeats 2000000 in
theorem add_rows {w : World} {sb b : Nat} {l : List Int} {ws : List Nat} (hg : Good l) (h : RowsAt w sb b l.length ws) (hh : Holds ws l) (m : Nat) (hm : m < 1048576) :
    Calls Tryd.prog 69 #[.pointer (some ⟨sb, 0, none⟩), .int .i64 m] w (AddP w sb l (some b) m) := by
  have hmk := mark_walk h m hm hh.1 hh.2.1 ⟨by omega, by have := hg.len; omega⟩ hh.2.2.1
  have hmy := many_rows h
  have fin : ∀ w' ob' ws', RowsAt w' sb ob' (upC (bit ws m) l.length) ws' → (∀ k, bit ws' k = (bit ws k || k == m)) → 0 < ws'.length → ws'.length ≤ 32768 → (∀ x ∈ ws', x < 18446744073709551616) →
      Ch (SO sb b) w w' → (ob' = b ∨ w.heap.size ≤ ob') → AddP w sb l (some b) m (.returned (.bool (!bit ws m))) w' := by
    intro w' ob' ws' h1 h2 h3 h4 h5 h6 h7
    have hiff := hh.2.2.2 m
    refine ⟨ret_bool ?_, some ob', ⟨hg.putS _, .inr ⟨ob', ws', rfl, ?_, h3, h4, h5, fun k => ?_⟩⟩, h6.mono (fun k o _ h => h.imp id (fun h => by rw [h])), ?_⟩
    · symm
      cases hb : bit ws m with
      | true => rw [hb] at hiff; simp [hiff.2 rfl]
      | false =>
        have : ¬ (m : Int) ∈ l := fun h => by have := hiff.1 h; rw [hb] at this; cases this
        simp [this]; omega
    · cases hb : bit ws m with
      | true =>
        rw [hb] at h1 hiff
        rw [putS_same (fun h => h.2.2 (hiff.2 rfl))]; exact h1
      | false =>
        have : ¬ (m : Int) ∈ l := fun h => by have := hiff.1 h; rw [hb] at this; cases this
        rw [hb] at h1
        rw [putS_len (by omega) (by omega) this]
        exact h1
    · rw [mem_putS, h2]
      have := hh.2.2.2 k
      by_cases hk : k = m
      · subst hk; simp; omega
      · have hk' : ¬ (k : Int) = (m : Int) := by omega
        simp [hk, hk', this]
    · rcases h7 with h7 | h7
      · exact .inl (by rw [h7])
      · exact .inr ⟨ob', rfl, h7⟩
  have FIN := hid fin
  have e1 : decide ((m : Int) < 0) = false := by rw [decide_eq_false_iff_not]; omega
  have e2 : decide (1048576 ≤ (m : Int)) = false := by rw [decide_eq_false_iff_not]; omega
  clear fin h hh hg
  go_enter Tryd.func69, Tryd.ntmps69
  go_wp2_with fail
  refine hmy.mono ?_
  rintro e w' ⟨rfl, rfl⟩
  go_wp2_with fail
  refine hmk.mono ?_
  rintro e w2 ⟨rfl, ob2, ws2, h1, h2, h3, h4, h5, h6, h7⟩
  go_wp2_with fail
  go_ret
  exact FIN.out _ _ _ h1 h2 h3 h4 h5 h6 h7

set_option maxHeartbeats 4000000 in
theorem add_list {w : World} {sb : Nat} {l : List Int} {lv : Value} (hg : Good l) (hsb : w.heap[sb]? = some (.cells #[lv, .slice none 0 0, .int .i64 l.length] 108 (0, 0))) (hown : IntsOwn w 0 lv l)
    (hne : lv.ownBlock ≠ some sb) (hlen : l.length ≤ 16) (n : Int) (h0 : 0 ≤ n) (h1 : n ≤ 1048575) :
    Calls Tryd.prog 69 #[.pointer (some ⟨sb, 0, none⟩), .int .i64 n] w (AddP w sb l lv.ownBlock n) := by
  have hat := hown.at_
  have hmy := many_list hsb
  have hbs := binS hat hg.1 n (by omega)
  obtain ⟨ao, cap, rfl, hcap, hmax, hnc, hcell⟩ := hat
  obtain ⟨len, hlen'⟩ : ∃ len, l.length = len := ⟨_, rfl⟩
  rw [hlen'] at hcap hcell hlen hsb hown hne hbs ⊢
  unfold maxLen at hmax
  have HL := hid hlen'
  have HG := hid hg
  have HSB := hid hsb
  have hlt := lt_size hsb
  have c0 := cellAt hsb 0
  have c1 := cellAt hsb 1
  have c2 := cellAt hsb 2
  have f0 := freeAt hsb 0
  have f1 := freeAt hsb 1
  have f2 := freeAt hsb 2
  have HO := hid hown
  have HN := hid hne
  have e1 : decide (n < 0) = false := by rw [decide_eq_false_iff_not]; omega
  have e2 : decide (1048576 ≤ n) = false := by rw [decide_eq_false_iff_not]; omega
  clear hlen' hg hsb hown hnc hne hcell
  cases hin : decide (n ∈ l) with
  | true =>
    rw [hin] at hbs
    go_enter Tryd.func69, Tryd.ntmps69
    go_wp2_with fail
    refine hmy.mono ?_
    rintro e w' ⟨rfl, rfl⟩
    go_wp2_with fail
    refine hbs.mono ?_
    rintro e w' ⟨rfl, q, rfl⟩
    go_wp2_with fail
    go_ret
    have hm : n ∈ l := by simpa using hin
    refine ⟨ret_bool (by simp [hm]), _, ?_, (Ch.refl _ _).drewN _, .inl rfl⟩
    rw [putS_same (fun h => h.2.2 hm)]
    exact ⟨HG.out, .inl ⟨_, by rw [HL.out]; exact HSB.out, HO.out, rfl, HN.out, by rw [HL.out]; exact hlen⟩⟩
  | false =>
    have hm : n ∉ l := by simpa using hin
    rw [hin] at hbs
    cases e5 : ((len : Int) == 16) with
    | true =>
      go_enter Tryd.func69, Tryd.ntmps69
      go_wp2_with fail
      refine hmy.mono ?_
      rintro e w0 ⟨rfl, rfl⟩
      go_wp2_with fail
      refine hbs.mono ?_
      rintro e w' ⟨rfl, q, rfl⟩
      go_wp2_with fail
      have hl16 : len = 16 := by simp at e5; omega
      have hsp := spread_walk (w := w0.drewN q) (sb := sb) (lv := .slice ao len cap) (l := l) (by rw [HL.out]; exact HSB.out) HO.out HN.out HG.out (by rw [HL.out]; exact hlen)
      clear c0 c1 c2 f0 f1 f2 hmy hbs
      refine hsp.mono ?_
      rintro e w1 ⟨rfl, ob1, ws1, hr1, hh1, hc1, ho1⟩
      go_wp2_with fail
      obtain ⟨m, rfl⟩ : ∃ m : Nat, n = (m : Int) := ⟨n.toNat, by omega⟩
      have hbm : bit ws1 m = false := by
        cases hb : bit ws1 m with
        | false => rfl
        | true => exact absurd ((hh1.2.2.2 m).2 hb) hm
      have hmk := mark_walk hr1 m (by omega) hh1.1 hh1.2.1 (by rw [HL.out]; omega) hh1.2.2.1
      rw [hbm] at hmk
      refine hmk.mono ?_
      rintro e w2 ⟨rfl, ob2, ws2, g1, g2, g3, g4, g5, g6, g7⟩
      go_wp2_with fail
      go_ret
      refine ⟨ret_bool (by simp [hm]; omega), some ob2, ⟨HG.out.putS _, .inr ⟨ob2, ws2, rfl, ?_, g3, g4, g5, fun k => ?_⟩⟩, ?_, .inr ⟨ob2, rfl, ?_⟩⟩
      · rw [putS_len (by omega) (by omega) hm]
        exact g1
      · rw [mem_putS, g2]
        have := hh1.2.2.2 k
        by_cases hk : k = m
        · subst hk; simp; omega
        · have hk' : ¬ (k : Int) = (m : Int) := by omega
          simp [hk, hk', this]
      · refine ((((Ch.refl (fun k _ => k = sb) w0).drewN q).trans hc1).trans' g6 (fun k o ho h => ?_)).mono (fun k o _ h => .inl h)
        rcases h with h | h
        · exact h
        · have := lt_size ho
          have : w0.heap.size ≤ ob1 := ho1
          omega
      · have : w0.heap.size ≤ ob1 := ho1
        have : w0.heap.size ≤ w1.heap.size := hc1.size
        rcases g7 with h | h <;> omega
    | false =>
      go_enter Tryd.func69, Tryd.ntmps69
      go_wp2_with fail
      refine hmy.mono ?_
      rintro e w0 ⟨rfl, rfl⟩
      go_wp2_with fail
      refine hbs.mono ?_
      rintro e w' ⟨rfl, q, rfl⟩
      go_wp2_with fail
      have hin1 := insertS (w := (w0.drewN q).alloc (.cells #[.int .i64 n] 3)) (base := 0) (v := .slice ao len cap) (l := l) (HO.out.alloc (w := w0.drewN q) _) (l.countP (· < n)) List.countP_le_length (by rw [HL.out]; omega) n w0.heap.size (heap_alloc_new (w0.drewN q) _)
        (fun e => by have := (HO.out.lt _ e).2; omega) (Nat.zero_le _)
      refine hin1.mono ?_
      rintro e w1 ⟨v1, rfl, hown1, hch1, hob1⟩
      have hcnt : l.countP (· < n) ≤ len := by rw [← HL.out]; exact List.countP_le_length
      have hl1 : (l.take (l.countP (· < n)) ++ n :: l.drop (l.countP (· < n))).length = len + 1 := by
        simp only [List.length_append, List.length_cons, List.length_take, List.length_drop, HL.out]; omega
      have HS1 := hid (hch1.keep sb _ (heapOld (w := w0.drewN q) HSB.out _) (fun h => HN.out h))
      obtain ⟨g1, cap1, cur1, hv1, _, _, _, hcm1⟩ := ownsRow_pos hown1 (by omega)
      rw [hl1] at hv1
      subst hv1
      have HOW := hid hown1
      clear c0 c1 c2 f0 f1 f2 hmy hbs hown1
      have c0 := cellAt HS1.out 0
      have c2 := cellAt HS1.out 2
      have f0 := freeAt HS1.out 0
      have f2 := freeAt HS1.out 2
      go_wp2_with fail
      go_ret
      have hst := setCell_heap (setCell_heap HS1.out 0 (.slice (some ⟨g1, 0, none⟩) (len + 1) cap1)) 2 (.int .i64 ((len : Int) + 1))
      have hg1 : g1 ≠ sb := by
        rcases hob1 with h | ⟨g, h, h2⟩
        · intro e; subst e; exact HN.out h.symm
        · cases h; intro e; simp at h2; omega
      have hps := putS_ins HG.out.1 h0 h1 hm
      have hpl : (((putS l n).length : Nat) : Int) = (len : Int) + 1 := by rw [putS_len h0 h1 hm, HL.out]; omega
      have hch2 : Ch (fun k _ => k = sb) w1 ((w1.setCell ⟨sb, 0, none⟩ (.slice (some ⟨g1, 0, none⟩) (len + 1) cap1)).setCell ⟨sb, 2, none⟩ (.int .i64 ((len : Int) + 1))) :=
        ((Ch.refl _ _).setCell (fun _ _ => rfl) _).setCell (fun _ _ => rfl) _
      refine ⟨ret_bool (by simp [hm]; omega), some g1, ⟨HG.out.putS _, .inl ⟨.slice (some ⟨g1, 0, none⟩) (len + 1) cap1, ?_, ?_, rfl, fun h => hg1 (Option.some.inj h), ?_⟩⟩, ?_, ?_⟩
      · rw [hpl]; exact hst
      · rw [hps]
        exact HOW.out.ch hch2 (fun g o h _ _ h2 => by cases h; exact hg1 h2)
      · rw [putS_len h0 h1 hm, HL.out]; simp at e5; omega
      · refine ((((Ch.refl (So sb (Value.slice ao len cap).ownBlock) w0).drewN q).alloc _).trans' hch1 (fun k o ho h => .inr h)).trans' hch2 (fun k o ho h => .inl h)
      · rcases hob1 with h | ⟨g, h, h2⟩
        · exact .inl h
        · refine .inr ⟨g, h, ?_⟩
          have : ((w0.drewN q).alloc (.cells #[.int .i64 n] 3)).heap.size = w0.heap.size + 1 := by simp
          omega
end Go.Proofs.YtkffejgjpnnkmaaDoor
