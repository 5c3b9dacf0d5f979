/- Add, Has and Len of a set, whole; nil sets. -/
import Derived.Test.YtkffejgjpnnkmaaDoorIj
set_option linter.unusedVariables false
set_option linter.unusedSimpArgs false
namespace Go.Proofs.YtkffejgjpnnkmaaDoor
open Go.RowKit Go.W

theorem sadd {w : World} {sb : Nat} {l : List Int} {ob : Option Nat} (h : SetAt w sb l ob) (n : Int) :
    Calls Tryd.prog 69 #[.pointer (some ⟨sb, 0, none⟩), .int .i64 n] w (AddP w sb l ob n) := by
  by_cases hn : 0 ≤ n ∧ n ≤ 1048575
  · obtain ⟨hg, h | ⟨b, ws, rfl, hr, hh⟩⟩ := h
    · obtain ⟨lv, h1, h2, rfl, h4, h5⟩ := h
      exact add_list hg h1 h2 h4 h5 n hn.1 hn.2
    · obtain ⟨m, rfl⟩ : ∃ m : Nat, n = (m : Int) := ⟨n.toNat, by omega⟩
      exact add_rows hg hr hh m (by omega)
  · exact add_out h n hn

/-- pv is a set of the numbers l, or nil -/
def SetV (w : World) (pv : Value) (l : List Int) (sb ob : Option Nat) : Prop :=
  (pv = .pointer none ∧ l = [] ∧ sb = none ∧ ob = none) ∨ ∃ s, pv = .pointer (some ⟨s, 0, none⟩) ∧ sb = some s ∧ SetAt w s l ob

theorem SetAt.v {w : World} {s : Nat} {l : List Int} {ob : Option Nat} (h : SetAt w s l ob) : SetV w (.pointer (some ⟨s, 0, none⟩)) l (some s) ob := .inr ⟨s, rfl, rfl, h⟩
theorem SetV.nil (w : World) : SetV w (.pointer none) [] none none := .inl ⟨rfl, rfl, rfl, rfl⟩
theorem SetV.good {w : World} {pv : Value} {l : List Int} {sb ob : Option Nat} (h : SetV w pv l sb ob) : Good l := by
  rcases h with ⟨_, rfl, _, _⟩ | ⟨s, _, _, h⟩
  · exact good_nil
  · exact h.1
theorem SetV.ch {S : Nat → Obj → Prop} {w w' : World} {pv : Value} {l : List Int} {sb ob : Option Nat} (h : SetV w pv l sb ob) (hc : Ch S w w') (h1 : ∀ b o, sb = some b → ¬ S b o) (h2 : ∀ b o, ob = some b → ¬ S b o) : SetV w' pv l sb ob := by
  rcases h with h | ⟨s, hp, rfl, h⟩
  · exact .inl h
  · exact .inr ⟨s, hp, rfl, h.ch hc (fun o => h1 s o rfl) h2⟩
theorem SetV.no {w w' : World} {pv : Value} {l : List Int} {sb ob : Option Nat} (h : SetV w pv l sb ob) (hc : Ch No w w') : SetV w' pv l sb ob := h.ch hc (fun _ _ _ h => h) (fun _ _ _ h => h)

theorem shr_bit (x k : Nat) (hx : x < 18446744073709551616) : (bits .and .u64 ((x : Int) / 2 ^ k) 1 == 1) = x.testBit k := by
  have e : (x : Int) / 2 ^ k = ((x / 2 ^ k : Nat) : Int) := by simp
  rw [e]
  have h1 : x / 2 ^ k < 18446744073709551616 := Nat.lt_of_le_of_lt (Nat.div_le_self _ _) hx
  have := bits_and_u64_nat' (x / 2 ^ k) 1 h1 (by decide)
  rw [show ((1 : Nat) : Int) = 1 from rfl] at this
  rw [this, Nat.and_one_is_mod, Nat.testBit_eq_decide_div_mod_eq]
  by_cases h : x / 2 ^ k % 2 = 1
  · simp [h]
  · have : x / 2 ^ k % 2 = 0 := by omega
    simp [this]

set_option maxHeartbeats 2000000 in
theorem shas {w : World} {pv : Value} {l : List Int} {sb ob : Option Nat} (h : SetV w pv l sb ob) (n : Int) :
    Calls Tryd.prog 62 #[pv, .int .i64 n] w fun e w' => e = .returned (.bool (decide (n ∈ l))) ∧ ∃ q, w' = w.drewN q := by
  rcases h with ⟨rfl, rfl, _, _⟩ | ⟨s, rfl, rfl, hs⟩
  · go_enter Tryd.func62, Tryd.ntmps62
    go_wp2_with fail
    go_ret
    exact ⟨ret_bool (by simp), 0, rfl⟩
  · by_cases hn : 0 ≤ n ∧ n ≤ 1048575
    · have e1 : decide (n < 0) = false := by rw [decide_eq_false_iff_not]; omega
      have e2 : decide (1048576 ≤ n) = false := by rw [decide_eq_false_iff_not]; omega
      obtain ⟨hg, h | ⟨b, ws, rfl, hr, hh⟩⟩ := hs
      · obtain ⟨lv, h1, h2, rfl, h4, h5⟩ := h
        have hmy := many_list h1
        have hbs := binS h2.at_ hg.1 n (by omega)
        have c0 := cellAt h1 0
        have hat := h2.at_
        obtain ⟨ao, cap, rfl, _⟩ := hat
        clear h1 h2 h4 h5 hg
        go_enter Tryd.func62, Tryd.ntmps62
        go_wp2_with fail
        refine hmy.mono ?_
        rintro e w0 ⟨rfl, rfl⟩
        go_wp2_with fail
        refine hbs.mono ?_
        rintro e w' ⟨rfl, q, rfl⟩
        go_wp2_with fail
        go_ret
        exact ⟨rfl, q, rfl⟩
      · obtain ⟨m, rfl⟩ : ∃ m : Nat, n = (m : Int) := ⟨n.toNat, by omega⟩
        have hmy := many_rows hr
        have HI := hid (hh.2.2.2 m)
        obtain ⟨hne, cap, h1, h2⟩ := hr
        have c1 := cellAt h1 1
        obtain ⟨len, hlen⟩ : ∃ len, ws.length = len := ⟨_, rfl⟩
        rw [hlen] at c1 h2
        have hll : len ≤ 32768 := by rw [← hlen]; exact hh.2.1
        by_cases hlt : m / 64 < len
        · obtain ⟨x, hx⟩ : ∃ x, ws[m / 64]? = some x := ⟨_, List.getElem?_eq_getElem (by omega)⟩
          obtain ⟨_, h2 | ⟨g, cap', cur, hv, _, hob2, hcap2, hm2, hcs, hct⟩⟩ := h2
          · cases h2.1
          cases hv
          rw [Nat.mul_one] at hct
          have hcx : cur[m / 64]? = some (.int .u64 x) := by
            have := U_get hx
            rw [← hct, List.getElem?_take, if_pos hlt] at this
            rw [← Array.getElem?_toList]; exact this
          have c3 : w.cell? ⟨b, m / 64, none⟩ = some (.int .u64 x) := (cellAt hob2 _).trans hcx
          have e3 : decide ((m : Int) / 64 < (len : Int)) = true := by rw [decide_eq_true_eq]; omega
          have hb := shr_bit x (m % 64) (hh.2.2.1 x (List.mem_of_getElem? hx))
          have HB := hid ((bit_at hx).trans hb.symm)
          clear hcx hct hob2 h1 hh hx
          go_enter Tryd.func62, Tryd.ntmps62
          go_wp2_with fail
          refine hmy.mono ?_
          rintro e w0 ⟨rfl, rfl⟩
          go_wp2_with fail
          go_ret
          refine ⟨ret_bool ?_, 0, rfl⟩
          have e4 := HI.out
          rw [HB.out] at e4
          rw [← hb]
          cases hbb : (bits .and .u64 ((x : Int) / 2 ^ (m % 64)) 1 == 1) with
          | true => rw [hbb] at e4; simp [e4]
          | false => rw [hbb] at e4; simp [e4]
        · have e3 : decide ((m : Int) / 64 < (len : Int)) = false := by rw [decide_eq_false_iff_not]; omega
          have hb : bit ws m = false := by
            unfold bit
            rw [List.getD_eq_getElem?_getD, List.getElem?_eq_none (by omega)]
            simp
          have HB := hid hb
          clear h1 h2 hh hb
          go_enter Tryd.func62, Tryd.ntmps62
          go_wp2_with fail
          refine hmy.mono ?_
          rintro e w0 ⟨rfl, rfl⟩
          go_wp2_with fail
          go_ret
          refine ⟨ret_bool ?_, 0, rfl⟩
          have e4 := HI.out
          rw [HB.out] at e4
          simp [e4]
    · have fin : decide (n ∈ l) = false := by
        rw [decide_eq_false_iff_not]
        intro h
        have := hs.1.2 n h
        exact hn this
      rw [fin]
      clear hs fin
      cases e1 : decide (n < 0) with
      | true =>
        go_enter Tryd.func62, Tryd.ntmps62
        go_wp2_with fail
        go_ret
        exact ⟨rfl, 0, rfl⟩
      | false =>
        have e2 : decide (1048576 ≤ n) = true := by simp at e1 ⊢; omega
        go_enter Tryd.func62, Tryd.ntmps62
        go_wp2_with fail
        go_ret
        exact ⟨rfl, 0, rfl⟩


set_option maxHeartbeats 1000000 in
theorem sadd_nil (w : World) (n : Int) :
    Calls Tryd.prog 69 #[.pointer none, .int .i64 n] w fun e w' => e = .returned (.bool false) ∧ w' = w := by
  go_enter Tryd.func69, Tryd.ntmps69
  go_wp2_with fail
  go_ret
  exact ⟨rfl, rfl⟩
end Go.Proofs.YtkffejgjpnnkmaaDoor
