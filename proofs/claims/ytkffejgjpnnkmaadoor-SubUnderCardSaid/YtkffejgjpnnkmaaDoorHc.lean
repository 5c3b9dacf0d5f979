/- Small and sound of the reference 08. -/
import Derived.Test.YtkffejgjpnnkmaaDoorHb
set_option linter.unusedVariables false
set_option linter.unusedSimpArgs false
namespace Go.Proofs.YtkffejgjpnnkmaaDoor
open Go.RowKit Go.W

/-- the call answers whether P -/
def BoolIs (P : Prop) (e : Ending) : Prop := ∃ r : Bool, e = .returned (.bool r) ∧ (r = true ↔ P)
theorem BoolIs.t {P : Prop} (h : P) : BoolIs P (.returned (.bool true)) := ⟨true, rfl, fun _ => h, fun _ => rfl⟩
theorem BoolIs.f {P : Prop} (h : ¬ P) : BoolIs P (.returned (.bool false)) := ⟨false, rfl, (fun h => by cases h), fun h' => absurd h' h⟩

/-- there isn't too much -/
def SmallP (cs : List Cls) : Prop := cs.length ≤ 20 ∧ ∀ c ∈ cs, c.faces.length ≤ 10

set_option maxHeartbeats 4000000 in
theorem rsmall {w : World} {pv : Value} {cs : List Cls} (h : ProgAt w pv cs) :
    Calls Tryd.prog 13 #[pv] w fun e w' => BoolIs (SmallP cs) e ∧ Ch No w w' := by
  obtain ⟨cv, m0, m1, m2, m3, m4, m5, m6, m7, m8, rfl, h⟩ := h
  have hch := (Ch.refl No w).alloc (.cells #[cv, m0, m1, m2, m3, m4, m5, m6, m7, m8] 30)
  have h' := h.no hch
  obtain ⟨ao, cap, rfl, hcap, hmax, _, _⟩ := h.row
  rw [List.length_map] at hcap h' ⊢
  obtain ⟨len, hlen⟩ : ∃ len, cs.length = len := ⟨_, rfl⟩
  rw [hlen] at hcap h' ⊢
  unfold maxLen at hmax
  have HL := hid hlen
  have HC := hid h'
  obtain ⟨wa, hwa⟩ : ∃ wa, w.alloc (.cells #[.slice ao len cap, m0, m1, m2, m3, m4, m5, m6, m7, m8] 30) = wa := ⟨_, rfl⟩
  have c0 := cellAt (heap_alloc_new w (.cells #[.slice ao len cap, m0, m1, m2, m3, m4, m5, m6, m7, m8] 30)) 0
  rw [List.length_map, hlen] at hch
  rw [hwa] at hch HC c0
  have HCH := hid hch
  clear hlen h h' hch
  cases e1 : decide ((len : Int) > 20) with
  | true =>
    go_enter Tryd.func13, Tryd.ntmps13
    go_wp2_with fail
    go_ret
    refine ⟨BoolIs.f fun h => ?_, HCH.out⟩
    have := h.1
    have := HL.out
    have : (len : Int) > 20 := by simpa using e1
    omega
  | false =>
  go_enter Tryd.func13, Tryd.ntmps13
  go_wp2_with fail
  clear hwa
  go_loop [3] (fun s3 => ∃ k : Nat, k ≤ len ∧ s3 = .int .i64 k ∧ Hid (∀ x ∈ cs.take k, x.faces.length ≤ 10)) (fun s3 => len - (intOf s3).toNat)
  case atStart => exact ⟨0, Nat.zero_le _, rfl, hid (by simp)⟩
  case round =>
    obtain ⟨k, hk, rfl, HN⟩ := hrel
    cases hd : decide (k < len) with
    | true =>
      have hkl : k < len := by simpa using hd
      obtain ⟨c, hc⟩ : ∃ c, cs[k]? = some c := ⟨_, List.getElem?_eq_getElem (by have := HL.out; omega)⟩
      obtain ⟨b, off, cap', e, hcell, _, _⟩ := HC.out.cell hc
      rw [HL.out] at e
      cases e
      have q3 := hcell.q3
      have HX := hid hc
      clear hc hcell
      cases e0 : decide ((c.faces.length : Int) > 10) with
      | true =>
        go_wp2_with fail
        go_ret
        refine ⟨BoolIs.f fun h => ?_, HCH.out⟩
        have := h.2 c (List.mem_of_getElem? HX.out)
        have : (c.faces.length : Int) > 10 := by simpa using e0
        omega
      | false =>
        go_wp2_with fail
        go_round
        case rel =>
          refine ⟨k + 1, by omega, by go_num, hid fun x hx => ?_⟩
          rw [List.take_add_one, HX.out] at hx
          rcases List.mem_append.1 hx with hx | hx
          · exact HN.out x hx
          · simp at hx; subst hx
            have : ¬ (x.faces.length : Int) > 10 := by simpa using e0
            omega
        case measure => simp [intOf]; omega
    | false =>
      go_wp2_with fail
      go_ret
      have hkl : ¬ k < len := by simpa using hd
      have := HN.out
      rw [List.take_of_length_le (by have := HL.out; omega)] at this
      refine ⟨BoolIs.t ⟨?_, this⟩, HCH.out⟩
      have : ¬ (len : Int) > 20 := by simpa using e1
      have := HL.out
      omega
end Go.Proofs.YtkffejgjpnnkmaaDoor
