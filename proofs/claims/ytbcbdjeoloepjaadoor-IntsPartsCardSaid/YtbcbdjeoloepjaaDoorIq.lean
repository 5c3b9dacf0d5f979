/- Meets of sets. -/
import Derived.Test.YtbcbdjeoloepjaaDoorIp
set_option linter.unusedVariables false
namespace Go.Proofs.YtbcbdjeoloepjaaDoor
open Go.RowKit Go.W

set_option maxHeartbeats 2000000 in
theorem sindex {w : World} {v tv : Value} {l l' : List Int} {tsb tob : Option Nat} (h : IntsAt w v l) (h' : SetV w tv l' tsb tob) :
    Calls Tryd.prog 37 #[v, .func (.func 18) #[tv] #[]] w fun e w' => (∃ i : Int, e = .returned (.int .i64 i) ∧ l.any (fun x => decide (x ∈ l')) = decide (0 ≤ i)) ∧ Ch No w w' := by
  obtain ⟨ao, cap, rfl, hcap, hmax, hnc, hcell⟩ := h
  obtain ⟨len, hlen⟩ : ∃ len, l.length = len := ⟨_, rfl⟩
  rw [hlen] at hcap hcell ⊢
  unfold maxLen at hmax
  have HL := hid hlen
  have HV := hid h'
  obtain ⟨r, hr⟩ : ∃ r, l.any (fun x => decide (x ∈ l')) = r := ⟨_, rfl⟩
  have HR := hid hr
  rw [hr]
  clear hlen hnc h' hr
  go_enter Tryd.func37, Tryd.ntmps37
  go_wp2_with fail
  go_loopg [8] len (fun g s8 wr => ∃ (k : Nat), k ≤ len ∧ len - k ≤ g ∧ s8 = .int .i64 k ∧ Hid (∀ x ∈ l.take k, x ∉ l') ∧ Ch No w wr)
  case atStart => exact ⟨0, Nat.zero_le _, by omega, rfl, hid (by simp), Ch.refl _ _⟩
  case round =>
    obtain ⟨k, hk, hg, rfl, HN, hch⟩ := hrel
    cases hd : decide (k < len) with
    | false =>
      go_wp2_with fail
      go_ret
      have hkl : ¬ k < len := by simpa using hd
      have := HN.out
      rw [List.take_of_length_le (by have := HL.out; omega)] at this
      refine ⟨⟨_, rfl, ?_⟩, hch⟩
      rw [← HR.out]
      have e : l.any (fun x => decide (x ∈ l')) = false := by simpa using this
      rw [e]; rfl
    | true =>
      have hkl : k < len := by simpa using hd
      obtain ⟨b, off, rfl, hc⟩ := hcell (by omega)
      obtain ⟨x, hx⟩ : ∃ x, l[k]? = some x := ⟨_, List.getElem?_eq_getElem (by have := HL.out; omega)⟩
      have hq := cell_ch (hc k x hx) hch (fun _ _ h => h)
      have HX := hid hx
      have hhas := shas (HV.out.no hch) x
      clear hc hcell hx
      go_wp2_with fail
      refine hhas.mono ?_
      rintro e w1 ⟨rfl, q, rfl⟩
      cases hxl : decide (x ∈ l') with
      | true =>
        go_wp2_with fail
        go_ret
        refine ⟨⟨_, rfl, ?_⟩, hch.drewN q⟩
        rw [← HR.out]
        have e : l.any (fun x => decide (x ∈ l')) = true := List.any_eq_true.2 ⟨x, List.mem_of_getElem? HX.out, hxl⟩
        rw [e]; symm; rw [decide_eq_true_eq]; omega
      | false =>
        go_wp2_with fail
        go_roundg (len - k - 1)
        case rel =>
          refine ⟨k + 1, by omega, by omega, by go_num, hid ?_, hch.drewN q⟩
          rw [List.take_add_one, HX.out]
          intro y hy
          rcases List.mem_append.1 hy with hy | hy
          · exact HN.out y hy
          · simp at hy; subst hy; simpa using hxl
        case measure => omega

set_option maxHeartbeats 1000000 in
theorem scontains {w : World} {v tv : Value} {l l' : List Int} {tsb tob : Option Nat} (h : IntsAt w v l) (h' : SetV w tv l' tsb tob) :
    Calls Tryd.prog 32 #[v, .func (.func 18) #[tv] #[]] w fun e w' => e = .returned (.bool (l.any (fun x => decide (x ∈ l')))) ∧ Ch No w w' := by
  have hi := sindex h h'
  clear h h'
  go_enter Tryd.func32, Tryd.ntmps32
  go_wp2_with fail
  refine hi.mono ?_
  rintro e w' ⟨⟨i, rfl, hv⟩, hch⟩
  go_wp2_with fail
  go_ret
  exact ⟨ret_bool hv.symm, hch⟩

set_option maxHeartbeats 2000000 in
theorem smeets {w : World} {sv tv : Value} {l l' : List Int} {sb ob tsb tob : Option Nat} (hT : Tab w) (h : SetV w sv l sb ob) (h' : SetV w tv l' tsb tob) :
    Calls Tryd.prog 23 #[sv, tv] w fun e w' => e = .returned (.bool (l.any (fun x => decide (x ∈ l')))) ∧ Ch No w w' := by
  have hli := slist hT h
  have HV := hid h'
  clear h h' hT
  go_enter Tryd.func23, Tryd.ntmps23
  go_wp2_with fail
  refine hli.mono ?_
  rintro e w0 ⟨u0, rfl, hu0, hch0⟩
  have hc := scontains hu0.at_ (HV.out.no hch0)
  clear hu0
  go_wp2_with fail
  refine hc.mono ?_
  rintro e w1 ⟨rfl, hch1⟩
  go_wp2_with fail
  go_ret
  exact ⟨rfl, hch0.trans hch1⟩
end Go.Proofs.YtbcbdjeoloepjaaDoor
