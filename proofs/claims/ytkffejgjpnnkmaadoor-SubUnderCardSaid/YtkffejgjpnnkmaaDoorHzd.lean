/- What a table tells; the example. -/
import Derived.Test.YtkffejgjpnnkmaaDoorHzc
set_option linter.unusedVariables false
set_option linter.unusedSimpArgs false
namespace Go.Proofs.YtkffejgjpnnkmaaDoor
open Go.RowKit Go.W

theorem ordAll {cs : List Cls} (h : FaultAt cs none) : ∀ i, i < cs.length → i ∈ ordN cs := by
  refine Gr.all_done (upsN_lt cs) h.2 ?_
  exact Gr.order_none cs.length [] .nil (by simp)
theorem rowIs {cs : List Cls} {ss : List SetP} (h : SsOf cs ss (ordN cs)) (hf : FaultAt cs none) (i : Int) : rowS ss i = if 0 ≤ i ∧ i < cs.length then abL cs [i] cs.length else [] := by
  unfold rowS
  by_cases h0 : 0 ≤ i
  · rw [if_pos h0]
    by_cases h1 : i < cs.length
    · rw [if_pos ⟨h0, h1⟩]
      obtain ⟨b, hb⟩ := h.yes i.toNat (ordAll hf _ (by omega))
      rw [hb]
      have : ((i.toNat : Nat) : Int) = i := by omega
      simp [this]
    · rw [if_neg (fun h => h1 h.2), List.getElem?_eq_none (by rw [h.len]; omega)]; rfl
  · rw [if_neg h0, if_neg (fun h => h0 h.1)]
theorem abMono {cs : List Cls} {is : List Int} {z : Int} : z ∈ abL cs is cs.length ↔ ∃ i ∈ is, (0 ≤ i ∧ i < cs.length) ∧ z ∈ abL cs [i] cs.length := by
  rw [mem_abL]
  constructor
  · rintro ⟨k, rfl, hk, x, hx, h⟩
    exact ⟨x, hx, ⟨h.1, h.2.1⟩, mem_abL.2 ⟨k, rfl, hk, x, by simp, h⟩⟩
  · rintro ⟨i, hi, _, h⟩
    obtain ⟨k, e, hk, x, hx, h2⟩ := mem_abL.1 h
    have hxi : x = i := by simpa using hx
    rw [hxi] at h2
    exact ⟨k, e, hk, i, hi, h2⟩
theorem aboveIs {cs : List Cls} {ss : List SetP} (h : SsOf cs ss (ordN cs)) (hf : FaultAt cs none) (hn : cs.length ≤ 20) (is : List Int) : aboveF ss is = abL cs is cs.length := by
  have key : ∀ (js : List Int) (acc : List Int), Good acc → Good (js.foldl (fun acc i => (rowS ss i).foldl putS acc) acc) ∧ ∀ z, z ∈ js.foldl (fun acc i => (rowS ss i).foldl putS acc) acc ↔ z ∈ acc ∨ ∃ i ∈ js, z ∈ rowS ss i := by
    intro js
    induction js with
    | nil => intro acc hg; exact ⟨hg, fun z => by simp⟩
    | cons j js ih =>
      intro acc hg
      obtain ⟨h1, h2⟩ := ih ((rowS ss j).foldl putS acc) (hg.fold _)
      refine ⟨h1, fun z => ?_⟩
      rw [List.foldl_cons, h2, mem_fold]
      constructor
      · rintro ((h | ⟨h, _⟩) | ⟨i, hi, h⟩)
        · exact .inl h
        · exact .inr ⟨j, by simp, h⟩
        · exact .inr ⟨i, by simp [hi], h⟩
      · rintro (h3 | ⟨i, hi, h3⟩)
        · exact .inl (.inl h3)
        · rcases List.mem_cons.1 hi with rfl | hi
          · refine .inl (.inr ⟨h3, ?_⟩)
            rw [rowIs h hf] at h3
            split at h3
            · obtain ⟨k, rfl, hk, _⟩ := mem_abL.1 h3
              omega
            · cases h3
          · exact .inr ⟨i, hi, h3⟩
  obtain ⟨h1, h2⟩ := key is [] good_nil
  refine sorted_eq h1.1 (abSorted cs _ _) (fun z => ?_)
  unfold aboveF at *
  rw [h2, abMono]
  constructor
  · rintro (h3 | ⟨i, hi, h3⟩)
    · cases h3
    · rw [rowIs h hf] at h3
      split at h3
      · rename_i hb; exact ⟨i, hi, hb, h3⟩
      · cases h3
  · rintro ⟨i, hi, hb, h3⟩
    refine .inr ⟨i, hi, ?_⟩
    rw [rowIs h hf, if_pos hb]; exact h3

theorem tOrder {w : World} {tv : Value} {cs : List Cls} (h : TableIs w tv cs) (hn : cs.length ≤ 20) : Calls Tryd.prog 16 #[tv] w fun e w' => ∃ u, e = .returned u ∧ IntsOwn w' w.heap.size u (ordL cs) ∧ Ch No w w' := by
  obtain ⟨tb, T, rfl, h1, h2, h3, h4, h5⟩ := h
  have hl : (ordL cs).length ≤ 20 := by
    unfold ordL
    rw [List.length_map]
    have := h5.ord.len
    omega
  have := horder h1 (by rw [h4]; omega)
  rw [h4] at this
  exact this
theorem tAbove {w : World} {tv v : Value} {cs : List Cls} {is : List Int} (hT : Tab w) (h : TableIs w tv cs) (hf : FaultAt cs none) (hn : cs.length ≤ 20) (hi : IntsAt w v is) :
    Calls Tryd.prog 17 #[tv, v] w fun e w' => ∃ u, e = .returned u ∧ IntsOwn w' w.heap.size u (abL cs is cs.length) ∧ Ch No w w' := by
  obtain ⟨tb, T, rfl, h1, h2, h3, h4, h5⟩ := h
  have := habove hT h1 (by rw [h2.slen, h2.len]) hi
  rw [aboveIs h5 hf hn] at this
  exact this

/-- classes laid by a literal -/
theorem clssBuilt (w : World) (cs : List Cls) (hn : cs.length ≤ 1000) (hf : ∀ c ∈ cs, StrsAt (w.alloc (.cells (cs.flatMap Cls.cells).toArray 49)) (.slice c.fa c.faces.length c.fc) c.faces) :
    ClssAt (w.alloc (.cells (cs.flatMap Cls.cells).toArray 49)) (.slice (some ⟨w.heap.size, 0, none⟩) cs.length cs.length) cs := by
  refine ⟨⟨some ⟨w.heap.size, 0, none⟩, cs.length, by rw [List.length_map], by rw [List.length_map]; exact Nat.le_refl _, by unfold maxLen; omega, fun c hc => ?_, fun _ => ⟨w.heap.size, 0, rfl, fun i c hi j hj => ?_⟩⟩, hf⟩
  · obtain ⟨x, _, rfl⟩ := List.mem_map.1 hc
    rfl
  · rw [List.getElem?_map] at hi
    cases hx : cs[i]? with
    | none => rw [hx] at hi; cases hi
    | some x =>
      rw [hx] at hi
      have : c = x.cells := by simpa using hi.symm
      subst this
      rw [cellAt (heap_alloc_new w _), Nat.zero_add]
      have := flat_get Cls.cells 10 (fun x => rfl) cs i j x hx hj
      simpa using this
theorem StrsAt.nil (w : World) : StrsAt w (.slice none 0 0) [] := ⟨none, 0, rfl, Nat.le_refl _, Nat.zero_le _, fun h => by simp at h⟩

def awA : Cls := ⟨⟨#[65]⟩, ⟨#[66]⟩, false, [], none, 0, (none, 0, 0), (none, 0, 0), (none, 0, 0), none, 0, 0⟩
def awB : Cls := ⟨⟨#[66]⟩, ⟨#[]⟩, false, [], none, 0, (none, 0, 0), (none, 0, 0), (none, 0, 0), none, 0, 0⟩
def awC : List Cls := [awA, awB]
theorem aw_up0 : upsN awC 0 = [1] := by decide +kernel
theorem aw_up1 : upsN awC 1 = [] := by decide +kernel
theorem aw_fault : FaultAt awC none := by
  have h0 : okC awC 0 awA := ⟨by decide, fun _ => ⟨1, awB, by decide, rfl, rfl⟩, fun k f hk => absurd hk (Nat.not_lt_zero _)⟩
  have h1 : okC awC 1 awB := ⟨by decide, (fun h => by rw [show awB.sup.toList.isEmpty = true by decide +kernel] at h; cases h), fun k f hk => absurd hk (Nat.not_lt_zero _)⟩
  refine ⟨fun i c hc => ?_, fun i hi hr => ?_⟩
  · match i, hc with
    | 0, hc => cases hc; exact h0
    | 1, hc => cases hc; exact h1
    | i + 2, hc => simp [awC] at hc
  · have n1 : ∀ j, ¬ Gr.Reach (upsN awC) 1 j := by
      intro j hj
      cases hj with
      | one h => rw [aw_up1] at h; cases h
      | step h _ => rw [aw_up1] at h; cases h
    match i, hi with
    | 0, _ =>
      cases hr with
      | one h => rw [aw_up0] at h; exact absurd (List.mem_singleton.1 h) (by decide)
      | step h h' => rw [aw_up0] at h; simp at h; subst h; exact n1 _ h'
    | 1, _ => exact n1 _ hr
    | i + 2, hi =>
      have e2 : awC.length = 2 := rfl
      omega
theorem aw_ord : ordL awC = [1, 0] := by decide +kernel
theorem aw_ab : abL awC [0] awC.length = [0, 1] := by
  have e : awC.length = 0 + 1 + 1 := rfl
  have y0 : AbP awC [0] 0 := ⟨0, by simp, by decide, by decide, .inl rfl⟩
  have y1 : AbP awC [0] 1 := ⟨0, by simp, by decide, by decide, .inr (.one (by rw [show (0 : Int).toNat = 0 from rfl, aw_up0]; simp))⟩
  rw [e, abYes y1, abYes y0]
  rfl
theorem aw_small : SmallP awC := ⟨by decide, by decide⟩
theorem aw_sz : SzP awC := by
  intro c hc
  have : c = awA ∨ c = awB := by simpa [awC] using hc
  rcases this with rfl | rfl <;> exact ⟨by decide, by decide, fun f hf => by cases hf⟩

set_option maxHeartbeats 4000000 in
theorem awake08 {w : World} (hT : Tab w) : Calls Tryd.prog 12 #[] w fun e w' => e = .returned (.bool true) ∧ Ch No w w' := by
  have HT := hid hT
  have hcl := clssBuilt w awC (by decide) (fun c hc => by
    have : c = awA ∨ c = awB := by simpa [awC] using hc
    rcases this with rfl | rfl <;> exact StrsAt.nil _)
  have hc1 := (Ch.refl No w).alloc (.cells (awC.flatMap Cls.cells).toArray 49)
  obtain ⟨wa, hwa⟩ : ∃ wa, w.alloc (.cells #[.string { data := #[65] }, .string { data := #[66] }, .bool false, .slice none 0 0, .slice none 0 0, .slice none 0 0, .slice none 0 0, .pointer none, .int .i64 0, .int .i64 0, .string { data := #[66] }, .string { data := #[] }, .bool false, .slice none 0 0, .slice none 0 0, .slice none 0 0, .slice none 0 0, .pointer none, .int .i64 0, .int .i64 0] 49) = wa := ⟨_, rfl⟩
  have hcl' : ClssAt wa (.slice (some ⟨w.heap.size, 0, none⟩) 2 2) awC := by rw [← hwa]; exact hcl
  have hc1' : Ch No w wa := by rw [← hwa]; exact hc1
  have hnw := hnew (pv := .agg #[.slice (some ⟨w.heap.size, 0, none⟩) 2 2, .string { data := #[] }, .string { data := #[] }, .bool false, .bool false, .slice none 0 0, .slice none 0 0, .slice none 0 0, .int .i64 0, .int .i64 0]) ⟨_, _, _, _, _, _, _, _, _, _, rfl, hcl'⟩ (HT.out.no hc1') aw_sz aw_small
  have HC1 := hid hc1'
  clear hT hcl hc1 hcl' hc1'
  go_enter Tryd.func12, Tryd.ntmps12
  go_wp2_with fail
  refine hnw.mono ?_
  rintro e w1 ⟨o, hf, hc2, hout⟩
  obtain rfl := hf.uniq aw_fault
  obtain ⟨tv, rfl, htv⟩ := hout
  have htv0 := htv
  obtain ⟨tb, T, rfl, _⟩ := htv
  unfold faultV
  have hcf := (Ch.refl No w1).alloc (.cells #[.int .i64 0, .int .i64 0, .int .i64 0] 36)
  have hbf := heap_alloc_new w1 (.cells #[.int .i64 0, .int .i64 0, .int .i64 0] 36)
  have hor := tOrder (htv0.no hcf) (by decide)
  rw [aw_ord] at hor
  have HTV := hid (htv0.no hcf)
  have HC2 := hid ((HC1.out.trans hc2).trans hcf)
  clear hnw hf hc2 htv0 hcf hbf
  go_wp2_with fail
  refine hor.mono ?_
  rintro e w3 ⟨u3, rfl, hu3, hc3⟩
  have hsa := rsame' (hu3.at_.alloc (.cells #[.int .i64 1, .int .i64 0] 3)) (built_at w3 [1, 0] (by decide))
  have HC3 := hid (HC2.out.trans hc3)
  have HT3 := hid (HTV.out.no hc3)
  clear hor hu3 hc3
  go_wp2_with fail
  refine hsa.mono ?_
  rintro e w4 ⟨rfl, hc4⟩
  have hc4' := ((Ch.refl No w3).alloc (.cells #[.int .i64 1, .int .i64 0] 3)).trans hc4
  have hab := tAbove (HT.out.no ((HC3.out.trans hc4').alloc (.cells #[.int .i64 0] 3))) ((HT3.out.no hc4').no ((Ch.refl No w4).alloc (.cells #[.int .i64 0] 3))) aw_fault (by decide) (one_at w4 0)
  rw [aw_ab] at hab
  have HC4 := hid ((HC3.out.trans hc4').alloc (.cells #[.int .i64 0] 3))
  clear hsa hc4 hc4'
  go_wp2_with fail
  refine hab.mono ?_
  rintro e w5 ⟨u5, rfl, hu5, hc5⟩
  have hsb := rsame' (hu5.at_.alloc (.cells #[.int .i64 0, .int .i64 1] 3)) (built_at w5 [0, 1] (by decide))
  have HC5 := hid (HC4.out.trans hc5)
  clear hab hu5 hc5
  go_wp2_with fail
  refine hsb.mono ?_
  rintro e w6 ⟨rfl, hc6⟩
  have hc6' := HC5.out.trans (((Ch.refl No w5).alloc (.cells #[.int .i64 0, .int .i64 1] 3)).trans hc6)
  clear hsb hc6
  go_wp2_with fail
  go_ret
  exact ⟨rfl, hc6'⟩
end Go.Proofs.YtkffejgjpnnkmaaDoor
