/- Members: awake of the statements of layer 10. -/
import Derived.Test.YtgjpgfedlgdjhaaGreatDoorNe
set_option linter.unusedVariables false
set_option linter.unusedSimpArgs false
set_option maxRecDepth 8192
namespace Go.Proofs.YtgjpgfedlgdjhaaGreatDoor
open Go.RowKit Go.W

def awE (a : Option Addr) : Cls := ⟨⟨#[66]⟩, ⟨#[]⟩, false, [], none, 0, (none, 0, 0), (none, 0, 0), (a, 1, 1), none, 0, 0⟩
def awD (a : Option Addr) : List Cls := [awA, awE a]
def awM : Mt := ⟨⟨#[118, 111, 105, 100]⟩, ⟨#[109]⟩, false, false, [], none, 0, (none, 0, 0), (none, 0, 0), 0, 0⟩
def awMs : List Mem := [⟨[], [], []⟩, ⟨[], [], [awM]⟩]
theorem awD_map {a : Option Addr} {β : Type} (f : Cls → β) (h : f (awE a) = f awB) : (awD a).map f = awC.map f := by
  show [f awA, f (awE a)] = [f awA, f awB]
  rw [h]
theorem awD_find {a : Option Addr} (nm : ByteArray) : find (awD a) nm = find awC nm := rfl
theorem awD_up {a : Option Addr} (i : Nat) : upsN (awD a) i = upsN awC i := by
  match i with
  | 0 => rfl
  | 1 => rfl
  | i + 2 => rfl
theorem awD_ups {a : Option Addr} : upsN (awD a) = upsN awC := funext awD_up
theorem awD_fault (a : Option Addr) : FaultAt (awD a) none := by
  have h := aw_fault
  refine ⟨fun i c hc => ?_, fun i hi => ?_⟩
  · match i, hc with
    | 0, hc =>
      cases hc
      have g := h.1 0 awA rfl
      exact ⟨g.own, fun he => ⟨1, awE a, rfl, rfl, rfl⟩, fun k f hk => absurd hk (Nat.not_lt_zero _)⟩
    | 1, hc =>
      cases hc
      have g := h.1 1 awB rfl
      exact ⟨g.own, (fun he => by rw [show (awE a).sup.toList.isEmpty = true from (by decide +kernel : awB.sup.toList.isEmpty = true)] at he; cases he), fun k f hk => absurd hk (Nat.not_lt_zero _)⟩
    | i + 2, hc => simp [awD] at hc
  · rw [awD_ups]
    exact h.2 i hi
theorem awD_sup0 {a : Option Addr} : supN (awD a) 0 = some 1 := by
  show (if awA.sup.toList.isEmpty then none else find (awD a) awA.sup) = some 1
  rw [show awA.sup.toList.isEmpty = false by decide +kernel, awD_find]
  decide +kernel
theorem awMs_mem {i k : Nat} {m : Mem} {x : Mt} (hm : awMs[i]? = some m) (hx : m.ms[k]? = some x) : i = 1 ∧ k = 0 ∧ x = awM := by
  match i, hm with
  | 0, hm => cases hm; simp at hx
  | 1, hm =>
    cases hm
    match k, hx with
    | 0, hx => cases hx; exact ⟨rfl, rfl, rfl⟩
    | k + 1, hx => simp at hx
  | i + 2, hm => simp [awMs] at hm
theorem awD_ok (a : Option Addr) : MembsOk (awD a) awMs := by
  refine ⟨awD_fault a, fun i c m hc hm => ?_⟩
  have hl : ∀ {st : Bool}, m.vs st = [] := fun {st} => by
    match i, hm with
    | 0, hm => cases hm; cases st <;> rfl
    | 1, hm => cases hm; cases st <;> rfl
    | i + 2, hm => simp [awMs] at hm
  have hfs : m.fs = [] := hl (st := false)
  have hss : m.ss = [] := hl (st := true)
  have hi : i < (awD a).length := (List.getElem?_eq_some_iff.1 hc).1
  have hcf : c.face = false := by
    match i, hc with
    | 0, hc => cases hc; rfl
    | 1, hc => cases hc; rfl
    | i + 2, hc => simp [awD] at hc
  refine ⟨fun k hk => ?_, fun k hk => ?_, fun k hk x hx => ?_, fun h => ?_, fun _ u hu nm x hx hb => ?_⟩
  · rw [hfs] at hk; exact absurd hk (Nat.not_lt_zero _)
  · rw [hss] at hk; exact absurd hk (Nat.not_lt_zero _)
  · obtain ⟨rfl, rfl, rfl⟩ := awMs_mem hm hx
    refine ⟨fun y hy => (by simp at hy), (fun h => by rw [hcf] at h; cases h), .inl rfl, fun p hp => (by cases hp), fun y hy => ?_⟩
    obtain ⟨u, hu, hy'⟩ := List.mem_filterMap.1 hy
    obtain ⟨_, hup⟩ := (upsAll_mem hi).1 hu
    exfalso
    rcases hup with rfl | hr
    · simp [abM] at hy'
    · rw [awD_ups] at hr
      cases hr with
      | one h => rw [aw_up1] at h; cases h
      | step h _ => rw [aw_up1] at h; cases h
  · rw [hcf] at h; cases h
  · exfalso
    obtain ⟨m', q, x', h1, _, h3, _, rfl⟩ := lkMethod_get hx
    obtain ⟨_, _, rfl⟩ := awMs_mem h1 h3
    cases hb
theorem awD_disp (a : Option Addr) : dispM (awD a) awMs ⟨#[109]⟩ (some 0) = some 1 := by
  have hno : NoRing (awD a) := (awD_fault a).2
  have h3 : methUp (awD a) awMs ⟨#[109]⟩ (some 1) = some (1, 0) := by rw [methUp_step hno]; rfl
  have h4 : methUp (awD a) awMs ⟨#[109]⟩ (some 0) = some (1, 0) := by rw [methUp_step hno, awD_sup0, h3]; rfl
  have h1 : methN (awD a) awMs ⟨#[109]⟩ 0 = some (1, 0) := by rw [methN_step hno, h4]
  unfold dispM methM
  simp only
  rw [h1]
  rfl
theorem MtsAt.built (w : World) (l : List Mt) (hn : l.length ≤ 1000) (hp : ∀ x ∈ l, VarsAt (w.alloc (.cells (l.flatMap Mt.cells).toArray 29)) (.slice x.pa x.ps.length x.pc) x.ps) :
    MtsAt (w.alloc (.cells (l.flatMap Mt.cells).toArray 29)) (.slice (some ⟨w.heap.size, 0, none⟩) l.length l.length) l := by
  refine ⟨⟨some ⟨w.heap.size, 0, none⟩, l.length, by rw [List.length_map], by rw [List.length_map]; exact Nat.le_refl _, by unfold maxLen; omega, fun c hc => ?_, fun _ => ⟨w.heap.size, 0, rfl, fun i c hi j hj => ?_⟩⟩, hp⟩
  · obtain ⟨x, _, rfl⟩ := List.mem_map.1 hc
    rfl
  · rw [List.getElem?_map] at hi
    cases hx : l[i]? with
    | none => rw [hx] at hi; cases hi
    | some x =>
      rw [hx] at hi
      have : c = x.cells := by simpa using hi.symm
      subst this
      rw [cellAt (heap_alloc_new w _), Nat.zero_add]
      have := flat_get Mt.cells 9 (fun x => rfl) l i j x hx hj
      simpa using this
theorem VarsAt.nil (w : World) : VarsAt w (.slice none 0 0) [] := ⟨none, 0, rfl, Nat.le_refl _, Nat.zero_le _, by simp, fun h => by simp at h⟩
theorem MtsAt.nil (w : World) : MtsAt w (.slice none 0 0) [] := ⟨⟨none, 0, rfl, Nat.le_refl _, Nat.zero_le _, by simp, fun h => by simp at h⟩, fun m hm => by cases hm⟩
theorem awD_small (a : Option Addr) : SmallP (awD a) := ⟨by show 2 ≤ 20; omega, fun c hc => by
  have : c = awA ∨ c = awE a := by simpa [awD] using hc
  rcases this with rfl | rfl <;> exact Nat.zero_le _⟩
theorem awD_sz (a : Option Addr) : SzP (awD a) := by
  intro c hc
  have : c = awA ∨ c = awE a := by simpa [awD] using hc
  rcases this with rfl | rfl <;> exact ⟨Nat.le_of_ble_eq_true rfl, Nat.le_of_ble_eq_true rfl, fun f hf => by cases hf⟩

set_option maxHeartbeats 8000000 in
theorem awake10 {w : World} (hT : Tab w) : Calls Tryz.prog 12 #[] w fun e w' => e = .returned (.bool true) ∧ Ch No w w' := by
  have HT := hid hT
  obtain ⟨w1, hw1⟩ : ∃ w1, w.alloc (.cells #[.string { data := #[118, 111, 105, 100] }, .string { data := #[109] }, .bool false, .bool false, .slice none 0 0, .slice none 0 0, .slice none 0 0, .int .i64 0, .int .i64 0] 29) = w1 := ⟨_, rfl⟩
  have hmt : MtsAt w1 (.slice (some ⟨w.heap.size, 0, none⟩) 1 1) [awM] := by
    rw [← hw1]
    exact MtsAt.built w [awM] (by show 1 ≤ 1000; omega) (fun x hx => by
      obtain rfl : x = awM := by simpa using hx
      exact VarsAt.nil _)
  have hc1 : Ch No w w1 := by rw [← hw1]; exact (Ch.refl No w).alloc _
  obtain ⟨a, ha⟩ : ∃ a : Option Addr, some (⟨w.heap.size, 0, none⟩ : Addr) = a := ⟨_, rfl⟩
  obtain ⟨w2, hw2⟩ : ∃ w2, w1.alloc (.cells #[.string { data := #[65] }, .string { data := #[66] }, .bool false, .slice none 0 0, .slice none 0 0, .slice none 0 0, .slice none 0 0, .pointer none, .int .i64 0, .int .i64 0, .string { data := #[66] }, .string { data := #[] }, .bool false, .slice none 0 0, .slice none 0 0, .slice none 0 0, .slice (some ⟨w.heap.size, 0, none⟩) 1 1, .pointer none, .int .i64 0, .int .i64 0] 50) = w2 := ⟨_, rfl⟩
  have hcl : ClssAt w2 (.slice (some ⟨w1.heap.size, 0, none⟩) 2 2) (awD a) := by
    rw [← hw2, ha]
    exact clssBuilt w1 (awD a) (by show 2 ≤ 1000; omega) (fun c hc => by
      have : c = awA ∨ c = awE a := by simpa [awD] using hc
      rcases this with rfl | rfl <;> exact StrsAt.nil _)
  have hc2 : Ch No w1 w2 := by rw [← hw2]; exact (Ch.refl No w1).alloc _
  have hma : MemsAt w2 (awD a) awMs := by
    refine ⟨rfl, fun i c m hc hm => ?_⟩
    match i, hc, hm with
    | 0, hc, hm => cases hc; cases hm; exact ⟨VarsAt.nil _, VarsAt.nil _, MtsAt.nil _⟩
    | 1, hc, hm =>
      cases hc; cases hm
      refine ⟨VarsAt.nil _, VarsAt.nil _, ?_⟩
      show MtsAt w2 (.slice a 1 1) [awM]
      rw [← ha]
      exact hmt.no hc2
    | i + 2, hc, hm => simp [awD] at hc
  have hnw := mnew (pv := .agg #[.slice (some ⟨w1.heap.size, 0, none⟩) 2 2, .string { data := #[] }, .string { data := #[] }, .bool false, .bool false, .slice none 0 0, .slice none 0 0, .slice none 0 0, .int .i64 0, .int .i64 0]) ⟨_, _, _, _, _, _, _, _, _, _, rfl, hcl⟩ hma (HT.out.no (hc1.trans hc2)) (awD_sz a)
    (fun m hm => by
      have : m = ⟨[], [], []⟩ ∨ m = ⟨[], [], [awM]⟩ := by simpa [awMs] using hm
      rcases this with rfl | rfl
      · exact ⟨(fun v h => by cases h), (fun v h => by cases h), (fun v h => by cases h)⟩
      · refine ⟨(fun v h => by cases h), (fun v h => by cases h), fun x h => ?_⟩
        obtain rfl : x = awM := by simpa using h
        exact ⟨Nat.le_of_ble_eq_true rfl, Nat.le_of_ble_eq_true rfl, (fun v hv => by cases hv)⟩)
    (awD_small a)
    (fun m hm => by
      have : m = ⟨[], [], []⟩ ∨ m = ⟨[], [], [awM]⟩ := by simpa [awMs] using hm
      rcases this with rfl | rfl
      · exact ⟨Nat.zero_le _, Nat.zero_le _, Nat.zero_le _, (fun x h => by cases h)⟩
      · refine ⟨Nat.zero_le _, Nat.zero_le _, (by show 1 ≤ 1000; omega), fun x h => ?_⟩
        obtain rfl : x = awM := by simpa using h
        exact Nat.zero_le _)
  have HC2 := hid (hc1.trans hc2)
  clear hT hmt hc1 hc2 hcl hma ha
  go_enter Tryz.func12, Tryz.ntmps12
  go_wp2_with fail
  refine hnw.mono ?_
  rintro e w3 ⟨hc3, ⟨mb, rfl, hmb, hok⟩ | ⟨l, c, rfl, hno⟩⟩
  · have HMB := hid hmb
    have HC3 := hid (HC2.out.trans hc3)
    have HFA := hid hok.1
    clear hnw hmb hok hc3 hw1 hw2
    go_upto_region 2 with fail
    obtain ⟨w4, hw4⟩ : ∃ w4, w3.alloc (.cells #[.int .i64 0, .int .i64 0, .int .i64 0] 34) = w4 := ⟨_, rfl⟩
    rw [hw4]
    have hb4 := heap_alloc_new w3 (.cells #[.int .i64 0, .int .i64 0, .int .i64 0] 34)
    have hc4 := (Ch.refl No w3).alloc (.cells #[.int .i64 0, .int .i64 0, .int .i64 0] 34)
    rw [hw4] at hb4 hc4
    have hdi := mdisp (HMB.out.no hc4) HFA.out.1 (noRingOf HFA.out) (awD_small a) rfl (fun m hm x hx => by
      have : m = ⟨[], [], []⟩ ∨ m = ⟨[], [], [awM]⟩ := by simpa [awMs] using hm
      rcases this with rfl | rfl
      · cases hx
      · obtain rfl : x = awM := by simpa using hx
        exact Nat.zero_le _) (nm := ⟨#[109]⟩) (Nat.le_of_ble_eq_true rfl) (z := 0) (o := some 0) (AtZ.some (k := 0) (by show 0 < 2; omega))
    rw [awD_disp a] at hdi
    have g0 := cellAt hb4 0
    have g1 := cellAt hb4 1
    have g2 := cellAt hb4 2
    have HC4 := hid (HC3.out.trans hc4)
    clear hw4 hb4 hc4
    go_wp2_with fail
    refine hdi.mono ?_
    rintro e w5 ⟨rfl, hc5⟩
    have HC5 := hid (HC4.out.trans hc5)
    clear hdi hc5
    go_wp2_with fail
    go_ret
    exact ⟨rfl, HC5.out⟩
  · exact absurd (awD_ok a) hno
end Go.Proofs.YtgjpgfedlgdjhaaGreatDoor
