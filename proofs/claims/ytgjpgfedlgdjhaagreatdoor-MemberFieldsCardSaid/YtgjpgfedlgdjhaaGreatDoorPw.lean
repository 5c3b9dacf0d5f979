/- Laid together: Hzd Hze Pt Pw. -/
import Derived.Test.YtgjpgfedlgdjhaaGreatDoorHzc
import Derived.Test.YtgjpgfedlgdjhaaGreatDoorHzb
section
/- What a table tells; the example. -/
set_option linter.unusedVariables false
set_option linter.unusedSimpArgs false
namespace Go.Proofs.YtgjpgfedlgdjhaaGreatDoor
open Go.RowKit Go.W

theorem ordAll {cs : List Cls} (h : FaultAt cs none) : ∀ i, i < cs.length → i ∈ ordN cs := by
  refine Gr.all_done (upsN_lt cs) h.2 ?_
  exact Gr.order_none cs.length [] .nil (by simp)
theorem rowIs {cs : List Cls} {ss : List SetP} (h : SsOf cs ss (ordN cs)) (hf : FaultAt cs none) (i : Int) : rowS ss i = if 0 ≤ i ∧ i < cs.length then abL cs [i] cs.length else [] := by
  unfold rowS
  by_cases h0 : 0 ≤ i
  · rw [if_pos h0]
    by_cases h1 : i < cs.length
    · rw [if_pos ⟨h0, h1⟩]
      obtain ⟨b, hb⟩ := h.yes i.toNat (ordAll hf _ (by omega))
      rw [hb]
      have : ((i.toNat : Nat) : Int) = i := by omega
      simp [this]
    · rw [if_neg (fun h => h1 h.2), List.getElem?_eq_none (by rw [h.len]; omega)]; rfl
  · rw [if_neg h0, if_neg (fun h => h0 h.1)]
theorem abMono {cs : List Cls} {is : List Int} {z : Int} : z ∈ abL cs is cs.length ↔ ∃ i ∈ is, (0 ≤ i ∧ i < cs.length) ∧ z ∈ abL cs [i] cs.length := by
  rw [mem_abL]
  constructor
  · rintro ⟨k, rfl, hk, x, hx, h⟩
    exact ⟨x, hx, ⟨h.1, h.2.1⟩, mem_abL.2 ⟨k, rfl, hk, x, by simp, h⟩⟩
  · rintro ⟨i, hi, _, h⟩
    obtain ⟨k, e, hk, x, hx, h2⟩ := mem_abL.1 h
    have hxi : x = i := by simpa using hx
    rw [hxi] at h2
    exact ⟨k, e, hk, i, hi, h2⟩
theorem aboveIs {cs : List Cls} {ss : List SetP} (h : SsOf cs ss (ordN cs)) (hf : FaultAt cs none) (hn : cs.length ≤ 20) (is : List Int) : aboveF ss is = abL cs is cs.length := by
  have key : ∀ (js : List Int) (acc : List Int), Good acc → Good (js.foldl (fun acc i => (rowS ss i).foldl putS acc) acc) ∧ ∀ z, z ∈ js.foldl (fun acc i => (rowS ss i).foldl putS acc) acc ↔ z ∈ acc ∨ ∃ i ∈ js, z ∈ rowS ss i := by
    intro js
    induction js with
    | nil => intro acc hg; exact ⟨hg, fun z => by simp⟩
    | cons j js ih =>
      intro acc hg
      obtain ⟨h1, h2⟩ := ih ((rowS ss j).foldl putS acc) (hg.fold _)
      refine ⟨h1, fun z => ?_⟩
      rw [List.foldl_cons, h2, mem_fold]
      constructor
      · rintro ((h | ⟨h, _⟩) | ⟨i, hi, h⟩)
        · exact .inl h
        · exact .inr ⟨j, by simp, h⟩
        · exact .inr ⟨i, by simp [hi], h⟩
      · rintro (h3 | ⟨i, hi, h3⟩)
        · exact .inl (.inl h3)
        · rcases List.mem_cons.1 hi with rfl | hi
          · refine .inl (.inr ⟨h3, ?_⟩)
            rw [rowIs h hf] at h3
            split at h3
            · obtain ⟨k, rfl, hk, _⟩ := mem_abL.1 h3
              omega
            · cases h3
          · exact .inr ⟨i, hi, h3⟩
  obtain ⟨h1, h2⟩ := key is [] good_nil
  refine sorted_eq h1.1 (abSorted cs _ _) (fun z => ?_)
  unfold aboveF at *
  rw [h2, abMono]
  constructor
  · rintro (h3 | ⟨i, hi, h3⟩)
    · cases h3
    · rw [rowIs h hf] at h3
      split at h3
      · rename_i hb; exact ⟨i, hi, hb, h3⟩
      · cases h3
  · rintro ⟨i, hi, hb, h3⟩
    refine .inr ⟨i, hi, ?_⟩
    rw [rowIs h hf, if_pos hb]; exact h3

theorem tAbove {w : World} {tv v : Value} {cs : List Cls} {is : List Int} (hT : Tab w) (h : TableIs w tv cs) (hf : FaultAt cs none) (hn : cs.length ≤ 20) (hi : IntsAt w v is) :
    Calls Tryz.prog 77 #[tv, v] w fun e w' => ∃ u, e = .returned u ∧ IntsOwn w' w.heap.size u (abL cs is cs.length) ∧ Ch No w w' := by
  obtain ⟨tb, T, rfl, h1, h2, h3, h4, h5⟩ := h
  have := habove hT h1 (by rw [h2.slen, h2.len]) hi
  rw [aboveIs h5 hf hn] at this
  exact this

/-- classes laid by a literal -/
theorem clssBuilt (w : World) (cs : List Cls) (hn : cs.length ≤ 1000) (hf : ∀ c ∈ cs, StrsAt (w.alloc (.cells (cs.flatMap Cls.cells).toArray 50)) (.slice c.fa c.faces.length c.fc) c.faces) :
    ClssAt (w.alloc (.cells (cs.flatMap Cls.cells).toArray 50)) (.slice (some ⟨w.heap.size, 0, none⟩) cs.length cs.length) cs := by
  refine ⟨⟨some ⟨w.heap.size, 0, none⟩, cs.length, by rw [List.length_map], by rw [List.length_map]; exact Nat.le_refl _, by unfold maxLen; omega, fun c hc => ?_, fun _ => ⟨w.heap.size, 0, rfl, fun i c hi j hj => ?_⟩⟩, hf⟩
  · obtain ⟨x, _, rfl⟩ := List.mem_map.1 hc
    rfl
  · rw [List.getElem?_map] at hi
    cases hx : cs[i]? with
    | none => rw [hx] at hi; cases hi
    | some x =>
      rw [hx] at hi
      have : c = x.cells := by simpa using hi.symm
      subst this
      rw [cellAt (heap_alloc_new w _), Nat.zero_add]
      have := flat_get Cls.cells 10 (fun x => rfl) cs i j x hx hj
      simpa using this
theorem StrsAt.nil (w : World) : StrsAt w (.slice none 0 0) [] := ⟨none, 0, rfl, Nat.le_refl _, Nat.zero_le _, fun h => by simp at h⟩

def awA : Cls := ⟨⟨#[65]⟩, ⟨#[66]⟩, false, [], none, 0, (none, 0, 0), (none, 0, 0), (none, 0, 0), none, 0, 0⟩
def awB : Cls := ⟨⟨#[66]⟩, ⟨#[]⟩, false, [], none, 0, (none, 0, 0), (none, 0, 0), (none, 0, 0), none, 0, 0⟩
def awC : List Cls := [awA, awB]
theorem aw_up0 : upsN awC 0 = [1] := by decide +kernel
theorem aw_up1 : upsN awC 1 = [] := by decide +kernel
theorem aw_fault : FaultAt awC none := by
  have h0 : okC awC 0 awA := ⟨by decide, fun _ => ⟨1, awB, by decide, rfl, rfl⟩, fun k f hk => absurd hk (Nat.not_lt_zero _)⟩
  have h1 : okC awC 1 awB := ⟨by decide, (fun h => by rw [show awB.sup.toList.isEmpty = true by decide +kernel] at h; cases h), fun k f hk => absurd hk (Nat.not_lt_zero _)⟩
  refine ⟨fun i c hc => ?_, fun i hi hr => ?_⟩
  · match i, hc with
    | 0, hc => cases hc; exact h0
    | 1, hc => cases hc; exact h1
    | i + 2, hc => simp [awC] at hc
  · have n1 : ∀ j, ¬ Gr.Reach (upsN awC) 1 j := by
      intro j hj
      cases hj with
      | one h => rw [aw_up1] at h; cases h
      | step h _ => rw [aw_up1] at h; cases h
    match i, hi with
    | 0, _ =>
      cases hr with
      | one h => rw [aw_up0] at h; exact absurd (List.mem_singleton.1 h) (by decide)
      | step h h' => rw [aw_up0] at h; simp at h; subst h; exact n1 _ h'
    | 1, _ => exact n1 _ hr
    | i + 2, hi =>
      have e2 : awC.length = 2 := rfl
      omega
theorem aw_ord : ordL awC = [1, 0] := by decide +kernel
theorem aw_ab : abL awC [0] awC.length = [0, 1] := by
  have e : awC.length = 0 + 1 + 1 := rfl
  have y0 : AbP awC [0] 0 := ⟨0, by simp, by decide, by decide, .inl rfl⟩
  have y1 : AbP awC [0] 1 := ⟨0, by simp, by decide, by decide, .inr (.one (by rw [show (0 : Int).toNat = 0 from rfl, aw_up0]; simp))⟩
  rw [e, abYes y1, abYes y0]
  rfl
theorem aw_small : SmallP awC := ⟨by decide, by decide⟩
theorem aw_sz : SzP awC := by
  intro c hc
  have : c = awA ∨ c = awB := by simpa [awC] using hc
  rcases this with rfl | rfl <;> exact ⟨by decide, by decide, fun f hf => by cases hf⟩

end Go.Proofs.YtgjpgfedlgdjhaaGreatDoor
end
section
/- HierFaults: the law. -/
set_option linter.unusedVariables false
set_option linter.unusedSimpArgs false
namespace Go.Proofs.YtgjpgfedlgdjhaaGreatDoor
open Go.RowKit Go.W

theorem faultIs {cs : List Cls} {o : Option Nat} (h : FaultAt cs o) : (o = none ∧ faultC cs o = (0, 0, 0)) ∨ ∃ i l c, o = some i ∧ faultC cs o = (11, l, c) := by
  cases o with
  | none => exact .inl ⟨rfl, rfl⟩
  | some i =>
    obtain ⟨c, hc⟩ : ∃ c, cs[i]? = some c := ⟨_, List.getElem?_eq_getElem h.1⟩
    exact .inr ⟨i, c.line, c.col, rfl, faultSome hc⟩

end Go.Proofs.YtgjpgfedlgdjhaaGreatDoor
end
section
/- What a table tells of a program's classes; types of programs: plain. -/
set_option linter.unusedVariables false
set_option linter.unusedSimpArgs false
namespace Go.Proofs.YtgjpgfedlgdjhaaGreatDoor
open Go.RowKit Go.W

theorem tIndex {w : World} {tv : Value} {cs : List Cls} (h : TableIs w tv cs) {nm : ByteArray} (hn : nm.size ≤ maxLen) :
    Calls Tryz.prog 159 #[tv, .string nm] w fun e w' => e = .returned (.tuple #[.int .i64 (getI (find cs) nm), .bool (getB (find cs) nm)]) ∧ w = w' := by
  obtain ⟨tb, T, rfl, h1, h2, h3, h4, h5⟩ := h
  have := hindex h1 hn
  rw [h3] at this
  exact this
theorem tLen {w : World} {tv : Value} {cs : List Cls} (h : TableIs w tv cs) :
    Calls Tryz.prog 75 #[tv] w fun e w' => e = .returned (.int .i64 cs.length) ∧ w = w' := by
  obtain ⟨tb, T, rfl, h1, h2, h3, h4, h5⟩ := h
  have := hlen h1
  rw [h2.len] at this
  exact this
/-- the row of a class -/
theorem KsOf.at {cs : List Cls} {T : TabD} (h : KsOf cs T) {i : Nat} {c : Cls} (hc : cs[i]? = some c) : ∃ k, T.ks[i]? = some k ∧ k.name = c.name ∧ k.face = c.face ∧ k.sup = supZ cs c ∧ k.fs = c.faces.map (findZ cs) := by
  have hi := (List.getElem?_eq_some_iff.1 hc).1
  obtain ⟨k, hk⟩ : ∃ k, T.ks[i]? = some k := ⟨_, List.getElem?_eq_getElem (by rw [h.len]; exact hi)⟩
  exact ⟨k, hk, h.row i c k hc hk⟩
theorem tFace {w : World} {tv : Value} {cs : List Cls} (h : TableIs w tv cs) {i : Nat} {c : Cls} (hc : cs[i]? = some c) :
    Calls Tryz.prog 46 #[tv, .int .i64 i] w fun e w' => e = .returned (.bool c.face) ∧ w = w' := by
  obtain ⟨tb, T, rfl, h1, h2, h3, h4, h5⟩ := h
  obtain ⟨k, hk, hk1, hk2, hk3, _⟩ := h2.at hc
  have := hFace h1 (i : Int)
  rw [rowZ_nat, hk] at this
  rw [← hk2]
  exact this
theorem tFaceNo {w : World} {tv : Value} {cs : List Cls} (h : TableIs w tv cs) {i : Int} (hi : ¬ (0 ≤ i ∧ i < cs.length)) :
    Calls Tryz.prog 46 #[tv, .int .i64 i] w fun e w' => e = .returned (.bool false) ∧ w = w' := by
  obtain ⟨tb, T, rfl, h1, h2, h3, h4, h5⟩ := h
  have := hFace h1 i
  have hr : rowZ T.ks i = none := by
    unfold rowZ
    split
    · rw [List.getElem?_eq_none]; have := h2.len; omega
    · rfl
  rw [hr] at this
  exact this
theorem tSuper {w : World} {tv : Value} {cs : List Cls} (h : TableIs w tv cs) {i : Nat} {c : Cls} (hc : cs[i]? = some c) :
    Calls Tryz.prog 50 #[tv, .int .i64 i] w fun e w' => e = .returned (.int .i64 (supZ cs c)) ∧ w = w' := by
  obtain ⟨tb, T, rfl, h1, h2, h3, h4, h5⟩ := h
  obtain ⟨k, hk, hk1, hk2, hk3, _⟩ := h2.at hc
  have := hSuper h1 (i : Int)
  rw [rowZ_nat, hk] at this
  rw [← hk3]
  exact this
theorem tSuperNo {w : World} {tv : Value} {cs : List Cls} (h : TableIs w tv cs) {i : Int} (hi : ¬ (0 ≤ i ∧ i < cs.length)) :
    Calls Tryz.prog 50 #[tv, .int .i64 i] w fun e w' => e = .returned (.int .i64 (-1)) ∧ w = w' := by
  obtain ⟨tb, T, rfl, h1, h2, h3, h4, h5⟩ := h
  have := hSuper h1 i
  have hr : rowZ T.ks i = none := by
    unfold rowZ
    split
    · rw [List.getElem?_eq_none]; have := h2.len; omega
    · rfl
  rw [hr] at this
  exact this
theorem tRight {w : World} {tv : Value} {cs : List Cls} (h : TableIs w tv cs) (hs : SoundP cs) (hsm : SmallP cs) {i : Nat} {c : Cls} (hc : cs[i]? = some c) :
    Calls Tryz.prog 49 #[tv, .int .i64 i] w fun e w' => ∃ u, e = .returned u ∧ IntsOwn w' w.heap.size u (rightZ cs c) ∧ Ch No w w' := by
  obtain ⟨tb, T, rfl, h1, h2, h3, h4, h5⟩ := h
  obtain ⟨k, hk, _, _, _, hk4⟩ := h2.at hc
  have := hright h1 hk (by rw [hk4, List.length_map]; have := hsm.2 c (List.mem_of_getElem? hc); omega)
  rw [rightK h2 hc hk (hs i c hc), ← rightZ_ups hc (hs i c hc)] at this
  exact this
set_option maxHeartbeats 1000000 in
theorem hrightNo {w : World} {tb : Nat} {T : TabD} (h : TabAt w tb T) {i : Int} (hi : ¬ (0 ≤ i ∧ i < T.ks.length)) :
    Calls Tryz.prog 49 #[.pointer (some ⟨tb, 0, none⟩), .int .i64 i] w fun e w' => e = .returned (.slice none 0 0) ∧ w = w' := by
  have ht := hthere_no h hi
  clear h hi
  go_enter Tryz.func49, Tryz.ntmps49
  go_wp2_with fail
  refine ht.mono ?_
  rintro e w1 ⟨rfl, rfl⟩
  go_wp2_with fail
  go_ret
  exact ⟨rfl, rfl⟩
theorem tRightNo {w : World} {tv : Value} {cs : List Cls} (h : TableIs w tv cs) {i : Int} (hi : ¬ (0 ≤ i ∧ i < cs.length)) :
    Calls Tryz.prog 49 #[tv, .int .i64 i] w fun e w' => e = .returned (.slice none 0 0) ∧ w = w' := by
  obtain ⟨tb, T, rfl, h1, h2, h3, h4, h5⟩ := h
  exact hrightNo h1 (by rw [h2.len]; exact hi)

def sInt : ByteArray := ⟨#[105, 110, 116]⟩
def sNull : ByteArray := ⟨#[110, 117, 108, 108]⟩
def sVoid : ByteArray := ⟨#[118, 111, 105, 100]⟩
def sArr : ByteArray := ⟨#[91, 93]⟩
/-- a text ends as an array's does -/
def arrP (t : ByteArray) : Prop := 2 ≤ t.size ∧ t.extract (t.size - 2) t.size = sArr
def cutA (t : ByteArray) : ByteArray := t.extract 0 (t.size - 2)
/-- what an array has -/
noncomputable def elemO (cs : List Cls) (t : ByteArray) : Option ByteArray :=
  @ite _ (arrP t ∧ (find cs (cutA t)).isSome) (Classical.propDecidable _) (some (cutA t)) none
theorem elemO_some {cs : List Cls} {t e : ByteArray} : elemO cs t = some e ↔ arrP t ∧ cutA t = e ∧ ∃ i, find cs e = some i := by
  unfold elemO
  split
  · rename_i h
    obtain ⟨h1, h2⟩ := h
    obtain ⟨i, hi⟩ := Option.isSome_iff_exists.1 h2
    constructor
    · intro e; cases e; exact ⟨h1, rfl, i, hi⟩
    · rintro ⟨_, rfl, _⟩; rfl
  · rename_i h
    constructor
    · intro e; cases e
    · rintro ⟨h1, rfl, i, hi⟩
      exact absurd ⟨h1, by rw [hi]; rfl⟩ h
theorem elemO_none {cs : List Cls} {t : ByteArray} : elemO cs t = none ↔ ¬ (arrP t ∧ (find cs (cutA t)).isSome) := by
  unfold elemO
  split
  · rename_i h
    exact ⟨fun e => (by cases e), fun h' => absurd h h'⟩
  · rename_i h
    exact ⟨fun _ => h, fun _ => rfl⟩
/-- no type has two meanings -/
structure PlainC (c : Cls) : Prop where
  ne : c.name ≠ ⟨#[]⟩
  nint : c.name ≠ sInt
  nnull : c.name ≠ sNull
  nvoid : c.name ≠ sVoid
  narr : ¬ arrP c.name
def PlainP (cs : List Cls) : Prop := ∀ c ∈ cs, PlainC c
def isT (cs : List Cls) (t : ByteArray) : Prop := t = sInt ∨ t = sNull ∨ (∃ i, find cs t = some i) ∨ ∃ e, elemO cs t = some e
/-- class i stands for class k -/
def upT (cs : List Cls) (i k : Nat) : Prop := i = k ∨ Gr.Reach (upsN cs) i k
def belT (cs : List Cls) (t u : ByteArray) : Prop :=
  isT cs t ∧ isT cs u ∧ (t = u ∨ t = sNull ∧ u ≠ sInt ∨ t ≠ sNull ∧ ∃ i k, find cs t = some i ∧ find cs u = some k ∧ upT cs i k)

theorem PlainP.none {cs : List Cls} (h : PlainP cs) {t : ByteArray} (ht : t = sInt ∨ t = sNull ∨ t = sVoid ∨ t = ⟨#[]⟩ ∨ arrP t) : find cs t = none := by
  refine find_none (fun x hx e => ?_)
  have hp := h x hx
  subst e
  rcases ht with h | h | h | h | h
  · exact hp.nint h
  · exact hp.nnull h
  · exact hp.nvoid h
  · exact hp.ne h
  · exact hp.narr h
theorem not_arr_int : ¬ arrP sInt := by unfold arrP; decide +kernel
theorem not_arr_null : ¬ arrP sNull := by unfold arrP; decide +kernel
theorem arr_name (n : ByteArray) : arrP (n ++ sArr) ∧ cutA (n ++ sArr) = n := by
  have hs : (n ++ sArr).size = n.size + 2 := by rw [ByteArray.size_append]; rfl
  refine ⟨⟨by omega, ?_⟩, ?_⟩
  · rw [hs, show n.size + 2 - 2 = n.size by omega]
    rw [ByteArray.ext_iff]
    simp only [ByteArray.data_extract, ByteArray.data_append]
    have : n.size = n.data.size := rfl
    rw [this]
    apply Array.ext'
    simp [sArr]
  · unfold cutA
    rw [hs, show n.size + 2 - 2 = n.size by omega]
    rw [ByteArray.ext_iff]
    simp only [ByteArray.data_extract, ByteArray.data_append]
    apply Array.ext'
    simp
    exact List.take_of_length_le (by simp)
theorem cut_arr {t : ByteArray} (h : arrP t) : cutA t ++ sArr = t := by
  obtain ⟨h1, h2⟩ := h
  unfold cutA
  rw [← h2, ByteArray.ext_iff]
  simp only [ByteArray.data_extract, ByteArray.data_append]
  apply Array.ext'
  have h3 : t.size = t.data.toList.length := by simp
  simp [Array.toList_extract, List.extract]
  exact List.take_of_length_le (by omega)
theorem elem_inj {cs : List Cls} {t u e : ByteArray} (h : elemO cs t = some e) (h' : elemO cs u = some e) : t = u := by
  obtain ⟨h1, h2, _⟩ := elemO_some.1 h
  obtain ⟨g1, g2, _⟩ := elemO_some.1 h'
  rw [← cut_arr h1, ← cut_arr g1, h2, g2]
theorem elem_class {cs : List Cls} (hp : PlainP cs) {t e : ByteArray} (h : elemO cs t = some e) : find cs t = none ∧ t ≠ sInt ∧ t ≠ sNull := by
  obtain ⟨h1, _⟩ := elemO_some.1 h
  refine ⟨hp.none (.inr (.inr (.inr (.inr h1)))), fun e => ?_, fun e => ?_⟩
  · subst e; exact not_arr_int h1
  · subst e; exact not_arr_null h1

theorem upT.trans {cs : List Cls} {i k l : Nat} (h : upT cs i k) (h' : upT cs k l) : upT cs i l := by
  rcases h with rfl | h
  · exact h'
  · rcases h' with rfl | h'
    · exact .inr h
    · exact .inr (h.trans h')
theorem upT.anti {cs : List Cls} (hf : FaultAt cs none) {i k : Nat} (hi : i < cs.length) (h : upT cs i k) (h' : upT cs k i) : i = k := by
  rcases h with rfl | h
  · rfl
  · rcases h' with rfl | h'
    · rfl
    · exact absurd (h.trans h') (hf.2 i hi)
theorem find_lt {cs : List Cls} {t : ByteArray} {i : Nat} (h : find cs t = some i) : i < cs.length := by
  obtain ⟨c, hc, _⟩ := find_some h
  exact (List.getElem?_eq_some_iff.1 hc).1

theorem belT.refl {cs : List Cls} {t : ByteArray} (h : isT cs t) : belT cs t t := ⟨h, h, .inl rfl⟩
theorem belT.anti {cs : List Cls} (hf : FaultAt cs none) (hp : PlainP cs) {t u : ByteArray} (h : belT cs t u) (h' : belT cs u t) : t = u := by
  obtain ⟨h1, h2, h3⟩ := h
  obtain ⟨_, _, g3⟩ := h'
  have hn : find cs sNull = none := hp.none (.inr (.inl rfl))
  rcases h3 with rfl | ⟨rfl, h3⟩ | ⟨h3, i, k, hi, hk, hik⟩
  · rfl
  · rcases g3 with rfl | ⟨rfl, g3⟩ | ⟨g3, i, k, hi, hk, hik⟩
    · rfl
    · rfl
    · rw [hn] at hk; cases hk
  · rcases g3 with rfl | ⟨rfl, g3⟩ | ⟨g3, i', k', hi', hk', hik'⟩
    · rfl
    · rw [hn] at hk; cases hk
    · rw [hk] at hi'; cases hi'
      rw [hi] at hk'; cases hk'
      have := hik.anti hf (find_lt hi) hik'
      subst this
      exact find_inj hi hk
theorem belT.trans {cs : List Cls} (hp : PlainP cs) {t u v : ByteArray} (h : belT cs t u) (h' : belT cs u v) : belT cs t v := by
  obtain ⟨h1, h2, h3⟩ := h
  obtain ⟨g1, g2, g3⟩ := h'
  have hn : find cs sNull = none := hp.none (.inr (.inl rfl))
  have hi0 : find cs sInt = none := hp.none (.inl rfl)
  refine ⟨h1, g2, ?_⟩
  rcases h3 with rfl | ⟨rfl, h3⟩ | ⟨h3, i, k, hi, hk, hik⟩
  · exact g3
  · rcases g3 with rfl | ⟨rfl, g3⟩ | ⟨g3, i', k', hi', hk', hik'⟩
    · exact .inr (.inl ⟨rfl, h3⟩)
    · exact .inr (.inl ⟨rfl, g3⟩)
    · refine .inr (.inl ⟨rfl, fun e => ?_⟩)
      subst e; rw [hi0] at hk'; cases hk'
  · rcases g3 with rfl | ⟨rfl, g3⟩ | ⟨g3, i', k', hi', hk', hik'⟩
    · exact .inr (.inr ⟨h3, i, k, hi, hk, hik⟩)
    · rw [hn] at hk; cases hk
    · rw [hk] at hi'; cases hi'
      exact .inr (.inr ⟨h3, i, k', hi, hk', hik.trans hik'⟩)
/-- arrays stand for themselves, and null for them -/
theorem bel_arr {cs : List Cls} (hp : PlainP cs) {t u : ByteArray} (ht : isT cs t) (hu : isT cs u) (h : (∃ e, elemO cs t = some e) ∨ ∃ e, elemO cs u = some e) :
    belT cs t u ↔ t = u ∨ (∃ e, elemO cs u = some e) ∧ t = sNull := by
  constructor
  · rintro ⟨_, _, h3 | ⟨h3, h4⟩ | ⟨h3, i, k, hi, hk, _⟩⟩
    · exact .inl h3
    · rcases h with ⟨e, he⟩ | h
      · exact absurd h3 (elem_class hp he).2.2
      · exact .inr ⟨h, h3⟩
    · rcases h with ⟨e, he⟩ | ⟨e, he⟩
      · rw [(elem_class hp he).1] at hi; cases hi
      · rw [(elem_class hp he).1] at hk; cases hk
  · rintro (h3 | ⟨⟨e, he⟩, h3⟩)
    · exact ⟨ht, hu, .inl h3⟩
    · exact ⟨ht, hu, .inr (.inl ⟨h3, (elem_class hp he).2.1⟩)⟩

/-- some of a program's types -/
def allT (cs : List Cls) (n : Nat) : List ByteArray := [sInt, sNull] ++ (cs.take n).flatMap (fun c => [c.name, c.name ++ sArr])
theorem allTsnoc {cs : List Cls} {n : Nat} {c : Cls} (h : cs[n]? = some c) : allT cs (n + 1) = allT cs n ++ [c.name, c.name ++ sArr] := by
  unfold allT
  rw [List.take_add_one, h, List.flatMap_append, List.append_assoc]
  simp
theorem allTlen (cs : List Cls) (n : Nat) : (allT cs n).length = 2 + 2 * min n cs.length := by
  unfold allT
  rw [List.length_append, List.length_flatMap]
  simp [List.map_const', Nat.mul_comm]
theorem allTis {cs : List Cls} (hf : FaultAt cs none) {n : Nat} {t : ByteArray} (h : t ∈ allT cs n) : isT cs t := by
  unfold allT at h
  rcases List.mem_append.1 h with h | h
  · simp at h
    rcases h with h | h
    · exact .inl h
    · exact .inr (.inl h)
  · obtain ⟨c, hc, ht⟩ := List.mem_flatMap.1 h
    obtain ⟨i, hi, rfl⟩ := List.mem_take_iff_getElem.1 hc
    have hfi := (hf.1 i _ (List.getElem?_eq_getElem (by omega))).own
    simp at ht
    rcases ht with rfl | rfl
    · exact .inr (.inr (.inl ⟨i, hfi⟩))
    · obtain ⟨h1, h2⟩ := arr_name (cs[i]).name
      exact .inr (.inr (.inr ⟨(cs[i]).name, elemO_some.2 ⟨h1, h2, i, hfi⟩⟩))
theorem allTnodup {cs : List Cls} (hf : FaultAt cs none) (hp : PlainP cs) : ∀ n, (allT cs n).Nodup := by
  intro n
  induction n with
  | zero => unfold allT; simp; decide
  | succ n ih =>
    rcases Nat.lt_or_ge n cs.length with hn | hn
    · have hc : cs[n]? = some cs[n] := List.getElem?_eq_getElem hn
      rw [allTsnoc hc, List.nodup_append]
      have hpn := hp _ (List.mem_of_getElem? hc)
      have hfn := (hf.1 n _ hc).own
      obtain ⟨h1, h2⟩ := arr_name (cs[n]).name
      have he : elemO cs ((cs[n]).name ++ sArr) = some (cs[n]).name := elemO_some.2 ⟨h1, h2, n, hfn⟩
      have hne : ∀ i, i < n → (hi : i < cs.length) → (cs[i]).name ≠ (cs[n]).name := by
        intro i hi hil e
        have h3 := (hf.1 i _ (List.getElem?_eq_getElem hil)).own
        rw [e, hfn] at h3
        have : n = i := by simpa using h3
        omega
      refine ⟨ih, ?_, fun a ha b hb e => ?_⟩
      · simp
        intro e
        rw [← e] at h1; exact hpn.narr h1
      · subst e
        unfold allT at ha
        simp at hb
        rcases List.mem_append.1 ha with ha | ha
        · simp at ha
          rcases hb with rfl | rfl
          · rcases ha with h | h
            · exact hpn.nint h
            · exact hpn.nnull h
          · rcases ha with h | h
            · rw [h] at h1; exact not_arr_int h1
            · rw [h] at h1; exact not_arr_null h1
        · obtain ⟨c, hcm, ht⟩ := List.mem_flatMap.1 ha
          obtain ⟨i, hi, rfl⟩ := List.mem_take_iff_getElem.1 hcm
          have hpi := hp (cs[i]) (List.getElem_mem _)
          simp at ht
          rcases hb with rfl | rfl
          · rcases ht with h | h
            · exact hne i (by omega) (by omega) h.symm
            · exact hpn.narr (by rw [h]; exact (arr_name _).1)
          · rcases ht with h | h
            · rw [h] at h1; exact hpi.narr h1
            · have := congrArg cutA h
              rw [h2, (arr_name (cs[i]).name).2] at this
              exact hne i (by omega) (by omega) this.symm
    · have : allT cs (n + 1) = allT cs n := by
        unfold allT
        rw [List.take_of_length_le (by omega), List.take_of_length_le hn]
      rw [this]; exact ih

/-- class j is no interface, and stands for class k -/
def UnP (cs : List Cls) (k j : Nat) : Prop := ∃ c, cs[j]? = some c ∧ c.face = false ∧ upT cs j k
def nameAt (cs : List Cls) (j : Nat) : ByteArray := match cs[j]? with | some c => c.name | none => ⟨#[]⟩
noncomputable def unL (cs : List Cls) (k n : Nat) : List ByteArray := ((List.range n).filter (fun j => @decide (UnP cs k j) (Classical.propDecidable _))).map (nameAt cs)
theorem unYes {cs : List Cls} {k n : Nat} (h : UnP cs k n) : unL cs k (n + 1) = unL cs k n ++ [nameAt cs n] := by
  unfold unL
  rw [List.range_succ, List.filter_append, List.map_append]
  simp [h]
theorem unNo {cs : List Cls} {k n : Nat} (h : ¬ UnP cs k n) : unL cs k (n + 1) = unL cs k n := by
  unfold unL
  rw [List.range_succ, List.filter_append, List.map_append]
  simp [h]
theorem mem_unL {cs : List Cls} {k n : Nat} {t : ByteArray} : t ∈ unL cs k n ↔ ∃ j, j < n ∧ UnP cs k j ∧ nameAt cs j = t := by
  unfold unL
  simp [List.mem_map, List.mem_filter, and_assoc]
/-- what stands for a type -/
noncomputable def underL (cs : List Cls) (t : ByteArray) : List ByteArray := match elemO cs t with
  | some _ => [t]
  | none => match find cs t with | some k => unL cs k cs.length | none => []
theorem unNodup {cs : List Cls} (hf : FaultAt cs none) (k : Nat) : ∀ n, n ≤ cs.length → (unL cs k n).Nodup := by
  intro n
  induction n with
  | zero => intro _; exact List.nodup_nil
  | succ n ih =>
    intro hn
    by_cases hu : UnP cs k n
    · rw [unYes hu, List.nodup_append]
      refine ⟨ih (by omega), by simp, fun a ha b hb e => ?_⟩
      have hb' : b = nameAt cs n := by simpa using hb
      subst hb'
      obtain ⟨j, hj, _, hjn⟩ := mem_unL.1 ha
      have h1 := (hf.1 j _ (List.getElem?_eq_getElem (by omega))).own
      have h2 := (hf.1 n _ (List.getElem?_eq_getElem (by omega))).own
      rw [← hjn] at e
      unfold nameAt at e
      rw [List.getElem?_eq_getElem (by omega), List.getElem?_eq_getElem (by omega)] at e
      have e' : (cs[j]'(by omega)).name = (cs[n]'(by omega)).name := e
      rw [e', h2] at h1
      have : n = j := by simpa using h1
      omega
    · rw [unNo hu]; exact ih (by omega)
/-- a class that is no interface stands for a type as it stands among those that do -/
theorem un_bel {cs : List Cls} (hf : FaultAt cs none) (hp : PlainP cs) {k j : Nat} {c : Cls} {t : ByteArray} (hj : cs[j]? = some c) (hk : find cs t = some k) : UnP cs k j ↔ c.face = false ∧ belT cs c.name t := by
  have hjf := (hf.1 j c hj).own
  have hc := hp c (List.mem_of_getElem? hj)
  constructor
  · rintro ⟨d, hd, h1, h2⟩
    rw [hj] at hd; cases hd
    refine ⟨h1, .inr (.inr (.inl ⟨j, hjf⟩)), .inr (.inr (.inl ⟨k, hk⟩)), .inr (.inr ⟨hc.nnull, j, k, hjf, hk, h2⟩)⟩
  · rintro ⟨h1, _, _, h2 | ⟨h2, _⟩ | ⟨_, i, k', hi, hk', h2⟩⟩
    · refine ⟨c, hj, h1, .inl ?_⟩
      rw [← h2, hjf] at hk
      simpa using hk
    · exact absurd h2 hc.nnull
    · rw [hjf] at hi; cases hi
      rw [hk] at hk'; cases hk'
      exact ⟨c, hj, h1, h2⟩
end Go.Proofs.YtgjpgfedlgdjhaaGreatDoor
end
section
/- Appending to a row of one's own. -/
set_option linter.unusedVariables false
set_option linter.unusedSimpArgs false
namespace Go.Proofs.YtgjpgfedlgdjhaaGreatDoor
open Go.RowKit Go.W

theorem run_appendOwn (w : World) {t e : TypeId} {sz bytes : Nat} (ht : Tryz.prog.underlying t = some (.slice e)) (hinfo : (Tryz.prog.info? e).map (fun i => (i.zero.map (fun z => z.cells.size), i.size, i.bytes)) = some (some sz, sz, bytes)) (hsz : 0 < sz) (hby : bytes ≤ 1000)
    (base : Nat) (v : Value) (n : Nat) (xs : List Value) (hown : w.ownsRow base e sz v n xs) (b m c : Nat) (news : List Value) (hl : news.length = m * sz) (hb : w.heap[b]? = some (.cells news.toArray e (0, 0))) (h1 : ∀ u ∈ news, u.oneCell' = true)
    (hn : n + m ≤ 100000) (hbase : base ≤ w.heap.size) (ty : TypeId) :
    ∃ v' w', (Builtin.append_ #[t, t] ty #[v, .slice (some ⟨b, 0, none⟩) m c]).run Tryz.prog w = .ok v' w' ∧ w'.ownsRow base e sz v' (n + m) (xs ++ news) ∧ Ch (fun j _ => v.ownBlock = some j) w w' := by
  obtain ⟨i, z, hi, hz, h2, h3, h4⟩ := infoOf hinfo
  have hm : maxLen = 9223372036854775807 := rfl
  obtain ⟨v', w', hr, ho, hg, _⟩ := run_append_own (P := Tryz.prog) w base t ty e i z sz bytes ht hi hz h3 h4 h2 hsz v n xs hown ⟨b, 0, none⟩ m c news hl
    (fun j u hj => by
      rw [Addr.add_lit, cellAt hb, Nat.zero_add, ← Array.getElem?_toList]
      exact hj) h1 (by omega) (by
        have : (n + m) * bytes ≤ 100000 * 1000 := Nat.mul_le_mul hn hby
        omega) hbase
  exact ⟨v', w', hr, ho, (Ch.refl _ w).grown hg (fun _ _ h _ => h)⟩

theorem wpAppendOwn {w : World} {ops : Array Oper} {rest : List Oper} {o : Oper} {a : Act} {Q : Exit → Act → World → Prop} (hgd : o.guard = none) (s x : Operand) {t e : TypeId} {sz bytes : Nat}
    (ho : o.op = .call { callee := .builtin .append, args := #[s, x], argTypes := #[t, t] })
    (ht : Tryz.prog.underlying t = some (.slice e)) (hinfo : (Tryz.prog.info? e).map (fun i => (i.zero.map (fun z => z.cells.size), i.size, i.bytes)) = some (some sz, sz, bytes)) (hsz : 0 < sz) (hby : bytes ≤ 1000)
    (base : Nat) (v : Value) (n : Nat) (xs : List Value) (hsv : a.eval s = v) (hown : w.ownsRow base e sz v n xs) (b m c : Nat) (news : List Value) (hxv : a.eval x = .slice (some ⟨b, 0, none⟩) m c) (hl : news.length = m * sz) (hb : w.heap[b]? = some (.cells news.toArray e (0, 0))) (h1 : ∀ u ∈ news, u.oneCell' = true)
    (hn : n + m ≤ 100000) (hbase : base ≤ w.heap.size)
    (hK : ∀ v' w', w'.ownsRow base e sz v' (n + m) (xs ++ news) → Ch (fun k _ => v.ownBlock = some k) w w' → wpList Tryz.prog ops Q rest (a.put o.dst v') w') :
    wpList Tryz.prog ops Q (o :: rest) a w := by
  refine wpList_plain hgd fun K hK' => ?_
  obtain ⟨v', w', hr, h2, h3⟩ := run_appendOwn w ht hinfo hsz hby base v n xs hown b m c news hl hb h1 hn hbase o.type
  unfold Oper.wp
  simp [execOp, ho, resolve, invoke, builtin, hsv, hxv, hr, Result.andThen]
  exact hK' _ _ (hK v' w' h2 h3)

theorem step_appendOwn {ops : Array Oper} {o : Oper} {a : Act} {w : World} {K : Act → World → Prop} {Q : Exit → Act → World → Prop} {E : Prop}
    (hg : o.guard = none) (s x : Operand) {t e : TypeId} {sz bytes : Nat} (hop : o.op = Op.call { callee := Callee.builtin Builtin.append, args := #[s, x], argTypes := #[t, t] })
    (ht : Tryz.prog.underlying t = some (.slice e)) (hinfo : (Tryz.prog.info? e).map (fun i => (i.zero.map (fun z => z.cells.size), i.size, i.bytes)) = some (some sz, sz, bytes)) (hsz : 0 < sz) (hby : bytes ≤ 1000)
    (base : Nat) (v : Value) (n : Nat) (xs : List Value) (hs : a.eval s = v) (hown : w.ownsRow base e sz v n xs) (b m c : Nat) (news : List Value) (hx : a.eval x = .slice (some ⟨b, 0, none⟩) m c) (hl : news.length = m * sz) (hb : w.heap[b]? = some (.cells news.toArray e (0, 0))) (h1 : ∀ u ∈ news, u.oneCell' = true)
    (hn : n + m ≤ 100000) (hbase : base ≤ w.heap.size)
    (hK : ∀ v' w', w'.ownsRow base e sz v' (n + m) (xs ++ news) → Ch (fun k _ => v.ownBlock = some k) w w' → K (a.put o.dst v') w') :
    if Region.wanted o (yielded ops a.tmps) = true then Oper.wp Tryz.prog o a w K Q else E := by
  have hw : Region.wanted o (yielded ops a.tmps) = true := by simp [Region.wanted, hg]
  rw [if_pos hw]
  obtain ⟨v', w', hr, h2, h3⟩ := run_appendOwn w ht hinfo hsz hby base v n xs hown b m c news hl hb h1 hn hbase o.type
  unfold Oper.wp
  simp [execOp, hop, resolve, invoke, builtin, hs, hx, hr, Result.andThen]
  exact hK v' w' h2 h3

theorem owned_typed {w : World} {base sz n : Nat} {e : TypeId} {v : Value} {xs : List Value} (h : w.ownsRow base e sz v n xs) : ∀ g, v.ownBlock = some g → base ≤ g ∧ ∃ cur, w.heap[g]? = some (.cells cur e (0, 0)) := by
  intro g hg
  rcases h.2 with ⟨rfl, _⟩ | ⟨g', cap, cur, rfl, h2, h3, _⟩
  · simp [Value.ownBlock] at hg
  · have e : g' = g := by simpa [Value.ownBlock] using hg
    subst e
    exact ⟨h2, cur, h3⟩
/-- a block of another type is no row's own -/
theorem not_own {w : World} {base sz n : Nat} {e t : TypeId} {v : Value} {xs : List Value} {cur : Array Value} {g : Nat} (h : w.ownsRow base e sz v n xs) (hg : w.heap[g]? = some (.cells cur t (0, 0))) (hne : t ≠ e) : ¬ v.ownBlock = some g := by
  intro hv
  obtain ⟨_, cur2, h2⟩ := owned_typed h g hv
  rw [hg] at h2
  have : t = e := by
    have := Option.some.inj h2
    cases this; rfl
  exact hne this
theorem Tryz.sliceStr : Tryz.prog.underlying 46 = some (.slice 9) := by kernel_rfl
theorem Tryz.infoStr : (Tryz.prog.info? 9).map (fun i => (i.zero.map (fun z => z.cells.size), i.size, i.bytes)) = some (some 1, 1, 16) := by kernel_rfl

/-- texts in a row of one's own -/
def StrsOwn (w : World) (base : Nat) (v : Value) (l : List ByteArray) : Prop := w.ownsRow base 9 1 v l.length (l.map Value.string)
theorem StrsOwn.nil (w : World) (base : Nat) : StrsOwn w base (.slice none 0 0) [] := World.ownsRow_nil _ _ _ _
theorem StrsOwn.ch {S : Nat → Obj → Prop} {w w' : World} {base : Nat} {v : Value} {l : List ByteArray} (h : StrsOwn w base v l) (hc : Ch S w w') (hS : ∀ g cur, v.ownBlock = some g → base ≤ g → ¬ S g (.cells cur 9 (0, 0))) : StrsOwn w' base v l :=
  ownsRow_ch h hc (fun g cur e hg _ => hS g cur e hg)
theorem StrsOwn.no {w w' : World} {base : Nat} {v : Value} {l : List ByteArray} (h : StrsOwn w base v l) (hc : Ch No w w') : StrsOwn w' base v l := h.ch hc (fun _ _ _ _ h => h)
theorem StrsOwn.at_ {w : World} {base : Nat} {v : Value} {l : List ByteArray} (h : StrsOwn w base v l) : StrsAt w v l := by
  rcases h.2 with ⟨rfl, h0⟩ | ⟨g, cap, cur, rfl, hg, hh, h4, h5, h6, h7⟩
  · have : l = [] := List.length_eq_zero_iff.1 h0
    subst this
    exact ⟨none, 0, rfl, Nat.le_refl _, Nat.zero_le _, fun h => by simp at h⟩
  · refine ⟨some ⟨g, 0, none⟩, cap, rfl, h4, h5, fun _ => ⟨g, 0, rfl, fun i x hx => ?_⟩⟩
    have hi := (List.getElem?_eq_some_iff.1 hx).1
    have : (l.map Value.string)[i]? = some (.string x) := by rw [List.getElem?_map, hx]; rfl
    rw [← h7, List.getElem?_take, if_pos (by omega)] at this
    rw [cellAt hh, Nat.zero_add, ← Array.getElem?_toList]
    exact this
theorem StrsOwn.base {w : World} {base base' : Nat} {v : Value} {l : List ByteArray} (h : StrsOwn w base v l) (hb : base' ≤ base) : StrsOwn w base' v l := by
  refine ⟨h.1, ?_⟩
  rcases h.2 with h | ⟨g, cap, cur, h1, h2, h3⟩
  · exact .inl h
  · exact .inr ⟨g, cap, cur, h1, Nat.le_trans hb h2, h3⟩
/-- texts laid by a literal -/
theorem strsBuilt (w : World) (l : List ByteArray) (h0 : 0 < l.length) (hl : l.length ≤ 1000) : StrsOwn (w.alloc (.cells (l.map Value.string).toArray 9)) w.heap.size (.slice (some ⟨w.heap.size, 0, none⟩) l.length l.length) l := by
  refine ⟨by simp, .inr ⟨w.heap.size, l.length, _, rfl, Nat.le_refl _, heap_alloc_new w _, Nat.le_refl _, by unfold maxLen; omega, by simp, ?_⟩⟩
  rw [List.take_of_length_le (by simp)]
end Go.Proofs.YtgjpgfedlgdjhaaGreatDoor
end
