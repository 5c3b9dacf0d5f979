/- Marks of the reference 08. -/
import Derived.Test.YtkffejgjpnnkmaaDoorHd
import Derived.Test.YtkffejgjpnnkmaaDoorGr
import Derived.Deep.OwnRows
set_option linter.unusedVariables false
set_option linter.unusedSimpArgs false
namespace Go.Proofs.YtkffejgjpnnkmaaDoor
open Go.RowKit Go.W Gr

theorem chFroz {a w : World} (h : Ch No a w) : ∀ b o, b < a.heap.size → w.frozen? ⟨b, o, none⟩ = a.frozen? ⟨b, o, none⟩ := by
  intro b o hb
  have ho : a.heap[b]? = some a.heap[b] := Array.getElem?_eq_getElem hb
  have := h.keep _ _ ho (fun h => h)
  simp [World.frozen?, ho, this]
theorem chRules {a w : World} (h : Ch No a w) : (∀ b o, b < a.heap.size → w.cell? ⟨b, o, none⟩ = a.cell? ⟨b, o, none⟩) ∧ (∀ b, b < a.heap.size → b < w.heap.size) := by
  refine ⟨fun b o hb => ?_, fun b hb => Nat.lt_of_lt_of_le hb h.size⟩
  have ho : a.heap[b]? = some a.heap[b] := Array.getElem?_eq_getElem hb
  exact World.cell?_of_block (by rw [ho]; exact h.keep _ _ ho (fun h => h))

/-- block g holds the Bools m -/
def BoolsB (w : World) (g : Nat) (m : List Bool) : Prop := w.heap[g]? = some (.cells (m.map Value.bool).toArray 4 (0, 0))
theorem BoolsB.no {w w' : World} {g : Nat} {m : List Bool} (h : BoolsB w g m) (hc : Ch No w w') : BoolsB w' g m := hc.keep _ _ h (fun h => h)
theorem BoolsB.cell {w : World} {g : Nat} {m : List Bool} (h : BoolsB w g m) {j : Nat} {b : Bool} (hj : m[j]? = some b) : w.cell? ⟨g, j, none⟩ = some (.bool b) := by
  rw [cellAt h]; simp [hj]
theorem BoolsB.set {w : World} {g : Nat} {m : List Bool} (h : BoolsB w g m) (j : Nat) (b : Bool) : BoolsB (w.setCell ⟨g, j, none⟩ (.bool b)) g (m.set j b) := by
  unfold BoolsB
  rw [setCell_heap h]
  simp [List.map_set]
theorem Tryd.infoBool : (Tryd.prog.info? 4).map (fun i => (i.zero, i.size, i.bytes)) = some (some (.bool false), 1, 1) := by kernel_rfl
theorem made_eq (z : Value) (n : Nat) : madeCells #[z] n = (List.replicate n z).toArray := by
  apply Array.ext
  · simp [madeCells]
  · intro i h1 h2
    simp [madeCells, Nat.mod_one]
theorem mkBools (n : Nat) (hn : n ≤ 1000000) (w : World) :
    (Instr.makeSlice 40 (.int .i64 (n : Int)) (.int .i64 (n : Int))).run Tryd.prog w = .ok (.slice (some ⟨w.heap.size, 0, none⟩) n n) (w.alloc (.cells ((List.replicate n false).map Value.bool).toArray 4)) := by
  have := run_make_row' (P := Tryd.prog) 40 4 (.bool false) 1 Tryd.underlying40 Tryd.infoBool rfl .i64 .i64 n (by omega) (by omega) w
  rw [this, made_eq, List.map_replicate]

/-- the numbers right above a class -/
def upsN (cs : List Cls) (i : Nat) : List Nat := match cs[i]? with | some c => c.ups.filterMap (find cs) | none => []
/-- all classes are right, but that something may go round -/
def SoundP (cs : List Cls) : Prop := ∀ i c, cs[i]? = some c → okC cs i c

theorem okC.up {cs : List Cls} {i : Nat} {c : Cls} (h : okC cs i c) : ∀ x ∈ c.ups, ∃ j, find cs x = some j := by
  intro x hx
  unfold Cls.ups at hx
  rcases List.mem_append.1 hx with hx | hx
  · cases hs : c.sup.toList.isEmpty with
    | true => rw [hs] at hx; simp at hx
    | false =>
      rw [hs] at hx
      simp at hx; subst hx
      obtain ⟨s, _, h1, _⟩ := h.sup hs
      exact ⟨s, h1⟩
  · obtain ⟨k, hk, rfl⟩ := List.mem_iff_getElem.1 hx
    obtain ⟨⟨j, _, h1, _⟩, _⟩ := h.faces k _ hk (List.getElem?_eq_getElem hk)
    exact ⟨j, h1⟩

theorem rightZ_ups {cs : List Cls} {i : Nat} {c : Cls} (hi : cs[i]? = some c) (h : okC cs i c) : rightZ cs c = (upsN cs i).map (fun j : Nat => (j : Int)) := by
  unfold rightZ upsN
  rw [hi]
  show c.ups.map (findZ cs) = (c.ups.filterMap (find cs)).map (fun j : Nat => (j : Int))
  have := h.up
  revert this
  generalize c.ups = l
  intro hl
  induction l with
  | nil => rfl
  | cons x l ih =>
    obtain ⟨j, hj⟩ := hl x (by simp)
    rw [List.map_cons, List.filterMap_cons, hj, ih (fun y hy => hl y (by simp [hy]))]
    simp [findZ, hj]

theorem upsN_lt (cs : List Cls) : ∀ i, ∀ j ∈ upsN cs i, j < cs.length := by
  intro i j hj
  unfold upsN at hj
  cases hi : cs[i]? with
  | none => rw [hi] at hj; cases hj
  | some c =>
    rw [hi] at hj
    obtain ⟨x, _, hx⟩ := List.mem_filterMap.1 hj
    obtain ⟨d, hd, _⟩ := find_some hx
    exact (List.getElem?_eq_some_iff.1 hd).1

/-- how many aren't marked -/
def nF (m : List Bool) : Nat := m.countP (fun b => !b)
theorem nFset {m : List Bool} {j : Nat} (h : m[j]? = some false) : nF (m.set j true) < nF m := by
  unfold nF
  induction m generalizing j with
  | nil => simp at h
  | cons a m ih =>
    cases j with
    | zero => simp at h; subst h; simp [List.countP_cons]
    | succ j =>
      have := ih (j := j) (by simpa using h)
      simp only [List.set_cons_succ, List.countP_cons]
      omega

/-- those that are marked are above i -/
def MkInv (cs : List Cls) (i : Nat) (m : List Bool) : Prop := m.length = cs.length ∧ ∀ j, m[j]? = some true → Gr.Reach (upsN cs) i j
/-- k's are all marked -/
def MkCl (cs : List Cls) (i : Nat) (m : List Bool) (k : Nat) : Prop := (k = i ∨ m[k]? = some true) → ∀ q ∈ upsN cs k, m[q]? = some true
/-- .. of a round: again: something is new; else nothing is, and those before k are closed -/
def MkRd (cs : List Cls) (i : Nat) (m0 m : List Bool) (k : Nat) (again : Bool) : Prop :=
  MkInv cs i m ∧ (again = true → nF m < nF m0) ∧ (again = false → m = m0 ∧ ∀ k', k' < k → MkCl cs i m0 k')
/-- .. and of one of k's -/
def MkIn (cs : List Cls) (i : Nat) (m0 m : List Bool) (k q : Nat) (again : Bool) : Prop :=
  MkInv cs i m ∧ (again = true → nF m < nF m0) ∧ (again = false → m = m0 ∧ (∀ k', k' < k → MkCl cs i m0 k') ∧ ∀ x ∈ (upsN cs k).take q, m0[x]? = some true)
/-- what the answer tells -/
def MarksP (cs : List Cls) (i : Nat) (m : List Bool) : Prop := m.length = cs.length ∧ ∀ j, m[j]? = some true ↔ Gr.Reach (upsN cs) i j

theorem MkRd.done {cs : List Cls} {i : Nat} {m0 m : List Bool} {k : Nat} (h : MkRd cs i m0 m k false) (hk : cs.length ≤ k) : MarksP cs i m ∧ m = m0 := by
  obtain ⟨h1, _, h3⟩ := h
  obtain ⟨rfl, h4⟩ := h3 rfl
  refine ⟨⟨h1.1, fun j => ⟨h1.2 j, fun hr => ?_⟩⟩, rfl⟩
  have hcl : ∀ k, (k = i ∨ m[k]? = some true) → ∀ q ∈ upsN cs k, m[q]? = some true := by
    intro k' hk' q hq
    by_cases hlt : k' < cs.length
    · exact h4 k' (by omega) hk' q hq
    · unfold upsN at hq
      rw [List.getElem?_eq_none (by omega)] at hq
      cases hq
  have key : ∀ {a b : Nat}, Gr.Reach (upsN cs) a b → (a = i ∨ m[a]? = some true) → m[b]? = some true := by
    intro a b hab
    induction hab with
    | one h => exact fun ha => hcl _ ha _ h
    | step h _ ih => exact fun ha => ih (.inr (hcl _ ha _ h))
  exact key hr (.inl rfl)
end Go.Proofs.YtkffejgjpnnkmaaDoor
