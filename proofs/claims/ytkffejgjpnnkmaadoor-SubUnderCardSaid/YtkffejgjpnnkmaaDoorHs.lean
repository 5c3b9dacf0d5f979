/- Order of the reference 08. -/
import Derived.Test.YtkffejgjpnnkmaaDoorHr
set_option linter.unusedVariables false
set_option linter.unusedSimpArgs false
namespace Go.Proofs.YtkffejgjpnnkmaaDoor
open Go.RowKit Go.W

/-- the order, as numbers -/
def ordN (cs : List Cls) : List Nat := Gr.order cs.length (upsN cs) cs.length []
def ordL (cs : List Cls) : List Int := (ordN cs).map (fun j : Nat => (j : Int))
/-- nothing goes round -/
def NoRing (cs : List Cls) : Prop := ∀ i, i < cs.length → ¬ Gr.Reach (upsN cs) i i
/-- so far: d -/
def OrdSo (cs : List Cls) (d : List Nat) : Prop := Gr.Ord cs.length (upsN cs) d ∧ ordN cs = Gr.order cs.length (upsN cs) (cs.length - d.length) d
theorem OrdSo.start (cs : List Cls) : OrdSo cs [] := ⟨.nil, by unfold ordN; simp⟩
theorem OrdSo.len {cs : List Cls} {d : List Nat} (h : OrdSo cs d) : d.length ≤ cs.length := Gr.nodup_len h.1.nodup h.1.lt
theorem OrdSo.stop {cs : List Cls} {d : List Nat} (h : OrdSo cs d) (hl : cs.length ≤ d.length) : ordN cs = d := by
  rw [h.2, show cs.length - d.length = 0 from by omega]; rfl
theorem OrdSo.step {cs : List Cls} {d : List Nat} (h : OrdSo cs d) {i : Nat} (hp : Gr.pick cs.length (upsN cs) d = some i) : OrdSo cs (d ++ [i]) := by
  obtain ⟨h1, h2, h3⟩ := Gr.pick_some hp
  have hn := Gr.Ord.snoc h.1 h1 h2 h3
  have hlen := Gr.nodup_len hn.nodup hn.lt
  rw [List.length_append, List.length_singleton] at hlen
  refine ⟨hn, ?_⟩
  rw [h.2, show cs.length - d.length = (cs.length - (d ++ [i]).length) + 1 from by rw [List.length_append, List.length_singleton]; omega, Gr.order, hp]
/-- class i may come next -/
def RdyP (cs : List Cls) (d : List Nat) (i : Nat) : Prop := i ∉ d ∧ ∀ j ∈ upsN cs i, j ∈ d
theorem pickIs {cs : List Cls} {d : List Nat} {i : Nat} (hi : i < cs.length) (hr : RdyP cs d i) (hno : ∀ j, j < i → ¬ RdyP cs d j) : Gr.pick cs.length (upsN cs) d = some i := by
  unfold Gr.pick
  rw [List.find?_range_eq_some]
  refine ⟨by simp only [Bool.and_eq_true, Bool.not_eq_true', List.all_eq_true]; exact ⟨by simpa using hr.1, fun j hj => by simpa using hr.2 j hj⟩, by simpa using hi, fun j hj => ?_⟩
  have := hno j hj
  unfold RdyP at this
  simp only [Bool.not_eq_true', Bool.and_eq_false_iff, Bool.not_eq_false']
  by_cases h : j ∈ d
  · exact .inl (by simpa using h)
  · right
    rw [Bool.eq_false_iff]
    intro h2
    rw [List.all_eq_true] at h2
    exact this ⟨h, fun x hx => by simpa using h2 x hx⟩
theorem pickNo {cs : List Cls} {d : List Nat} (hno : ∀ j, j < cs.length → ¬ RdyP cs d j) : Gr.pick cs.length (upsN cs) d = none := by
  cases hp : Gr.pick cs.length (upsN cs) d with
  | none => rfl
  | some i =>
    obtain ⟨h1, h2, h3⟩ := Gr.pick_some hp
    exact absurd ⟨h2, h3⟩ (hno i h1)
/-- somebody may, as long as not all have -/
theorem OrdSo.more {cs : List Cls} {d : List Nat} (h : OrdSo cs d) (hno : NoRing cs) (hr : ∀ j, j < cs.length → ¬ RdyP cs d j) : cs.length ≤ d.length := by
  have := Gr.all_done (upsN_lt cs) hno (pickNo hr)
  have hs := Gr.nodup_sub (List.range cs.length) d List.nodup_range (fun i hi => this i (List.mem_range.1 hi))
  simpa using hs
/-- the flags tell what is done -/
def FlagsP (n : Nat) (m : List Bool) (d : List Nat) : Prop := m.length = n ∧ ∀ j, j < n → m[j]? = some (d.contains j)
theorem FlagsP.start (n : Nat) : FlagsP n (List.replicate n false) [] := ⟨by simp, fun j hj => by simp [List.getElem?_replicate, hj]⟩
theorem FlagsP.step {n : Nat} {m : List Bool} {d : List Nat} (h : FlagsP n m d) (i : Nat) : FlagsP n (m.set i true) (d ++ [i]) := by
  refine ⟨by rw [List.length_set]; exact h.1, fun j hj => ?_⟩
  have e : (d ++ [i]).contains j = (d.contains j || (i == j)) := by
    rw [Bool.eq_iff_iff]
    simp only [List.contains_iff_mem, List.mem_append, List.mem_singleton, Bool.or_eq_true, beq_iff_eq]
    constructor
    · rintro (h | h)
      · exact .inl h
      · exact .inr h.symm
    · rintro (h | h)
      · exact .inl h
      · exact .inr h.symm
  rw [List.getElem?_set, e]
  by_cases e : i = j
  · subst e
    rw [if_pos rfl, if_pos (by have := h.1; omega)]
    simp
  · rw [if_neg e, h.2 j hj]
    simp [e]
end Go.Proofs.YtkffejgjpnnkmaaDoor
