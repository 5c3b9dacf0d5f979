/- The classes of HierRound: plain. -/
import Derived.Test.YtkffejgjpnnkmaaDoorHw
set_option linter.unusedVariables false
set_option linter.unusedSimpArgs false
namespace Go.Proofs.YtkffejgjpnnkmaaDoor
open Go.RowKit Go.W

/-- the name of number i -/
def nmR (i : Nat) : ByteArray := ⟨#[UInt8.ofNat (97 + i)]⟩
def nmO : Option Nat → ByteArray
  | none => ⟨#[]⟩
  | some j => nmR j
theorem nmR_inj {i j : Nat} (hi : i < 100) (hj : j < 100) (h : nmR i = nmR j) : i = j := by
  unfold nmR at h
  have h1 : UInt8.ofNat (97 + i) = UInt8.ofNat (97 + j) := by simpa using h
  have h2 := congrArg UInt8.toNat h1
  simp only [UInt8.toNat_ofNat'] at h2
  omega
theorem nmR_ne (i : Nat) : (nmR i).toList.isEmpty = false := by
  rw [toList_eq]; rfl
theorem nmO_none : (nmO none).toList.isEmpty = true := by
  rw [toList_eq]; rfl

/-- class i of the programs of HierRound: one above it at most -/
structure ClR (face : Bool) (up : Nat → Option Nat) (i : Nat) (c : Cls) : Prop where
  name : c.name = nmR i
  isF : c.face = face
  nof : face = false → c.sup = nmO (up i) ∧ c.faces = []
  yef : face = true → c.sup = ⟨#[]⟩ ∧ c.faces = (up i).toList.map nmR
  line : c.line = (i : Int) + 1
  col : c.col = 7
structure RingP (n : Nat) (face : Bool) (up : Nat → Option Nat) (cs : List Cls) : Prop where
  len : cs.length = n
  cl : ∀ i c, cs[i]? = some c → ClR face up i c
  up : ∀ i j, i < n → up i = some j → j < n
  small : n ≤ 20

theorem RingP.find {n : Nat} {face : Bool} {up : Nat → Option Nat} {cs : List Cls} (h : RingP n face up cs) {j : Nat} (hj : j < n) : find cs (nmR j) = some j := by
  have hl := h.len
  have hs := h.small
  obtain ⟨c, hc⟩ : ∃ c, cs[j]? = some c := ⟨_, List.getElem?_eq_getElem (by omega)⟩
  refine find_take hc (fun x hx => ?_) (h.cl j c hc).name
  obtain ⟨i, hi, rfl⟩ := List.mem_take_iff_getElem.1 hx
  rw [(h.cl i _ (List.getElem?_eq_getElem (by omega))).name]
  intro e
  have := nmR_inj (by omega) (by omega) e
  omega
theorem RingP.cls {n : Nat} {face : Bool} {up : Nat → Option Nat} {cs : List Cls} (h : RingP n face up cs) {j : Nat} (hj : j < n) : ∃ c, cs[j]? = some c ∧ ClR face up j c := by
  have hl := h.len
  exact ⟨_, List.getElem?_eq_getElem (by omega), h.cl j _ (List.getElem?_eq_getElem (by omega))⟩
theorem RingP.sound {n : Nat} {face : Bool} {up : Nat → Option Nat} {cs : List Cls} (h : RingP n face up cs) : SoundP cs := by
  intro i c hc
  have hcl := h.cl i c hc
  have hi : i < n := by have := (List.getElem?_eq_some_iff.1 hc).1; have := h.len; omega
  cases face with
  | false =>
    obtain ⟨h1, h2⟩ := hcl.nof rfl
    refine ⟨by rw [hcl.name]; exact h.find hi, fun hs => ?_, by rw [h2]; intro k f hk; exact absurd hk (Nat.not_lt_zero _)⟩
    cases hu : up i with
    | none => rw [h1, hu, nmO_none] at hs; cases hs
    | some j =>
      obtain ⟨d, hd, hcd⟩ := h.cls (h.up i j hi hu)
      exact ⟨j, d, by rw [h1, hu]; exact h.find (h.up i j hi hu), hd, hcd.isF⟩
  | true =>
    obtain ⟨h1, h2⟩ := hcl.yef rfl
    refine ⟨by rw [hcl.name]; exact h.find hi, fun hs => ?_, ?_⟩
    · rw [h1, show (⟨#[]⟩ : ByteArray) = nmO none from rfl, nmO_none] at hs; cases hs
    · rw [h2]
      cases hu : up i with
      | none => intro k f hk; exact absurd hk (Nat.not_lt_zero _)
      | some j =>
        intro k f hk hf
        have hk0 : k = 0 := by simp at hk; omega
        subst hk0
        have hf' : nmR j = f := by rw [h2, hu] at hf; simpa using hf
        subst hf'
        obtain ⟨d, hd, hcd⟩ := h.cls (h.up i j hi hu)
        exact ⟨⟨j, d, h.find (h.up i j hi hu), hd, hcd.isF⟩, fun q g hq => absurd hq (Nat.not_lt_zero _)⟩
theorem RingP.ups {n : Nat} {face : Bool} {up : Nat → Option Nat} {cs : List Cls} (h : RingP n face up cs) {i : Nat} (hi : i < n) : upsN cs i = (up i).toList := by
  obtain ⟨c, hc, hcl⟩ := h.cls hi
  unfold upsN
  rw [hc]
  show c.ups.filterMap (Go.Proofs.YtkffejgjpnnkmaaDoor.find cs) = _
  unfold Cls.ups
  cases face with
  | false =>
    obtain ⟨h1, h2⟩ := hcl.nof rfl
    rw [h1, h2]
    cases hu : up i with
    | none => rw [nmO_none]; rfl
    | some j =>
      have hn : (nmO (some j)).toList.isEmpty = false := nmR_ne j
      have hf : Go.Proofs.YtkffejgjpnnkmaaDoor.find cs (nmO (some j)) = some j := h.find (h.up i j hi hu)
      rw [hn]
      simp [hf]
  | true =>
    obtain ⟨h1, h2⟩ := hcl.yef rfl
    rw [h1, h2, show (⟨#[]⟩ : ByteArray) = nmO none from rfl, nmO_none]
    cases hu : up i with
    | none => rfl
    | some j =>
      have hf : Go.Proofs.YtkffejgjpnnkmaaDoor.find cs (nmR j) = some j := h.find (h.up i j hi hu)
      simp [hf]
theorem RingP.smallP {n : Nat} {face : Bool} {up : Nat → Option Nat} {cs : List Cls} (h : RingP n face up cs) : SmallP cs := by
  refine ⟨by have := h.len; have := h.small; omega, fun c hc => ?_⟩
  obtain ⟨i, hi, rfl⟩ := List.mem_iff_getElem.1 hc
  have hcl := h.cl i _ (List.getElem?_eq_getElem hi)
  cases face with
  | false => rw [(hcl.nof rfl).2]; exact Nat.zero_le _
  | true => rw [(hcl.yef rfl).2]; cases up i <;> simp
theorem nmO_size : ∀ o, (nmO o).size ≤ 1
  | none => by decide
  | some j => Nat.le_refl 1
theorem RingP.szP {n : Nat} {face : Bool} {up : Nat → Option Nat} {cs : List Cls} (h : RingP n face up cs) : SzP cs := by
  intro c hc
  obtain ⟨i, hi, rfl⟩ := List.mem_iff_getElem.1 hc
  have hcl := h.cl i _ (List.getElem?_eq_getElem hi)
  have h1 : (nmR i).size = 1 := rfl
  refine ⟨by rw [hcl.name, h1]; decide, ?_, fun f hf => ?_⟩
  · cases face with
    | false => rw [(hcl.nof rfl).1]; have := nmO_size (up i); unfold maxLen; omega
    | true => rw [(hcl.yef rfl).1]; decide
  · cases face with
    | false => rw [(hcl.nof rfl).2] at hf; cases hf
    | true =>
      rw [(hcl.yef rfl).2] at hf
      obtain ⟨j, _, rfl⟩ := List.mem_map.1 hf
      have : (nmR j).size = 1 := rfl
      unfold maxLen; omega

/-- what is above in the first program: a ring of k behind m that stand alone -/
def up1 (m k : Nat) (i : Nat) : Option Nat := if i < m then none else some (m + (i - m + 1) % k)
/-- .. in the second: the last link is gone -/
def up2 (m k : Nat) (i : Nat) : Option Nat := if i < m then none else if i + 1 < m + k then some (m + (i - m + 1) % k) else none
theorem up1_lt {m k i j : Nat} (hk : 0 < k) (h : up1 m k i = some j) : j < m + k := by
  unfold up1 at h
  split at h
  · cases h
  · have := Nat.mod_lt (i - m + 1) hk
    cases h; omega
theorem up2_is {m k i : Nat} : up2 m k i = if m ≤ i ∧ i + 1 < m + k then some (i + 1) else none := by
  unfold up2
  by_cases h1 : i < m
  · rw [if_pos h1, if_neg (by omega)]
  · by_cases h2 : i + 1 < m + k
    · rw [if_neg h1, if_pos h2, if_pos ⟨by omega, h2⟩, Nat.mod_eq_of_lt (by omega)]
      congr 1; omega
    · rw [if_neg h1, if_neg h2, if_neg (by omega)]
theorem ring_fault {m k : Nat} {face : Bool} {cs : List Cls} (hk : 0 < k) (h : RingP (m + k) face (up1 m k) cs) : FaultAt cs (some m) := by
  have hs := h.sound
  refine ⟨by rw [h.len]; omega, .inr ⟨hs, ?_, fun j hj hr => ?_⟩⟩
  · have key : ∀ t, t < k → m + t = m ∨ Gr.Reach (upsN cs) m (m + t) := by
      intro t
      induction t with
      | zero => intro _; exact .inl rfl
      | succ t ih =>
        intro ht
        have hlink : m + (t + 1) ∈ upsN cs (m + t) := by
          rw [h.ups (by omega)]
          unfold up1
          rw [if_neg (by omega), show m + t - m + 1 = t + 1 by omega, Nat.mod_eq_of_lt ht]
          simp
        rcases ih (by omega) with e | hr
        · refine .inr (.one ?_)
          rw [e] at hlink; exact hlink
        · exact .inr (hr.snoc hlink)
    have hlast : m ∈ upsN cs (m + (k - 1)) := by
      rw [h.ups (by omega)]
      unfold up1
      rw [if_neg (by omega), show m + (k - 1) - m + 1 = k by omega, Nat.mod_self]
      simp
    rcases key (k - 1) (by omega) with e | hr
    · rw [e] at hlast; exact .one hlast
    · exact hr.snoc hlast
  · have hno : upsN cs j = [] := by
      rw [h.ups (by omega)]
      unfold up1
      rw [if_pos hj]; rfl
    cases hr with
    | one h => rw [hno] at h; cases h
    | step h _ => rw [hno] at h; cases h
theorem line_lt {m k : Nat} {face : Bool} {cs : List Cls} (h : RingP (m + k) face (up2 m k) cs) {x y : Nat} (hr : Gr.Reach (upsN cs) x y) : x < y ∧ y < m + k := by
  have hl : ∀ i j, j ∈ upsN cs i → j = i + 1 ∧ j < m + k := by
    intro i j hj
    have hi : i < m + k := by
      rcases Nat.lt_or_ge i (m + k) with h1 | h1
      · exact h1
      · exfalso
        unfold upsN at hj
        rw [List.getElem?_eq_none (by rw [h.len]; exact h1)] at hj
        cases hj
    rw [h.ups hi, up2_is] at hj
    split at hj
    · have : j = i + 1 := by simpa using hj
      omega
    · cases hj
  induction hr with
  | one h1 => obtain ⟨a, b⟩ := hl _ _ h1; omega
  | step h1 _ ih => obtain ⟨a, b⟩ := hl _ _ h1; omega
theorem line_fault {m k : Nat} {face : Bool} {cs : List Cls} (h : RingP (m + k) face (up2 m k) cs) : FaultAt cs none :=
  ⟨h.sound, fun i _ hr => by have := (line_lt h hr).1; omega⟩
theorem line_reach {m k : Nat} {face : Bool} {cs : List Cls} (h : RingP (m + k) face (up2 m k) cs) : ∀ t, t < k → m = m + t ∨ Gr.Reach (upsN cs) m (m + t) := by
  intro t
  induction t with
  | zero => intro _; exact .inl rfl
  | succ t ih =>
    intro ht
    have hlink : m + (t + 1) ∈ upsN cs (m + t) := by
      rw [h.ups (by omega), up2_is, if_pos (by omega)]
      simp; omega
    rcases ih (by omega) with e | hr
    · refine .inr (.one ?_)
      rw [← e] at hlink; exact hlink
    · exact .inr (hr.snoc hlink)
theorem line_above {m k : Nat} {face : Bool} {cs : List Cls} (hk : 0 < k) (h : RingP (m + k) face (up2 m k) cs) : (abL cs [(m : Int)] cs.length).length = k := by
  have hl := h.len
  have key : ∀ t, t ≤ k → (abL cs [(m : Int)] (m + t)).length = t := by
    intro t
    induction t with
    | zero =>
      intro _
      have : ∀ q, q ≤ m → (abL cs [(m : Int)] q).length = 0 := by
        intro q
        induction q with
        | zero => intro _; rfl
        | succ q ih =>
          intro hq
          rw [abNo]
          · exact ih (by omega)
          · rintro ⟨x, hx, h1, h2, h3⟩
            have hx' : x = (m : Int) := by simpa using hx
            subst hx'
            rcases h3 with h3 | h3
            · omega
            · have := (line_lt h h3).1
              simp at this
              omega
      exact this m (Nat.le_refl _)
    | succ t ih =>
      intro ht
      rw [show m + (t + 1) = m + t + 1 by omega, abYes, List.length_append, ih (by omega)]
      · rfl
      · refine ⟨(m : Int), by simp, by omega, by rw [hl]; omega, ?_⟩
        rcases line_reach h t (by omega) with e | hr
        · exact .inl (by omega)
        · exact .inr (by simpa using hr)
  rw [hl]
  exact key k (Nat.le_refl _)
end Go.Proofs.YtkffejgjpnnkmaaDoor
