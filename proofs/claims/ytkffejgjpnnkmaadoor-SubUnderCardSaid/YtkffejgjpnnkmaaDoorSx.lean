/- Shared facts on sets and rows of numbers (for the seats above layer 1). -/
import Derived.Test.YtkffejgjpnnkmaaDoorIo
set_option linter.unusedVariables false
set_option linter.unusedSimpArgs false
namespace Go.Proofs.YtkffejgjpnnkmaaDoor
open Go.RowKit Go.W

theorem fold_self {l : List Int} (h : Good l) : l.foldl putS [] = l :=
  sorted_eq (good_nil.fold l).1 h.1 (fun m => by
    rw [mem_fold]
    exact ⟨fun h2 => h2.elim (fun h => by cases h) (fun h => h.1), fun h2 => .inr ⟨h2, h.2 m h2⟩⟩)

theorem SetNew.v {B : Nat} {w : World} {pv : Value} {l : List Int} (h : SetNew B w pv l) : ∃ sb ob, SetV w pv l (some sb) ob ∧ B ≤ sb ∧ (∀ b, ob = some b → B ≤ b) := by
  obtain ⟨sb, ob, rfl, h, h1, h2⟩ := h
  exact ⟨sb, ob, h.v, h1, h2⟩

theorem SetNew.base {B B' : Nat} {w : World} {pv : Value} {l : List Int} (h : SetNew B w pv l) (hb : B' ≤ B) : SetNew B' w pv l := by
  obtain ⟨sb, ob, h0, h, h1, h2⟩ := h
  exact ⟨sb, ob, h0, h, by omega, fun b hb' => by have := h2 b hb'; omega⟩

theorem SetNew.no {B : Nat} {w w' : World} {pv : Value} {l : List Int} (h : SetNew B w pv l) (hc : Ch No w w') : SetNew B w' pv l := by
  obtain ⟨sb, ob, h0, h, h1, h2⟩ := h
  exact ⟨sb, ob, h0, h.no hc, h1, h2⟩

/-- of sets: what changes is new -/
theorem So.new {B sb : Nat} {ob : Option Nat} {w w0 w1 : World} (hc : Ch No w w0) (h : Ch (So sb ob) w0 w1) (hB : w.heap.size ≤ B) (h1 : B ≤ sb) (h2 : ∀ b, ob = some b → B ≤ b) : Ch No w w1 :=
  hc.trans' h (fun j o ho hj => by
    have := lt_size ho
    rcases hj with hj | hj
    · omega
    · have := h2 j hj; omega)

theorem built_at (w : World) (l : List Int) (hl : l.length ≤ 1000) : IntsAt (w.alloc (.cells (l.map (Value.int .i64)).toArray 3)) (.slice (some ⟨w.heap.size, 0, none⟩) l.length l.length) l := by
  have hm : maxLen = 9223372036854775807 := rfl
  refine ⟨_, _, rfl, Nat.le_refl _, by omega, (fun h => by cases h), fun _ => ⟨_, _, rfl, fun i x hx => ?_⟩⟩
  rw [cellAt (heap_alloc_new w _), Nat.zero_add]
  simp [hx]

theorem SetNew.openIt {B : Nat} {w : World} {pv : Value} {l : List Int} (h : SetNew B w pv l) :
    ∃ sb ob, pv = .pointer (some ⟨sb, 0, none⟩) ∧ SetAt w sb l ob ∧ (B ≤ sb ∧ sb < w.heap.size) ∧ ∀ b, ob = some b → B ≤ b ∧ b < w.heap.size := by
  obtain ⟨sb, ob, h0, h, h1, h2⟩ := h
  exact ⟨sb, ob, h0, h, ⟨h1, h.lt.1⟩, fun b hb => ⟨h2 b hb, h.lt.2 b hb⟩⟩

theorem rsame' {w : World} {v v' : Value} {l l' : List Int} (h : IntsAt w v l) (h' : IntsAt w v' l') :
    Calls Tryd.prog 19 #[v, v'] w fun e w' => e = .returned (.bool (decide (l = l'))) ∧ Ch No w w' :=
  (rsame h h').mono fun e w' ⟨he, q, hw⟩ => ⟨he, by rw [hw]; exact (Ch.refl _ _).drewN q⟩
theorem rhas' {w : World} {v : Value} {l : List Int} (h : IntsAt w v l) (n : Int) :
    Calls Tryd.prog 57 #[v, .int .i64 n] w fun e w' => e = .returned (.bool (decide (n ∈ l))) ∧ Ch No w w' :=
  (rhas h n).mono fun e w' ⟨he, hw⟩ => ⟨he, by rw [hw]; exact Ch.refl _ _⟩
theorem shas' {w : World} {pv : Value} {l : List Int} {sb ob : Option Nat} (h : SetV w pv l sb ob) (n : Int) :
    Calls Tryd.prog 62 #[pv, .int .i64 n] w fun e w' => e = .returned (.bool (decide (n ∈ l))) ∧ Ch No w w' :=
  (shas h n).mono fun e w' ⟨he, q, hw⟩ => ⟨he, by rw [hw]; exact (Ch.refl _ _).drewN q⟩

theorem SetAt.apart {A B : Nat} {w w' : World} {sb tb : Nat} {l : List Int} {ob tob : Option Nat} (h : SetAt w sb l ob) (hr : A ≤ sb ∧ sb < B) (hr' : ∀ b, ob = some b → A ≤ b ∧ b < B) (hc : Ch (So tb tob) w w')
    (ht : ¬ (A ≤ tb ∧ tb < B)) (ht' : ∀ b, tob = some b → ¬ (A ≤ b ∧ b < B)) : SetAt w' sb l ob :=
  h.ch hc (fun o h => by
    rcases h with h | h
    · exact ht (h ▸ hr)
    · exact ht' _ h hr) (fun b o hb h => by
    rcases h with h | h
    · exact ht (h ▸ hr' b hb)
    · exact ht' _ h (hr' b hb))

theorem IntsOwn.apart {A B C : Nat} {w w' : World} {tb : Nat} {v : Value} {l : List Int} {tob : Option Nat} (h : IntsOwn w C v l) (hr : ∀ b, v.ownBlock = some b → A ≤ b ∧ b < B) (hc : Ch (So tb tob) w w')
    (ht : ¬ (A ≤ tb ∧ tb < B)) (ht' : ∀ b, tob = some b → ¬ (A ≤ b ∧ b < B)) : IntsOwn w' C v l :=
  h.ch hc (fun g o hg _ _ h => by
    rcases h with h | h
    · exact ht (h ▸ hr g hg)
    · exact ht' _ h (hr g hg))

end Go.Proofs.YtkffejgjpnnkmaaDoor
