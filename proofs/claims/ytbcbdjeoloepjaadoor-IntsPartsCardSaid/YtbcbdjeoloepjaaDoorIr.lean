/- The examples of the laws 01. -/
import Derived.Test.YtbcbdjeoloepjaaDoorIq
set_option linter.unusedVariables false
namespace Go.Proofs.YtbcbdjeoloepjaaDoor
open Go.RowKit Go.W

theorem built_at (w : World) (l : List Int) (hl : l.length ≤ 1000) : IntsAt (w.alloc (.cells (l.map (Value.int .i64)).toArray 3)) (.slice (some ⟨w.heap.size, 0, none⟩) l.length l.length) l := by
  have hm : maxLen = 9223372036854775807 := rfl
  refine ⟨_, _, rfl, Nat.le_refl _, by omega, (fun h => by cases h), fun _ => ⟨_, _, rfl, fun i x hx => ?_⟩⟩
  rw [cellAt (heap_alloc_new w _), Nat.zero_add]
  simp [hx]

theorem SetNew.openIt {B : Nat} {w : World} {pv : Value} {l : List Int} (h : SetNew B w pv l) :
    ∃ sb ob, pv = .pointer (some ⟨sb, 0, none⟩) ∧ SetAt w sb l ob ∧ (B ≤ sb ∧ sb < w.heap.size) ∧ ∀ b, ob = some b → B ≤ b ∧ b < w.heap.size := by
  obtain ⟨sb, ob, h0, h, h1, h2⟩ := h
  exact ⟨sb, ob, h0, h, ⟨h1, h.lt.1⟩, fun b hb => ⟨h2 b hb, h.lt.2 b hb⟩⟩

theorem rsame' {w : World} {v v' : Value} {l l' : List Int} (h : IntsAt w v l) (h' : IntsAt w v' l') :
    Calls Tryd.prog 12 #[v, v'] w fun e w' => e = .returned (.bool (decide (l = l'))) ∧ Ch No w w' :=
  (rsame h h').mono fun e w' ⟨he, q, hw⟩ => ⟨he, by rw [hw]; exact (Ch.refl _ _).drewN q⟩
theorem rhas' {w : World} {v : Value} {l : List Int} (h : IntsAt w v l) (n : Int) :
    Calls Tryd.prog 19 #[v, .int .i64 n] w fun e w' => e = .returned (.bool (decide (n ∈ l))) ∧ Ch No w w' :=
  (rhas h n).mono fun e w' ⟨he, hw⟩ => ⟨he, by rw [hw]; exact Ch.refl _ _⟩
theorem shas' {w : World} {pv : Value} {l : List Int} {sb ob : Option Nat} (h : SetV w pv l sb ob) (n : Int) :
    Calls Tryd.prog 18 #[pv, .int .i64 n] w fun e w' => e = .returned (.bool (decide (n ∈ l))) ∧ Ch No w w' :=
  (shas h n).mono fun e w' ⟨he, q, hw⟩ => ⟨he, by rw [hw]; exact (Ch.refl _ _).drewN q⟩
theorem slen' {w : World} {pv : Value} {l : List Int} {sb ob : Option Nat} (h : SetV w pv l sb ob) :
    Calls Tryd.prog 21 #[pv] w fun e w' => e = .returned (.int .i64 l.length) ∧ Ch No w w' :=
  (slen h).mono fun e w' ⟨he, hw⟩ => ⟨he, by rw [hw]; exact Ch.refl _ _⟩

theorem SetAt.apart {A B : Nat} {w w' : World} {sb tb : Nat} {l : List Int} {ob tob : Option Nat} (h : SetAt w sb l ob) (hr : A ≤ sb ∧ sb < B) (hr' : ∀ b, ob = some b → A ≤ b ∧ b < B) (hc : Ch (So tb tob) w w')
    (ht : ¬ (A ≤ tb ∧ tb < B)) (ht' : ∀ b, tob = some b → ¬ (A ≤ b ∧ b < B)) : SetAt w' sb l ob :=
  h.ch hc (fun o h => by
    rcases h with h | h
    · exact ht (h ▸ hr)
    · exact ht' _ h hr) (fun b o hb h => by
    rcases h with h | h
    · exact ht (h ▸ hr' b hb)
    · exact ht' _ h (hr' b hb))

theorem IntsOwn.apart {A B C : Nat} {w w' : World} {tb : Nat} {v : Value} {l : List Int} {tob : Option Nat} (h : IntsOwn w C v l) (hr : ∀ b, v.ownBlock = some b → A ≤ b ∧ b < B) (hc : Ch (So tb tob) w w')
    (ht : ¬ (A ≤ tb ∧ tb < B)) (ht' : ∀ b, tob = some b → ¬ (A ≤ b ∧ b < B)) : IntsOwn w' C v l :=
  h.ch hc (fun g o hg _ _ h => by
    rcases h with h | h
    · exact ht (h ▸ hr g hg)
    · exact ht' _ h (hr g hg))

theorem fold515 : [5, 1, 5].foldl putS [] = [1, 5] := by decide
theorem fold12 : [1, 2].foldl putS [] = [1, 2] := by decide
theorem fold23 : [2, 3].foldl putS [] = [2, 3] := by decide
theorem fresh3 : fresh [1, 2] [2, 3] = [3] := by decide

set_option maxHeartbeats 4000000 in
theorem awake01 {w : World} (hT : Tab w) : Calls Tryd.prog 8 #[] w fun e w' => e = .returned (.bool true) ∧ Ch No w w' := by
  have HT := hid hT
  clear hT
  go_enter Tryd.func8, Tryd.ntmps8
  go_wp2_with fail
  have hb1 := built_at w [5, 1, 5] (by decide)
  have hc1 := (Ch.refl No w).alloc (.cells (([5, 1, 5] : List Int).map (Value.int .i64)).toArray 3)
  refine (sof hb1).mono ?_
  rintro e w1 ⟨u1, rfl, hs1, hch1⟩
  rw [fold515] at hs1
  obtain ⟨sb1, ob1, rfl, hs1, hr1, hr1'⟩ := hs1.openIt
  have hcA := hc1.trans hch1
  clear hb1 hc1 hch1
  go_wp2_with fail
  have hb2 := built_at w1 [1, 2] (by decide)
  have hc2 := (Ch.refl No w1).alloc (.cells (([1, 2] : List Int).map (Value.int .i64)).toArray 3)
  refine (sof hb2).mono ?_
  rintro e w2 ⟨u2, rfl, hs2, hch2⟩
  rw [fold12] at hs2
  obtain ⟨sb2, ob2, rfl, hs2, hr2, hr2'⟩ := hs2.openIt
  have hcB := hc2.trans hch2
  have hs1b := hs1.no hcB
  have hl := slist (HT.out.no (hcA.trans hcB)) hs1b.v
  clear hb2 hc2 hch2
  go_wp2_with fail
  refine hl.mono ?_
  rintro e w3 ⟨v3, rfl, hv3, hch3⟩
  have hb3 := built_at w3 [1, 5] (by decide)
  have hc3 := (Ch.refl No w3).alloc (.cells (([1, 5] : List Int).map (Value.int .i64)).toArray 3)
  have hsame := rsame' (hv3.at_.no hc3) hb3
  have hcC := hch3.trans hc3
  clear hb3 hc3 hch3 hl
  go_wp2_with fail
  refine hsame.mono ?_
  rintro e w4 ⟨rfl, hch4⟩
  have hcD : Ch No w2 w4 := hcC.trans hch4
  clear hsame hcC hch4
  go_wp2_with fail
  have hb5 := built_at w4 [2, 3] (by decide)
  have hc5 := (Ch.refl No w4).alloc (.cells (([2, 3] : List Int).map (Value.int .i64)).toArray 3)
  refine (sof hb5).mono ?_
  rintro e w5 ⟨u5, rfl, hs5, hch5⟩
  rw [fold23] at hs5
  obtain ⟨sb5, ob5, rfl, hs5, hr5, hr5'⟩ := hs5.openIt
  have hcE : Ch No w2 w5 := hcD.trans (hc5.trans hch5)
  have hm := smerge (HT.out.no ((hcA.trans hcB).trans hcE)) (hs2.no hcE) hs5.v
  rw [fresh3] at hm
  clear hb5 hc5 hch5 hcD
  go_wp2_with fail
  refine hm.mono ?_
  rintro e w6 ⟨u6, ob6, rfl, hu6, hs6, hch6, hob6⟩
  have hcF : Ch No w w6 := So.new (hcA.trans (hcB.trans hcE)) hch6 (Nat.le_refl _) (by have := hcA.size; have := ((Ch.refl No w1).alloc (.cells (([1, 2] : List Int).map (Value.int .i64)).toArray 3)).size; omega)
    (fun b hb => by have := hr2' b hb; have := hcA.size; have := ((Ch.refl No w1).alloc (.cells (([1, 2] : List Int).map (Value.int .i64)).toArray 3)).size; omega)
  clear hm
  go_wp2_with fail
  have hb7 := built_at w6 [3] (by decide)
  have hc7 := (Ch.refl No w6).alloc (.cells (([3] : List Int).map (Value.int .i64)).toArray 3)
  have hsame := rsame' (hu6.at_.no hc7) hb7
  have hcG := hcF.trans hc7
  clear hb7 hc7
  refine hsame.mono ?_
  rintro e w8 ⟨rfl, hch8⟩
  clear hsame
  go_wp2_with fail
  go_ret
  exact ⟨rfl, hcG.trans hch8⟩
end Go.Proofs.YtbcbdjeoloepjaaDoor
