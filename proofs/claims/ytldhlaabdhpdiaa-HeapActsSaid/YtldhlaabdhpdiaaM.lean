/- The reference's heap in memory; what Is, Type, Site, Make of it answer and change. -/
import Derived.Test.YtldhlaabdhpdiaaJ
set_option linter.unusedVariables false
namespace Go.Proofs.Ytldhlaabdhpdiaa
open Go.RowKit Go.W
open Go.Maps (Keyed)

structure RCell where
  ref : Int
  place : Int
  elem : Bool
  v : Int × Int
def RCell.cells (c : RCell) : List Value := [.int .i64 c.ref, .int .i64 c.place, .bool c.elem, .int .i64 c.v.1, .int .i64 c.v.2]
theorem RCell.len (c : RCell) : c.cells.length = 5 := rfl

abbrev RS (rb : Nat) : Nat → Obj → Prop := Tg rb [46, 4, 10, 61]

structure RefAt (w : World) (rb : Nat) (sites : List Int) (types : List ByteArray) (L : List RCell) (v1 v2 v3 : Value) : Prop where
  head : w.heap[rb]? = some (.cells #[v1, v2, v3] 45 (0, 0))
  r1 : w.ownsRow rb 3 1 v1 sites.length (sites.map (Value.int .i64))
  r2 : w.ownsRow rb 9 1 v2 types.length (types.map Value.string)
  r3 : w.ownsRow rb 60 5 v3 L.length (L.flatMap RCell.cells)
  same : types.length = sites.length

section
variable {w : World} {rb : Nat} {sites : List Int} {types : List ByteArray} {L : List RCell} {v1 v2 v3 : Value}
theorem RefAt.ch {w' : World} {S : Nat → Obj → Prop} (h : RefAt w rb sites types L v1 v2 v3) (hc : Ch S w w') (hS : ∀ k o, rb ≤ k → (tag o = 46 ∨ tag o = 4 ∨ tag o = 10 ∨ tag o = 61) → ¬ S k o) : RefAt w' rb sites types L v1 v2 v3 :=
  ⟨hc.keep _ _ h.head (hS _ _ (Nat.le_refl _) (.inl rfl)), ownsRow_ch h.r1 hc (fun g cur _ hg _ => hS _ _ hg (.inr (.inl rfl))), ownsRow_ch h.r2 hc (fun g cur _ hg _ => hS _ _ hg (.inr (.inr (.inl rfl)))),
    ownsRow_ch h.r3 hc (fun g cur _ hg _ => hS _ _ hg (.inr (.inr (.inr rfl)))), h.same⟩
theorem RefAt.no {w' : World} (h : RefAt w rb sites types L v1 v2 v3) (hc : Ch No w w') : RefAt w' rb sites types L v1 v2 v3 := h.ch hc (fun _ _ _ _ h => h)
theorem RefAt.alloc (h : RefAt w rb sites types L v1 v2 v3) (o : Obj) : RefAt (w.alloc o) rb sites types L v1 v2 v3 := h.no ((Ch.refl No w).alloc o)
theorem RefAt.drew (h : RefAt w rb sites types L v1 v2 v3) : RefAt w.drew rb sites types L v1 v2 v3 := h.no ((Ch.refl No w).drew)
theorem RefAt.hs {w' : World} {hb : Nat} (h : RefAt w rb sites types L v1 v2 v3) (hc : Ch (HS hb) w w') : RefAt w' rb sites types L v1 v2 v3 :=
  h.ch hc (fun k o _ ht hs => by have := hs.2; simp at this; omega)
theorem HeapAt.rs {w' : World} {hb n : Nat} {ts : List Th} {v : Value} (h : HeapAt w hb ts n v) (hc : Ch (RS rb) w w') : HeapAt w' hb ts n v :=
  h.ch hc (fun k o _ ht hs => by have := hs.2; simp at this; omega)

theorem sliceOf {base e size n : Nat} {v : Value} {xs : List Value} (h : w.ownsRow base e size v n xs) : ∃ ao cap, v = .slice ao n cap ∧ n ≤ maxLen ∧ (0 < n → ∃ g, ao = some ⟨g, 0, none⟩) := by
  rcases h.2 with ⟨h1, h2⟩ | ⟨g, cap, cur, h1, _, _, h2, h3, _⟩
  · exact ⟨_, _, by rw [h1, h2], by rw [h2]; exact Nat.zero_le _, fun h => by omega⟩
  · exact ⟨_, _, h1, Nat.le_trans h2 h3, fun _ => ⟨g, rfl⟩⟩

theorem three {w : World} {k : Nat} {u v z : Value} {t : TypeId} {fz : Nat × Nat} (h : w.heap[k]? = some (.cells #[u, v, z] t fz)) : w.cell? ⟨k, 0, none⟩ = some u ∧ w.cell? ⟨k, 1, none⟩ = some v ∧ w.cell? ⟨k, 2, none⟩ = some z :=
  ⟨cellAt h 0, cellAt h 1, cellAt h 2⟩

def isRef (sites : List Int) (ref : Int) : Bool := decide (1 ≤ ref ∧ ref ≤ sites.length)

theorem is_any (h : RefAt w rb sites types L v1 v2 v3) (ref : Int) :
    Calls Try.prog 25 #[.pointer (some ⟨rb, 0, none⟩), .int .i64 ref] w fun e w' => e = .returned (.bool (isRef sites ref)) ∧ w' = w := by
  obtain ⟨c1, c2, c3⟩ := three h.head
  obtain ⟨ao, cap, rfl, hm, _⟩ := sliceOf h.r1
  obtain ⟨b, hb⟩ : ∃ b, b = isRef sites ref := ⟨_, rfl⟩
  rw [← hb]
  unfold isRef at hb
  generalize sites.length = len at *
  clear h
  by_cases h1 : 1 ≤ ref
  · by_cases h2 : ref ≤ len
    · have HB : Hid (b = true) := hid (by rw [hb]; simp [h1, h2])
      clear hb
      go_enter Try.func25, Try.ntmps25
      go_wp2
      go_ret
      exact ⟨by rw [HB.out]; rfl, rfl⟩
    · have HB : Hid (b = false) := hid (by rw [hb]; simp [h1]; omega)
      have h3 : (len : Int) < ref := by omega
      clear hb
      go_enter Try.func25, Try.ntmps25
      go_wp2
      go_ret
      exact ⟨by rw [HB.out]; rfl, rfl⟩
  · have HB : Hid (b = false) := hid (by rw [hb]; simp [h1])
    have h3 : ref < 1 := by omega
    clear hb
    go_enter Try.func25, Try.ntmps25
    go_wp2
    go_ret
    exact ⟨by rw [HB.out]; rfl, rfl⟩

theorem rtype_none (h : RefAt w rb sites types L v1 v2 v3) (ref : Int) (hr : isRef sites ref = false) :
    Calls Try.prog 21 #[.pointer (some ⟨rb, 0, none⟩), .int .i64 ref] w fun e w' => e = .returned (.string ⟨#[]⟩) ∧ w' = w := by
  have q := is_any h ref
  rw [hr] at q
  have Q := hid q
  clear q h hr
  go_enter Try.func21, Try.ntmps21
  go_wp2_with (go_at_call 25; refine Q.out.mono ?_; rintro e w' ⟨rfl, rfl⟩)
  go_ret
  exact ⟨rfl, rfl⟩

theorem rsite_none (h : RefAt w rb sites types L v1 v2 v3) (ref : Int) (hr : isRef sites ref = false) :
    Calls Try.prog 22 #[.pointer (some ⟨rb, 0, none⟩), .int .i64 ref] w fun e w' => e = .returned (.int .i64 (-1)) ∧ w' = w := by
  have q := is_any h ref
  rw [hr] at q
  have Q := hid q
  clear q h hr
  go_enter Try.func22, Try.ntmps22
  go_wp2_with (go_at_call 25; refine Q.out.mono ?_; rintro e w' ⟨rfl, rfl⟩)
  go_ret
  exact ⟨rfl, rfl⟩

theorem rtype_some (h : RefAt w rb sites types L v1 v2 v3) (ref : Int) (t : ByteArray) (hr : isRef sites ref = true) (ht : types[ref.toNat - 1]? = some t) :
    Calls Try.prog 21 #[.pointer (some ⟨rb, 0, none⟩), .int .i64 ref] w fun e w' => e = .returned (.string t) ∧ w' = w := by
  have q := is_any h ref
  rw [hr] at q
  have Q := hid q
  obtain ⟨c1, c2, c3⟩ := three h.head
  have hs := h.same
  unfold isRef at hr
  simp only [decide_eq_true_eq] at hr
  obtain ⟨h1, h2⟩ := hr
  have h2' : ref ≤ (types.length : Int) := by omega
  obtain ⟨ao, cap, rfl, hm, hg⟩ := sliceOf h.r2
  obtain ⟨g, rfl⟩ := hg (by omega)
  have hc := h.r2.cellAt (ref.toNat - 1) (by omega)
  rw [List.getElem?_map, ht] at hc
  simp only [Option.map_some] at hc
  generalize types.length = len at *
  unfold maxLen at hm
  clear q h ht hg hs h2 c1 c3
  go_enter Try.func21, Try.ntmps21
  go_wp2_with (go_at_call 25; refine Q.out.mono ?_; rintro e w' ⟨rfl, rfl⟩)
  go_ret
  exact ⟨rfl, rfl⟩

theorem rsite_some (h : RefAt w rb sites types L v1 v2 v3) (ref : Int) (t : Int) (hr : isRef sites ref = true) (ht : sites[ref.toNat - 1]? = some t) :
    Calls Try.prog 22 #[.pointer (some ⟨rb, 0, none⟩), .int .i64 ref] w fun e w' => e = .returned (.int .i64 t) ∧ w' = w := by
  have q := is_any h ref
  rw [hr] at q
  have Q := hid q
  obtain ⟨c1, c2, c3⟩ := three h.head
  unfold isRef at hr
  simp only [decide_eq_true_eq] at hr
  obtain ⟨h1, h2⟩ := hr
  obtain ⟨ao, cap, rfl, hm, hg⟩ := sliceOf h.r1
  obtain ⟨g, rfl⟩ := hg (by omega)
  have hc := h.r1.cellAt (ref.toNat - 1) (by omega)
  rw [List.getElem?_map, ht] at hc
  simp only [Option.map_some] at hc
  generalize sites.length = len at *
  unfold maxLen at hm
  clear q h ht hg c2 c3
  go_enter Try.func22, Try.ntmps22
  go_wp2_with (go_at_call 25; refine Q.out.mono ?_; rintro e w' ⟨rfl, rfl⟩)
  go_ret
  exact ⟨rfl, rfl⟩
end
end Go.Proofs.Ytldhlaabdhpdiaa
