/- The row of a law that answers true and changes nothing. -/
import Derived.Test.YtgjpgfedlgdjhaaGreatDoorLib
import Derived.ProofKit
import Derived.OpenShut
import Derived.SizedLaws
import Derived.Lib.SmallJoins
set_option linter.unusedVariables false
set_option linter.unusedSimpArgs false
namespace Go.W
open Go.ChangeShapes Go.WideShapes Go.ChangeAt Go.RowKit
variable {H : Type} {enc : TypeId × Value → H} {P : Program}

theorem trodAll_stays {W W' : World} (hl : laidOutB P = true) (hb : Below W.heap.size W W') : ∀ (ts : List TypeId) (vs : List Value) (ds : List (DataW H)) (ps : List MemPlace),
    (∀ t ∈ ts, P.readableRec t = true ∧ t < P.types.size) → DataW.TrodAll enc P W 0 (fun _ => true) true ts vs ds ps → (∀ x ∈ ps, x.block < W.heap.size) →
    DataW.TrodAll enc P W' 0 (fun b => decide (b < W.heap.size)) true ts vs ds ps
  | [], vs, ds, ps, _, h, _ => by
    obtain ⟨rfl, rfl, rfl⟩ := trodAll_nil h
    exact trodAll_mk0
  | t :: ts, vs, ds, ps, hr, h, hlt => by
    obtain ⟨v, vs', d, ds', p, q, rfl, rfl, rfl, h1, h2⟩ := trodAll_cons h
    exact trodAll_cons_mk (Below.trod hl (hr t (by simp)).1 (hr t (by simp)).2 h1 hb (fun x hx => hlt x (by simp [hx])))
      (trodAll_stays hl hb ts vs' ds' q (fun t' ht' => hr t' (by simp [ht'])) h2 (fun x hx => hlt x (by simp [hx])))

/-- a law's row: true, and the arguments as they were -/
theorem law_post {f : Func} {s : ChangeSpec} {apart : Bool} {W W' : World} {args : Array Value} {ds gs : List (DataW H)} {before : List MemPlace} {bt : TypeId}
    (hW : DataW.Whole enc P f.params.toList s.vars apart W args.toList ds gs before) (hl : laidOutB P = true) (hr : ∀ t ∈ f.params.toList, P.readableRec t = true ∧ t < P.types.size)
    (hv : s.vars = []) (hres : f.resultTypes = #[bt]) (hbt : P.underlying bt = some .bool) (hspec : s.fn H (ds ++ gs) = { results := [.lit (.bool true)], args := ds })
    (hb : Below W.heap.size W W') : s.post enc P f apart true false false W args (.bool true) W' := by
  have hW0 := hW
  have hlt : ∀ x ∈ before, x.block < W.heap.size := fun x hx => by simpa using hW.lt x hx
  obtain ⟨p, q, hA, hV, rfl, _, _⟩ := hW
  refine ⟨ds, gs, p ++ q, [], p, [], hW0, ?_, ?_, ?_, hb.frame _, fun h => by cases h⟩
  · rw [hspec, hres]
    exact trodAll_mk1 (shut_bool hbt true)
  · rw [hspec]
    exact trodAll_stays hl hb _ _ _ _ hr hA (fun x hx => hlt x (by simp [hx]))
  · rw [hspec, hv]
    rfl

theorem Ch.no_below {w w' : World} (h : Ch No w w') : Below w.heap.size w w' := h.below (fun _ _ _ h => absurd h id) (Nat.le_refl _)

/-- a slice, opened: its elements' cells, and that each reads -/
theorem open_row {t e : TypeId} {n fuel : Nat} {W : World} {base : Nat} {spare : Nat → Bool} {held : Bool} {cs : List Value} {x : DataW H × List MemPlace}
    (ht : P.underlying t = some (.slice e)) (hc : P.cellsOf e = n) (hn : 0 < n) (h : DataW.trod enc P W base spare held fuel t cs = some x) :
    ∃ v css, cs = [v] ∧ RowAt W v n css ∧ (∀ c ∈ css, ∃ m y, DataW.trod enc P W base spare held m e c = some y) ∧ (∃ k, k = css.length ∧ (x.1 = .nil ∧ k = 0 ∨ ∃ es sp, x.1 = .slice es sp ∧ es.length = k)) := by
  rcases DataW.trod_slice ht h with ⟨rfl, rfl⟩ | ⟨a, len, cap, elems, rest, m, _, rfl, rfl, hb, hl, hm, hlen, hel, _⟩
  · exact ⟨_, [], rfl, ⟨none, 0, rfl, Nat.le_refl _, Nat.zero_le _, by simp, fun h => by simp at h⟩, by simp, 0, rfl, .inl ⟨rfl, rfl⟩⟩
  · rw [hc] at hel
    have key : ∀ i, i < len → ∃ c y, W.cells? base (a.add (i * n)) n = some c ∧ DataW.trod enc P W base spare held m e c = some y := by
      intro i hi
      have := hel i hi
      rw [List.getElem?_eq_getElem (by omega)] at this
      cases hcc : W.cells? base (a.add (i * n)) n with
      | none => rw [hcc] at this; simp at this
      | some c => rw [hcc] at this; exact ⟨c, _, rfl, this⟩
    refine ⟨_, (List.range len).map (fun i => (W.cells? base (a.add (i * n)) n).getD []), rfl, ⟨some a, cap, by simp, by simpa using hl, hm, ?_, fun h0 => ?_⟩, ?_, len, by simp, .inr ⟨_, _, rfl, by simpa using hlen⟩⟩
    · intro c hcm
      obtain ⟨i, hi, rfl⟩ := List.mem_map.1 hcm
      obtain ⟨c, y, h1, _⟩ := key i (by simpa using hi)
      rw [h1]
      exact (World.cells?_some h1).2.1
    · simp only [List.length_map, List.length_range] at h0
      have hsp : a.spot = none := by
        obtain ⟨c, y, h1, _⟩ := key 0 h0
        obtain ⟨_, hlc, hcell⟩ := World.cells?_some h1
        have := hcell 0 hn
        rw [List.getElem?_eq_getElem (by omega)] at this
        have e0 : (a.add (0 * n)).add 0 = a := by simp [Addr.add]
        rw [e0] at this
        unfold World.cell? at this
        split at this
        · split at this
          · cases this
          · rename_i hs; simpa using hs
        · cases this
      refine ⟨a.block, a.off, by cases a; simp_all, fun i c hi j hj => ?_⟩
      rw [List.getElem?_map] at hi
      have hil : i < len := by
        cases hr : (List.range len)[i]? with
        | none => rw [hr] at hi; simp at hi
        | some k => have := (List.getElem?_eq_some_iff.1 hr).1; simpa using this
      rw [List.getElem?_range hil] at hi
      obtain ⟨c', y, h1, _⟩ := key i hil
      simp only [Option.map_some, h1, Option.getD_some, Option.some.injEq] at hi
      subst hi
      rw [← (World.cells?_some h1).2.2 j hj]
      congr 1
      unfold Addr.add
      by_cases hi0 : i * n = 0 <;> by_cases hj0 : j = 0 <;> simp [hi0, hj0, hsp] <;> (try cases a; simp_all) <;> (try omega)
    · intro c hcm
      obtain ⟨i, hi, rfl⟩ := List.mem_map.1 hcm
      obtain ⟨c, y, h1, h2⟩ := key i (by simpa using hi)
      rw [h1]
      exact ⟨m, y, h2⟩

theorem fields1 {t : TypeId} {f0 : Field} {fuel : Nat} {W : World} {base : Nat} {spare : Nat → Bool} {held : Bool} {cs : List Value} {x : DataW H × List MemPlace} (ht : P.underlying t = some (.struct #[f0])) (h : DataW.trod enc P W base spare held fuel t cs = some x) :
    ∃ m y0, DataW.trod enc P W base spare held m f0.type ((cs.drop f0.offset).take (P.cellsOf f0.type)) = some y0 := by
  obtain ⟨xs, m, _, _, _, hlen, hf⟩ := DataW.trod_struct ht h
  match xs, hlen with
  | [y0], _ => exact ⟨m, y0, hf 0 f0 rfl⟩

theorem fields2 {t : TypeId} {f0 f1 : Field} {fuel : Nat} {W : World} {base : Nat} {spare : Nat → Bool} {held : Bool} {cs : List Value} {x : DataW H × List MemPlace} (ht : P.underlying t = some (.struct #[f0, f1])) (h : DataW.trod enc P W base spare held fuel t cs = some x) :
    ∃ m y0 y1, DataW.trod enc P W base spare held m f0.type ((cs.drop f0.offset).take (P.cellsOf f0.type)) = some y0 ∧ DataW.trod enc P W base spare held m f1.type ((cs.drop f1.offset).take (P.cellsOf f1.type)) = some y1 := by
  obtain ⟨xs, m, _, _, _, hlen, hf⟩ := DataW.trod_struct ht h
  match xs, hlen with
  | [y0, y1], _ => exact ⟨m, y0, y1, hf 0 f0 rfl, hf 1 f1 rfl⟩

theorem fields3 {t : TypeId} {f0 f1 f2 : Field} {fuel : Nat} {W : World} {base : Nat} {spare : Nat → Bool} {held : Bool} {cs : List Value} {x : DataW H × List MemPlace} (ht : P.underlying t = some (.struct #[f0, f1, f2])) (h : DataW.trod enc P W base spare held fuel t cs = some x) :
    ∃ m y0 y1 y2, DataW.trod enc P W base spare held m f0.type ((cs.drop f0.offset).take (P.cellsOf f0.type)) = some y0 ∧ DataW.trod enc P W base spare held m f1.type ((cs.drop f1.offset).take (P.cellsOf f1.type)) = some y1 ∧ DataW.trod enc P W base spare held m f2.type ((cs.drop f2.offset).take (P.cellsOf f2.type)) = some y2 := by
  obtain ⟨xs, m, _, _, _, hlen, hf⟩ := DataW.trod_struct ht h
  match xs, hlen with
  | [y0, y1, y2], _ => exact ⟨m, y0, y1, y2, hf 0 f0 rfl, hf 1 f1 rfl, hf 2 f2 rfl⟩

theorem fields4 {t : TypeId} {f0 f1 f2 f3 : Field} {fuel : Nat} {W : World} {base : Nat} {spare : Nat → Bool} {held : Bool} {cs : List Value} {x : DataW H × List MemPlace} (ht : P.underlying t = some (.struct #[f0, f1, f2, f3])) (h : DataW.trod enc P W base spare held fuel t cs = some x) :
    ∃ m y0 y1 y2 y3, DataW.trod enc P W base spare held m f0.type ((cs.drop f0.offset).take (P.cellsOf f0.type)) = some y0 ∧ DataW.trod enc P W base spare held m f1.type ((cs.drop f1.offset).take (P.cellsOf f1.type)) = some y1 ∧ DataW.trod enc P W base spare held m f2.type ((cs.drop f2.offset).take (P.cellsOf f2.type)) = some y2 ∧ DataW.trod enc P W base spare held m f3.type ((cs.drop f3.offset).take (P.cellsOf f3.type)) = some y3 := by
  obtain ⟨xs, m, _, _, _, hlen, hf⟩ := DataW.trod_struct ht h
  match xs, hlen with
  | [y0, y1, y2, y3], _ => exact ⟨m, y0, y1, y2, y3, hf 0 f0 rfl, hf 1 f1 rfl, hf 2 f2 rfl, hf 3 f3 rfl⟩

theorem fields5 {t : TypeId} {f0 f1 f2 f3 f4 : Field} {fuel : Nat} {W : World} {base : Nat} {spare : Nat → Bool} {held : Bool} {cs : List Value} {x : DataW H × List MemPlace} (ht : P.underlying t = some (.struct #[f0, f1, f2, f3, f4])) (h : DataW.trod enc P W base spare held fuel t cs = some x) :
    ∃ m y0 y1 y2 y3 y4, DataW.trod enc P W base spare held m f0.type ((cs.drop f0.offset).take (P.cellsOf f0.type)) = some y0 ∧ DataW.trod enc P W base spare held m f1.type ((cs.drop f1.offset).take (P.cellsOf f1.type)) = some y1 ∧ DataW.trod enc P W base spare held m f2.type ((cs.drop f2.offset).take (P.cellsOf f2.type)) = some y2 ∧ DataW.trod enc P W base spare held m f3.type ((cs.drop f3.offset).take (P.cellsOf f3.type)) = some y3 ∧ DataW.trod enc P W base spare held m f4.type ((cs.drop f4.offset).take (P.cellsOf f4.type)) = some y4 := by
  obtain ⟨xs, m, _, _, _, hlen, hf⟩ := DataW.trod_struct ht h
  match xs, hlen with
  | [y0, y1, y2, y3, y4], _ => exact ⟨m, y0, y1, y2, y3, y4, hf 0 f0 rfl, hf 1 f1 rfl, hf 2 f2 rfl, hf 3 f3 rfl, hf 4 f4 rfl⟩

theorem fields6 {t : TypeId} {f0 f1 f2 f3 f4 f5 : Field} {fuel : Nat} {W : World} {base : Nat} {spare : Nat → Bool} {held : Bool} {cs : List Value} {x : DataW H × List MemPlace} (ht : P.underlying t = some (.struct #[f0, f1, f2, f3, f4, f5])) (h : DataW.trod enc P W base spare held fuel t cs = some x) :
    ∃ m y0 y1 y2 y3 y4 y5, DataW.trod enc P W base spare held m f0.type ((cs.drop f0.offset).take (P.cellsOf f0.type)) = some y0 ∧ DataW.trod enc P W base spare held m f1.type ((cs.drop f1.offset).take (P.cellsOf f1.type)) = some y1 ∧ DataW.trod enc P W base spare held m f2.type ((cs.drop f2.offset).take (P.cellsOf f2.type)) = some y2 ∧ DataW.trod enc P W base spare held m f3.type ((cs.drop f3.offset).take (P.cellsOf f3.type)) = some y3 ∧ DataW.trod enc P W base spare held m f4.type ((cs.drop f4.offset).take (P.cellsOf f4.type)) = some y4 ∧ DataW.trod enc P W base spare held m f5.type ((cs.drop f5.offset).take (P.cellsOf f5.type)) = some y5 := by
  obtain ⟨xs, m, _, _, _, hlen, hf⟩ := DataW.trod_struct ht h
  match xs, hlen with
  | [y0, y1, y2, y3, y4, y5], _ => exact ⟨m, y0, y1, y2, y3, y4, y5, hf 0 f0 rfl, hf 1 f1 rfl, hf 2 f2 rfl, hf 3 f3 rfl, hf 4 f4 rfl, hf 5 f5 rfl⟩

theorem fields7 {t : TypeId} {f0 f1 f2 f3 f4 f5 f6 : Field} {fuel : Nat} {W : World} {base : Nat} {spare : Nat → Bool} {held : Bool} {cs : List Value} {x : DataW H × List MemPlace} (ht : P.underlying t = some (.struct #[f0, f1, f2, f3, f4, f5, f6])) (h : DataW.trod enc P W base spare held fuel t cs = some x) :
    ∃ m y0 y1 y2 y3 y4 y5 y6, DataW.trod enc P W base spare held m f0.type ((cs.drop f0.offset).take (P.cellsOf f0.type)) = some y0 ∧ DataW.trod enc P W base spare held m f1.type ((cs.drop f1.offset).take (P.cellsOf f1.type)) = some y1 ∧ DataW.trod enc P W base spare held m f2.type ((cs.drop f2.offset).take (P.cellsOf f2.type)) = some y2 ∧ DataW.trod enc P W base spare held m f3.type ((cs.drop f3.offset).take (P.cellsOf f3.type)) = some y3 ∧ DataW.trod enc P W base spare held m f4.type ((cs.drop f4.offset).take (P.cellsOf f4.type)) = some y4 ∧ DataW.trod enc P W base spare held m f5.type ((cs.drop f5.offset).take (P.cellsOf f5.type)) = some y5 ∧ DataW.trod enc P W base spare held m f6.type ((cs.drop f6.offset).take (P.cellsOf f6.type)) = some y6 := by
  obtain ⟨xs, m, _, _, _, hlen, hf⟩ := DataW.trod_struct ht h
  match xs, hlen with
  | [y0, y1, y2, y3, y4, y5, y6], _ => exact ⟨m, y0, y1, y2, y3, y4, y5, y6, hf 0 f0 rfl, hf 1 f1 rfl, hf 2 f2 rfl, hf 3 f3 rfl, hf 4 f4 rfl, hf 5 f5 rfl, hf 6 f6 rfl⟩

theorem fields8 {t : TypeId} {f0 f1 f2 f3 f4 f5 f6 f7 : Field} {fuel : Nat} {W : World} {base : Nat} {spare : Nat → Bool} {held : Bool} {cs : List Value} {x : DataW H × List MemPlace} (ht : P.underlying t = some (.struct #[f0, f1, f2, f3, f4, f5, f6, f7])) (h : DataW.trod enc P W base spare held fuel t cs = some x) :
    ∃ m y0 y1 y2 y3 y4 y5 y6 y7, DataW.trod enc P W base spare held m f0.type ((cs.drop f0.offset).take (P.cellsOf f0.type)) = some y0 ∧ DataW.trod enc P W base spare held m f1.type ((cs.drop f1.offset).take (P.cellsOf f1.type)) = some y1 ∧ DataW.trod enc P W base spare held m f2.type ((cs.drop f2.offset).take (P.cellsOf f2.type)) = some y2 ∧ DataW.trod enc P W base spare held m f3.type ((cs.drop f3.offset).take (P.cellsOf f3.type)) = some y3 ∧ DataW.trod enc P W base spare held m f4.type ((cs.drop f4.offset).take (P.cellsOf f4.type)) = some y4 ∧ DataW.trod enc P W base spare held m f5.type ((cs.drop f5.offset).take (P.cellsOf f5.type)) = some y5 ∧ DataW.trod enc P W base spare held m f6.type ((cs.drop f6.offset).take (P.cellsOf f6.type)) = some y6 ∧ DataW.trod enc P W base spare held m f7.type ((cs.drop f7.offset).take (P.cellsOf f7.type)) = some y7 := by
  obtain ⟨xs, m, _, _, _, hlen, hf⟩ := DataW.trod_struct ht h
  match xs, hlen with
  | [y0, y1, y2, y3, y4, y5, y6, y7], _ => exact ⟨m, y0, y1, y2, y3, y4, y5, y6, y7, hf 0 f0 rfl, hf 1 f1 rfl, hf 2 f2 rfl, hf 3 f3 rfl, hf 4 f4 rfl, hf 5 f5 rfl, hf 6 f6 rfl, hf 7 f7 rfl⟩

theorem fields9 {t : TypeId} {f0 f1 f2 f3 f4 f5 f6 f7 f8 : Field} {fuel : Nat} {W : World} {base : Nat} {spare : Nat → Bool} {held : Bool} {cs : List Value} {x : DataW H × List MemPlace} (ht : P.underlying t = some (.struct #[f0, f1, f2, f3, f4, f5, f6, f7, f8])) (h : DataW.trod enc P W base spare held fuel t cs = some x) :
    ∃ m y0 y1 y2 y3 y4 y5 y6 y7 y8, DataW.trod enc P W base spare held m f0.type ((cs.drop f0.offset).take (P.cellsOf f0.type)) = some y0 ∧ DataW.trod enc P W base spare held m f1.type ((cs.drop f1.offset).take (P.cellsOf f1.type)) = some y1 ∧ DataW.trod enc P W base spare held m f2.type ((cs.drop f2.offset).take (P.cellsOf f2.type)) = some y2 ∧ DataW.trod enc P W base spare held m f3.type ((cs.drop f3.offset).take (P.cellsOf f3.type)) = some y3 ∧ DataW.trod enc P W base spare held m f4.type ((cs.drop f4.offset).take (P.cellsOf f4.type)) = some y4 ∧ DataW.trod enc P W base spare held m f5.type ((cs.drop f5.offset).take (P.cellsOf f5.type)) = some y5 ∧ DataW.trod enc P W base spare held m f6.type ((cs.drop f6.offset).take (P.cellsOf f6.type)) = some y6 ∧ DataW.trod enc P W base spare held m f7.type ((cs.drop f7.offset).take (P.cellsOf f7.type)) = some y7 ∧ DataW.trod enc P W base spare held m f8.type ((cs.drop f8.offset).take (P.cellsOf f8.type)) = some y8 := by
  obtain ⟨xs, m, _, _, _, hlen, hf⟩ := DataW.trod_struct ht h
  match xs, hlen with
  | [y0, y1, y2, y3, y4, y5, y6, y7, y8], _ => exact ⟨m, y0, y1, y2, y3, y4, y5, y6, y7, y8, hf 0 f0 rfl, hf 1 f1 rfl, hf 2 f2 rfl, hf 3 f3 rfl, hf 4 f4 rfl, hf 5 f5 rfl, hf 6 f6 rfl, hf 7 f7 rfl, hf 8 f8 rfl⟩

theorem fields10 {t : TypeId} {f0 f1 f2 f3 f4 f5 f6 f7 f8 f9 : Field} {fuel : Nat} {W : World} {base : Nat} {spare : Nat → Bool} {held : Bool} {cs : List Value} {x : DataW H × List MemPlace} (ht : P.underlying t = some (.struct #[f0, f1, f2, f3, f4, f5, f6, f7, f8, f9])) (h : DataW.trod enc P W base spare held fuel t cs = some x) :
    ∃ m y0 y1 y2 y3 y4 y5 y6 y7 y8 y9, DataW.trod enc P W base spare held m f0.type ((cs.drop f0.offset).take (P.cellsOf f0.type)) = some y0 ∧ DataW.trod enc P W base spare held m f1.type ((cs.drop f1.offset).take (P.cellsOf f1.type)) = some y1 ∧ DataW.trod enc P W base spare held m f2.type ((cs.drop f2.offset).take (P.cellsOf f2.type)) = some y2 ∧ DataW.trod enc P W base spare held m f3.type ((cs.drop f3.offset).take (P.cellsOf f3.type)) = some y3 ∧ DataW.trod enc P W base spare held m f4.type ((cs.drop f4.offset).take (P.cellsOf f4.type)) = some y4 ∧ DataW.trod enc P W base spare held m f5.type ((cs.drop f5.offset).take (P.cellsOf f5.type)) = some y5 ∧ DataW.trod enc P W base spare held m f6.type ((cs.drop f6.offset).take (P.cellsOf f6.type)) = some y6 ∧ DataW.trod enc P W base spare held m f7.type ((cs.drop f7.offset).take (P.cellsOf f7.type)) = some y7 ∧ DataW.trod enc P W base spare held m f8.type ((cs.drop f8.offset).take (P.cellsOf f8.type)) = some y8 ∧ DataW.trod enc P W base spare held m f9.type ((cs.drop f9.offset).take (P.cellsOf f9.type)) = some y9 := by
  obtain ⟨xs, m, _, _, _, hlen, hf⟩ := DataW.trod_struct ht h
  match xs, hlen with
  | [y0, y1, y2, y3, y4, y5, y6, y7, y8, y9], _ => exact ⟨m, y0, y1, y2, y3, y4, y5, y6, y7, y8, y9, hf 0 f0 rfl, hf 1 f1 rfl, hf 2 f2 rfl, hf 3 f3 rfl, hf 4 f4 rfl, hf 5 f5 rfl, hf 6 f6 rfl, hf 7 f7 rfl, hf 8 f8 rfl, hf 9 f9 rfl⟩
end Go.W
