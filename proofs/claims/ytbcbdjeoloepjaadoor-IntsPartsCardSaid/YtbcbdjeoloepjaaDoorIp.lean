/- Union, Minus, Same of sets. -/
import Derived.Test.YtbcbdjeoloepjaaDoorIo
set_option linter.unusedVariables false
namespace Go.Proofs.YtbcbdjeoloepjaaDoor
open Go.RowKit Go.W

theorem fold_self {l : List Int} (h : Good l) : l.foldl putS [] = l :=
  sorted_eq (good_nil.fold l).1 h.1 (fun m => by
    rw [mem_fold]
    exact ⟨fun h2 => h2.elim (fun h => by cases h) (fun h => h.1), fun h2 => .inr ⟨h2, h.2 m h2⟩⟩)

theorem SetNew.v {B : Nat} {w : World} {pv : Value} {l : List Int} (h : SetNew B w pv l) : ∃ sb ob, SetV w pv l (some sb) ob ∧ B ≤ sb ∧ (∀ b, ob = some b → B ≤ b) := by
  obtain ⟨sb, ob, rfl, h, h1, h2⟩ := h
  exact ⟨sb, ob, h.v, h1, h2⟩

theorem SetNew.base {B B' : Nat} {w : World} {pv : Value} {l : List Int} (h : SetNew B w pv l) (hb : B' ≤ B) : SetNew B' w pv l := by
  obtain ⟨sb, ob, h0, h, h1, h2⟩ := h
  exact ⟨sb, ob, h0, h, by omega, fun b hb' => by have := h2 b hb'; omega⟩

theorem SetNew.no {B : Nat} {w w' : World} {pv : Value} {l : List Int} (h : SetNew B w pv l) (hc : Ch No w w') : SetNew B w' pv l := by
  obtain ⟨sb, ob, h0, h, h1, h2⟩ := h
  exact ⟨sb, ob, h0, h.no hc, h1, h2⟩

/-- of sets: what changes is new -/
theorem So.new {B sb : Nat} {ob : Option Nat} {w w0 w1 : World} (hc : Ch No w w0) (h : Ch (So sb ob) w0 w1) (hB : w.heap.size ≤ B) (h1 : B ≤ sb) (h2 : ∀ b, ob = some b → B ≤ b) : Ch No w w1 :=
  hc.trans' h (fun j o ho hj => by
    have := lt_size ho
    rcases hj with hj | hj
    · omega
    · have := h2 j hj; omega)

set_option maxHeartbeats 2000000 in
theorem sunion {w : World} {sv tv : Value} {l l' : List Int} {sb ob tsb tob : Option Nat} (hT : Tab w) (h : SetV w sv l sb ob) (h' : SetV w tv l' tsb tob) :
    Calls Tryd.prog 11 #[sv, tv] w fun e w' => ∃ u, e = .returned u ∧ SetNew w.heap.size w' u (l'.foldl putS l) ∧ Ch No w w' := by
  have hli := slist hT h
  have hg := h.good
  have HT := hid hT
  have HV := hid h'
  clear h h' hT
  go_enter Tryd.func11, Tryd.ntmps11
  go_wp2_with fail
  refine hli.mono ?_
  rintro e w0 ⟨u0, rfl, hu0, hch0⟩
  have hof := sof hu0.at_
  rw [fold_self hg] at hof
  have hs0 := hch0.size
  clear hu0 hli
  go_wp2_with fail
  refine hof.mono ?_
  rintro e w1 ⟨u1, rfl, ⟨sb1, ob1, rfl, hset1, hb1, hb2⟩, hch1⟩
  have hm := smerge (HT.out.no (hch0.trans hch1)) hset1 (HV.out.no (hch0.trans hch1))
  clear hset1 hof
  go_wp2_with fail
  refine hm.mono ?_
  rintro e w2 ⟨u2, ob2, rfl, _, hset2, hch2, hob2⟩
  go_wp2_with fail
  go_ret
  refine ⟨_, rfl, ⟨sb1, ob2, rfl, hset2, by omega, fun b hb => ?_⟩, So.new (hch0.trans hch1) hch2 hs0 hb1 hb2⟩
  rcases hob2 with h | ⟨g, h, h2⟩
  · have := hb2 b (h ▸ hb); omega
  · rw [h] at hb; cases hb
    have := hch1.size; omega

set_option maxHeartbeats 2000000 in
theorem ssame {w : World} {sv tv : Value} {l l' : List Int} {sb ob tsb tob : Option Nat} (hT : Tab w) (h : SetV w sv l sb ob) (h' : SetV w tv l' tsb tob) :
    Calls Tryd.prog 15 #[sv, tv] w fun e w' => e = .returned (.bool (decide (l = l'))) ∧ Ch No w w' := by
  have hli := slist hT h
  have HT := hid hT
  have HV := hid h'
  clear h h' hT
  go_enter Tryd.func15, Tryd.ntmps15
  go_wp2_with fail
  refine hli.mono ?_
  rintro e w0 ⟨u0, rfl, hu0, hch0⟩
  have hli2 := slist (HT.out.no hch0) (HV.out.no hch0)
  clear hli
  go_wp2_with fail
  refine hli2.mono ?_
  rintro e w1 ⟨u1, rfl, hu1, hch1⟩
  have hq := sequal (hu0.no hch1).at_ hu1.at_
  clear hli2 hu0 hu1
  go_wp2_with fail
  refine hq.mono ?_
  rintro e w2 ⟨rfl, q, rfl⟩
  go_wp2_with fail
  go_ret
  exact ⟨rfl, (hch0.trans hch1).drewN q⟩

set_option maxHeartbeats 4000000 in
theorem sminus {w : World} {sv tv : Value} {l l' : List Int} {sb ob tsb tob : Option Nat} (hT : Tab w) (h : SetV w sv l sb ob) (h' : SetV w tv l' tsb tob) :
    Calls Tryd.prog 22 #[sv, tv] w fun e w' => ∃ u, e = .returned u ∧ SetNew w.heap.size w' u (l.filter (fun x => !decide (x ∈ l'))) ∧ Ch No w w' := by
  have hg := h.good
  have hch1 := (Ch.refl No w).alloc (.cells #[.slice none 0 0, .slice none 0 0, .int .i64 0] 39)
  have hli := slist (hT.no hch1) (h.no hch1)
  have HZ := hid (set_zero w)
  have HV := hid h'
  have hsz1 : w.heap.size < (w.alloc (.cells #[.slice none 0 0, .slice none 0 0, .int .i64 0] 39)).heap.size := by simp
  clear h h' hT
  go_enter Tryd.func22, Tryd.ntmps22
  go_wp2_with fail
  refine hli.mono ?_
  rintro e w0 ⟨u0, rfl, hu0, hch0⟩
  have hlt0 := fun k => hu0.lt k
  have hat := hu0.at_
  obtain ⟨ao, cap, rfl, hcap, hmax, hnc, hcell⟩ := hat
  obtain ⟨len, hlen⟩ : ∃ len, l.length = len := ⟨_, rfl⟩
  rw [hlen] at hcap hcell hlt0 ⊢
  unfold maxLen at hmax
  have HL := hid hlen
  have HG := hid hg
  have hs0 := HZ.out.no hch0
  have hsz0 := hch0.size
  have hchA : Ch No w w0 := hch1.trans hch0
  clear hlen hnc hli hg hu0 hch1
  go_wp2_with fail
  go_loopg [13] len (fun g s13 wr => ∃ (k : Nat) (ob' : Option Nat), k ≤ len ∧ len - k ≤ g ∧ s13 = .int .i64 k ∧ SetAt wr w.heap.size ((l.take k).filter (fun x => !decide (x ∈ l'))) ob' ∧
    Ch (fun k _ => k = w.heap.size) w0 wr ∧ (∀ b, ob' = some b → w0.heap.size ≤ b))
  case atStart => exact ⟨0, none, Nat.zero_le _, by omega, rfl, hs0, Ch.refl _ _, fun _ h => by cases h⟩
  case round =>
    obtain ⟨k, ob', hk, hg, rfl, hset, hch, hob⟩ := hrel
    cases hd : decide (k < len) with
    | false =>
      go_wp2_with fail
      go_ret
      have hkl : ¬ k < len := by simpa using hd
      rw [List.take_of_length_le (by have := HL.out; omega)] at hset
      exact ⟨_, rfl, ⟨_, ob', rfl, hset, Nat.le_refl _, fun b hb => by have := hob b hb; omega⟩, hchA.trans' hch (fun j o ho h => by have := lt_size ho; omega)⟩
    | true =>
      have hkl : k < len := by simpa using hd
      obtain ⟨b, off, rfl, hc⟩ := hcell (by omega)
      obtain ⟨x, hx⟩ : ∃ x, l[k]? = some x := ⟨_, List.getElem?_eq_getElem (by have := HL.out; omega)⟩
      have hb0 := hlt0 b rfl
      have hq := cell_ch (hc k x hx) hch (fun o _ h => by have : b = w.heap.size := h; omega)
      have HX := hid hx
      have hchB : Ch No w wr := hchA.trans' hch (fun j o ho h => by have := lt_size ho; omega)
      have hhas := shas (HV.out.no hchB) x
      have hxr := HG.out.2 x (List.mem_of_getElem? hx)
      have hnb := not_before HG.out hx
      have htf := take_filter (fun x => !decide (x ∈ l')) hx
      clear hc hcell hx
      go_wp2_with fail
      refine hhas.mono ?_
      rintro e w1 ⟨rfl, q, rfl⟩
      have hset1 : SetAt (wr.drewN q) w.heap.size ((l.take k).filter (fun x => !decide (x ∈ l'))) ob' := hset.no ((Ch.refl _ _).drewN q)
      cases hxl : decide (x ∈ l') with
      | true =>
        go_wp2_with fail
        go_roundg (len - k - 1)
        case rel =>
          refine ⟨k + 1, ob', by omega, by omega, by go_num, ?_, hch.drewN q, hob⟩
          rw [htf]; simpa [hxl] using hset1
        case measure => omega
      | false =>
        have hnf : x ∉ (l.take k).filter (fun x => !decide (x ∈ l')) := fun h => hnb (List.mem_filter.1 h).1
        have hins : putS ((l.take k).filter (fun x => !decide (x ∈ l'))) x = (l.take (k + 1)).filter (fun x => !decide (x ∈ l')) := by
          refine sorted_eq (hset1.1.putS x).1 ((HG.out.take _).filter _).1 (fun m => ?_)
          rw [mem_putS, htf, hxl]
          simp only [Bool.not_false, if_true, List.mem_append, List.mem_singleton]
          constructor
          · rintro (h | ⟨h, _⟩)
            · exact .inl h
            · exact .inr h
          · rintro (h | h)
            · exact .inl h
            · exact .inr ⟨h, hxr⟩
        have hcall := sadd hset1 x
        unfold AddP at hcall
        rw [hins] at hcall
        clear hset1 hset hins
        go_wp2_with fail
        refine hcall.mono ?_
        rintro e w2 ⟨rfl, ob2, hset2, hch2, hob2⟩
        go_wp2_with fail
        go_roundg (len - k - 1)
        case rel =>
          refine ⟨k + 1, ob2, by omega, by omega, by go_num, hset2, (hch.drewN q).trans' hch2 (fun j o ho h => ?_), fun b hb => ?_⟩
          · rcases h with h | h
            · exact h
            · have := hob j h
              have := lt_size ho; omega
          · rcases hob2 with h | ⟨g, h, h2⟩
            · exact hob b (h ▸ hb)
            · rw [h] at hb; cases hb
              have := hch.size
              have e : (wr.drewN q).heap.size = wr.heap.size := rfl
              omega
        case measure => omega
end Go.Proofs.YtbcbdjeoloepjaaDoor
