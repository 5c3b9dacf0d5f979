/- What Get of the reference's heap answers. -/
import Derived.Test.YtldhlaabdhpdiaaN
set_option linter.unusedVariables false
namespace Go.Proofs.Ytldhlaabdhpdiaa
open Go.RowKit Go.W
open Go.Maps (Keyed)

def RCell.hit (c : RCell) (ref place : Int) (elem : Bool) : Bool := (c.ref == ref) && (c.place == place) && (c.elem == elem)
def getL : List RCell → Int → Int → Bool → Int × Int
  | [], _, _, _ => (0, 0)
  | c :: r, ref, place, elem => if c.hit ref place elem then c.v else getL r ref place elem

theorem getL_drop {L : List RCell} {k : Nat} {c : RCell} {ref place : Int} {elem : Bool} (h : L[k]? = some c) : getL (L.drop k) ref place elem = if c.hit ref place elem then c.v else getL (L.drop (k + 1)) ref place elem := by
  have hk := (List.getElem?_eq_some_iff.1 h).1
  rw [List.drop_eq_getElem_cons hk]
  have : L[k] = c := (List.getElem?_eq_some_iff.1 h).2
  rw [this]
  rfl

section
variable {w : World} {rb : Nat} {sites : List Int} {types : List ByteArray} {L : List RCell} {v1 v2 v3 : Value}

theorem RefAt.cell {g cap : Nat} (h : RefAt w rb sites types L v1 v2 (.slice (some ⟨g, 0, none⟩) L.length cap)) {k : Nat} {c : RCell} (hk : L[k]? = some c) :
    w.cell? ⟨g, k * 5, none⟩ = some (.int .i64 c.ref) ∧ w.cell? ⟨g, k * 5 + 1, none⟩ = some (.int .i64 c.place) ∧ w.cell? ⟨g, k * 5 + 2, none⟩ = some (.bool c.elem) ∧ w.cell? ⟨g, k * 5 + 3, none⟩ = some (.int .i64 c.v.1) ∧ w.cell? ⟨g, k * 5 + 4, none⟩ = some (.int .i64 c.v.2) := by
  have hk' := (List.getElem?_eq_some_iff.1 hk).1
  have key : ∀ j, j < 5 → w.cell? ⟨g, k * 5 + j, none⟩ = c.cells[j]? := fun j hj => by
    rw [h.r3.cellAt _ (by have : k * 5 + 5 ≤ L.length * 5 := by omega
                          omega)]
    exact flat_get RCell.cells 5 RCell.len L k j c hk hj
  exact ⟨key 0 (by omega), key 1 (by omega), key 2 (by omega), key 3 (by omega), key 4 (by omega)⟩

theorem rget_plain (h : RefAt w rb sites types L v1 v2 v3) (ref place : Int) (hl : L.length ≤ 10000) :
    Calls Try.prog 20 #[.pointer (some ⟨rb, 0, none⟩), .int .i64 ref, .int .i64 place, .bool false] w fun e w' => e = .returned (.tuple #[vv (getL L ref place false), .bool (isRef sites ref)]) ∧ Ch No w w' := by
  obtain ⟨ao, cap, hv3, hm, hg⟩ := sliceOf h.r3
  obtain ⟨len, hlen⟩ : ∃ len, L.length = len := ⟨_, rfl⟩
  subst hv3
  rw [hlen] at hl h hg
  have hq : ∀ w', RefAt w' rb sites types L v1 v2 (.slice ao len cap) → Calls Try.prog 25 #[.pointer (some ⟨rb, 0, none⟩), .int .i64 ref] w' fun e w'' => e = .returned (.bool (isRef sites ref)) ∧ w'' = w' := fun w' h' => is_any h' ref
  have HQ := hid hq
  clear hq
  obtain ⟨x, hx⟩ : ∃ x, getL L ref place false = x := ⟨_, rfl⟩
  rw [hx]
  have HX := hid hx
  clear hx
  have hrb := lt_size h.head
  unfold vv
  have HL := hid hlen
  clear hlen hm
  obtain ⟨c1, c2, c3⟩ := three h.head
  go_enter Try.func20, Try.ntmps20
  go_wp2_with fail
  go_loopw [10] (fun s10 wr => ∃ (k : Nat), k ≤ len ∧ s10 = .int .i64 k ∧ getL (L.drop k) ref place false = x ∧ RefAt wr rb sites types L v1 v2 (.slice ao len cap) ∧ Ch No (w.alloc (.cells #[.int .i64 0, .int .i64 0] 23)) wr)
    (fun s10 _ => len - (intOf s10).toNat)
  case atStart => exact ⟨0, Nat.zero_le _, rfl, HX.out, h.alloc _, Ch.refl _ _⟩
  case round =>
    clear c1 c2 c3 h
    obtain ⟨k, hk, rfl, hg', hh, hc⟩ := hrel
    have HG := hid hg'
    clear hg'
    obtain ⟨c1, c2, c3⟩ := three hh.head
    have hres := hc.keep _ _ (heap_alloc_new w (.cells #[.int .i64 0, .int .i64 0] 23)) (fun h => h)
    have hs := lt_size hres
    have hs2 := lt_size hh.head
    obtain ⟨r0, r1⟩ := two hres
    have f0 := freeAt hres 0
    have f1 := freeAt hres 1
    have F1 := hid (((Ch.refl No w).alloc _).trans hc)
    cases hd : decide (k < len) with
    | true =>
      have hkl : k < len := by simpa using hd
      obtain ⟨g, rfl⟩ := hg (by omega)
      obtain ⟨c, hck⟩ : ∃ c, L[k]? = some c := ⟨_, List.getElem?_eq_getElem (by have := HL.out; omega)⟩
      have hcell := RefAt.cell (by rw [HL.out]; exact hh) hck
      obtain ⟨q0, q1, q2, q3, q4⟩ := hcell
      have hgl := getL_drop (ref := ref) (place := place) (elem := false) hck
      rw [HG.out] at hgl
      have HGL := hid hgl
      clear hgl hck hg hres
      have hh1 := hh.alloc (.cells #[.int .i64 c.ref, .int .i64 c.place, .bool c.elem, .int .i64 c.v.1, .int .i64 c.v.2] 60)
      clear hh
      cases e0 : (c.ref == ref) with
      | false =>
        have he : c.hit ref place false = false := by simp [RCell.hit, e0]
        have HE := hid he
        clear he
        go_wp2_with fail
        go_roundw
        case rel => exact ⟨k + 1, by omega, by go_num, by rw [HGL.out, HE.out]; rfl, hh1, hc.alloc _⟩
        case measure => simp [intOf]; omega
      | true =>
        cases e1 : (c.place == place) with
        | false =>
          have he : c.hit ref place false = false := by simp [RCell.hit, e1]
          have HE := hid he
          clear he
          go_wp2_with fail
          go_roundw
          case rel => exact ⟨k + 1, by omega, by go_num, by rw [HGL.out, HE.out]; rfl, hh1, hc.alloc _⟩
          case measure => simp [intOf]; omega
        | true =>
          cases e2 : c.elem with
          | true =>
            have he : c.hit ref place false = false := by simp [RCell.hit, e2]
            have HE := hid he
            rw [e2] at hh1 q2
            clear he
            go_wp2_with fail
            go_roundw
            case rel => exact ⟨k + 1, by omega, by go_num, by rw [HGL.out, HE.out]; rfl, hh1, hc.alloc _⟩
            case measure => simp [intOf]; omega
          | false =>
            have he : c.hit ref place false = true := by simp [RCell.hit, e0, e1, e2]
            have HXV : Hid (x = c.v) := hid (by rw [HGL.out, he]; rfl)
            rw [e2] at hh1 q2
            clear he HGL
            go_wp2_with fail
            go_region_with (go_at_call 25; refine (HQ.out _ (hh1.drew)).mono ?_; rintro e w' ⟨rfl, rfl⟩)
            all_goals go_wp2_with fail
            all_goals refine bodyPost_ret (v := .tuple #[.agg #[.int .i64 c.v.1, .int .i64 c.v.2], .bool (isRef sites ref)]) (by simp [results, Try.results20, go_sem, hs, r0, r1]) rfl ⟨by rw [HXV.out], ?_⟩
            all_goals exact (((F1.out.setNew (p := ⟨w.heap.size, 0, none⟩) (Nat.le_refl _) _).setNew (p := ⟨w.heap.size, 1, none⟩) (Nat.le_refl _) _).alloc _).drew
    | false =>
      have HXV : Hid (x = (0, 0)) := hid (by
        have hkl : ¬ k < len := by simpa using hd
        rw [← HG.out, List.drop_eq_nil_of_le (by have := HL.out; omega)]; rfl)
      clear hg hres
      go_wp2_with fail
      refine (HQ.out _ hh).mono ?_
      rintro e w' ⟨rfl, rfl⟩
      go_wp2_with fail
      refine bodyPost_ret (v := .tuple #[.agg #[.int .i64 0, .int .i64 0], .bool (isRef sites ref)]) (by simp [results, Try.results20, go_sem, hs, r0, r1]) rfl ⟨by rw [HXV.out], ?_⟩
      exact (F1.out.setNew (p := ⟨w.heap.size, 0, none⟩) (Nat.le_refl _) _).setNew (p := ⟨w.heap.size, 1, none⟩) (Nat.le_refl _) _

theorem rget_elem (h : RefAt w rb sites types L v1 v2 v3) (ref place : Int) (hl : L.length ≤ 10000) :
    Calls Try.prog 20 #[.pointer (some ⟨rb, 0, none⟩), .int .i64 ref, .int .i64 place, .bool true] w fun e w' => e = .returned (.tuple #[vv (getL L ref (place % 4) true), .bool (isRef sites ref)]) ∧ Ch No w w' := by
  obtain ⟨ao, cap, hv3, hm, hg⟩ := sliceOf h.r3
  obtain ⟨len, hlen⟩ : ∃ len, L.length = len := ⟨_, rfl⟩
  subst hv3
  rw [hlen] at hl h hg
  have hq : ∀ w', RefAt w' rb sites types L v1 v2 (.slice ao len cap) → Calls Try.prog 25 #[.pointer (some ⟨rb, 0, none⟩), .int .i64 ref] w' fun e w'' => e = .returned (.bool (isRef sites ref)) ∧ w'' = w' := fun w' h' => is_any h' ref
  have HQ := hid hq
  clear hq
  obtain ⟨x, hx⟩ : ∃ x, getL L ref (place % 4) true = x := ⟨_, rfl⟩
  rw [hx]
  have HX := hid hx
  clear hx
  have hrb := lt_size h.head
  unfold vv
  have HL := hid hlen
  clear hlen hm
  obtain ⟨c1, c2, c3⟩ := three h.head
  go_enter Try.func20, Try.ntmps20
  go_wp2_with fail
  refine (rplace_any _ _).mono ?_
  rintro e w' ⟨rfl, rfl⟩
  go_wp2_with fail
  go_loopw [10] (fun s10 wr => ∃ (k : Nat), k ≤ len ∧ s10 = .int .i64 k ∧ getL (L.drop k) ref (place % 4) true = x ∧ RefAt wr rb sites types L v1 v2 (.slice ao len cap) ∧ Ch No (w.alloc (.cells #[.int .i64 0, .int .i64 0] 23)) wr)
    (fun s10 _ => len - (intOf s10).toNat)
  case atStart => exact ⟨0, Nat.zero_le _, rfl, HX.out, h.alloc _, Ch.refl _ _⟩
  case round =>
    clear c1 c2 c3 h
    obtain ⟨k, hk, rfl, hg', hh, hc⟩ := hrel
    have HG := hid hg'
    clear hg'
    obtain ⟨c1, c2, c3⟩ := three hh.head
    have hres := hc.keep _ _ (heap_alloc_new w (.cells #[.int .i64 0, .int .i64 0] 23)) (fun h => h)
    have hs := lt_size hres
    have hs2 := lt_size hh.head
    obtain ⟨r0, r1⟩ := two hres
    have f0 := freeAt hres 0
    have f1 := freeAt hres 1
    have F1 := hid (((Ch.refl No w).alloc _).trans hc)
    cases hd : decide (k < len) with
    | true =>
      have hkl : k < len := by simpa using hd
      obtain ⟨g, rfl⟩ := hg (by omega)
      obtain ⟨c, hck⟩ : ∃ c, L[k]? = some c := ⟨_, List.getElem?_eq_getElem (by have := HL.out; omega)⟩
      have hcell := RefAt.cell (by rw [HL.out]; exact hh) hck
      obtain ⟨q0, q1, q2, q3, q4⟩ := hcell
      have hgl := getL_drop (ref := ref) (place := (place % 4)) (elem := true) hck
      rw [HG.out] at hgl
      have HGL := hid hgl
      clear hgl hck hg hres
      have hh1 := hh.alloc (.cells #[.int .i64 c.ref, .int .i64 c.place, .bool c.elem, .int .i64 c.v.1, .int .i64 c.v.2] 60)
      clear hh
      cases e0 : (c.ref == ref) with
      | false =>
        have he : c.hit ref (place % 4) true = false := by simp [RCell.hit, e0]
        have HE := hid he
        clear he
        go_wp2_with fail
        go_roundw
        case rel => exact ⟨k + 1, by omega, by go_num, by rw [HGL.out, HE.out]; rfl, hh1, hc.alloc _⟩
        case measure => simp [intOf]; omega
      | true =>
        cases e1 : (c.place == (place % 4)) with
        | false =>
          have he : c.hit ref (place % 4) true = false := by simp [RCell.hit, e1]
          have HE := hid he
          clear he
          go_wp2_with fail
          go_roundw
          case rel => exact ⟨k + 1, by omega, by go_num, by rw [HGL.out, HE.out]; rfl, hh1, hc.alloc _⟩
          case measure => simp [intOf]; omega
        | true =>
          cases e2 : c.elem with
          | false =>
            have he : c.hit ref (place % 4) true = false := by simp [RCell.hit, e2]
            have HE := hid he
            rw [e2] at hh1 q2
            clear he
            go_wp2_with fail
            go_roundw
            case rel => exact ⟨k + 1, by omega, by go_num, by rw [HGL.out, HE.out]; rfl, hh1, hc.alloc _⟩
            case measure => simp [intOf]; omega
          | true =>
            have he : c.hit ref (place % 4) true = true := by simp [RCell.hit, e0, e1, e2]
            have HXV : Hid (x = c.v) := hid (by rw [HGL.out, he]; rfl)
            rw [e2] at hh1 q2
            clear he HGL
            go_wp2_with fail
            go_region_with (go_at_call 25; refine (HQ.out _ (hh1.drew)).mono ?_; rintro e w' ⟨rfl, rfl⟩)
            all_goals go_wp2_with fail
            all_goals refine bodyPost_ret (v := .tuple #[.agg #[.int .i64 c.v.1, .int .i64 c.v.2], .bool (isRef sites ref)]) (by simp [results, Try.results20, go_sem, hs, r0, r1]) rfl ⟨by rw [HXV.out], ?_⟩
            all_goals exact (((F1.out.setNew (p := ⟨w.heap.size, 0, none⟩) (Nat.le_refl _) _).setNew (p := ⟨w.heap.size, 1, none⟩) (Nat.le_refl _) _).alloc _).drew
    | false =>
      have HXV : Hid (x = (0, 0)) := hid (by
        have hkl : ¬ k < len := by simpa using hd
        rw [← HG.out, List.drop_eq_nil_of_le (by have := HL.out; omega)]; rfl)
      clear hg hres
      go_wp2_with fail
      refine (HQ.out _ hh).mono ?_
      rintro e w' ⟨rfl, rfl⟩
      go_wp2_with fail
      refine bodyPost_ret (v := .tuple #[.agg #[.int .i64 0, .int .i64 0], .bool (isRef sites ref)]) (by simp [results, Try.results20, go_sem, hs, r0, r1]) rfl ⟨by rw [HXV.out], ?_⟩
      exact (F1.out.setNew (p := ⟨w.heap.size, 0, none⟩) (Nat.le_refl _) _).setNew (p := ⟨w.heap.size, 1, none⟩) (Nat.le_refl _) _
end
end Go.Proofs.Ytldhlaabdhpdiaa
