/- What Site, Type, Len, Get, Elem and Put of the heap answer and change. -/
import Derived.Test.YtldhlaabdhpdiaaB
set_option linter.unusedVariables false
namespace Go.Proofs.Ytldhlaabdhpdiaa
open Go.RowKit Go.W
open Go.Maps (Keyed)

def val (ts : List Th) (ref : Int) : Option Th := if 1 ≤ ref then ts[ref.toNat - 1]? else none
theorem val_none {ts : List Th} {ref : Int} (h : val ts ref = none) : ref < 1 ∨ (ts.length : Int) < ref := by
  unfold val at h
  split at h
  · rw [List.getElem?_eq_none_iff] at h; omega
  · omega
theorem val_some {ts : List Th} {ref : Int} {x : Th} (h : val ts ref = some x) : 1 ≤ ref ∧ ref ≤ (ts.length : Int) ∧ ts[ref.toNat - 1]? = some x := by
  unfold val at h
  split at h
  · rename_i h1
    have := (List.getElem?_eq_some_iff.1 h).1
    exact ⟨h1, by omega, h⟩
  · cases h

section
variable {w : World} {hb : Nat} {ts : List Th} {n : Nat} {v : Value}

theorem site_none (h : HeapAt w hb ts n v) (ref : Int) (hr : val ts ref = none) :
    Calls Try.prog 15 #[.pointer (some ⟨hb, 0, none⟩), .int .i64 ref] w fun e w' => e = .returned (.int .i64 (-1)) ∧ w = w' := by
  have H := hid (of_none h ref (val_none hr)); clear h hr
  go_enter Try.func15, Try.ntmps15
  go_wp2_with (go_at_call 23; refine H.out.mono ?_; rintro e w' ⟨rfl, rfl⟩)
  go_ret
  exact ⟨rfl, rfl⟩

theorem site_some (h : HeapAt w hb ts n v) (ref : Int) (x : Th) (hr : val ts ref = some x) :
    Calls Try.prog 15 #[.pointer (some ⟨hb, 0, none⟩), .int .i64 ref] w fun e w' => e = .returned (.int .i64 x.site) ∧ w = w' := by
  obtain ⟨h1, h2, h3⟩ := val_some hr
  obtain ⟨g, cap, y, rfl, hy, hc, hcall⟩ := of_some h ref h1 h2
  obtain rfl : y = x := Option.some.inj (hy.symm.trans h3)
  have H := hid hcall
  have c0 := hc 0 (by omega)
  simp only [Th.cells, List.getElem?_cons_zero, Nat.add_zero] at c0
  clear hcall hc h hr hy h1 h2 h3
  go_enter Try.func15, Try.ntmps15
  go_wp2_with (go_at_call 23; refine H.out.mono ?_; rintro e w' ⟨rfl, rfl⟩)
  go_ret
  exact ⟨rfl, rfl⟩

theorem type_none (h : HeapAt w hb ts n v) (ref : Int) (hr : val ts ref = none) :
    Calls Try.prog 17 #[.pointer (some ⟨hb, 0, none⟩), .int .i64 ref] w fun e w' => e = .returned (.string ⟨#[]⟩) ∧ w = w' := by
  have H := hid (of_none h ref (val_none hr)); clear h hr
  go_enter Try.func17, Try.ntmps17
  go_wp2_with (go_at_call 23; refine H.out.mono ?_; rintro e w' ⟨rfl, rfl⟩)
  go_ret
  exact ⟨rfl, rfl⟩

theorem type_some (h : HeapAt w hb ts n v) (ref : Int) (x : Th) (hr : val ts ref = some x) :
    Calls Try.prog 17 #[.pointer (some ⟨hb, 0, none⟩), .int .i64 ref] w fun e w' => e = .returned (.string x.t) ∧ w = w' := by
  obtain ⟨h1, h2, h3⟩ := val_some hr
  obtain ⟨g, cap, y, rfl, hy, hc, hcall⟩ := of_some h ref h1 h2
  obtain rfl : y = x := Option.some.inj (hy.symm.trans h3)
  have H := hid hcall
  have c0 := hc 1 (by omega)
  simp only [Th.cells, List.getElem?_cons_zero, List.getElem?_cons_succ] at c0
  clear hcall hc h hr hy h1 h2 h3
  go_enter Try.func17, Try.ntmps17
  go_wp2_with (go_at_call 23; refine H.out.mono ?_; rintro e w' ⟨rfl, rfl⟩)
  go_ret
  exact ⟨rfl, rfl⟩

theorem len_any (h : HeapAt w hb ts n v) :
    Calls Try.prog 16 #[.pointer (some ⟨hb, 0, none⟩)] w fun e w' => e = .returned (.int .i64 ts.length) ∧ w = w' := by
  obtain ⟨ao, cap, rfl, hm, _⟩ := h.slice
  have hc := cellAt h.head 0
  simp only [List.getElem?_toArray, List.getElem?_cons_zero] at hc
  generalize ts.length = len at *
  clear h
  go_enter Try.func16, Try.ntmps16
  go_wp2
  go_ret
  exact ⟨rfl, rfl⟩

theorem get_none (h : HeapAt w hb ts n v) (ref fld : Int) (hr : val ts ref = none) :
    Calls Try.prog 12 #[.pointer (some ⟨hb, 0, none⟩), .int .i64 ref, .int .i64 fld] w fun e w' => e = .returned (.tuple #[vv (0, 0), .bool false]) ∧ Ch No w w' := by
  have h' := h.ch ((Ch.refl No w).alloc (.cells #[.int .i64 0, .int .i64 0] 23)) (fun _ _ _ _ h => h)
  have H := hid (of_none h' ref (val_none hr)); clear h h' hr
  go_enter Try.func12, Try.ntmps12
  go_wp2_with (go_at_call 23; refine H.out.mono ?_; rintro e w' ⟨rfl, rfl⟩)
  exact bodyPost_ret (v := .tuple #[.agg #[.int .i64 0, .int .i64 0], .bool false]) (by simp [results, Try.results12, go_sem]) rfl ⟨rfl, (Ch.refl No w).alloc _⟩

theorem get_some (h : HeapAt w hb ts n v) (ref fld : Int) (x : Th) (hr : val ts ref = some x) (hf : I64 fld) :
    Calls Try.prog 12 #[.pointer (some ⟨hb, 0, none⟩), .int .i64 ref, .int .i64 fld] w fun e w' => e = .returned (.tuple #[vv ((x.fs fld).getD (0, 0)), .bool true]) ∧ Ch No w w' := by
  have h' := h.ch ((Ch.refl No w).alloc (.cells #[.int .i64 0, .int .i64 0] 23)) (fun _ _ _ _ h => h)
  obtain ⟨h1, h2, h3⟩ := val_some hr
  obtain ⟨g, cap, y, rfl, hy, hc, hcall⟩ := of_some h' ref h1 h2
  obtain rfl : y = x := Option.some.inj (hy.symm.trans h3)
  have H := hid hcall
  have c0 := hc 2 (by omega)
  simp only [Th.cells, List.getElem?_cons_zero, List.getElem?_cons_succ] at c0
  have hrun := (h'.maps _ _ h3).1.look law3 Try.underlying52 (zero23 _) hf.key
  obtain ⟨p, hp⟩ : ∃ p, p = (y.fs fld).getD (0, 0) := ⟨_, rfl⟩
  have e : (((y.fs fld).map vv).getD (.agg #[.int .i64 0, .int .i64 0])) = .agg #[.int .i64 p.1, .int .i64 p.2] := by
    rw [hp]; cases y.fs fld <;> rfl
  rw [e] at hrun
  simp only [intK] at hrun
  rw [← hp]
  unfold vv
  clear hcall hc h h' hr hy h1 h2 h3 e hp
  go_enter Try.func12, Try.ntmps12
  go_wp2_with (go_at_call 23; refine H.out.mono ?_; rintro e w' ⟨rfl, rfl⟩)
  exact bodyPost_ret (v := .tuple #[.agg #[.int .i64 p.1, .int .i64 p.2], .bool true]) (by simp [results, Try.results12, go_sem]) rfl ⟨rfl, (Ch.refl No w).alloc _⟩

theorem elem_none (h : HeapAt w hb ts n v) (ref fld : Int) (hr : val ts ref = none) :
    Calls Try.prog 13 #[.pointer (some ⟨hb, 0, none⟩), .int .i64 ref, .int .i64 fld] w fun e w' => e = .returned (.tuple #[vv (0, 0), .bool false]) ∧ Ch No w w' := by
  have h' := h.ch ((Ch.refl No w).alloc (.cells #[.int .i64 0, .int .i64 0] 23)) (fun _ _ _ _ h => h)
  have H := hid (of_none h' ref (val_none hr)); clear h h' hr
  go_enter Try.func13, Try.ntmps13
  go_wp2_with (go_at_call 23; refine H.out.mono ?_; rintro e w' ⟨rfl, rfl⟩)
  exact bodyPost_ret (v := .tuple #[.agg #[.int .i64 0, .int .i64 0], .bool false]) (by simp [results, Try.results13, go_sem]) rfl ⟨rfl, (Ch.refl No w).alloc _⟩

theorem elem_some (h : HeapAt w hb ts n v) (ref fld : Int) (x : Th) (hr : val ts ref = some x) :
    Calls Try.prog 13 #[.pointer (some ⟨hb, 0, none⟩), .int .i64 ref, .int .i64 fld] w fun e w' => e = .returned (.tuple #[vv (x.el (fld % 4).toNat), .bool true]) ∧ Ch No w w' := by
  have h' := h.ch ((Ch.refl No w).alloc (.cells #[.int .i64 0, .int .i64 0] 23)) (fun _ _ _ _ h => h)
  obtain ⟨h1, h2, h3⟩ := val_some hr
  obtain ⟨g, cap, y, rfl, hy, hc, hcall⟩ := of_some h' ref h1 h2
  obtain rfl : y = x := Option.some.inj (hy.symm.trans h3)
  have H := hid hcall
  obtain ⟨q, hq4, hq⟩ : ∃ q : Nat, q < 4 ∧ fld % 4 = q := ⟨(fld % 4).toNat, by omega, by omega⟩
  have hpl : ∀ w, Calls Try.prog 24 #[.int .i64 fld] w fun e w' => e = .returned (.int .i64 q) ∧ w = w' := fun w => hq ▸ place_any fld w
  have HP := hid hpl
  have hl : (fld % 4).toNat = q := by omega
  rw [hl]
  obtain ⟨p, hp⟩ : ∃ p, p = y.el q := ⟨_, rfl⟩
  have c0 := hc (3 + 2 * q) (by omega)
  have c1 := hc (3 + 2 * q + 1) (by omega)
  have e0 : y.cells[3 + 2 * q]? = some (.int .i64 p.1) := by
    rw [hp]
    match q, hq4 with
    | 0, _ => rfl
    | 1, _ => rfl
    | 2, _ => rfl
    | 3, _ => rfl
  have e1 : y.cells[3 + 2 * q + 1]? = some (.int .i64 p.2) := by
    rw [hp]
    match q, hq4 with
    | 0, _ => rfl
    | 1, _ => rfl
    | 2, _ => rfl
    | 3, _ => rfl
  rw [e0, show (ref.toNat - 1) * 11 + (3 + 2 * q) = (ref.toNat - 1) * 11 + 3 + q * 2 from by omega] at c0
  rw [e1, show (ref.toNat - 1) * 11 + (3 + 2 * q + 1) = (ref.toNat - 1) * 11 + 3 + q * 2 + 1 from by omega] at c1
  rw [← hp]
  unfold vv
  clear hcall hc h h' hr hy h1 h2 h3 e0 e1 hp hl hpl hq
  go_enter Try.func13, Try.ntmps13
  go_wp2_with (first | (go_at_call 23; refine H.out.mono ?_; rintro e w' ⟨rfl, rfl⟩))
  go_region_with (go_at_call 24; refine (HP.out _).mono ?_; rintro e w' ⟨rfl, rfl⟩)
  all_goals go_wp2
  all_goals exact bodyPost_ret (v := .tuple #[.agg #[.int .i64 p.1, .int .i64 p.2], .bool true]) (by simp [results, Try.results13, go_sem]) rfl ⟨rfl, ((Ch.refl No w).alloc _).drew⟩

/-- a field is put -/
def putF (ts : List Th) (i : Nat) (k : Int) (x : Int × Int) : List Th := ts.modify i (fun t => { t with fs := fun k' => if k' = k then some x else t.fs k' })
/-- a place is set -/
def setE (ts : List Th) (i : Nat) (q : Nat) (x : Int × Int) : List Th := ts.modify i (fun t => { t with el := fun q' => if q' = q then x else t.el q' })

theorem put_none (h : HeapAt w hb ts n v) (ref fld : Int) (x : Int × Int) (hr : val ts ref = none) :
    Calls Try.prog 10 #[.pointer (some ⟨hb, 0, none⟩), .int .i64 ref, .int .i64 fld, vv x] w fun e w' => e = .returned (.bool false) ∧ Ch No w w' := by
  unfold vv
  have h' := h.ch ((Ch.refl No w).alloc (.cells #[.int .i64 x.1, .int .i64 x.2] 23)) (fun _ _ _ _ h => h)
  have H := hid (of_none h' ref (val_none hr)); clear h h' hr
  go_enter Try.func10, Try.ntmps10
  go_wp2_with (go_at_call 23; refine H.out.mono ?_; rintro e w' ⟨rfl, rfl⟩)
  go_ret
  exact ⟨rfl, (Ch.refl No w).alloc _⟩

theorem set_none (h : HeapAt w hb ts n v) (ref fld : Int) (x : Int × Int) (hr : val ts ref = none) :
    Calls Try.prog 11 #[.pointer (some ⟨hb, 0, none⟩), .int .i64 ref, .int .i64 fld, vv x] w fun e w' => e = .returned (.bool false) ∧ Ch No w w' := by
  unfold vv
  have h' := h.ch ((Ch.refl No w).alloc (.cells #[.int .i64 x.1, .int .i64 x.2] 23)) (fun _ _ _ _ h => h)
  have H := hid (of_none h' ref (val_none hr)); clear h h' hr
  go_enter Try.func11, Try.ntmps11
  go_wp2_with (go_at_call 23; refine H.out.mono ?_; rintro e w' ⟨rfl, rfl⟩)
  go_ret
  exact ⟨rfl, (Ch.refl No w).alloc _⟩

theorem HeapAt.putF {w1 : World} (h : HeapAt w hb ts n v) {i : Nat} {y : Th} (h3 : ts[i]? = some y) {fld : Int} {x : Int × Int}
    (hm1 : MapIs Try.prog 3 intK w1 y.mb (n + 1) (fun l => if l = fld then some (vv x) else (y.fs l).map vv)) (hg1 : w.grownBy w1 (some y.mb)) :
    HeapAt w1 hb (putF ts i fld x) (n + 1) v ∧ Ch (HS hb) w w1 := by
  obtain ⟨es0, c0, hm0⟩ := (h.maps _ _ h3).1.isMap
  have hch : Ch (fun k _ => k = y.mb) w w1 := (Ch.refl _ _).grown hg1 (fun k o e _ => by cases e; rfl)
  refine ⟨⟨?_, ?_, ?_, ?_⟩, hch.mono (fun k o ho e => ?_)⟩
  · refine hch.keep _ _ h.head (fun e => ?_)
    rw [← e, h.head] at hm0; cases hm0
  · have := ownsRow_ch h.row hch (fun gg cur hgg _ hcur e => by
      subst e
      rw [hm0] at hcur; cases hcur)
    rw [Ytldhlaabdhpdiaa.putF, flat_modify Th.cells (fun t => { t with fs := fun k' => if k' = fld then some x else t.fs k' }) (fun _ => rfl), List.length_modify]
    exact this
  · intro j z hz
    rw [Ytldhlaabdhpdiaa.putF, modify_get] at hz
    by_cases hi : i = j
    · subst hi
      rw [h3, if_pos rfl] at hz
      simp only [Option.map_some, Option.some.injEq] at hz
      subst hz
      refine ⟨?_, (h.maps _ _ h3).2⟩
      refine cast ?_ hm1
      congr 1
      funext k
      by_cases hk : k = fld <;> simp [hk]
    · rw [if_neg hi] at hz
      exact ⟨((h.maps j z hz).1.ch hch (fun es cl e => hi (h.apart _ _ _ _ h3 hz e.symm))).mono (by omega), (h.maps j z hz).2⟩
  · intro i' j a b ha hb' hab
    rw [Ytldhlaabdhpdiaa.putF, modify_get] at ha hb'
    have l1 : ∃ a', ts[i']? = some a' ∧ a'.mb = a.mb := by
      cases hq : ts[i']? with
      | none => rw [hq] at ha; split at ha <;> cases ha
      | some a' => rw [hq] at ha; split at ha <;> (cases ha; exact ⟨_, rfl, rfl⟩)
    have l2 : ∃ a', ts[j]? = some a' ∧ a'.mb = b.mb := by
      cases hq : ts[j]? with
      | none => rw [hq] at hb'; split at hb' <;> cases hb'
      | some a' => rw [hq] at hb'; split at hb' <;> (cases hb'; exact ⟨_, rfl, rfl⟩)
    obtain ⟨a', l1, e1⟩ := l1
    obtain ⟨b', l2, e2⟩ := l2
    exact h.apart _ _ _ _ l1 l2 (by rw [e1, e2, hab])
  · subst e
    rw [hm0] at ho; cases ho
    exact ⟨(h.maps _ _ h3).2, by simp [tag]⟩

theorem put_some (h : HeapAt w hb ts n v) (ref fld : Int) (x : Int × Int) (t : Th) (hr : val ts ref = some t) (hf : I64 fld) (hn : n < maxLen) :
    Calls Try.prog 10 #[.pointer (some ⟨hb, 0, none⟩), .int .i64 ref, .int .i64 fld, vv x] w fun e w' => e = .returned (.bool true) ∧ HeapAt w' hb (putF ts (ref.toNat - 1) fld x) (n + 1) v ∧ Ch (HS hb) w w' := by
  unfold vv
  have h' := h.ch ((Ch.refl No w).alloc (.cells #[.int .i64 x.1, .int .i64 x.2] 23)) (fun _ _ _ _ h => h)
  have hd := h.ch (((Ch.refl No w).alloc (.cells #[.int .i64 x.1, .int .i64 x.2] 23)).drew) (fun _ _ _ _ h => h)
  obtain ⟨h1, h2, h3⟩ := val_some hr
  obtain ⟨g, cap, y, rfl, hy, hc, hcall⟩ := of_some h' ref h1 h2
  obtain rfl : y = t := Option.some.inj (hy.symm.trans h3)
  have H := hid hcall
  have c0 := hc 2 (by omega)
  simp only [Th.cells, List.getElem?_cons_zero, List.getElem?_cons_succ] at c0
  obtain ⟨w1, hrun, hm1, hg1⟩ := (hd.maps _ _ h3).1.store law3 Try.underlying52 hn hf.key (vv x)
  simp only [intK, vv] at hrun
  have fin := hd.putF h3 hm1 hg1
  have F := hid (And.intro fin.1 ((((Ch.refl (HS hb) w).alloc _).drew).trans fin.2))
  clear fin hm1 hg1 hcall hc h h' hr hy h1 h2 h3 hd
  go_enter Try.func10, Try.ntmps10
  go_wp2_with (go_at_call 23; refine H.out.mono ?_; rintro e w' ⟨rfl, rfl⟩)
  go_region
  all_goals go_wp2
  all_goals go_ret
  all_goals exact ⟨rfl, F.out⟩

theorem cells_set (y : Th) (q : Nat) (hq : q < 4) (x : Int × Int) : Th.cells { y with el := fun q' => if q' = q then x else y.el q' } = (y.cells.set (3 + q * 2) (.int .i64 x.1)).set (3 + q * 2 + 1) (.int .i64 x.2) := by
  match q, hq with
  | 0, _ => rfl
  | 1, _ => rfl
  | 2, _ => rfl
  | 3, _ => rfl

theorem HeapAt.setE {g cap : Nat} (h : HeapAt w hb ts n (.slice (some ⟨g, 0, none⟩) ts.length cap)) {i : Nat} {y : Th} (h3 : ts[i]? = some y) {q : Nat} (hq : q < 4) (x : Int × Int) :
    HeapAt ((w.setCell ⟨g, i * 11 + 3 + q * 2, none⟩ (.int .i64 x.1)).setCell ⟨g, i * 11 + 3 + q * 2 + 1, none⟩ (.int .i64 x.2)) hb (setE ts i q x) n (.slice (some ⟨g, 0, none⟩) ts.length cap) ∧
    Ch (HS hb) w ((w.setCell ⟨g, i * 11 + 3 + q * 2, none⟩ (.int .i64 x.1)).setCell ⟨g, i * 11 + 3 + q * 2 + 1, none⟩ (.int .i64 x.2)) := by
  have r1 := h.row.stored (i * 11 + 3 + q * 2) (.int .i64 x.1)
  have r2 := r1.1.stored (i * 11 + 3 + q * 2 + 1) (.int .i64 x.2)
  obtain ⟨cur, hgb, hcur⟩ : ∃ cur, hb ≤ g ∧ w.heap[g]? = some (.cells cur 55 (0, 0)) := by
    rcases h.row.2 with ⟨h1, _⟩ | ⟨g', cap', cur, h1, h2, h4, _⟩
    · cases h1
    · cases h1; exact ⟨cur, h2, h4⟩
  have hch : Ch (fun k _ => k = g) w ((w.setCell ⟨g, i * 11 + 3 + q * 2, none⟩ (.int .i64 x.1)).setCell ⟨g, i * 11 + 3 + q * 2 + 1, none⟩ (.int .i64 x.2)) :=
    ((Ch.refl _ _).setCell (fun _ _ => rfl) _).setCell (fun _ _ => rfl) _
  have hse : ts.set i { y with el := fun q' => if q' = q then x else y.el q' } = Ytldhlaabdhpdiaa.setE ts i q x := by
    unfold Ytldhlaabdhpdiaa.setE
    rw [modify_set _ _ _ _ h3]
  refine ⟨⟨?_, ?_, ?_, ?_⟩, hch.mono (fun k o ho e => ?_)⟩
  · refine hch.keep _ _ h.head (fun e => ?_)
    rw [← e, h.head] at hcur; cases hcur
  · have hl : (Ytldhlaabdhpdiaa.setE ts i q x).length = ts.length := by rw [← hse, List.length_set]
    rw [hl, ← hse]
    have e := flat_set Th.cells 11 Th.len ts i (3 + q * 2) y { y with el := fun q' => if q' = q then x else y.el q' }
    have hi : i < ts.length := (List.getElem?_eq_some_iff.1 h3).1
    have e2 : (ts.set i { y with el := fun q' => if q' = q then x else y.el q' }).flatMap Th.cells = ((ts.flatMap Th.cells).set (i * 11 + 3 + q * 2) (.int .i64 x.1)).set (i * 11 + 3 + q * 2 + 1) (.int .i64 x.2) := by
      apply List.ext_getElem?
      intro m
      by_cases hm : m / 11 = i
      · obtain ⟨j, hj, rfl⟩ : ∃ j, j < 11 ∧ m = i * 11 + j := ⟨m % 11, by omega, by omega⟩
        rw [flat_get Th.cells 11 Th.len _ i j _ (by rw [List.getElem?_set_self hi]) hj, cells_set y q hq x, List.getElem?_set, List.getElem?_set, List.getElem?_set, List.getElem?_set,
          flat_get Th.cells 11 Th.len _ i j _ h3 hj]
        have L : (ts.flatMap Th.cells).length = ts.length * 11 := flat_length _ _ Th.len _
        have : i * 11 + 11 ≤ ts.length * 11 := by omega
        simp only [List.length_set, Th.len, L]
        have a1 : (i * 11 + 3 + q * 2 + 1 = i * 11 + j) ↔ (3 + q * 2 + 1 = j) := by omega
        have a2 : (i * 11 + 3 + q * 2 = i * 11 + j) ↔ (3 + q * 2 = j) := by omega
        have a3 : i * 11 + 3 + q * 2 + 1 < ts.length * 11 := by omega
        have a4 : i * 11 + 3 + q * 2 < ts.length * 11 := by omega
        have a5 : 3 + q * 2 + 1 < 11 := by omega
        have a6 : 3 + q * 2 < 11 := by omega
        simp only [a1, a2, a3, a4, a5, a6, if_true]
      · rw [List.getElem?_set_ne (by omega), List.getElem?_set_ne (by omega)]
        cases hz : ts[m / 11]? with
        | none =>
          rw [List.getElem?_eq_none, List.getElem?_eq_none]
          · rw [flat_length _ _ Th.len]; rw [List.getElem?_eq_none_iff] at hz; omega
          · rw [flat_length _ _ Th.len, List.length_set]; rw [List.getElem?_eq_none_iff] at hz; omega
        | some z =>
          have em : m = m / 11 * 11 + m % 11 := by omega
          rw [em, flat_get Th.cells 11 Th.len _ _ _ z (by rw [List.getElem?_set_ne (by omega)]; exact hz) (by omega), flat_get Th.cells 11 Th.len _ _ _ z hz (by omega)]
    rw [e2]
    exact r2.1
  · intro j z hz
    rw [← hse, List.getElem?_set] at hz
    have key : ∃ z', ts[j]? = some z' ∧ z'.mb = z.mb ∧ z'.fs = z.fs := by
      by_cases hij : i = j
      · subst hij
        rw [if_pos rfl, if_pos (List.getElem?_eq_some_iff.1 h3).1] at hz
        cases hz
        exact ⟨y, h3, rfl, rfl⟩
      · rw [if_neg hij] at hz
        exact ⟨z, hz, rfl, rfl⟩
    obtain ⟨z', hz', e1, e2⟩ := key
    rw [← e1, ← e2]
    exact ⟨(h.maps j z' hz').1.ch hch (fun es cl e => by
      obtain ⟨es0, c0, hm0⟩ := (h.maps j z' hz').1.isMap
      rw [e, hcur] at hm0; cases hm0), (h.maps j z' hz').2⟩
  · intro i' j a b ha hb' hab
    rw [← hse, List.getElem?_set] at ha hb'
    have l1 : ∃ a', ts[i']? = some a' ∧ a'.mb = a.mb := by
      by_cases hij : i = i'
      · subst hij
        rw [if_pos rfl, if_pos (List.getElem?_eq_some_iff.1 h3).1] at ha
        cases ha
        exact ⟨y, h3, rfl⟩
      · rw [if_neg hij] at ha
        exact ⟨_, ha, rfl⟩
    have l2 : ∃ a', ts[j]? = some a' ∧ a'.mb = b.mb := by
      by_cases hij : i = j
      · subst hij
        rw [if_pos rfl, if_pos (List.getElem?_eq_some_iff.1 h3).1] at hb'
        cases hb'
        exact ⟨y, h3, rfl⟩
      · rw [if_neg hij] at hb'
        exact ⟨_, hb', rfl⟩
    obtain ⟨a', l1, e1⟩ := l1
    obtain ⟨b', l2, e2⟩ := l2
    exact h.apart _ _ _ _ l1 l2 (by rw [e1, e2, hab])
  · subst e
    rw [hcur] at ho; cases ho
    exact ⟨hgb, by simp [tag]⟩
end
end Go.Proofs.Ytldhlaabdhpdiaa
