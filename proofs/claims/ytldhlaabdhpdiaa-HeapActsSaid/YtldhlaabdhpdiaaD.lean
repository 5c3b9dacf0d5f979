/- What Set, New and Make of the heap answer and change. -/
import Derived.Test.YtldhlaabdhpdiaaC
set_option linter.unusedVariables false
namespace Go.Proofs.Ytldhlaabdhpdiaa
open Go.RowKit Go.W
open Go.Maps (Keyed)
section
variable {w : World} {hb : Nat} {ts : List Th} {n : Nat} {v : Value}

theorem set_some (h : HeapAt w hb ts n v) (ref fld : Int) (x : Int × Int) (t : Th) (hr : val ts ref = some t) :
    Calls Try.prog 11 #[.pointer (some ⟨hb, 0, none⟩), .int .i64 ref, .int .i64 fld, vv x] w fun e w' => e = .returned (.bool true) ∧ HeapAt w' hb (setE ts (ref.toNat - 1) (fld % 4).toNat x) n v ∧ Ch (HS hb) w w' := by
  unfold vv
  have h' := h.ch ((Ch.refl No w).alloc (.cells #[.int .i64 x.1, .int .i64 x.2] 23)) (fun _ _ _ _ h => h)
  have hd := h.ch (((Ch.refl No w).alloc (.cells #[.int .i64 x.1, .int .i64 x.2] 23)).drew) (fun _ _ _ _ h => h)
  obtain ⟨h1, h2, h3⟩ := val_some hr
  obtain ⟨g, cap, y, rfl, hy, hc, hcall⟩ := of_some h' ref h1 h2
  obtain rfl : y = t := Option.some.inj (hy.symm.trans h3)
  have H := hid hcall
  obtain ⟨q, hq4, hq⟩ : ∃ q : Nat, q < 4 ∧ fld % 4 = q := ⟨(fld % 4).toNat, by omega, by omega⟩
  have hpl : ∀ w, Calls Try.prog 24 #[.int .i64 fld] w fun e w' => e = .returned (.int .i64 q) ∧ w = w' := fun w => hq ▸ place_any fld w
  have HP := hid hpl
  have hl : (fld % 4).toNat = q := by omega
  rw [hl]
  have c0 := hc (3 + 2 * q) (by omega)
  have c1 := hc (3 + 2 * q + 1) (by omega)
  obtain ⟨v0, e0⟩ : ∃ v0, y.cells[3 + 2 * q]? = some v0 := ⟨_, List.getElem?_eq_getElem (by rw [Th.len]; omega)⟩
  obtain ⟨v1, e1⟩ : ∃ v0, y.cells[3 + 2 * q + 1]? = some v0 := ⟨_, List.getElem?_eq_getElem (by rw [Th.len]; omega)⟩
  rw [e0, show (ref.toNat - 1) * 11 + (3 + 2 * q) = (ref.toNat - 1) * 11 + 3 + q * 2 from by omega] at c0
  rw [e1, show (ref.toNat - 1) * 11 + (3 + 2 * q + 1) = (ref.toNat - 1) * 11 + 3 + q * 2 + 1 from by omega] at c1
  have c1' : ∀ u, ((w.alloc (.cells #[.int .i64 x.1, .int .i64 x.2] 23)).setCell ⟨g, (ref.toNat - 1) * 11 + 3 + q * 2, none⟩ u).cell? ⟨g, (ref.toNat - 1) * 11 + 3 + q * 2 + 1, none⟩ = some v1 := by
    intro u
    rw [World.cell?_setCell_other]
    · exact c1
    · intro e; have := congrArg Addr.off e; simp only at this; omega
  have f0 := hd.row.frozenAt ((ref.toNat - 1) * 11 + 3 + q * 2)
  have f1 := hd.row.frozenAt ((ref.toNat - 1) * 11 + 3 + q * 2 + 1)
  simp only [World.frozen?_drew] at f0 f1
  have fin := hd.setE h3 hq4 x
  have F := hid (And.intro fin.1 ((((Ch.refl (HS hb) w).alloc _).drew).trans fin.2))
  clear fin hcall hc h h' hr hy h1 h2 h3 hd e0 e1 hl hpl hq
  go_enter Try.func11, Try.ntmps11
  go_wp2_with (first | (go_at_call 23; refine H.out.mono ?_; rintro e w' ⟨rfl, rfl⟩))
  go_region_with (go_at_call 24; refine (HP.out _).mono ?_; rintro e w' ⟨rfl, rfl⟩)
  all_goals go_wp2
  all_goals go_ret
  all_goals exact ⟨rfl, F.out⟩

theorem new_any (w : World) : Calls Try.prog 8 #[] w fun e w' => e = .returned (.pointer (some ⟨w.heap.size, 0, none⟩)) ∧ HeapAt w' w.heap.size [] 0 (.slice none 0 0) ∧ Ch No w w' := by
  have F : Hid (HeapAt (w.alloc (.cells #[.slice none 0 0] 51)) w.heap.size [] 0 (.slice none 0 0)) :=
    hid ⟨heap_alloc_new _ _, World.ownsRow_nil _ _ _ _, fun i x h => by simp at h, fun i j x y h => by simp at h⟩
  go_enter Try.func8, Try.ntmps8
  go_wp2
  go_ret
  exact ⟨rfl, F.out, (Ch.refl No w).alloc _⟩

def newTh (site : Int) (t : ByteArray) (mb : Nat) : Th := ⟨site, t, mb, fun _ => (0, 0), fun _ => none⟩

theorem info55' : (Try.prog.info? 55).map (fun i => (i.zero.map (fun z => z.cells.size), i.size, i.bytes)) = some (some 11, 11, 96) := by kernel_rfl

theorem HeapAt.make {w1 : World} {v' : Value} (h : HeapAt w hb ts n v) {site : Int} {t : ByteArray} {cs : Array Value}
    (hown' : w1.ownsRow hb 55 11 v' (ts.length + 1) (ts.flatMap Th.cells ++ (newTh site t w.heap.size).cells))
    (hg : ((w.alloc (.map #[] 0)).alloc (.cells cs 55)).grownBy w1 v.ownBlock) :
    HeapAt (w1.setCell ⟨hb, 0, none⟩ v') hb (ts ++ [newTh site t w.heap.size]) n v' ∧ Ch (HS hb) w (w1.setCell ⟨hb, 0, none⟩ v') := by
  have hrow : ∀ k, v.ownBlock = some k → hb ≤ k ∧ ∃ cur, w.heap[k]? = some (.cells cur 55 (0, 0)) := by
    intro k hk
    rcases h.row.2 with ⟨h1, _⟩ | ⟨g', cap', cur, h1, h2, h4, _⟩
    · rw [h1] at hk; cases hk
    · rw [h1] at hk; cases hk; exact ⟨h2, cur, h4⟩
  have hhb := lt_size h.head
  have hc1 : Ch (fun k _ => v.ownBlock = some k) w w1 := ((((Ch.refl _ _).alloc _).alloc _)).grown hg (fun k o e _ => e)
  have hc2 : Ch (fun k o => v.ownBlock = some k ∨ k = hb) w (w1.setCell ⟨hb, 0, none⟩ v') := (hc1.mono (fun k o _ e => .inl e)).setCell (fun _ _ => .inr rfl) _
  have hhead : w1.heap[hb]? = some (.cells #[v] 51 (0, 0)) := hc1.keep _ _ h.head (fun e => by
    obtain ⟨_, cur, hk⟩ := hrow _ e
    rw [h.head] at hk; cases hk)
  have mapne : ∀ (b : Nat) (es : Array MapEntry) (c : Nat), w.heap[b]? = some (.map es c) → ¬ (v.ownBlock = some b ∨ b = hb) := by
    rintro b es c hm (e | e)
    · obtain ⟨_, cur, hk⟩ := hrow _ e
      rw [hm] at hk; cases hk
    · subst e; rw [h.head] at hm; cases hm
  refine ⟨⟨?_, ?_, ?_, ?_⟩, hc2.mono (fun k o ho e => ?_)⟩
  · rw [setCell_heap hhead]; rfl
  · rw [List.length_append, List.flatMap_append]
    simp only [List.length_cons, List.length_nil, List.flatMap_cons, List.flatMap_nil, List.append_nil]
    refine ownsRow_ch hown' ((Ch.refl (fun k _ => k = hb) _).setCell (fun _ _ => rfl) _) (fun g cur hgg _ hcur e => ?_)
    subst e
    rw [hhead] at hcur; cases hcur
  · intro i x hx
    by_cases hi : i < ts.length
    · rw [List.getElem?_append_left hi] at hx
      obtain ⟨es, c, hm⟩ := (h.maps i x hx).1.isMap
      exact ⟨(h.maps i x hx).1.ch hc2 (fun es' c' e => mapne _ es c hm e), (h.maps i x hx).2⟩
    · rw [List.getElem?_append_right (by omega)] at hx
      have e0 : i - ts.length = 0 := by
        cases hk : i - ts.length with
        | zero => rfl
        | succ k => rw [hk] at hx; simp at hx
      rw [e0] at hx
      simp only [List.getElem?_cons_zero, Option.some.injEq] at hx
      subst hx
      refine ⟨?_, by simp only [newTh]; omega⟩
      have m0 := ((MapIs.made Try.prog 3 intK w).alloc (.cells cs 55)).mono (Nat.zero_le n)
      have m1 := m0.ch (S := fun k _ => v.ownBlock = some k) ((Ch.refl _ _).grown hg (fun k o e _ => e)) (fun es c e => by
        obtain ⟨_, cur, hk⟩ := hrow _ e
        have := lt_size hk; omega)
      exact m1.ch (S := fun k _ => k = hb) ((Ch.refl _ _).setCell (fun _ _ => rfl) _) (fun es c e => by omega)
  · have old : ∀ (i : Nat) (x : Th), (ts ++ [newTh site t w.heap.size])[i]? = some x → (i < ts.length ∧ ts[i]? = some x ∧ x.mb < w.heap.size) ∨ (i = ts.length ∧ x.mb = w.heap.size) := by
      intro i x hx
      by_cases hi : i < ts.length
      · rw [List.getElem?_append_left hi] at hx
        obtain ⟨es, c, hm⟩ := (h.maps i x hx).1.isMap
        exact .inl ⟨hi, hx, lt_size hm⟩
      · rw [List.getElem?_append_right (by omega)] at hx
        have e0 : i - ts.length = 0 := by
          cases hk : i - ts.length with
          | zero => rfl
          | succ k => rw [hk] at hx; simp at hx
        rw [e0] at hx
        simp only [List.getElem?_cons_zero, Option.some.injEq] at hx
        subst hx
        exact .inr ⟨by omega, rfl⟩
    intro i j x y hx hy e
    rcases old i x hx with ⟨_, h2, h3⟩ | ⟨h2, h3⟩ <;> rcases old j y hy with ⟨_, h5, h6⟩ | ⟨h5, h6⟩
    · exact h.apart _ _ _ _ h2 h5 e
    · omega
    · omega
    · omega
  · rcases e with e | e
    · obtain ⟨h1, cur, hk⟩ := hrow _ e
      rw [hk] at ho; cases ho
      exact ⟨h1, by simp [tag]⟩
    · subst e
      rw [h.head] at ho; cases ho
      exact ⟨Nat.le_refl _, by simp [tag]⟩

theorem make_any (h : HeapAt w hb ts n v) (site : Int) (t : ByteArray) (hl : ts.length ≤ 10000) :
    Calls Try.prog 9 #[.pointer (some ⟨hb, 0, none⟩), .int .i64 site, .string t] w fun e w' => ∃ v', e = .returned (.int .i64 (ts.length + 1 : Nat)) ∧ HeapAt w' hb (ts ++ [newTh site t w.heap.size]) n v' ∧ Ch (HS hb) w w' := by
  have hmm := @run_makeMap Try.prog
  obtain ⟨i0, z0, hi, hz0, hz2, hz1, hzb⟩ := infoOf info55'
  have HI := hid hi
  have HZ0 := hid hz0
  have HZ1 := hid hz1
  have HZ2 := hid hz2
  have HZB := hid hzb
  clear hi hz0 hz1 hz2 hzb
  obtain ⟨ao, cap, rfl, hm, _⟩ := h.slice
  have c0 := cellAt h.head 0
  simp only [List.getElem?_toArray, List.getElem?_cons_zero] at c0
  have hhb := lt_size h.head
  have hown := (h.row.alloc (.map #[] 0)).alloc (.cells (newTh site t w.heap.size).cells.toArray 55)
  go_enter Try.func9, Try.ntmps9
  go_wp2_with (at_builtin; go_must (refine wpList_append_own _ rfl _ _ 49 rfl hb 55 i0 z0 11 96 Try.underlying49 HI.out HZ0.out HZ1.out HZB.out HZ2.out (by decide) _ _ _ rfl hown ⟨w.heap.size + 1, 0, none⟩ 1 1 (newTh site t w.heap.size).cells rfl rfl ?c1 ?c2 ?c3 ?c4 ?c5 ?_))
  case c1 =>
    intro j u hj
    have hs : (w.alloc (.map #[] 0)).heap.size = w.heap.size + 1 := by simp
    rw [← hs, show ((⟨(w.alloc (.map #[] 0)).heap.size, 0, none⟩ : Addr).add j) = ⟨(w.alloc (.map #[] 0)).heap.size, j, none⟩ from by unfold Addr.add; split <;> simp_all]
    refine (World.cell?_alloc_new _ _ _ _).trans ?_
    simpa [newTh, Th.cells] using hj
  case c2 =>
    intro u hu
    simp only [Th.cells, List.mem_cons] at hu
    rcases hu with rfl | rfl | rfl | rfl | rfl | rfl | rfl | rfl | rfl | rfl | rfl | hu
    all_goals first | rfl | cases hu
  case c3 => unfold maxLen; omega
  case c4 => omega
  case c5 => simp; omega
  intro v' w1 hown' hgrow hnil
  obtain ⟨g', cap', cur', hv', hbg', hg', _, hcm⟩ := ownsRow_pos hown' (by omega)
  have F := hid (h.make hown' hgrow)
  have hhead : w1.heap[hb]? = some (.cells #[Value.slice ao ts.length cap] 51 (0, 0)) := by
    rw [hgrow.block hb (by simp; omega) (fun e => by
      rcases h.row.2 with ⟨h1, _⟩ | ⟨g', cap', cur, h1, h2, h4, _⟩
      · rw [h1] at e; cases e
      · rw [h1] at e; cases e
        rw [h.head] at h4; cases h4)]
    exact heapOld (heapOld h.head _) _
  have d0 := cellAt hhead 0
  have f0 := freeAt hhead 0
  simp only [List.getElem?_toArray, List.getElem?_cons_zero] at d0
  subst hv'
  clear hown hown' hgrow hnil h hm hg' hhead HI HZ0 HZ1 HZ2 HZB c0
  have hl2 : ts.length + 1 ≤ 9223372036854775807 := by omega
  go_wp2
  go_ret
  exact ⟨_, rfl, F.out⟩
end
end Go.Proofs.Ytldhlaabdhpdiaa
