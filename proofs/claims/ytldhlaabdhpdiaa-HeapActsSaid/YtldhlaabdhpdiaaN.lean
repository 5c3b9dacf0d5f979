/- What Make and Get of the reference's heap answer and change. -/
import Derived.Test.YtldhlaabdhpdiaaM
set_option linter.unusedVariables false
namespace Go.Proofs.Ytldhlaabdhpdiaa
open Go.RowKit Go.W
open Go.Maps (Keyed)
section
variable {w : World} {rb : Nat} {sites : List Int} {types : List ByteArray} {L : List RCell} {v1 v2 v3 : Value}

theorem info3' : (Try.prog.info? 3).map (fun i => (i.zero.map (fun z => z.cells.size), i.size, i.bytes)) = some (some 1, 1, 8) := by kernel_rfl
theorem info9' : (Try.prog.info? 9).map (fun i => (i.zero.map (fun z => z.cells.size), i.size, i.bytes)) = some (some 1, 1, 16) := by kernel_rfl
theorem info60' : (Try.prog.info? 60).map (fun i => (i.zero.map (fun z => z.cells.size), i.size, i.bytes)) = some (some 5, 5, 40) := by kernel_rfl

theorem one_news {w : World} {x : Value} {t : TypeId} : ∀ j u, [x][j]? = some u → (w.alloc (.cells #[x] t)).cell? ((⟨w.heap.size, 0, none⟩ : Addr).add j) = some u := by
  intro j u hj
  match j, hj with
  | 0, hj =>
    simp at hj; subst hj
    have : (⟨w.heap.size, 0, none⟩ : Addr).add 0 = ⟨w.heap.size, 0, none⟩ := rfl
    rw [this, World.cell?_alloc_new]; rfl

theorem RefAt.site {w1 : World} {v1' : Value} {x : Int} (h : RefAt w rb sites types L v1 v2 v3) {cs : Array Value} (hg : (w.alloc (.cells cs 3)).grownBy w1 v1.ownBlock) (ho : w1.ownsRow rb 3 1 v1' (sites.length + 1) (sites.map (Value.int .i64) ++ [.int .i64 x])) :
    w1.heap[rb]? = some (.cells #[v1, v2, v3] 45 (0, 0)) ∧ (w1.setCell ⟨rb, 0, none⟩ v1').heap[rb]? = some (.cells #[v1', v2, v3] 45 (0, 0)) ∧ Ch (Tg rb [4, 46]) w (w1.setCell ⟨rb, 0, none⟩ v1') ∧
    (w1.setCell ⟨rb, 0, none⟩ v1').ownsRow rb 3 1 v1' (sites.length + 1) ((sites ++ [x]).map (Value.int .i64)) ∧ (w1.setCell ⟨rb, 0, none⟩ v1').ownsRow rb 9 1 v2 types.length (types.map Value.string) := by
  have hrow : ∀ k, v1.ownBlock = some k → rb ≤ k ∧ ∃ cur, w.heap[k]? = some (.cells cur 3 (0, 0)) := by
    intro k hk
    rcases h.r1.2 with ⟨h1, _⟩ | ⟨g', cap', cur, h1, h2, h4, _⟩
    · rw [h1] at hk; cases hk
    · rw [h1] at hk; cases hk; exact ⟨h2, cur, h4⟩
  have c1 : Ch (Tg rb [4, 46]) w w1 := ((Ch.refl _ w).alloc _).grown hg (fun k o e ho => by
    obtain ⟨h1, cur, h2⟩ := hrow k e
    rw [h2] at ho; cases ho
    exact ⟨h1, by simp [tag]⟩)
  have hne : v1.ownBlock ≠ some rb := fun e => by
    obtain ⟨_, cur, h2⟩ := hrow _ e
    rw [h.head] at h2; cases h2
  have hh : w1.heap[rb]? = some (.cells #[v1, v2, v3] 45 (0, 0)) := by
    rw [hg.block rb (by simp; have := lt_size h.head; omega) (fun e => hne e.symm)]
    exact heapOld h.head _
  have c2 : Ch (Tg rb [4, 46]) w (w1.setCell ⟨rb, 0, none⟩ v1') := c1.setCell (fun o ho => by
    rw [h.head] at ho; cases ho
    exact ⟨Nat.le_refl _, by simp [tag]⟩) _
  refine ⟨hh, by rw [setCell_heap hh]; rfl, c2, ?_, ownsRow_ch h.r2 c2 (fun g cur _ hg _ hs => by have := hs.2; simp [tag] at this)⟩
  rw [List.map_append]
  exact ownsRow_ch ho ((Ch.refl (fun k _ => k = rb) _).setCell (fun _ _ => rfl) _) (fun g cur _ _ hcur e => by subst e; rw [hh] at hcur; cases hcur)

theorem RefAt.type {w0 w2 : World} {v2' : Value} {t : ByteArray} {site : Int} {v1' : Value} (h : RefAt w rb sites types L v1 v2 v3) (hd : w0.heap[rb]? = some (.cells #[v1', v2, v3] 45 (0, 0))) (hc : Ch (Tg rb [4, 46]) w w0)
    (o1 : w0.ownsRow rb 3 1 v1' (sites.length + 1) ((sites ++ [site]).map (Value.int .i64))) (o2 : w0.ownsRow rb 9 1 v2 types.length (types.map Value.string))
    {cs : Array Value} (hg : (w0.alloc (.cells cs 9)).grownBy w2 v2.ownBlock) (ho : w2.ownsRow rb 9 1 v2' (types.length + 1) (types.map Value.string ++ [.string t])) :
    w2.heap[rb]? = some (.cells #[v1', v2, v3] 45 (0, 0)) ∧ RefAt (w2.setCell ⟨rb, 1, none⟩ v2') rb (sites ++ [site]) (types ++ [t]) L v1' v2' v3 ∧ Ch (RS rb) w (w2.setCell ⟨rb, 1, none⟩ v2') := by
  have hrow : ∀ k, v2.ownBlock = some k → rb ≤ k ∧ ∃ cur, w0.heap[k]? = some (.cells cur 9 (0, 0)) := by
    intro k hk
    rcases o2.2 with ⟨h1, _⟩ | ⟨g', cap', cur, h1, h2, h4, _⟩
    · rw [h1] at hk; cases hk
    · rw [h1] at hk; cases hk; exact ⟨h2, cur, h4⟩
  have c1 : Ch (Tg rb [10, 46]) w0 w2 := ((Ch.refl _ w0).alloc _).grown hg (fun k o e ho => by
    obtain ⟨h1, cur, h2⟩ := hrow k e
    rw [h2] at ho; cases ho
    exact ⟨h1, by simp [tag]⟩)
  have hne : v2.ownBlock ≠ some rb := fun e => by
    obtain ⟨_, cur, h2⟩ := hrow _ e
    rw [hd] at h2; cases h2
  have hh : w2.heap[rb]? = some (.cells #[v1', v2, v3] 45 (0, 0)) := by
    rw [hg.block rb (by simp; have := lt_size hd; omega) (fun e => hne e.symm)]
    exact heapOld hd _
  have c2 : Ch (Tg rb [10, 46]) w0 (w2.setCell ⟨rb, 1, none⟩ v2') := c1.setCell (fun o ho => by
    rw [hd] at ho; cases ho
    exact ⟨Nat.le_refl _, by simp [tag]⟩) _
  have call : Ch (RS rb) w (w2.setCell ⟨rb, 1, none⟩ v2') := (hc.mono (fun k o _ hs => ⟨hs.1, by have := hs.2; simp at this ⊢; omega⟩)).trans (c2.mono (fun k o _ hs => ⟨hs.1, by have := hs.2; simp at this ⊢; omega⟩))
  refine ⟨hh, ⟨by rw [setCell_heap hh]; rfl, ?_, ?_, ?_, by simp [h.same]⟩, call⟩
  · rw [List.length_append]
    exact ownsRow_ch o1 c2 (fun g cur _ hg _ hs => by have := hs.2; simp [tag] at this)
  · rw [List.length_append, List.map_append]
    exact ownsRow_ch ho ((Ch.refl (fun k _ => k = rb) _).setCell (fun _ _ => rfl) _) (fun g cur _ _ hcur e => by subst e; rw [hh] at hcur; cases hcur)
  · exact ownsRow_ch (ownsRow_ch h.r3 hc (fun g cur _ hg _ hs => by have := hs.2; simp [tag] at this)) c2 (fun g cur _ hg _ hs => by have := hs.2; simp [tag] at this)

theorem rmake_any (h : RefAt w rb sites types L v1 v2 v3) (site : Int) (t : ByteArray) (hl : sites.length ≤ 10000) :
    Calls Try.prog 18 #[.pointer (some ⟨rb, 0, none⟩), .int .i64 site, .string t] w fun e w' => ∃ v1' v2', e = .returned (.int .i64 (sites.length + 1 : Nat)) ∧ RefAt w' rb (sites ++ [site]) (types ++ [t]) L v1' v2' v3 ∧ Ch (RS rb) w w' := by
  obtain ⟨i3, z3, hi3, hz30, hz32, hz31, hz3b⟩ := infoOf info3'
  obtain ⟨i9, z9, hi9, hz90, hz92, hz91, hz9b⟩ := infoOf info9'
  have HI := hid (And.intro hi3 (And.intro hz30 (And.intro hz31 (And.intro hz3b hz32))))
  have HJ := hid (And.intro hi9 (And.intro hz90 (And.intro hz91 (And.intro hz9b hz92))))
  clear hi3 hz30 hz32 hz31 hz3b hi9 hz90 hz92 hz91 hz9b
  obtain ⟨ao, cap, rfl, hm, _⟩ := sliceOf h.r1
  obtain ⟨ao2, cap2, rfl, hm2, _⟩ := sliceOf h.r2
  obtain ⟨c1, c2, c3⟩ := three h.head
  have hrb := lt_size h.head
  go_enter Try.func18, Try.ntmps18
  go_wp2_with (at_builtin; go_must (refine wpList_append_own _ rfl _ _ 41 rfl rb 3 i3 z3 1 8 Try.underlying41 HI.out.1 HI.out.2.1 HI.out.2.2.1 HI.out.2.2.2.1 HI.out.2.2.2.2 (by decide) _ _ _ rfl (h.r1.alloc _) ⟨w.heap.size, 0, none⟩ 1 1 [.int .i64 site] rfl rfl one_news (by intro u hu; simp at hu; subst hu; rfl) (by unfold maxLen; omega) (by omega) (by simp; omega) ?_))
  intro v1' w1 hown1 hgrow1 _
  obtain ⟨g1, cap1', cur1, hv1, _, _, _, _⟩ := ownsRow_pos hown1 (by omega)
  obtain ⟨d1, d2, d3, d4, d5⟩ := h.site hgrow1 hown1
  have d6 := three d2
  have d7 := freeAt d2 1
  have e1 := three d1
  have e7 := freeAt d1 0
  subst hv1
  have hsz : rb < w1.heap.size := lt_size d1
  have H1 := hid d2
  have H3 := hid d3
  have H4 := hid d4
  have H5 := hid d5
  have HH := hid h
  have hl2 : types.length ≤ 10000 := by have := h.same; omega
  clear hown1 hgrow1 d1 d2 d3 d4 d5 h c1 c2 c3
  obtain ⟨e10, e11, e12⟩ := e1
  obtain ⟨d60, d61, d62⟩ := d6
  obtain ⟨w2, hw2⟩ : ∃ w2, w2 = w1.setCell ⟨rb, 0, none⟩ (.slice (some ⟨g1, 0, none⟩) (sites.length + 1) cap1') := ⟨_, rfl⟩
  have hs2 : w1.heap.size = w2.heap.size := by rw [hw2]; simp
  have HS2 := hid hs2
  clear hs2
  go_wp2_with (at_builtin; go_must (refine wpList_append_own _ rfl _ _ 42 rfl rb 9 i9 z9 1 16 Try.underlying42 HJ.out.1 HJ.out.2.1 HJ.out.2.2.1 HJ.out.2.2.2.1 HJ.out.2.2.2.2 (by decide) _ _ _ rfl (H5.out.alloc _) ⟨w1.heap.size, 0, none⟩ 1 1 [.string t] rfl rfl ?cn (by intro u hu; simp at hu; subst hu; rfl) (by unfold maxLen; omega) (by omega) (by simp; omega) ?_))
  case cn =>
    intro j u hj
    have := one_news (w := w2) (x := .string t) (t := 9) j u hj
    rw [hw2] at this
    simpa using this
  intro v2' w3 hown2 hgrow2 _
  obtain ⟨g2, cap2', cur2, hv2, _, _, _, _⟩ := ownsRow_pos hown2 (by omega)
  obtain ⟨f1, f2, f3⟩ := HH.out.type H1.out H3.out H4.out H5.out hgrow2 hown2
  obtain ⟨k1, k2, k3⟩ := three f1
  have k7 := freeAt f1 1
  have F := hid (And.intro f2 f3)
  subst hv2
  clear hown2 hgrow2 f1 f2 f3 hw2
  have hl3 : sites.length + 1 ≤ 9223372036854775807 := by omega
  go_wp2
  go_ret
  exact ⟨_, _, rfl, F.out⟩
end
end Go.Proofs.Ytldhlaabdhpdiaa
