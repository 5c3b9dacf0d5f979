/- HeapLast answers true, walked. -/
import Derived.Test.YtldhlaabdhpdiaaE
set_option linter.unusedVariables false
namespace Go.Proofs.Ytldhlaabdhpdiaa
open Go.RowKit Go.W
open Go.Maps (Keyed)

theorem keepHS {hb : Nat} {w w' : World} (c : Ch (HS hb) w w') {k : Nat} {cs : Array Value} {fz : Nat × Nat} (h : w.heap[k]? = some (.cells cs 23 fz)) : w'.heap[k]? = some (.cells cs 23 fz) :=
  c.keep _ _ h (fun h => by have := h.2; simp [tag] at this)

theorem two {w : World} {k : Nat} {u v : Value} {t : TypeId} {fz : Nat × Nat} (h : w.heap[k]? = some (.cells #[u, v] t fz)) : w.cell? ⟨k, 0, none⟩ = some u ∧ w.cell? ⟨k, 1, none⟩ = some v :=
  ⟨cellAt h 0, cellAt h 1⟩

theorem xorI64 (i : Int) (c : Nat) (hc : c % 4 = 0) (hc2 : c < 18446744073709551616) : I64 (bits .xor .i64 i c) := I64.mk (xorMod i c hc hc2).2.1 (xorMod i c hc hc2).1

theorem xor4 (i : Int) : bits .xor .i64 i 4 % 4 = i % 4 := (xorMod i 4 (by decide) (by decide)).2.2
theorem xor40 (i : Int) : bits .xor .i64 i 1099511627776 % 4 = i % 4 := (xorMod i 1099511627776 (by decide) (by decide)).2.2

theorem last_any (at' : Int) (x y : Int × Int) (w : World) (hat : I64 at') :
    Calls Try.prog 3 #[.int .i64 at', vv x, vv y] w fun e w' => e = .returned (.bool true) ∧ Ch No w w' := by
  obtain ⟨x1, x2⟩ := x
  obtain ⟨y1, y2⟩ := y
  unfold vv
  go_enter Try.func3, Try.ntmps3
  go_wp2_with fail
  refine (awake_any _).mono ?_
  rintro e w1 ⟨rfl, c1⟩
  have a1 := c1.keep _ _ (heapOld (heap_alloc_new w (.cells #[.int .i64 x1, .int .i64 x2] 23)) (.cells #[.int .i64 y1, .int .i64 y2] 23)) (fun h => h)
  have b1 := c1.keep (w.heap.size + 1) _ (heap_alloc2_new w (.cells #[.int .i64 x1, .int .i64 x2] 23) (.cells #[.int .i64 y1, .int .i64 y2] 23)) (fun h => h)
  go_wp2_with fail
  refine (new_any _).mono ?_
  rintro e w2 ⟨rfl, h2, c2⟩
  have a2 := c2.keep _ _ a1 (fun h => h)
  have b2 := c2.keep _ _ b1 (fun h => h)
  clear a1 b1
  go_wp2_with fail
  refine (make_any h2 _ _ (by simp)).mono ?_
  rintro e w3 ⟨v3, rfl, h3, c3⟩
  have a3 := keepHS c3 a2
  have b3 := keepHS c3 b2
  clear a2 b2
  obtain ⟨a30, a31⟩ := two a3
  go_wp2_with fail
  refine (put_some h3 1 at' (x1, x2) _ rfl hat (by decide)).mono ?_
  rintro e w4 ⟨rfl, h4, c4⟩
  have a4 := keepHS c4 a3
  have b4 := keepHS c4 b3
  clear a3 b3 a30 a31
  obtain ⟨b40, b41⟩ := two b4
  go_wp2_with fail
  refine (put_some h4 1 at' (y1, y2) _ rfl hat (by decide)).mono ?_
  rintro e w5 ⟨rfl, h5, c5⟩
  have a5 := keepHS c5 a4
  have b5 := keepHS c5 b4
  clear a4 b4 b40 b41
  obtain ⟨b50, b51⟩ := two b5
  go_wp2_with fail
  refine (set_some h5 1 at' (y1, y2) _ rfl).mono ?_
  rintro e w6 ⟨rfl, h6, c6⟩
  have a6 := keepHS c6 a5
  have b6 := keepHS c6 b5
  clear a5 b5 b50 b51
  obtain ⟨a60, a61⟩ := two a6
  go_wp2_with fail
  refine (set_some h6 1 _ (x1, x2) _ rfl).mono ?_
  rintro e w7 ⟨rfl, h7, c7⟩
  rw [xor4] at h7
  have a7 := keepHS c7 a6
  have b7 := keepHS c7 b6
  clear a6 b6 a60 a61
  go_wp2_with fail
  refine (get_some h7 1 at' _ rfl hat).mono ?_
  rintro e w8 ⟨rfl, c8⟩
  have a8 := c8.keep _ _ a7 (fun h => h)
  have b8 := c8.keep _ _ b7 (fun h => h)
  have h8 := h7.no c8
  clear a7 b7
  simp only [ite_true, Option.getD_some]
  unfold vv
  go_wp2_with fail
  have a9 := heapOld a8 (.cells #[.int .i64 y1, .int .i64 y2] 23)
  have b9 := heapOld b8 (.cells #[.int .i64 y1, .int .i64 y2] 23)
  have d9 := heap_alloc_new w8 (.cells #[.int .i64 y1, .int .i64 y2] 23)
  refine (elem_some (h8.alloc _) 1 at' _ rfl).mono ?_
  rintro e w10 ⟨rfl, c10⟩
  have h10 := (h8.alloc (.cells #[.int .i64 y1, .int .i64 y2] 23)).no c10
  have a10 := c10.keep _ _ a9 (fun h => h)
  have b10 := c10.keep _ _ b9 (fun h => h)
  have d10 := c10.keep _ _ d9 (fun h => h)
  clear a9 b9 d9 a8 b8
  simp only [ite_true]
  unfold vv
  go_wp2_with fail
  have a11 := heapOld a10 (.cells #[.int .i64 x1, .int .i64 x2] 23)
  have b11 := heapOld b10 (.cells #[.int .i64 x1, .int .i64 x2] 23)
  have d11 := heapOld d10 (.cells #[.int .i64 x1, .int .i64 x2] 23)
  have e11 := heap_alloc_new w10 (.cells #[.int .i64 x1, .int .i64 x2] 23)
  refine (elem_some (h10.alloc _) 1 _ _ rfl).mono ?_
  rintro e w12 ⟨rfl, c12⟩
  rw [xor40]
  have a12 := c12.keep _ _ a11 (fun h => h)
  have b12 := c12.keep _ _ b11 (fun h => h)
  have d12 := c12.keep _ _ d11 (fun h => h)
  have e12 := c12.keep _ _ e11 (fun h => h)
  have sa := lt_size a12
  have sb := lt_size b12
  have sd := lt_size d12
  have se := lt_size e12
  obtain ⟨xa, ya⟩ := two a12
  obtain ⟨xb, yb⟩ := two b12
  obtain ⟨xd, yd⟩ := two d12
  obtain ⟨xe, ye⟩ := two e12
  have F : Hid (Ch No w (w12.alloc (.cells #[.int .i64 x1, .int .i64 x2] 23))) := hid (by
    have q : Ch (From w1.heap.size) w1 (w12.alloc (.cells #[.int .i64 x1, .int .i64 x2] 23)) :=
      ((((((((((c2.mono (fun _ _ _ h => absurd h id)).trans (c3.mono (fun _ _ _ h => h.1))).trans (c4.mono (fun _ _ _ h => h.1))).trans (c5.mono (fun _ _ _ h => h.1))).trans (c6.mono (fun _ _ _ h => h.1))).trans (c7.mono (fun _ _ _ h => h.1))).trans (c8.mono (fun _ _ _ h => absurd h id))).alloc _).trans (c10.mono (fun _ _ _ h => absurd h id))).alloc _).trans (c12.mono (fun _ _ _ h => absurd h id)) |>.alloc _
    have q1 : Ch No w1 (w12.alloc (.cells #[.int .i64 x1, .int .i64 x2] 23)) := q.mono (fun k o ho h => by have := lt_size ho; unfold From at h; omega)
    exact (((Ch.refl No w).alloc _).alloc _).trans (c1.trans q1))
  clear a12 b12 d12 e12 a11 b11 d11 e11 a10 b10 d10 c1 c2 c3 c4 c5 c6 c7 c8 c10 c12 h2 h3 h4 h5 h6 h7 h8 h10
  simp only [ite_true]
  unfold vv
  go_wp2
  go_ret
  exact ⟨rfl, F.out⟩
end Go.Proofs.Ytldhlaabdhpdiaa
