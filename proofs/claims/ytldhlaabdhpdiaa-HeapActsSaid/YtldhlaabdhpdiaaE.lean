/- The example of layer 13 answers true. -/
import Derived.Test.YtldhlaabdhpdiaaD
set_option linter.unusedVariables false
namespace Go.Proofs.Ytldhlaabdhpdiaa
open Go.RowKit Go.W
open Go.Maps (Keyed)
section
variable {w : World} {hb : Nat} {ts : List Th} {n : Nat} {v : Value}
theorem HeapAt.alloc (h : HeapAt w hb ts n v) (o : Obj) : HeapAt (w.alloc o) hb ts n v := h.ch ((Ch.refl No w).alloc o) (fun _ _ _ _ h => h)
theorem HeapAt.drew (h : HeapAt w hb ts n v) : HeapAt w.drew hb ts n v := h.ch ((Ch.refl No w).drew) (fun _ _ _ _ h => h)
theorem HeapAt.no {w' : World} (h : HeapAt w hb ts n v) (hc : Ch No w w') : HeapAt w' hb ts n v := h.ch hc (fun _ _ _ _ h => h)
end

theorem awake_any (w : World) : Calls Try.prog 7 #[] w fun e w' => e = .returned (.bool true) ∧ Ch No w w' := by
  go_enter Try.func7, Try.ntmps7
  go_wp2_with fail
  refine (new_any _).mono ?_
  rintro e w1 ⟨rfl, h1, c1⟩
  go_wp2_with fail
  refine (make_any h1 _ _ (by simp)).mono ?_
  rintro e w2 ⟨v2, rfl, h2, c2⟩
  go_wp2_with fail
  refine (put_some h2 1 0 (1, 0) _ rfl (I64.mk (by omega) (by omega)) (by decide)).mono ?_
  rintro e w3 ⟨rfl, h3, c3⟩
  go_wp2_with fail
  refine (set_some h3 1 5 (0, 7) _ rfl).mono ?_
  rintro e w4 ⟨rfl, h4, c4⟩
  go_wp2_with fail
  refine (get_some h4 1 0 _ rfl (I64.mk (by omega) (by omega))).mono ?_
  rintro e w5 ⟨rfl, c5⟩
  have h5 := h4.no c5
  unfold vv
  go_wp2_with fail
  refine (elem_some (h5.alloc _) 1 1 _ rfl).mono ?_
  rintro e w6 ⟨rfl, c6⟩
  have x5 := c6.keep _ _ (heap_alloc_new w5 (.cells #[.int .i64 1, .int .i64 0] 23)) (fun h => h)
  have s5 := lt_size x5
  have x50 := cellAt x5 0
  simp only [List.getElem?_toArray, List.getElem?_cons_zero] at x50
  unfold vv
  go_wp2
  go_ret
  refine ⟨rfl, ?_⟩
  have q : Ch (From w.heap.size) w w6 := (((((((c1.mono (fun _ _ _ h => absurd h id)).trans (c2.mono (fun _ _ _ h => h.1))).trans (c3.mono (fun _ _ _ h => h.1))).trans (c4.mono (fun _ _ _ h => h.1))).trans (c5.mono (fun _ _ _ h => absurd h id))).alloc _).trans (c6.mono (fun _ _ _ h => absurd h id)))
  have q' := q.alloc (.cells #[.int .i64 0, .int .i64 7] 23)
  exact q'.mono (fun k o ho h => by have := lt_size ho; unfold From at h; omega)

end Go.Proofs.Ytldhlaabdhpdiaa
