/- What the claim uses: part 30. -/
import Derived.Test.YtgjpgfedlgdjhaaGreatDoorZbc
section
set_option linter.unusedVariables false
set_option linter.unusedSimpArgs false
set_option maxRecDepth 8192
namespace Go.Proofs.YtgjpgfedlgdjhaaGreatDoor
open Go.RowKit Go.W
theorem put6 {w : World} {b : Nat} {x0 x1 x2 x3 x4 x5 : Value} {t : TypeId} (h : w.heap[b]? = some (.cells #[x0, x1, x2, x3, x4, x5] t (0, 0))) (v0 v1 v2 v3 v4 v5 : Value) :
   ∃ wf, (((((w.setCell ⟨b, 0, none⟩ v0).setCell ⟨b, 1, none⟩ v1).setCell ⟨b, 2, none⟩ v2).setCell ⟨b, 3, none⟩ v3).setCell ⟨b, 4, none⟩ v4).setCell ⟨b, 5, none⟩ v5 = wf ∧ wf.heap[b]? = some (.cells #[v0, v1, v2, v3, v4, v5] t (0, 0)) ∧ Ch (fun k _ => k = b) w wf := by
 refine ⟨_, rfl, ?_, ((((((Ch.refl _ _).setCell (fun _ _ => rfl) _).setCell (fun _ _ => rfl) _).setCell (fun _ _ => rfl) _).setCell (fun _ _ => rfl) _).setCell (fun _ _ => rfl) _).setCell (fun _ _ => rfl) _⟩
 rw [setCell_heap (setCell_heap (setCell_heap (setCell_heap (setCell_heap (setCell_heap h 0 v0) 1 v1) 2 v2) 3 v3) 4 v4) 5 v5]
 rfl
theorem Ch.newOnly {S : Nat → Obj → Prop} {a b c : World} (h : Ch No a b) (h' : Ch S b c) (hs : ∀ k o, b.heap[k]? = some o → S k o → a.heap.size ≤ k) : Ch No a c :=
 ⟨h'.os.trans h.os, h'.tape.trans h.tape, h'.output.trans h.output, Nat.le_trans h.size h'.size, fun k o ho _ => h'.keep k o (h.keep k o ho (fun h => h)) (fun hx => by
   have := hs k o (h.keep k o ho (fun h => h)) hx
   have := lt_size ho
   omega)⟩
set_option maxHeartbeats 8000000 in
theorem mmethod {w : World} {x : Mt} (hp : VarsAt w (.slice x.pa x.ps.length x.pc) x.ps) (hl : x.ps.length ≤ 1000) (ci : Int) :
   Calls Tryz.prog 79 #[.int .i64 ci, .agg #[.string x.ret, .string x.nm, .bool x.st, .bool x.ba, .slice x.pa x.ps.length x.pc, .slice x.s5.1 x.s5.2.1 x.s5.2.2, .slice x.s6.1 x.s6.2.1 x.s6.2.2, .int .i64 x.line, .int .i64 x.col]] w fun e w' => ∃ sa sn sc, e = .returned (mbV ci x.nm x.ret sa sn sc x.st x.ba) ∧ StrsOwn w' w.heap.size (.slice sa sn sc) (x.ps.map Vr.ty) ∧ Ch No w w' := by
 unfold mbV
 obtain ⟨n, hn⟩ : ∃ n, x.ps.length = n := ⟨_, rfl⟩
 obtain ⟨pa, hpa⟩ : ∃ pa, x.pa = pa := ⟨_, rfl⟩
 rw [hn, hpa] at hp
 rw [hn] at hl
 rw [hn, hpa]
 have HP0 := hid hp
 clear hpa
 obtain ⟨w1, hw1⟩ : ∃ w1, w.alloc (.cells #[.string x.ret, .string x.nm, .bool x.st, .bool x.ba, .slice pa n x.pc, .slice x.s5.1 x.s5.2.1 x.s5.2.2, .slice x.s6.1 x.s6.2.1 x.s6.2.2, .int .i64 x.line, .int .i64 x.col] 29) = w1 := ⟨_, rfl⟩
 have hb1 := heap_alloc_new w (.cells #[.string x.ret, .string x.nm, .bool x.st, .bool x.ba, .slice pa n x.pc, .slice x.s5.1 x.s5.2.1 x.s5.2.2, .slice x.s6.1 x.s6.2.1 x.s6.2.2, .int .i64 x.line, .int .i64 x.col] 29)
 have hc1 := (Ch.refl No w).alloc (.cells #[.string x.ret, .string x.nm, .bool x.st, .bool x.ba, .slice pa n x.pc, .slice x.s5.1 x.s5.2.1 x.s5.2.2, .slice x.s6.1 x.s6.2.1 x.s6.2.2, .int .i64 x.line, .int .i64 x.col] 29)
 rw [hw1] at hb1 hc1
 obtain ⟨w2, hw2⟩ : ∃ w2, w1.alloc (.cells #[.int .i64 0, .string ⟨#[]⟩, .string ⟨#[]⟩, .slice none 0 0, .bool false, .bool false] 54) = w2 := ⟨_, rfl⟩
 have hb2 := heap_alloc_new w1 (.cells #[.int .i64 0, .string ⟨#[]⟩, .string ⟨#[]⟩, .slice none 0 0, .bool false, .bool false] 54)
 have hc2 := (Ch.refl No w1).alloc (.cells #[.int .i64 0, .string ⟨#[]⟩, .string ⟨#[]⟩, .slice none 0 0, .bool false, .bool false] 54)
 rw [hw2] at hb2 hc2
 obtain ⟨w3, hw3⟩ : ∃ w3, w2.alloc (.cells #[.int .i64 ci, .string x.nm, .string x.ret, .slice none 0 0, .bool x.st, .bool x.ba] 54) = w3 := ⟨_, rfl⟩
 have hb3 := heap_alloc_new w2 (.cells #[.int .i64 ci, .string x.nm, .string x.ret, .slice none 0 0, .bool x.st, .bool x.ba] 54)
 have hc3 := (Ch.refl No w2).alloc (.cells #[.int .i64 ci, .string x.nm, .string x.ret, .slice none 0 0, .bool x.st, .bool x.ba] 54)
 rw [hw3] at hb3 hc3
 obtain ⟨-, hcap, hmax⟩ := hp.shape
 unfold maxLen at hmax
 rw [hn] at hcap
 have HN := hid hn
 have HC13 := hid (hc1.trans (hc2.trans hc3))
 have HP := hid (hp.no HC13.out)
 have HB1 := hid ((hc2.trans hc3).keep _ _ hb1 (fun h => h))
 have HB2 := hid (hc3.keep _ _ hb2 (fun h => h))
 have HB3 := hid hb3
 have y1 : w.heap.size < w1.heap.size := lt_size hb1
 have y2 : w1.heap.size < w2.heap.size := lt_size hb2
 have y3 : w2.heap.size < w3.heap.size := lt_size hb3
 have hb12 := hc2.keep _ _ hb1 (fun h => h)
 have d0 := cellAt hb12 0
 have d1 := cellAt hb12 1
 have d2 := cellAt hb12 2
 have d3 := cellAt hb12 3
 have d4 := cellAt hb12 4
 have g4 := cellAt HB1.out 4
 clear hn hp hc1 hc2 hc3 hb2 hb3
 go_enter Tryz.func79, Tryz.ntmps79
 go_wp2_with fail
 clear hw1 hw2 hw3 d0 d1 d2 d3 d4 g4
 go_loopg [21, 7] n (fun g s21 s7 wr => ∃ k : Nat, k ≤ n ∧ n - k ≤ g ∧ s21 = .int .i64 k ∧ Hid (∃ sa sc, wr.heap[w2.heap.size]? = some (.cells #[.int .i64 ci, .string x.nm, .string x.ret, .slice sa k sc, .bool x.st, .bool x.ba] 54 (0, 0)) ∧ StrsOwn wr w3.heap.size (.slice sa k sc) ((x.ps.take k).map Vr.ty)) ∧ Hid (Ch (fun j _ => j = w2.heap.size) w3 wr))
 case atStart => exact ⟨0, Nat.zero_le _, by omega, rfl, hid ⟨none, 0, HB3.out, StrsOwn.nil _ _⟩, hid (Ch.refl _ _)⟩
 case round =>
   obtain ⟨k, hk, hg, rfl, HS, HC⟩ := hrel
   have hs := HS.out
   obtain ⟨sa, sc, hb3, hown⟩ := hs
   have HOW := hid hown
   have HB3R := hid hb3
   have hz3 := HC.out.size
   clear HS hown
   have e0 := cellAt hb3 0
   have e1 := cellAt hb3 1
   have e2 := cellAt hb3 2
   have e3 := cellAt hb3 3
   have e4 := cellAt hb3 4
   have e5 := cellAt hb3 5
   cases hd : decide (k < n) with
   | false =>
     have hkl : ¬ k < n := by simpa using hd
     have hb2r := HC.out.keep _ _ HB2.out (fun h => by have h' : w1.heap.size = w2.heap.size := h; omega)
     have HB2R := hid hb2r
     have a0 := cellAt hb2r 0
     have a1 := cellAt hb2r 1
     have a2 := cellAt hb2r 2
     have a3 := cellAt hb2r 3
     have a4 := cellAt hb2r 4
     have a5 := cellAt hb2r 5
     have f0 := freeAt hb2r 0
     have f1 := freeAt hb2r 1
     have f2 := freeAt hb2r 2
     have f3 := freeAt hb2r 3
     have f4 := freeAt hb2r 4
     have f5 := freeAt hb2r 5
     clear hb2r hb3
     go_wp2_with fail
     obtain ⟨wf, hwf, hfb, hfc⟩ := put6 HB2R.out (.int .i64 ci) (.string x.nm) (.string x.ret) (.slice sa k sc) (.bool x.st) (.bool x.ba)
     rw [hwf]
     have k0 := cellAt hfb 0
     have k1 := cellAt hfb 1
     have k2 := cellAt hfb 2
     have k3 := cellAt hfb 3
     have k4 := cellAt hfb 4
     have k5 := cellAt hfb 5
     refine bodyPost_ret (v := .agg #[.int .i64 ci, .string x.nm, .string x.ret, .slice sa k sc, .bool x.st, .bool x.ba]) (by simp [results, Tryz.results79, go_sem, k0, k1, k2, k3, k4, k5]) rfl ?_
     refine ⟨sa, k, sc, rfl, ?_, ?_⟩
     · have h1 := HOW.out
       rw [List.take_of_length_le (by have := HN.out; omega)] at h1
       exact (h1.ch hfc (fun g cur hg hbg e => by have e' : g = w1.heap.size := e; omega)).base (by omega)
     · exact Ch.newOnly (Ch.newOnly HC13.out HC.out (fun k _ _ e => by have e' : k = w2.heap.size := e; omega)) hfc (fun k _ _ e => by have e' : k = w1.heap.size := e; omega)
   | true =>
     have hkl : k < n := by simpa using hd
     obtain ⟨v, hv⟩ : ∃ v, x.ps[k]? = some v := ⟨_, List.getElem?_eq_getElem (by have := HN.out; omega)⟩
     obtain ⟨vb, vo, hva, hvc⟩ := HP0.out.cell hv
     have yvb : vb < w.heap.size := block_lt_of_cell hvc.q0
     have hq : ∀ {a : Nat} {u : Value}, w.cell? ⟨vb, a, none⟩ = some u → wr.cell? ⟨vb, a, none⟩ = some u := fun h => cell_ch (cell_ch h HC13.out (fun _ _ h => h)) HC.out (fun _ _ e => by have e' : vb = w2.heap.size := e; omega)
     have q0 := hq hvc.q0
     have q1 := hq hvc.q1
     have q2 := hq hvc.q2
     have q3 := hq hvc.q3
     subst hva
     obtain ⟨w4, hw4⟩ : ∃ w4, wr.alloc (.cells #[.string v.ty, .string v.nm, .int .i64 v.line, .int .i64 v.col] 64) = w4 := ⟨_, rfl⟩
     have hb4 := heap_alloc_new wr (.cells #[.string v.ty, .string v.nm, .int .i64 v.line, .int .i64 v.col] 64)
     have hc4 := (Ch.refl No wr).alloc (.cells #[.string v.ty, .string v.nm, .int .i64 v.line, .int .i64 v.col] 64)
     rw [hw4] at hb4 hc4
     have hb34 := hc4.keep _ _ hb3 (fun h => h)
     have hc5 := hc4.alloc (.cells #[.string v.ty] 9)
     have hb35 := hc5.keep _ _ hb3 (fun h => h)
     obtain ⟨nl, hnl⟩ : ∃ nl, ((x.ps.take k).map Vr.ty) = nl := ⟨_, rfl⟩
     have hnk : nl.length = k := by rw [← hnl, List.length_map, List.length_take]; have := HN.out; omega
     have hrow := HOW.out.rowN (n := k) (by rw [hnl, hnk]) hc5
     rw [hnl] at hrow
     have HROW := hid hrow
     have hk1 : k + 1 ≤ 100000 := by omega
     have hbase : w3.heap.size ≤ (w4.alloc (.cells #[.string v.ty] 9)).heap.size := Nat.le_trans hz3 hc5.size
     have h40 := cellAt hb4 0
     have e34 := cellAt hb34 3
     have HB35 := hid hb35
     have HV := hid hv
     have HNL := hid hnl
     have HC5 := hid hc5
     obtain ⟨_, _, ecs, hcp, hmx, _⟩ := HOW.out.at_
     rw [hnl] at ecs hcp
     rw [hnk] at ecs hcp
     cases ecs
     unfold maxLen at hmx
     clear hvc hq hv hb3 hb4 hc4 hb34 hc5 hb35 hnl hrow e0 e1 e2 e3 e4 e5
     go_wp2_with (at_builtin; go_must (refine wpAppendOwn rfl _ _ rfl Tryz.sliceStr Tryz.infoStr Nat.zero_lt_one (Nat.le_of_ble_eq_true rfl) w3.heap.size (.slice sa k sc) k (nl.map Value.string) rfl HROW.out w4.heap.size 1 1 [.string v.ty] rfl rfl (heap_alloc_new w4 _) (oneStr1 _) hk1 hbase ?_))
     intro v7 w7 hr7 hc7
     have hown : StrsOwn w7 w3.heap.size v7 ((x.ps.take (k + 1)).map Vr.ty) := by
       unfold StrsOwn
       have e1 : ((x.ps.take (k + 1)).map Vr.ty).length = k + 1 := by rw [List.take_add_one, HV.out, List.map_append, HNL.out, List.length_append, hnk]; rfl
       have e2 : ((x.ps.take (k + 1)).map Vr.ty).map Value.string = nl.map Value.string ++ [.string v.ty] := by rw [List.take_add_one, HV.out, List.map_append, List.map_append, HNL.out]; rfl
       rw [e1, e2]
       exact hr7
     obtain ⟨a7, c7, e7, hcp7, hmx7, _⟩ := hown.at_
     have hl7 : ((x.ps.take (k + 1)).map Vr.ty).length = k + 1 := by rw [List.take_add_one, HV.out, List.map_append, HNL.out, List.length_append, hnk]; rfl
     rw [hl7] at e7 hcp7
     subst e7
     have hb37 := hc7.keep _ _ HB35.out (not_own HROW.out HB35.out (by decide))
     have hc7' : Ch (fun j _ => j = w2.heap.size) w3 w7 := (HC.out.trans (HC5.out.mono (fun _ _ _ h => h.elim))).trans' hc7 (fun j o ho e => by
       obtain ⟨h1, _⟩ := owned_typed HROW.out j e
       have := lt_size ho
       omega)
     have f3 := freeAt hb37 3
     have d3 := cellAt hb37 3
     have HB37 := hid hb37
     have HOWN := hid hown
     have HC7 := hid hc7'
     clear hr7 hc7 hown hb37 hc7' h40 e34 q0 q1 q2 q3
     go_wp2_with fail
     go_roundg (n - k - 1)
     case rel =>
       refine ⟨k + 1, by omega, by omega, by go_num, hid ⟨a7, c7, ?_, ?_⟩, hid (HC7.out.setCell (fun _ _ => rfl) _)⟩
       · have h1 := setCell_heap HB37.out 3 (.slice a7 (k + 1) c7)
         simpa using h1
       · exact HOWN.out.ch ((Ch.refl (fun j _ => j = w2.heap.size) w7).setCell (fun _ _ => rfl) _) (fun g cur hg hbg e => by have e' : g = w2.heap.size := e; omega)
     case measure => omega
end Go.Proofs.YtgjpgfedlgdjhaaGreatDoor
end
