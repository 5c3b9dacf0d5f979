/- What the claim uses: part 31. -/
import Derived.Test.YtgjpgfedlgdjhaaGreatDoorZbd
section
set_option linter.unusedVariables false
set_option linter.unusedSimpArgs false
set_option maxRecDepth 8192
namespace Go.Proofs.YtgjpgfedlgdjhaaGreatDoor
open Go.RowKit Go.W
structure FewM (m : Mem) : Prop where
 fs : m.fs.length ≤ 1000
 ss : m.ss.length ≤ 1000
 ms : m.ms.length ≤ 1000
 ps : ∀ x ∈ m.ms, x.ps.length ≤ 1000
theorem put3' {w : World} {b : Nat} {x0 x1 x2 : Value} {t : TypeId} (h : w.heap[b]? = some (.cells #[x0, x1, x2] t (0, 0))) (v0 v1 v2 : Value) :
   ∃ wf, ((w.setCell ⟨b, 0, none⟩ v0).setCell ⟨b, 1, none⟩ v1).setCell ⟨b, 2, none⟩ v2 = wf ∧ wf.heap[b]? = some (.cells #[v0, v1, v2] t (0, 0)) ∧ Ch (fun k _ => k = b) w wf := by
 refine ⟨_, rfl, ?_, (((Ch.refl _ _).setCell (fun _ _ => rfl) _).setCell (fun _ _ => rfl) _).setCell (fun _ _ => rfl) _⟩
 rw [setCell_heap (setCell_heap (setCell_heap h 0 v0) 1 v1) 2 v2]
 rfl
theorem mtCells9 {w : World} {a : Nat} {x0 x1 x2 x3 x4 x5 x6 x7 x8 : Value} {t : TypeId} (ha : w.heap[a]? = some (.cells #[x0, x1, x2, x3, x4, x5, x6, x7, x8] t (0, 0))) :
   w.cell? ⟨a, 0, none⟩ = some x0 ∧ w.cell? ⟨a, 1, none⟩ = some x1 ∧ w.cell? ⟨a, 2, none⟩ = some x2 ∧ w.cell? ⟨a, 3, none⟩ = some x3 ∧ w.cell? ⟨a, 4, none⟩ = some x4 ∧ w.cell? ⟨a, 5, none⟩ = some x5 ∧ w.cell? ⟨a, 6, none⟩ = some x6 ∧ w.cell? ⟨a, 7, none⟩ = some x7 ∧ w.cell? ⟨a, 8, none⟩ = some x8 := ⟨cellAt ha 0, cellAt ha 1, cellAt ha 2, cellAt ha 3, cellAt ha 4, cellAt ha 5, cellAt ha 6, cellAt ha 7, cellAt ha 8⟩
theorem mapKeep10 {w w' : World} {a g B : Nat} {v0 x0 x1 x2 x3 x4 x5 x6 x7 x8 : Value} (h : w.cell? ⟨a, 2, none⟩ = some v0 ∧ w.cell? ⟨g, 0, none⟩ = some x0 ∧ w.cell? ⟨g, 1, none⟩ = some x1 ∧ w.cell? ⟨g, 2, none⟩ = some x2 ∧ w.cell? ⟨g, 3, none⟩ = some x3 ∧ w.cell? ⟨g, 4, none⟩ = some x4 ∧ w.cell? ⟨g, 5, none⟩ = some x5 ∧ w.cell? ⟨g, 6, none⟩ = some x6 ∧ w.cell? ⟨g, 7, none⟩ = some x7 ∧ w.cell? ⟨g, 8, none⟩ = some x8)
   (hc : Ch (fun k _ => k = B) w w') (ha : a ≠ B) (hg : g ≠ B) :
   w'.cell? ⟨a, 2, none⟩ = some v0 ∧ w'.cell? ⟨g, 0, none⟩ = some x0 ∧ w'.cell? ⟨g, 1, none⟩ = some x1 ∧ w'.cell? ⟨g, 2, none⟩ = some x2 ∧ w'.cell? ⟨g, 3, none⟩ = some x3 ∧ w'.cell? ⟨g, 4, none⟩ = some x4 ∧ w'.cell? ⟨g, 5, none⟩ = some x5 ∧ w'.cell? ⟨g, 6, none⟩ = some x6 ∧ w'.cell? ⟨g, 7, none⟩ = some x7 ∧ w'.cell? ⟨g, 8, none⟩ = some x8 := by
 obtain ⟨h, h0, h1, h2, h3, h4, h5, h6, h7, h8⟩ := h
 have k : ∀ {i : Nat} {v : Value}, w.cell? ⟨g, i, none⟩ = some v → w'.cell? ⟨g, i, none⟩ = some v := fun h => cell_ch h hc (fun _ _ e => hg e)
 exact ⟨cell_ch h hc (fun _ _ e => ha e), k h0, k h1, k h2, k h3, k h4, k h5, k h6, k h7, k h8⟩
set_option maxHeartbeats 16000000 in
theorem mtold {w : World} {c : Cls} {m : Mem} (hm : MemAt w c m) (hs : SzMem m) (hf : FewM m) (i : Nat) :
   Calls Tryz.prog 44 #[.int .i64 i, .agg #[.string c.name, .string c.sup, .bool c.face, .slice c.fa c.faces.length c.fc, .slice c.s4.1 c.s4.2.1 c.s4.2.2, .slice c.s5.1 c.s5.2.1 c.s5.2.2, .slice c.s6.1 c.s6.2.1 c.s6.2.2, .pointer c.p7, .int .i64 c.line, .int .i64 c.col]] w fun e w' => ∃ ov, e = .returned ov ∧ OwnAt w' ov i m ∧ Ch No w w' := by
 have hmm := @run_makeMap Tryz.prog
 have HS := hid hs
 have HF := hid hf
 obtain ⟨r4, hr4⟩ : ∃ r, c.s4 = r := ⟨_, rfl⟩
 obtain ⟨r5, hr5⟩ : ∃ r, c.s5 = r := ⟨_, rfl⟩
 obtain ⟨r6, hr6⟩ : ∃ r, c.s6 = r := ⟨_, rfl⟩
 have h4 := hm.fs
 have h5 := hm.ss
 have h6 := hm.ms
 rw [hr4] at h4
 rw [hr5] at h5
 rw [hr6] at h6
 rw [hr4, hr5, hr6]
 clear hr4 hr5 hr6 hm hs hf
 obtain ⟨a4, n4, c4⟩ := r4
 obtain ⟨a5, n5, c5⟩ := r5
 obtain ⟨a6, n6, c6⟩ := r6
 dsimp only at h4 h5 h6 ⊢
 obtain ⟨hn4, hc4, hm4⟩ := h4.shape
 obtain ⟨hn5, hc5, hm5⟩ := h5.shape
 obtain ⟨hn6, hc6, hm6⟩ := h6.shape
 unfold maxLen at hm4 hm5 hm6
 have x4 : n4 ≤ 1000 := by have := HF.out.fs; omega
 have x5 : n5 ≤ 1000 := by have := HF.out.ss; omega
 have x6 : n6 ≤ 1000 := by have := HF.out.ms; omega
 have y4 : n4 ≤ c4 := by omega
 have y5 : n5 ≤ c5 := by omega
 have y6 : n6 ≤ c6 := by omega
 have H4 := hid h4
 have H5 := hid h5
 have H6 := hid h6
 have N4 := hid hn4
 have N5 := hid hn5
 have N6 := hid hn6
 clear h4 h5 h6 hn4 hn5 hn6 hc4 hc5 hc6
 obtain ⟨w1, hw1⟩ : ∃ w1, w.alloc (.cells #[.string c.name, .string c.sup, .bool c.face, .slice c.fa c.faces.length c.fc, .slice a4 n4 c4, .slice a5 n5 c5, .slice a6 n6 c6, .pointer c.p7, .int .i64 c.line, .int .i64 c.col] 50) = w1 := ⟨_, rfl⟩
 have hb1 := heap_alloc_new w (.cells #[.string c.name, .string c.sup, .bool c.face, .slice c.fa c.faces.length c.fc, .slice a4 n4 c4, .slice a5 n5 c5, .slice a6 n6 c6, .pointer c.p7, .int .i64 c.line, .int .i64 c.col] 50)
 have hc1 := (Ch.refl No w).alloc (.cells #[.string c.name, .string c.sup, .bool c.face, .slice c.fa c.faces.length c.fc, .slice a4 n4 c4, .slice a5 n5 c5, .slice a6 n6 c6, .pointer c.p7, .int .i64 c.line, .int .i64 c.col] 50)
 rw [hw1] at hb1 hc1
 obtain ⟨w2, hw2⟩ : ∃ w2, w1.alloc (.cells #[.map none, .map none, .map none] 100) = w2 := ⟨_, rfl⟩
 have hb2 := heap_alloc_new w1 (.cells #[.map none, .map none, .map none] 100)
 have hc2 := (Ch.refl No w1).alloc (.cells #[.map none, .map none, .map none] 100)
 rw [hw2] at hb2 hc2
 have hm1 := MapIs.made Tryz.prog 9 strK w2
 obtain ⟨w3, hw3⟩ : ∃ w3, w2.alloc (.map #[] 0) = w3 := ⟨_, rfl⟩
 have hc3 := (Ch.refl No w2).alloc (.map #[] 0)
 have s3 : w2.heap.size < w3.heap.size := by rw [← hw3]; simp
 rw [hw3] at hm1 hc3
 have hm2 := MapIs.made Tryz.prog 9 strK w3
 obtain ⟨w4, hw4⟩ : ∃ w4, w3.alloc (.map #[] 0) = w4 := ⟨_, rfl⟩
 have hc4 := (Ch.refl No w3).alloc (.map #[] 0)
 have s4 : w3.heap.size < w4.heap.size := by rw [← hw4]; simp
 rw [hw4] at hm2 hc4
 have hm3 := MapIs.made Tryz.prog 9 strK w4
 obtain ⟨w5, hw5⟩ : ∃ w5, w4.alloc (.map #[] 0) = w5 := ⟨_, rfl⟩
 have hc5 := (Ch.refl No w4).alloc (.map #[] 0)
 have s5 : w4.heap.size < w5.heap.size := by rw [← hw5]; simp
 rw [hw5] at hm3 hc5
 obtain ⟨w6, hw6⟩ : ∃ w6, w5.alloc (.cells #[.map (some w2.heap.size), .map (some w3.heap.size), .map (some w4.heap.size)] 100) = w6 := ⟨_, rfl⟩
 have hb6 := heap_alloc_new w5 (.cells #[.map (some w2.heap.size), .map (some w3.heap.size), .map (some w4.heap.size)] 100)
 have hc6 := (Ch.refl No w5).alloc (.cells #[.map (some w2.heap.size), .map (some w3.heap.size), .map (some w4.heap.size)] 100)
 rw [hw6] at hb6 hc6
 have z1 : w.heap.size < w1.heap.size := lt_size hb1
 have z2 : w1.heap.size < w2.heap.size := lt_size hb2
 have z6 : w5.heap.size < w6.heap.size := lt_size hb6
 have hc36 := hc3.trans (hc4.trans (hc5.trans hc6))
 have HC6 := hid (hc1.trans (hc2.trans hc36))
 have HB1 := hid ((hc2.trans hc36).keep _ _ hb1 (fun h => h))
 have HB2 := hid (hc36.keep _ _ hb2 (fun h => h))
 have HB6 := hid hb6
 have M1 := hid (hm1.ch (hc4.trans (hc5.trans hc6)) (fun _ _ h => h))
 have M2 := hid (hm2.ch (hc5.trans hc6) (fun _ _ h => h))
 have M3 := hid (hm3.ch hc6 (fun _ _ h => h))
 have d4 := cellAt HB1.out 4
 clear hb1 hc1 hb2 hc2 hm1 hc3 hm2 hc4 hm3 hc5 hb6 hc6 hc36
 go_enter Tryz.func44, Tryz.ntmps44
 go_wp2_with fail
 clear hw1 hw2 hw3 hw4 hw5 hw6 d4 hmm
 go_loopg [20, 8] n4 (fun g sC sB wr => ∃ k : Nat, k ≤ n4 ∧ n4 - k ≤ g ∧ sC = .int .i64 k ∧ Hid (MapIs Tryz.prog 9 strK wr w2.heap.size k (getVr i false (m.fs.take k))) ∧ Hid (Ch (fun j _ => j = w2.heap.size) w6 wr))
 case atStart => exact ⟨0, Nat.zero_le _, by omega, rfl, M1, hid (Ch.refl _ _)⟩
 case round =>
   obtain ⟨k, hk, hg, rfl, HM, HC⟩ := hrel
   cases hd : decide (k < n4) with
   | true =>
     have hkl : k < n4 := by simpa using hd
     obtain ⟨v, hv⟩ : ∃ v, m.fs[k]? = some v := ⟨_, List.getElem?_eq_getElem (by have := N4.out; omega)⟩
     obtain ⟨vb, vo, hva, hvc⟩ := H4.out.cell hv
     have yvb : vb < w.heap.size := block_lt_of_cell hvc.q0
     have hq : ∀ {a : Nat} {u : Value}, w.cell? ⟨vb, a, none⟩ = some u → wr.cell? ⟨vb, a, none⟩ = some u := fun h => cell_ch (cell_ch h HC6.out (fun _ _ h => h)) HC.out (fun _ _ e => by have e' : vb = w2.heap.size := e; omega)
     have q0 := hq hvc.q0
     have q1 := hq hvc.q1
     have q2 := hq hvc.q2
     have q3 := hq hvc.q3
     subst hva
     obtain ⟨wv, hwv⟩ : ∃ wv, wr.alloc (.cells #[.string v.ty, .string v.nm, .int .i64 v.line, .int .i64 v.col] 64) = wv := ⟨_, rfl⟩
     have hbv := heap_alloc_new wr (.cells #[.string v.ty, .string v.nm, .int .i64 v.line, .int .i64 v.col] 64)
     have hcv := (Ch.refl No wr).alloc (.cells #[.string v.ty, .string v.nm, .int .i64 v.line, .int .i64 v.col] 64)
     rw [hwv] at hbv hcv
     have hvs := (HS.out.fs v (List.mem_of_getElem? hv)).1
     have hto := told1 (HM.out.ch hcv (fun _ _ h => h)) (by omega) (c := (i : Int)) (nm := v.nm) (ty := v.ty) (sa := none) (sn := 0) (sc := 0) (st := false) (ba := false) hvs getVr_is
     unfold mbV at hto
     have e6 := cellAt (hcv.keep _ _ (HC.out.keep _ _ HB6.out (fun e => by have e' : w5.heap.size = w2.heap.size := e; omega)) (fun h => h)) 0
     have v0 := cellAt hbv 0
     have v1 := cellAt hbv 1
     have HV := hid hv
     have HCV := hid hcv
     clear hvc hq hv hbv hcv hvs
     go_wp2_with fail
     refine hto.mono ?_
     rintro e wt ⟨rfl, hmt, hct⟩
     have HMT := hid hmt
     have HCT := hid ((HC.out.trans (HCV.out.mono (fun _ _ _ h => h.elim))).trans hct)
     clear hto hmt hct
     go_wp2_with fail
     go_roundg (n4 - k - 1)
     case rel =>
       refine ⟨k + 1, by omega, by omega, by go_num, hid ?_, HCT⟩
       rw [List.take_add_one, HV.out]
       show MapIs Tryz.prog 9 strK wt w2.heap.size (k + 1) (getVr i false (m.fs.take k ++ [v]))
       rw [getVr_snoc]
       exact HMT.out
     case measure => omega
   | false =>
     have hkl : ¬ k < n4 := by simpa using hd
     have E7 := hid (show MapIs Tryz.prog 9 strK wr w2.heap.size k (getVr i false m.fs) from by
       have h1 := HM.out
       rw [List.take_of_length_le (by have := N4.out; omega)] at h1
       exact h1)
     obtain ⟨w7, hwc⟩ : ∃ w7, w7 = wr := ⟨_, rfl⟩
     subst hwc
     have HC7 := hid (Ch.newOnly HC6.out HC.out (fun k _ _ e => by have e' : k = w2.heap.size := e; omega))
     have HB67 := hid (HC.out.keep _ _ HB6.out (fun e => by have e' : w5.heap.size = w2.heap.size := e; omega))
     have HB17 := hid (HC.out.keep _ _ HB1.out (fun e => by have e' : w.heap.size = w2.heap.size := e; omega))
     have HB27 := hid (HC.out.keep _ _ HB2.out (fun e => by have e' : w1.heap.size = w2.heap.size := e; omega))
     have M17 := E7
     have M27 := hid (M2.out.ch HC.out (fun _ _ e => by have e' : w3.heap.size = w2.heap.size := e; omega))
     have M37 := hid (M3.out.ch HC.out (fun _ _ e => by have e' : w4.heap.size = w2.heap.size := e; omega))
     have d5 := cellAt HB17.out 5
     go_wp2_with fail
     clear d5
     go_loopg [38, 10] n5 (fun g sC sB wr => ∃ k : Nat, k ≤ n5 ∧ n5 - k ≤ g ∧ sC = .int .i64 k ∧ Hid (MapIs Tryz.prog 9 strK wr w3.heap.size k (getVr i true (m.ss.take k))) ∧ Hid (Ch (fun j _ => j = w3.heap.size) w7 wr))
     case atStart => exact ⟨0, Nat.zero_le _, by omega, rfl, M27, hid (Ch.refl _ _)⟩
     case round =>
       obtain ⟨k, hk, hg, rfl, HM, HC⟩ := hrel
       cases hd : decide (k < n5) with
       | true =>
         have hkl : k < n5 := by simpa using hd
         obtain ⟨v, hv⟩ : ∃ v, m.ss[k]? = some v := ⟨_, List.getElem?_eq_getElem (by have := N5.out; omega)⟩
         obtain ⟨vb, vo, hva, hvc⟩ := H5.out.cell hv
         have yvb : vb < w.heap.size := block_lt_of_cell hvc.q0
         have hq : ∀ {a : Nat} {u : Value}, w.cell? ⟨vb, a, none⟩ = some u → wr.cell? ⟨vb, a, none⟩ = some u := fun h => cell_ch (cell_ch h HC7.out (fun _ _ h => h)) HC.out (fun _ _ e => by have e' : vb = w3.heap.size := e; omega)
         have q0 := hq hvc.q0
         have q1 := hq hvc.q1
         have q2 := hq hvc.q2
         have q3 := hq hvc.q3
         subst hva
         obtain ⟨wv, hwv⟩ : ∃ wv, wr.alloc (.cells #[.string v.ty, .string v.nm, .int .i64 v.line, .int .i64 v.col] 64) = wv := ⟨_, rfl⟩
         have hbv := heap_alloc_new wr (.cells #[.string v.ty, .string v.nm, .int .i64 v.line, .int .i64 v.col] 64)
         have hcv := (Ch.refl No wr).alloc (.cells #[.string v.ty, .string v.nm, .int .i64 v.line, .int .i64 v.col] 64)
         rw [hwv] at hbv hcv
         have hvs := (HS.out.ss v (List.mem_of_getElem? hv)).1
         have hto := told1 (HM.out.ch hcv (fun _ _ h => h)) (by omega) (c := (i : Int)) (nm := v.nm) (ty := v.ty) (sa := none) (sn := 0) (sc := 0) (st := true) (ba := false) hvs getVr_is
         unfold mbV at hto
         have e6 := cellAt (hcv.keep _ _ (HC.out.keep _ _ HB67.out (fun e => by have e' : w5.heap.size = w3.heap.size := e; omega)) (fun h => h)) 1
         have v0 := cellAt hbv 0
         have v1 := cellAt hbv 1
         have HV := hid hv
         have HCV := hid hcv
         clear hvc hq hv hbv hcv hvs
         go_wp2_with fail
         refine hto.mono ?_
         rintro e wt ⟨rfl, hmt, hct⟩
         have HMT := hid hmt
         have HCT := hid ((HC.out.trans (HCV.out.mono (fun _ _ _ h => h.elim))).trans hct)
         clear hto hmt hct
         go_wp2_with fail
         go_roundg (n5 - k - 1)
         case rel =>
           refine ⟨k + 1, by omega, by omega, by go_num, hid ?_, HCT⟩
           rw [List.take_add_one, HV.out]
           show MapIs Tryz.prog 9 strK wt w3.heap.size (k + 1) (getVr i true (m.ss.take k ++ [v]))
           rw [getVr_snoc]
           exact HMT.out
         case measure => omega
       | false =>
         have hkl : ¬ k < n5 := by simpa using hd
         have E7 := hid (show MapIs Tryz.prog 9 strK wr w3.heap.size k (getVr i true m.ss) from by
           have h1 := HM.out
           rw [List.take_of_length_le (by have := N5.out; omega)] at h1
           exact h1)
         obtain ⟨w8, hwc⟩ : ∃ w8, w8 = wr := ⟨_, rfl⟩
         subst hwc
         have HC8 := hid (Ch.newOnly HC7.out HC.out (fun k _ _ e => by have e' : k = w3.heap.size := e; omega))
         have HB68 := hid (HC.out.keep _ _ HB67.out (fun e => by have e' : w5.heap.size = w3.heap.size := e; omega))
         have HB18 := hid (HC.out.keep _ _ HB17.out (fun e => by have e' : w.heap.size = w3.heap.size := e; omega))
         have HB28 := hid (HC.out.keep _ _ HB27.out (fun e => by have e' : w1.heap.size = w3.heap.size := e; omega))
         have M28 := E7
         have M18 := hid (M17.out.ch HC.out (fun _ _ e => by have e' : w2.heap.size = w3.heap.size := e; omega))
         have M38 := hid (M37.out.ch HC.out (fun _ _ e => by have e' : w4.heap.size = w3.heap.size := e; omega))
         have d6 := cellAt HB18.out 6
         go_wp2_with fail
         clear d6
         go_loopg [56, 12] n6 (fun g sC sB wr => ∃ k : Nat, k ≤ n6 ∧ n6 - k ≤ g ∧ sC = .int .i64 k ∧ Hid (∃ pv, MapIs Tryz.prog 9 strK wr w4.heap.size k (getMt i pv (m.ms.take k)) ∧ ∀ (j : Nat) (x : Mt), (m.ms.take k)[j]? = some x → StrsOwn wr w8.heap.size (.slice (pv j).1 (pv j).2.1 (pv j).2.2) (x.ps.map Vr.ty)) ∧ Hid (Ch (fun j _ => j = w4.heap.size) w8 wr))
         case atStart => exact ⟨0, Nat.zero_le _, by omega, rfl, hid ⟨fun _ => (none, 0, 0), M38.out, fun j x h => by simp at h⟩, hid (Ch.refl _ _)⟩
         case round =>
           obtain ⟨k, hk, hg, rfl, HM, HC⟩ := hrel
           have HCR := hid (Ch.newOnly HC8.out HC.out (fun k _ _ e => by have e' : k = w4.heap.size := e; omega))
           have HBR := hid (HC.out.keep _ _ HB68.out (fun e => by have e' : w5.heap.size = w4.heap.size := e; omega))
           cases hd : decide (k < n6) with
           | true =>
             have hkl : k < n6 := by simpa using hd
             obtain ⟨x, hx⟩ : ∃ x, m.ms[k]? = some x := ⟨_, List.getElem?_eq_getElem (by have := N6.out; omega)⟩
             have hmts := H6.out.no HCR.out
             obtain ⟨mb, mo, hma, hxc⟩ := hmts.cell hx
             subst hma
             obtain ⟨x0, x1, x2, x3, x4', x5', x6', x7, x8⟩ := hxc
             obtain ⟨wx, hwx⟩ : ∃ wx, wr.alloc (.cells #[.string x.ret, .string x.nm, .bool x.st, .bool x.ba, .slice x.pa x.ps.length x.pc, .slice x.s5.1 x.s5.2.1 x.s5.2.2, .slice x.s6.1 x.s6.2.1 x.s6.2.2, .int .i64 x.line, .int .i64 x.col] 29) = wx := ⟨_, rfl⟩
             have hbx := heap_alloc_new wr (.cells #[.string x.ret, .string x.nm, .bool x.st, .bool x.ba, .slice x.pa x.ps.length x.pc, .slice x.s5.1 x.s5.2.1 x.s5.2.2, .slice x.s6.1 x.s6.2.1 x.s6.2.2, .int .i64 x.line, .int .i64 x.col] 29)
             have hcx := (Ch.refl No wr).alloc (.cells #[.string x.ret, .string x.nm, .bool x.st, .bool x.ba, .slice x.pa x.ps.length x.pc, .slice x.s5.1 x.s5.2.1 x.s5.2.2, .slice x.s6.1 x.s6.2.1 x.s6.2.2, .int .i64 x.line, .int .i64 x.col] 29)
             rw [hwx] at hbx hcx
             have hhm := HM.out
             obtain ⟨pv, hmp, hps⟩ := hhm
             have z4 : w4.heap.size < wr.heap.size := by
               obtain ⟨es, cl, h⟩ := hmp.isMap
               exact lt_size h
             have hme := mmethod ((hmts.ps x (List.mem_of_getElem? hx)).no (hcx.trans ((Ch.refl No wx).drew))) (HF.out.ps x (List.mem_of_getElem? hx)) (i : Int)
             unfold mbV at hme
             have hxz := (HS.out.ms x (List.mem_of_getElem? hx)).1
             have HSx := hid (show wx.cell? ⟨w5.heap.size, 2, none⟩ = some (.map (some w4.heap.size)) ∧ wx.cell? ⟨wr.heap.size, 0, none⟩ = some (.string x.ret) ∧ wx.cell? ⟨wr.heap.size, 1, none⟩ = some (.string x.nm) ∧ wx.cell? ⟨wr.heap.size, 2, none⟩ = some (.bool x.st) ∧ wx.cell? ⟨wr.heap.size, 3, none⟩ = some (.bool x.ba) ∧ wx.cell? ⟨wr.heap.size, 4, none⟩ = some (.slice x.pa x.ps.length x.pc) ∧ wx.cell? ⟨wr.heap.size, 5, none⟩ = some (.slice x.s5.1 x.s5.2.1 x.s5.2.2) ∧ wx.cell? ⟨wr.heap.size, 6, none⟩ = some (.slice x.s6.1 x.s6.2.1 x.s6.2.2) ∧ wx.cell? ⟨wr.heap.size, 7, none⟩ = some (.int .i64 x.line) ∧ wx.cell? ⟨wr.heap.size, 8, none⟩ = some (.int .i64 x.col) from And.intro (cellAt (hcx.keep _ _ HBR.out (fun h => h)) 2) (mtCells9 hbx))
             have HSd := hid (show wx.drew.cell? ⟨w5.heap.size, 2, none⟩ = some (.map (some w4.heap.size)) ∧ wx.drew.cell? ⟨wr.heap.size, 0, none⟩ = some (.string x.ret) ∧ wx.drew.cell? ⟨wr.heap.size, 1, none⟩ = some (.string x.nm) ∧ wx.drew.cell? ⟨wr.heap.size, 2, none⟩ = some (.bool x.st) ∧ wx.drew.cell? ⟨wr.heap.size, 3, none⟩ = some (.bool x.ba) ∧ wx.drew.cell? ⟨wr.heap.size, 4, none⟩ = some (.slice x.pa x.ps.length x.pc) ∧ wx.drew.cell? ⟨wr.heap.size, 5, none⟩ = some (.slice x.s5.1 x.s5.2.1 x.s5.2.2) ∧ wx.drew.cell? ⟨wr.heap.size, 6, none⟩ = some (.slice x.s6.1 x.s6.2.1 x.s6.2.2) ∧ wx.drew.cell? ⟨wr.heap.size, 7, none⟩ = some (.int .i64 x.line) ∧ wx.drew.cell? ⟨wr.heap.size, 8, none⟩ = some (.int .i64 x.col) from HSx.out)
             have MP := hid (hmp.ch hcx (fun _ _ h => h))
             have HPS := hid hps
             have HX := hid hx
             have HCX := hid hcx
             have hzx := lt_size hbx
             clear hmp hps hmts hbx hcx hx
             go_wp2_with fail
             go_region_held3 (fun w' => w'.cell? ⟨w5.heap.size, 2, none⟩ = some (.map (some w4.heap.size)) ∧ w'.cell? ⟨wr.heap.size, 0, none⟩ = some (.string x.ret) ∧ w'.cell? ⟨wr.heap.size, 1, none⟩ = some (.string x.nm) ∧ w'.cell? ⟨wr.heap.size, 2, none⟩ = some (.bool x.st) ∧ w'.cell? ⟨wr.heap.size, 3, none⟩ = some (.bool x.ba) ∧ w'.cell? ⟨wr.heap.size, 4, none⟩ = some (.slice x.pa x.ps.length x.pc) ∧ w'.cell? ⟨wr.heap.size, 5, none⟩ = some (.slice x.s5.1 x.s5.2.1 x.s5.2.2) ∧ w'.cell? ⟨wr.heap.size, 6, none⟩ = some (.slice x.s6.1 x.s6.2.1 x.s6.2.2) ∧ w'.cell? ⟨wr.heap.size, 7, none⟩ = some (.int .i64 x.line) ∧ w'.cell? ⟨wr.heap.size, 8, none⟩ = some (.int .i64 x.col)) (first | with_reducible exact HSx.out | with_reducible exact HSd.out | with_reducible exact HSa.out | with_reducible exact HSb.out | go_keep) (first | (go_at_call 79; refine hme.mono ?_; rintro e wy ⟨sa, sn, sc, rfl, hst, hcy⟩; have HCY := hid (((Ch.refl No wx).drew).trans hcy); have HST := hid hst; have HSa := hid (show wy.cell? ⟨w5.heap.size, 2, none⟩ = some (.map (some w4.heap.size)) ∧ wy.cell? ⟨wr.heap.size, 0, none⟩ = some (.string x.ret) ∧ wy.cell? ⟨wr.heap.size, 1, none⟩ = some (.string x.nm) ∧ wy.cell? ⟨wr.heap.size, 2, none⟩ = some (.bool x.st) ∧ wy.cell? ⟨wr.heap.size, 3, none⟩ = some (.bool x.ba) ∧ wy.cell? ⟨wr.heap.size, 4, none⟩ = some (.slice x.pa x.ps.length x.pc) ∧ wy.cell? ⟨wr.heap.size, 5, none⟩ = some (.slice x.s5.1 x.s5.2.1 x.s5.2.2) ∧ wy.cell? ⟨wr.heap.size, 6, none⟩ = some (.slice x.s6.1 x.s6.2.1 x.s6.2.2) ∧ wy.cell? ⟨wr.heap.size, 7, none⟩ = some (.int .i64 x.line) ∧ wy.cell? ⟨wr.heap.size, 8, none⟩ = some (.int .i64 x.col) from ⟨cell_ch HSx.out.1 HCY.out (fun _ _ h => h), cell_ch HSx.out.2.1 HCY.out (fun _ _ h => h), cell_ch HSx.out.2.2.1 HCY.out (fun _ _ h => h), cell_ch HSx.out.2.2.2.1 HCY.out (fun _ _ h => h), cell_ch HSx.out.2.2.2.2.1 HCY.out (fun _ _ h => h), cell_ch HSx.out.2.2.2.2.2.1 HCY.out (fun _ _ h => h), cell_ch HSx.out.2.2.2.2.2.2.1 HCY.out (fun _ _ h => h), cell_ch HSx.out.2.2.2.2.2.2.2.1 HCY.out (fun _ _ h => h), cell_ch HSx.out.2.2.2.2.2.2.2.2.1 HCY.out (fun _ _ h => h), cell_ch HSx.out.2.2.2.2.2.2.2.2.2 HCY.out (fun _ _ h => h)⟩); clear hcy hst hme) | (go_at_call 78; refine (show Calls Tryz.prog 78 #[.map (some w4.heap.size), .agg #[.int .i64 i, .string x.nm, .string x.ret, .slice sa sn sc, .bool x.st, .bool x.ba]] wy _ from told1 (MP.out.ch HCY.out (fun _ _ h => h)) (by omega) hxz getMt_is).mono ?_; rintro e wt ⟨rfl, hmt, hct⟩; have HMT := hid hmt; have HCT := hid hct; have HSb := hid (show wt.cell? ⟨w5.heap.size, 2, none⟩ = some (.map (some w4.heap.size)) ∧ wt.cell? ⟨wr.heap.size, 0, none⟩ = some (.string x.ret) ∧ wt.cell? ⟨wr.heap.size, 1, none⟩ = some (.string x.nm) ∧ wt.cell? ⟨wr.heap.size, 2, none⟩ = some (.bool x.st) ∧ wt.cell? ⟨wr.heap.size, 3, none⟩ = some (.bool x.ba) ∧ wt.cell? ⟨wr.heap.size, 4, none⟩ = some (.slice x.pa x.ps.length x.pc) ∧ wt.cell? ⟨wr.heap.size, 5, none⟩ = some (.slice x.s5.1 x.s5.2.1 x.s5.2.2) ∧ wt.cell? ⟨wr.heap.size, 6, none⟩ = some (.slice x.s6.1 x.s6.2.1 x.s6.2.2) ∧ wt.cell? ⟨wr.heap.size, 7, none⟩ = some (.int .i64 x.line) ∧ wt.cell? ⟨wr.heap.size, 8, none⟩ = some (.int .i64 x.col) from mapKeep10 HSa.out HCT.out (by omega) (by omega)); clear hmt hct))
             go_wp2_with fail
             go_roundg (n6 - k - 1)
             case rel =>
               refine ⟨k + 1, by omega, by omega, by go_num, hid ⟨fun j => if j = k then (sa, sn, sc) else pv j, ?_, ?_⟩, hid (((HC.out.trans (HCX.out.mono (fun _ _ _ h => h.elim))).trans (HCY.out.mono (fun _ _ _ h => h.elim))).trans HCT.out)⟩
               · have hlk : (m.ms.take k).length = k := by rw [List.length_take]; have := N6.out; omega
                 rw [List.take_add_one, HX.out]
                 show MapIs Tryz.prog 9 strK wt w4.heap.size (k + 1) (getMt i _ (m.ms.take k ++ [x]))
                 rw [getMt_snoc (pv := pv) (fun j hj => by rw [hlk] at hj; rw [if_neg (by omega)]), hlk, if_pos rfl]
                 exact HMT.out
               · intro j y hy
                 have z8 : w4.heap.size < w8.heap.size := by
                   obtain ⟨es, cl, h⟩ := M38.out.isMap
                   exact lt_size h
                 have z9 : w8.heap.size ≤ wx.drew.heap.size := Nat.le_trans HC.out.size HCX.out.size
                 by_cases hj : j = k
                 · subst hj
                   have hlk : (m.ms.take j).length = j := by rw [List.length_take]; have := N6.out; omega
                   rw [List.take_add_one, HX.out] at hy
                   have e : y = x := by
                     rw [List.getElem?_append_right (by omega), hlk] at hy
                     simpa using hy.symm
                   subst e
                   dsimp only
                   rw [if_pos rfl]
                   exact (HST.out.ch HCT.out (fun g cur hg hbg e => by have e' : g = w4.heap.size := e; omega)).base z9
                 · dsimp only
                   rw [if_neg hj]
                   have hjl : j < k + 1 := by
                     have := (List.getElem?_eq_some_iff.1 hy).1
                     rw [List.length_take] at this
                     omega
                   have hy' : (m.ms.take k)[j]? = some y := by
                     rw [List.getElem?_take, if_pos (by omega)]
                     rw [List.getElem?_take, if_pos (by omega)] at hy
                     exact hy
                   exact ((HPS.out j y hy').no (HCX.out.trans HCY.out)).ch HCT.out (fun g cur hg hbg e => by have e' : g = w4.heap.size := e; omega)
             case measure => omega
           | false =>
             have hkl : ¬ k < n6 := by simpa using hd
             have hb2r := HC.out.keep _ _ HB28.out (fun e => by have e' : w1.heap.size = w4.heap.size := e; omega)
             have HB2R := hid hb2r
             have hb6r := HBR.out
             have e0 := cellAt hb6r 0
             have e1 := cellAt hb6r 1
             have e2 := cellAt hb6r 2
             have a0 := cellAt hb2r 0
             have a1 := cellAt hb2r 1
             have a2 := cellAt hb2r 2
             have f0 := freeAt hb2r 0
             have f1 := freeAt hb2r 1
             have f2 := freeAt hb2r 2
             clear hb2r hb6r
             go_wp2_with fail
             obtain ⟨wf, hwf, hfb, hfc⟩ := put3' HB2R.out (.map (some w2.heap.size)) (.map (some w3.heap.size)) (.map (some w4.heap.size))
             rw [hwf]
             have k0 := cellAt hfb 0
             have k1 := cellAt hfb 1
             have k2 := cellAt hfb 2
             refine bodyPost_ret (v := .agg #[.map (some w2.heap.size), .map (some w3.heap.size), .map (some w4.heap.size)]) (by simp [results, Tryz.results44, go_sem, k0, k1, k2]) rfl ?_
             have hhm := HM.out
             obtain ⟨pv, hmp, hps⟩ := hhm
             rw [List.take_of_length_le (by have := N6.out; omega)] at hmp hps
             have hne : ∀ es clock, ¬ (fun (j : Nat) (_ : Obj) => j = w1.heap.size) w2.heap.size (.map es clock) := fun _ _ e => by have e' : w2.heap.size = w1.heap.size := e; omega
             refine ⟨_, rfl, ⟨w2.heap.size, w3.heap.size, w4.heap.size, _, _, _, pv, rfl, (M18.out.ch HC.out (fun _ _ e => by have e' : w2.heap.size = w4.heap.size := e; omega)).ch hfc (fun _ _ e => by have e' : w2.heap.size = w1.heap.size := e; omega), (M28.out.ch HC.out (fun _ _ e => by have e' : w3.heap.size = w4.heap.size := e; omega)).ch hfc (fun _ _ e => by have e' : w3.heap.size = w1.heap.size := e; omega), hmp.ch hfc (fun _ _ e => by have e' : w4.heap.size = w1.heap.size := e; omega), by omega, fun j x hx => ?_⟩, Ch.newOnly HCR.out hfc (fun k _ _ e => by have e' : k = w1.heap.size := e; omega)⟩
             have z8 : w1.heap.size < w8.heap.size := lt_size HB28.out
             exact ((hps j x hx).ch hfc (fun g cur hg hbg e => by have e' : g = w1.heap.size := e; omega)).base (Nat.zero_le _)
end Go.Proofs.YtgjpgfedlgdjhaaGreatDoor
end
