/- What the claim uses: part 44. -/
import Derived.Test.YtgjpgfedlgdjhaaGreatDoorZba
import Derived.Test.YtgjpgfedlgdjhaaGreatDoorZbq
section
set_option linter.unusedVariables false
set_option linter.unusedSimpArgs false
set_option maxRecDepth 8192
namespace Go.Proofs.YtgjpgfedlgdjhaaGreatDoor
open Go.RowKit Go.W
theorem put9o {w : World} {b : Nat} {x x0 x1 x2 x3 x4 x5 x6 x7 x8 : Value} {t : TypeId} (h : w.heap[b]? = some (.cells #[x, x0, x1, x2, x3, x4, x5, x6, x7, x8] t (0, 0))) (v0 v1 v2 v3 v4 v5 v6 v7 v8 : Value) :
   ∃ wf, ((((((((w.setCell ⟨b, 1, none⟩ v0).setCell ⟨b, 2, none⟩ v1).setCell ⟨b, 3, none⟩ v2).setCell ⟨b, 4, none⟩ v3).setCell ⟨b, 5, none⟩ v4).setCell ⟨b, 6, none⟩ v5).setCell ⟨b, 7, none⟩ v6).setCell ⟨b, 8, none⟩ v7).setCell ⟨b, 9, none⟩ v8 = wf ∧ wf.heap[b]? = some (.cells #[x, v0, v1, v2, v3, v4, v5, v6, v7, v8] t (0, 0)) ∧ Ch (Tb b) w wf := by
 obtain ⟨a0, e0, h0, c0⟩ := set1At h 1 v0
 obtain ⟨a1, e1, h1, c1⟩ := set1At h0 2 v1
 obtain ⟨a2, e2, h2, c2⟩ := set1At h1 3 v2
 obtain ⟨a3, e3, h3, c3⟩ := set1At h2 4 v3
 obtain ⟨a4, e4, h4, c4⟩ := set1At h3 5 v4
 obtain ⟨a5, e5, h5, c5⟩ := set1At h4 6 v5
 obtain ⟨a6, e6, h6, c6⟩ := set1At h5 7 v6
 obtain ⟨a7, e7, h7, c7⟩ := set1At h6 8 v7
 obtain ⟨a8, e8, h8, c8⟩ := set1At h7 9 v8
 exact ⟨a8, by rw [e0, e1, e2, e3, e4, e5, e6, e7, e8], by simpa using h8, ((((((((c0.trans c1).trans c2).trans c3).trans c4).trans c5).trans c6).trans c7).trans c8)⟩
def TofOut (w : World) (L : List Tok) (el ec : Int) (e : Ending) (w' : World) : Prop :=
 ∃ g w0, e = .returned (.tuple #[.pointer (some ⟨g, 0, none⟩), .agg #[.int .i64 0, .int .i64 0, .int .i64 0]]) ∧ Tx w0 w' g L el ec 0 0 ∧ Ch No w w0 ∧ w.heap.size ≤ w0.heap.size
set_option maxHeartbeats 8000000 in
theorem tof {w : World} {s : ByteArray} {L : List Tok} {el ec : Int} {k : Nat} (hL : PC.T5Tokens.f k s = some (L, el, ec, 0, 0, 0)) :
   Calls Tryz.prog 24 #[.string s] w (TofOut w L el ec) := by
 obtain ⟨wa, hwa⟩ : ∃ wa, w.alloc (.cells #[.int .i64 0, .int .i64 0, .int .i64 0] 34) = wa := ⟨_, rfl⟩
 have hba := heap_alloc_new w (.cells #[.int .i64 0, .int .i64 0, .int .i64 0] 34)
 have hca := (Ch.refl No w).alloc (.cells #[.int .i64 0, .int .i64 0, .int .i64 0] 34)
 rw [hwa] at hba hca
 have HBA := hid hba
 have HCA := hid hca
 have hlt := lt_size hba
 clear hba hca
 go_enter Tryz.func24, Tryz.ntmps24
 go_wp2_with fail
 refine (PC.T5Tokens.calls k s L el ec 0 0 0 wa hL).mono ?_
 rintro e w1 ⟨v0, rfl, hR, hB⟩
 obtain ⟨A, c, rfl, hAc, hAC⟩ := YtgjpgfedlgdjhaaGreatDoorW.PrintWords.Kd.R_reads hR
 have HAC := hid hAC
 have HC1 := hid (show Ch No wa w1 from Ch.of_below hB)
 have HB1 := hid (HC1.out.keep _ _ HBA.out (fun h => h))
 obtain ⟨n, hn⟩ : ∃ n, L.length = n := ⟨_, rfl⟩
 have HN := hid hn
 rw [hn]
 have y1 := HC1.out.size
 clear hwa hR hB hAC hL hn hAc
 go_upto_region 2 with fail
 obtain ⟨w3, hw3⟩ : ∃ w3, (w1.alloc (.cells #[.int .i64 el, .int .i64 ec] 27)).alloc (.cells #[.int .i64 0, .int .i64 0, .int .i64 0] 34) = w3 := ⟨_, rfl⟩
 rw [hw3]
 have hb2 := heapOld (heap_alloc_new w1 (.cells #[.int .i64 el, .int .i64 ec] 27)) (.cells #[.int .i64 0, .int .i64 0, .int .i64 0] 34)
 have hb3 := heap_alloc_new (w1.alloc (.cells #[.int .i64 el, .int .i64 ec] 27)) (.cells #[.int .i64 0, .int .i64 0, .int .i64 0] 34)
 have hc3 := ((Ch.refl No w1).alloc (.cells #[.int .i64 el, .int .i64 ec] 27)).alloc (.cells #[.int .i64 0, .int .i64 0, .int .i64 0] 34)
 rw [hw3] at hb2 hb3 hc3
 have es : (w1.alloc (.cells #[.int .i64 el, .int .i64 ec] 27)).heap.size = w1.heap.size + 1 := by simp
 rw [es] at hb3
 have HB3 := hid (hc3.keep _ _ HB1.out (fun h => h))
 have HC3 := hid hc3
 have p0 := cellAt hb2 0
 have p1 := cellAt hb2 1
 have q0 := cellAt hb3 0
 have q1 := cellAt hb3 1
 have q2 := cellAt hb3 2
 have hr3 := HB3.out
 have r0 := cellAt hr3 0
 have r1 := cellAt hr3 1
 have r2 := cellAt hr3 2
 have f0 := freeAt hr3 0
 have f1 := freeAt hr3 1
 have f2 := freeAt hr3 2
 have y3 := hc3.size
 have y4 := lt_size hb3
 have y5 : w.heap.size < w3.heap.size := by omega
 have HHW := hid hw3
 clear hb2 hb3 hc3 hr3 hw3 es
 go_region
 all_goals (
   go_wp2_with fail
   obtain ⟨wf, hwf, hfb, hfc⟩ := put3 HB3.out (.int .i64 0) (.int .i64 0) (.int .i64 0)
   rw [hwf]
   have hz : wf.heap.size = w3.heap.size := by rw [← hwf]; simp
   have hob := heapOld hfb (.cells #[.slice A n c, .int .i64 el, .int .i64 ec, .int .i64 0, .int .i64 0] 79)
   have hnb := heap_alloc_new wf (.cells #[.slice A n c, .int .i64 el, .int .i64 ec, .int .i64 0, .int .i64 0] 79)
   rw [hz] at hnb
   have hk1 : Ch No w1 wf := Ch.same HB1.out hfb ((HC3.out.mono (fun _ _ _ h => h.elim)).trans hfc)
   have hk := (hk1.alloc (.cells #[.slice A n c, .int .i64 el, .int .i64 ec, .int .i64 0, .int .i64 0] 79)).drew
   obtain ⟨wk, hwk⟩ : ∃ wk, (wf.alloc (.cells #[.slice A n c, .int .i64 el, .int .i64 ec, .int .i64 0, .int .i64 0] 79)).drew = wk := ⟨_, rfl⟩
   have hob2 : wk.heap[w.heap.size]? = some (.cells #[.int .i64 0, .int .i64 0, .int .i64 0] 34 (0, 0)) := by rw [← hwk]; exact hob
   have hnb2 : wk.heap[w3.heap.size]? = some (.cells #[.slice A n c, .int .i64 el, .int .i64 ec, .int .i64 0, .int .i64 0] 79 (0, 0)) := by rw [← hwk]; exact hnb
   rw [hwk] at hk ⊢
   have k0 := cellAt hob2 0
   have k1 := cellAt hob2 1
   have k2 := cellAt hob2 2
   refine bodyPost_ret (v := .tuple #[.pointer (some ⟨w3.heap.size, 0, none⟩), .agg #[.int .i64 0, .int .i64 0, .int .i64 0]]) (by simp [results, Tryz.results24, go_sem, k0, k1, k2]) rfl ?_
   exact ⟨w3.heap.size, w1, rfl, ⟨⟨A, c, by rw [HN.out]; exact hnb2, by omega, HAC.out⟩, hk⟩, HCA.out.trans HC1.out, by omega⟩)
end Go.Proofs.YtgjpgfedlgdjhaaGreatDoor
end
