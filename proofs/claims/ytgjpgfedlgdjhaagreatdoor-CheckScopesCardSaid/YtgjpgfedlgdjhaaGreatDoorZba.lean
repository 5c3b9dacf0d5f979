/- What the claim uses: part 27. -/
import Derived.Test.YtgjpgfedlgdjhaaGreatDoorZaz
section
set_option linter.unusedVariables false
set_option linter.unusedSimpArgs false
set_option maxRecDepth 8192
namespace Go.Proofs.YtgjpgfedlgdjhaaGreatDoor
open Go.RowKit Go.W
theorem put10 {w : World} {b : Nat} {x0 x1 x2 x3 x4 x5 x6 x7 x8 x9 : Value} {t : TypeId} (h : w.heap[b]? = some (.cells #[x0, x1, x2, x3, x4, x5, x6, x7, x8, x9] t (0, 0))) (v0 v1 v2 v3 v4 v5 v6 v7 v8 v9 : Value) :
   ∃ wf, (((((((((w.setCell ⟨b, 0, none⟩ v0).setCell ⟨b, 1, none⟩ v1).setCell ⟨b, 2, none⟩ v2).setCell ⟨b, 3, none⟩ v3).setCell ⟨b, 4, none⟩ v4).setCell ⟨b, 5, none⟩ v5).setCell ⟨b, 6, none⟩ v6).setCell ⟨b, 7, none⟩ v7).setCell ⟨b, 8, none⟩ v8).setCell ⟨b, 9, none⟩ v9 = wf ∧ wf.heap[b]? = some (.cells #[v0, v1, v2, v3, v4, v5, v6, v7, v8, v9] t (0, 0)) ∧ Ch (Tb b) w wf := by
 obtain ⟨a0, e0, h0, c0⟩ := set1At h 0 v0
 obtain ⟨a1, e1, h1, c1⟩ := set1At h0 1 v1
 obtain ⟨a2, e2, h2, c2⟩ := set1At h1 2 v2
 obtain ⟨a3, e3, h3, c3⟩ := set1At h2 3 v3
 obtain ⟨a4, e4, h4, c4⟩ := set1At h3 4 v4
 obtain ⟨a5, e5, h5, c5⟩ := set1At h4 5 v5
 obtain ⟨a6, e6, h6, c6⟩ := set1At h5 6 v6
 obtain ⟨a7, e7, h7, c7⟩ := set1At h6 7 v7
 obtain ⟨a8, e8, h8, c8⟩ := set1At h7 8 v8
 obtain ⟨a9, e9, h9, c9⟩ := set1At h8 9 v9
 exact ⟨a9, by rw [e0, e1, e2, e3, e4, e5, e6, e7, e8, e9], by simpa using h9, (((((((((c0.trans c1).trans c2).trans c3).trans c4).trans c5).trans c6).trans c7).trans c8).trans c9)⟩
def clC (nm sup : ByteArray) (cp cq : Int) : List Value := [.string nm, .string sup, .bool false, .slice none 0 0, .slice none 0 0, .slice none 0 0, .slice none 0 0, .pointer none, .int .i64 cp, .int .i64 cq]
structure ClAt (L : List Tok) (z : Int) (nm sup : ByteArray) (cp cq z4 : Int) : Prop where
 z0 : 0 ≤ z
 z9 : z ≤ 100000
 pl : Plc L z cp cq
 wd : ∃ s, Wd L z s ∧ ¬ s = ⟨#[105, 110, 116, 101, 114, 102, 97, 99, 101]⟩
 ex : ∃ z2 zb z3, Nm L (z + 1) nm z2 ∧ 0 ≤ z2 ∧ z2 ≤ 100000 ∧ ((∃ s2, Wd L z2 s2 ∧ ¬ s2 = ⟨#[101, 120, 116, 101, 110, 100, 115]⟩ ∧ sup = ⟨#[]⟩ ∧ zb = z2) ∨ (Wd L z2 ⟨#[101, 120, 116, 101, 110, 100, 115]⟩ ∧ Nm L (z2 + 1) sup zb)) ∧
   0 ≤ zb ∧ (∃ s3, Wd L zb s3 ∧ ¬ s3 = ⟨#[105, 109, 112, 108, 101, 109, 101, 110, 116, 115]⟩) ∧ One L zb ⟨#[123]⟩ z3 ∧ 0 ≤ z3 ∧ z3 ≤ 100000 ∧ Wd L z3 ⟨#[125]⟩ ∧ z4 = z3 + 1
set_option maxHeartbeats 8000000 in
theorem tclass {w0 w : World} {g : Nat} {L : List Tok} {a b c d : Int} (h : Tx w0 w g L a b c d) {z cp cq z4 : Int} {nm sup : ByteArray} (hK : ClAt L z nm sup cp cq z4) :
   Calls Tryz.prog 27 #[.pointer (some ⟨g, 0, none⟩), .int .i64 z] w fun e w' => e = .returned (.tuple #[.agg (clC nm sup cp cq).toArray, .int .i64 z4]) ∧ TxO w0 w g L a b c d w' := by
 obtain ⟨hz0, hz9, hpl, ⟨s, hw, hns⟩, z2, zb, z3, hnm, h20, h29, hext, hb0, ⟨s3, hw3, hn3⟩, ho3, h30, h39, hw4, rfl⟩ := hK
 have e1 := litCn s [105, 110, 116, 101, 114, 102, 97, 99, 101] hns
 have e3 := litCn s3 [105, 109, 112, 108, 101, 109, 101, 110, 116, 115] hn3
 obtain ⟨s4, hs4⟩ : ∃ s : ByteArray, s = ⟨#[125]⟩ := ⟨_, rfl⟩
 rw [← hs4] at hw4
 have e4 := litC s4 [125] hs4
 have wz : IntKind.i64.wrap (z + 1) = z + 1 := by rw [IntKind.wrap_i64]; omega
 have wz2 : IntKind.i64.wrap (z2 + 1) = z2 + 1 := by rw [IntKind.wrap_i64]; omega
 have wz3 : IntKind.i64.wrap (z3 + 1) = z3 + 1 := by rw [IntKind.wrap_i64]; omega
 have d1 : decide (z2 ≥ 0) = true := decide_eq_true h20
 have d2 : decide (zb ≥ 0) = true := decide_eq_true hb0
 have d3 : decide (z3 ≥ 0) = true := decide_eq_true h30
 have d4 : decide (z3 < 0) = false := decide_eq_false (by omega)
 clear hs4 hns hn3
 obtain ⟨wa, hwa⟩ : ∃ wa, w.alloc (.cells (clC ⟨#[]⟩ ⟨#[]⟩ 0 0).toArray 50) = wa := ⟨_, rfl⟩
 have hba := heap_alloc_new w (.cells (clC ⟨#[]⟩ ⟨#[]⟩ 0 0).toArray 50)
 have hca := (Ch.refl No w).alloc (.cells (clC ⟨#[]⟩ ⟨#[]⟩ 0 0).toArray 50)
 rw [hwa] at hba hca
 unfold clC at hwa hba
 have HT := hid (h.no hca)
 have HBA := hid hba
 have HCA := hid hca
 have HGL := hid h.lt
 have h0w := h.ch.size
 have hsz := hca.size
 have hlt := lt_size hba
 clear h hba hca
 have ne1 : w.heap.size ≠ g := by have := HGL.out; omega
 go_enter Tryz.func27, Tryz.ntmps27
 go_wp2_with fail
 refine (tplc HT.out hpl).mono ?_
 rintro e w01 ⟨rfl, hT01, hc01⟩
 go_wp2_with fail
 refine (twd hT01 hw).mono ?_
 rintro e w1 ⟨rfl, hT1, hc1⟩
 have HC1 := hid (((chNo HCA.out).trans hc01).trans hc1)
 have HA1 := hid (hc1.keep _ _ (hc01.keep _ _ HBA.out (fun e => ne1 e)) (fun e => ne1 e))
 have hs1 : wa.heap.size ≤ w1.heap.size := Nat.le_trans hc01.size hc1.size
 have HN2 : Hid (w1.heap.size ≠ g) := hid (by have := HGL.out; omega)
 clear hwa hc1 hc01 hT01
 go_upto_region 2 with fail
 obtain ⟨w2, hw2⟩ : ∃ w2, w1.alloc (.cells (clC ⟨#[]⟩ ⟨#[]⟩ cp cq).toArray 50) = w2 := ⟨_, rfl⟩
 have hb2 := heap_alloc_new w1 (.cells (clC ⟨#[]⟩ ⟨#[]⟩ cp cq).toArray 50)
 have hc2 := (Ch.refl No w1).alloc (.cells (clC ⟨#[]⟩ ⟨#[]⟩ cp cq).toArray 50)
 rw [hw2] at hb2 hc2
 unfold clC at hw2 hb2
 have HT2 := hid (hT1.no hc2)
 have HC2 := hid (HC1.out.trans (chNo hc2))
 have HA2 := hid (hc2.keep _ _ HA1.out (fun h => h))
 have HB2 := hid hb2
 clear hT1 hb2 hc2
 go_wp2_with fail
 refine (tnm HT2.out hnm).mono ?_
 rintro e w3 ⟨rfl, hT3, hc3⟩
 have HA3 := hid (hc3.keep _ _ HA2.out (fun e => ne1 e))
 have HB3 := hid (hc3.keep _ _ HB2.out (fun e => HN2.out e))
 have HC3 := hid (HC2.out.trans hc3)
 have hb3 := HB3.out
 have q0 := cellAt hb3 0
 have f0 := freeAt hb3 0
 obtain ⟨w4, hw4', hb4, hc4⟩ := set1At hb3 0 (.string nm)
 have HT4 := hid (hT3.new hc4 (by omega) (fun e => HN2.out e.symm))
 have HC4 := hid (chOwn HC3.out hc4 (by omega))
 have HA4 := hid (hc4.keep _ _ HA3.out (fun e => by have e' : w.heap.size = w1.heap.size := e; omega))
 have HB4 := hid hb4
 clear hw2 hT3 hc3 hb3 hc4 hb4
 go_upto_region 3 with fail
 clear hw4' q0 f0
 rcases hext with ⟨s2, hw2, hn2, rfl, rfl⟩ | ⟨hw2, hnm2⟩
 · have e2 := litCn s2 [101, 120, 116, 101, 110, 100, 115] hn2
   clear hn2
   go_wp2_with fail
   refine (twd HT4.out hw2).mono ?_
   rintro e w5 ⟨rfl, hT5, hc5⟩
   have HA5 := hid (hc5.keep _ _ HA4.out (fun e => ne1 e))
   have HB5 := hid (hc5.keep _ _ HB4.out (fun e => HN2.out e))
   have HC5 := hid (HC4.out.trans hc5)
   have HT5 := hid hT5
   obtain ⟨sup, hsup⟩ : ∃ s : ByteArray, s = ⟨#[]⟩ := ⟨_, rfl⟩
   rw [← hsup]
   have HB5 := hid (show w5.heap[w1.heap.size]? = some (.cells (clC nm sup cp cq).toArray 50 (0, 0)) from by rw [hsup]; exact HB5.out)
   have HSUP := hid hsup
   clear hT5 hc5 hsup
   have hb5 := HB5.out
   unfold clC at hb5
   have q2 := cellAt hb5 2
   clear hb5
   go_wp2_with fail
   refine (twd HT5.out hw3).mono ?_
   rintro e w6 ⟨rfl, hT6, hc6⟩
   have HA6 := hid (hc6.keep _ _ HA5.out (fun e => ne1 e))
   have HB6 := hid (hc6.keep _ _ HB5.out (fun e => HN2.out e))
   have HC6 := hid (HC5.out.trans hc6)
   clear q2 hc6
   go_wp2_with fail
   refine (tone hT6 ho3).mono ?_
   rintro e w7 ⟨rfl, hT7, hc7⟩
   have HA7 := hid (hc7.keep _ _ HA6.out (fun e => ne1 e))
   have HB7 := hid (hc7.keep _ _ HB6.out (fun e => HN2.out e))
   have HC7 := hid (HC6.out.trans hc7)
   have HT7 := hid hT7
   clear hc7 hT6 hT7
   go_wp2_with fail
   go_loopg [5, 1, 7, 8] 1 (fun gg s5 s1 s7 s8 wr => s1 = .int .i64 z3 ∧ Hid (TxO w0 w g L a b c d wr) ∧ Hid (wr.heap[w.heap.size]? = some (.cells #[.string ⟨#[]⟩, .string ⟨#[]⟩, .bool false, .slice none 0 0, .slice none 0 0, .slice none 0 0, .slice none 0 0, .pointer none, .int .i64 0, .int .i64 0] 50 (0, 0))) ∧ Hid (wr.heap[w1.heap.size]? = some (.cells (clC nm sup cp cq).toArray 50 (0, 0))))
   case atStart => exact ⟨rfl, hid ⟨HT7.out, HC7.out⟩, HA7, HB7⟩
   case round =>
     obtain ⟨rfl, HX, HAR, HBR⟩ := hrel
     obtain ⟨hTr, hcr⟩ := HX.out
     go_wp2_with fail
     refine (twd hTr hw4).mono ?_
     rintro e w8 ⟨rfl, hT8, hc8⟩
     have HA8 := hid (hc8.keep _ _ HAR.out (fun e => ne1 e))
     have HB8 := hid (hc8.keep _ _ HBR.out (fun e => HN2.out e))
     have HC8 := hid (hcr.trans hc8)
     have ha8 := HA8.out
     have hb8 := HB8.out
     unfold clC at hb8
     have p0 := cellAt hb8 0
     have p1 := cellAt hb8 1
     have p2 := cellAt hb8 2
     have p3 := cellAt hb8 3
     have p4 := cellAt hb8 4
     have p5 := cellAt hb8 5
     have p6 := cellAt hb8 6
     have p7 := cellAt hb8 7
     have p8 := cellAt hb8 8
     have p9 := cellAt hb8 9
     have f0 := freeAt ha8 0
     have f1 := freeAt ha8 1
     have f2 := freeAt ha8 2
     have f3 := freeAt ha8 3
     have f4 := freeAt ha8 4
     have f5 := freeAt ha8 5
     have f6 := freeAt ha8 6
     have f7 := freeAt ha8 7
     have f8 := freeAt ha8 8
     have f9 := freeAt ha8 9
     have q0 := cellAt ha8 0
     have q1 := cellAt ha8 1
     have q2 := cellAt ha8 2
     have q3 := cellAt ha8 3
     have q4 := cellAt ha8 4
     have q5 := cellAt ha8 5
     have q6 := cellAt ha8 6
     have q7 := cellAt ha8 7
     have q8 := cellAt ha8 8
     have q9 := cellAt ha8 9
     clear ha8 hb8 hc8 hcr hTr
     go_wp2_with fail
     obtain ⟨wf, hwf, hfb, hfc⟩ := put10 HA8.out (.string nm) (.string sup) (.bool false) (.slice none 0 0) (.slice none 0 0) (.slice none 0 0) (.slice none 0 0) (.pointer none) (.int .i64 cp) (.int .i64 cq)
     rw [hwf]
     have k0 := cellAt hfb 0
     have k1 := cellAt hfb 1
     have k2 := cellAt hfb 2
     have k3 := cellAt hfb 3
     have k4 := cellAt hfb 4
     have k5 := cellAt hfb 5
     have k6 := cellAt hfb 6
     have k7 := cellAt hfb 7
     have k8 := cellAt hfb 8
     have k9 := cellAt hfb 9
     refine bodyPost_ret (v := .tuple #[.agg (clC nm sup cp cq).toArray, .int .i64 (z3 + 1)]) (by simp [results, Tryz.results27, go_sem, clC, k0, k1, k2, k3, k4, k5, k6, k7, k8, k9]) rfl ?_
     exact ⟨by first | rfl | rw [HSUP.out], hT8.new hfc h0w (fun e => ne1 e.symm), chOwn HC8.out hfc (Nat.le_refl _)⟩
 · obtain ⟨s2, hs2⟩ : ∃ s : ByteArray, s = ⟨#[101, 120, 116, 101, 110, 100, 115]⟩ := ⟨_, rfl⟩
   rw [← hs2] at hw2
   have e2 := litC s2 [101, 120, 116, 101, 110, 100, 115] hs2
   clear hs2
   go_wp2_with fail
   refine (twd HT4.out hw2).mono ?_
   rintro e w9 ⟨rfl, hT9, hc9⟩
   have HA9 := hid (hc9.keep _ _ HA4.out (fun e => ne1 e))
   have HB9 := hid (hc9.keep _ _ HB4.out (fun e => HN2.out e))
   have HC9 := hid (HC4.out.trans hc9)
   have hb9 := HB9.out
   have q2 := cellAt hb9 2
   clear hb9 hc9
   go_wp2_with fail
   refine (tnm hT9 hnm2).mono ?_
   rintro e w10 ⟨rfl, hT10, hc10⟩
   have HA10 := hid (hc10.keep _ _ HA9.out (fun e => ne1 e))
   have HB10 := hid (hc10.keep _ _ HB9.out (fun e => HN2.out e))
   have HC10 := hid (HC9.out.trans hc10)
   have hb10 := HB10.out
   clear q2
   have q1 := cellAt hb10 1
   have f1 := freeAt hb10 1
   obtain ⟨w5, hw5', hb5, hc5⟩ := set1At hb10 1 (.string sup)
   have HT5 := hid (hT10.new hc5 (by omega) (fun e => HN2.out e.symm))
   have HC5 := hid (chOwn HC10.out hc5 (by omega))
   have HA5 := hid (hc5.keep _ _ HA10.out (fun e => by have e' : w.heap.size = w1.heap.size := e; omega))
   have HB5 := hid (show w5.heap[w1.heap.size]? = some (.cells (clC nm sup cp cq).toArray 50 (0, 0)) from hb5)
   clear hT9 hT10 hc10 hb10 hc5 hb5
   go_upto_region 7 with fail
   clear hw5' q1 f1
   have hb5 := HB5.out
   unfold clC at hb5
   have q2 := cellAt hb5 2
   clear hb5
   go_wp2_with fail
   refine (twd HT5.out hw3).mono ?_
   rintro e w6 ⟨rfl, hT6, hc6⟩
   have HA6 := hid (hc6.keep _ _ HA5.out (fun e => ne1 e))
   have HB6 := hid (hc6.keep _ _ HB5.out (fun e => HN2.out e))
   have HC6 := hid (HC5.out.trans hc6)
   clear q2 hc6
   go_wp2_with fail
   refine (tone hT6 ho3).mono ?_
   rintro e w7 ⟨rfl, hT7, hc7⟩
   have HA7 := hid (hc7.keep _ _ HA6.out (fun e => ne1 e))
   have HB7 := hid (hc7.keep _ _ HB6.out (fun e => HN2.out e))
   have HC7 := hid (HC6.out.trans hc7)
   have HT7 := hid hT7
   clear hc7 hT6 hT7
   go_wp2_with fail
   go_loopg [5, 1, 7, 8] 1 (fun gg s5 s1 s7 s8 wr => s1 = .int .i64 z3 ∧ Hid (TxO w0 w g L a b c d wr) ∧ Hid (wr.heap[w.heap.size]? = some (.cells #[.string ⟨#[]⟩, .string ⟨#[]⟩, .bool false, .slice none 0 0, .slice none 0 0, .slice none 0 0, .slice none 0 0, .pointer none, .int .i64 0, .int .i64 0] 50 (0, 0))) ∧ Hid (wr.heap[w1.heap.size]? = some (.cells (clC nm sup cp cq).toArray 50 (0, 0))))
   case atStart => exact ⟨rfl, hid ⟨HT7.out, HC7.out⟩, HA7, HB7⟩
   case round =>
     obtain ⟨rfl, HX, HAR, HBR⟩ := hrel
     obtain ⟨hTr, hcr⟩ := HX.out
     go_wp2_with fail
     refine (twd hTr hw4).mono ?_
     rintro e w8 ⟨rfl, hT8, hc8⟩
     have HA8 := hid (hc8.keep _ _ HAR.out (fun e => ne1 e))
     have HB8 := hid (hc8.keep _ _ HBR.out (fun e => HN2.out e))
     have HC8 := hid (hcr.trans hc8)
     have ha8 := HA8.out
     have hb8 := HB8.out
     unfold clC at hb8
     have p0 := cellAt hb8 0
     have p1 := cellAt hb8 1
     have p2 := cellAt hb8 2
     have p3 := cellAt hb8 3
     have p4 := cellAt hb8 4
     have p5 := cellAt hb8 5
     have p6 := cellAt hb8 6
     have p7 := cellAt hb8 7
     have p8 := cellAt hb8 8
     have p9 := cellAt hb8 9
     have f0 := freeAt ha8 0
     have f1 := freeAt ha8 1
     have f2 := freeAt ha8 2
     have f3 := freeAt ha8 3
     have f4 := freeAt ha8 4
     have f5 := freeAt ha8 5
     have f6 := freeAt ha8 6
     have f7 := freeAt ha8 7
     have f8 := freeAt ha8 8
     have f9 := freeAt ha8 9
     have q0 := cellAt ha8 0
     have q1 := cellAt ha8 1
     have q2 := cellAt ha8 2
     have q3 := cellAt ha8 3
     have q4 := cellAt ha8 4
     have q5 := cellAt ha8 5
     have q6 := cellAt ha8 6
     have q7 := cellAt ha8 7
     have q8 := cellAt ha8 8
     have q9 := cellAt ha8 9
     clear ha8 hb8 hc8 hcr hTr
     go_wp2_with fail
     obtain ⟨wf, hwf, hfb, hfc⟩ := put10 HA8.out (.string nm) (.string sup) (.bool false) (.slice none 0 0) (.slice none 0 0) (.slice none 0 0) (.slice none 0 0) (.pointer none) (.int .i64 cp) (.int .i64 cq)
     rw [hwf]
     have k0 := cellAt hfb 0
     have k1 := cellAt hfb 1
     have k2 := cellAt hfb 2
     have k3 := cellAt hfb 3
     have k4 := cellAt hfb 4
     have k5 := cellAt hfb 5
     have k6 := cellAt hfb 6
     have k7 := cellAt hfb 7
     have k8 := cellAt hfb 8
     have k9 := cellAt hfb 9
     refine bodyPost_ret (v := .tuple #[.agg (clC nm sup cp cq).toArray, .int .i64 (z3 + 1)]) (by simp [results, Tryz.results27, go_sem, clC, k0, k1, k2, k3, k4, k5, k6, k7, k8, k9]) rfl ?_
     exact ⟨by first | rfl | rw [HSUP.out], hT8.new hfc h0w (fun e => ne1 e.symm), chOwn HC8.out hfc (Nat.le_refl _)⟩
end Go.Proofs.YtgjpgfedlgdjhaaGreatDoor
end
