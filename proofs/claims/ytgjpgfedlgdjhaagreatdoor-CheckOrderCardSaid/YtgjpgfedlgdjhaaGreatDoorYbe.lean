/- Part 31. -/
import Derived.Test.YtgjpgfedlgdjhaaGreatDoorYbd
set_option linter.unusedVariables false
set_option linter.unusedSimpArgs false
set_option maxHeartbeats 64000000
set_option maxRecDepth 8192
section
namespace Go.Proofs.YtgjpgfedlgdjhaaGreatDoor
open Go.RowKit Go.W
def Pw (nm sup : ByteArray) (cp cq : Int) : List Value := [.string nm, .string sup, .bool false, .slice none 0 0, .slice none 0 0, .slice none 0 0, .slice none 0 0, .pointer none, .int .i64 cp, .int .i64 cq]
structure Px (L : List Iv) (z : Int) (nm sup : ByteArray) (cp cq z4 : Int) : Prop where
 z0 : 0 ≤ z
 z9 : z ≤ 100000
 pl : Sy L z cp cq
 wd : ∃ s, Wd L z s ∧ ¬ s = ⟨#[105, 110, 116, 101, 114, 102, 97, 99, 101]⟩
 ex : ∃ z2 zb z3, Nm L (z + 1) nm z2 ∧ 0 ≤ z2 ∧ z2 ≤ 100000 ∧ ((∃ s2, Wd L z2 s2 ∧ ¬ s2 = ⟨#[101, 120, 116, 101, 110, 100, 115]⟩ ∧ sup = ⟨#[]⟩ ∧ zb = z2) ∨ (Wd L z2 ⟨#[101, 120, 116, 101, 110, 100, 115]⟩ ∧ Nm L (z2 + 1) sup zb)) ∧
  0 ≤ zb ∧ (∃ s3, Wd L zb s3 ∧ ¬ s3 = ⟨#[105, 109, 112, 108, 101, 109, 101, 110, 116, 115]⟩) ∧ M5 L zb ⟨#[123]⟩ z3 ∧ 0 ≤ z3 ∧ z3 ≤ 100000 ∧ Wd L z3 ⟨#[125]⟩ ∧ z4 = z3 + 1
theorem Adw {p : Prop} (h : p := by
 have hb5 := HB5.out
 unfold Pw at hb5
 have q2 := Ab hb5 2
 clear hb5
 go_wp2_with fail
 refine (O3 HT5.out hw3).mono ?_
 rintro e w6 ⟨rfl, hT6, hc6⟩
 have HA6 := Aa (hc6.keep _ _ HA5.out (fun e => ne1 e))
 have HB6 := Aa (hc6.keep _ _ HB5.out (fun e => HN2.out e))
 have HC6 := Aa (HC5.out.trans hc6)
 clear q2 hc6
 go_wp2_with fail
 refine (Vc hT6 ho3).mono ?_
 rintro e w7 ⟨rfl, hT7, hc7⟩
 have HA7 := Aa (hc7.keep _ _ HA6.out (fun e => ne1 e))
 have HB7 := Aa (hc7.keep _ _ HB6.out (fun e => HN2.out e))
 have HC7 := Aa (HC6.out.trans hc7)
 have HT7 := Aa hT7
 clear hc7 hT6 hT7
 go_wp2
 go_loopg [5, 1, 7, 8] 1 (fun gg s5 s1 s7 s8 wr => s1 = .int .i64 z3 ∧ Hid (Io w0 w g L a b c d wr) ∧ Hid (wr.heap[w.heap.size]? = some (.cells #[.string ⟨#[]⟩, .string ⟨#[]⟩, .bool false, .slice none 0 0, .slice none 0 0, .slice none 0 0, .slice none 0 0, .pointer none, .int .i64 0, .int .i64 0] 50 (0, 0))) ∧ Hid (wr.heap[w1.heap.size]? = some (.cells (Pw nm sup cp cq).toArray 50 (0, 0))))
 case atStart => exact ⟨rfl, Aa ⟨HT7.out, HC7.out⟩, HA7, HB7⟩
 case round =>
  obtain ⟨rfl, HX, HAR, HBR⟩ := hrel
  obtain ⟨hTr, hcr⟩ := HX.out
  go_wp2_with fail
  refine (O3 hTr hw4).mono ?_
  rintro e w8 ⟨rfl, hT8, hc8⟩
  have HA8 := Aa (hc8.keep _ _ HAR.out (fun e => ne1 e))
  have HB8 := Aa (hc8.keep _ _ HBR.out (fun e => HN2.out e))
  have HC8 := Aa (hcr.trans hc8)
  have ha8 := HA8.out
  have hb8 := HB8.out
  unfold Pw at hb8
  obtain ⟨p0, p1, p2, p3, p4, p5, p6, p7, p8, p9⟩ := Cp hb8
  obtain ⟨f0, f1, f2, f3, f4, f5, f6, f7, f8, f9⟩ := Y6 ha8
  obtain ⟨q0, q1, q2, q3, q4, q5, q6, q7, q8, q9⟩ := Cp ha8
  clear ha8 hb8 hc8 hcr hTr
  go_wp2_with fail
  obtain ⟨wf, hwf, hfb, hfc⟩ := F3 HA8.out (.string nm) (.string sup) (.bool false) (.slice none 0 0) (.slice none 0 0) (.slice none 0 0) (.slice none 0 0) (.pointer none) (.int .i64 cp) (.int .i64 cq)
  rw [hwf]
  obtain ⟨k0, k1, k2, k3, k4, k5, k6, k7, k8, k9⟩ := Cp hfb
  refine bodyPost_ret (v := .tuple #[.agg (Pw nm sup cp cq).toArray, .int .i64 (z3 + 1)]) (by simp [results, Tryz.results27, go_sem, Pw, k0, k1, k2, k3, k4, k5, k6, k7, k8, k9]) rfl ?_
  exact ⟨by first | rfl | rw [HSUP.out], hT8.new hfc h0w (fun e => ne1 e.symm), Ao HC8.out hfc (Nat.le_refl _)⟩
 ) : p := h
theorem Aap {w0 w : World} {g : Nat} {L : List Iv} {a b c d : Int} (h : Tx w0 w g L a b c d) {z cp cq z4 : Int} {nm sup : ByteArray} (hK : Px L z nm sup cp cq z4) :
 Calls Tryz.prog 27 #[.pointer (some ⟨g, 0, none⟩), .int .i64 z] w fun e w' => e = .returned (.tuple #[.agg (Pw nm sup cp cq).toArray, .int .i64 z4]) ∧ Io w0 w g L a b c d w' := by
 obtain ⟨hz0, hz9, hpl, ⟨s, hw, hns⟩, z2, zb, z3, hnm, h20, h29, hext, hb0, ⟨s3, hw3, hn3⟩, ho3, h30, h39, hw4, rfl⟩ := hK
 have e1 := Et s [105, 110, 116, 101, 114, 102, 97, 99, 101] hns
 have e3 := Et s3 [105, 109, 112, 108, 101, 109, 101, 110, 116, 115] hn3
 obtain ⟨s4, hs4⟩ : ∃ s : ByteArray, s = ⟨#[125]⟩ := ⟨_, rfl⟩
 rw [← hs4] at hw4
 have e4 := Pv s4 [125] hs4
 have wz : IntKind.i64.wrap (z + 1) = z + 1 := by rw [IntKind.wrap_i64]; omega
 have wz2 : IntKind.i64.wrap (z2 + 1) = z2 + 1 := by rw [IntKind.wrap_i64]; omega
 have wz3 : IntKind.i64.wrap (z3 + 1) = z3 + 1 := by rw [IntKind.wrap_i64]; omega
 have d1 : decide (z2 ≥ 0) = true := decide_eq_true h20
 have d2 : decide (zb ≥ 0) = true := decide_eq_true hb0
 have d3 : decide (z3 ≥ 0) = true := decide_eq_true h30
 have d4 : decide (z3 < 0) = false := decide_eq_false (by omega)
 clear hs4 hns hn3
 obtain ⟨wa, hwa, hba, hca⟩ := A2 w (.cells (Pw ⟨#[]⟩ ⟨#[]⟩ 0 0).toArray 50)
 unfold Pw at hwa hba
 have HT := Aa (h.no hca)
 have HBA := Aa hba
 have HCA := Aa hca
 have HGL := Aa h.lt
 have h0w := h.ch.size
 have hsz := hca.size
 have hlt := Ac hba
 clear h hba hca
 have ne1 : w.heap.size ≠ g := by have := HGL.out; omega
 go_in
 go_wp2_with fail
 refine (Aaj HT.out hpl).mono ?_
 rintro e w01 ⟨rfl, hT01, hc01⟩
 go_wp2_with fail
 refine (O3 hT01 hw).mono ?_
 rintro e w1 ⟨rfl, hT1, hc1⟩
 have HC1 := Aa (((Ce HCA.out).trans hc01).trans hc1)
 have HA1 := Aa (hc1.keep _ _ (hc01.keep _ _ HBA.out (fun e => ne1 e)) (fun e => ne1 e))
 have Jj : wa.heap.size ≤ w1.heap.size := Nat.le_trans hc01.size hc1.size
 have HN2 : Hid (w1.heap.size ≠ g) := Aa (by have := HGL.out; omega)
 clear hwa hc1 hc01 hT01
 go_upto_region 2 with fail
 obtain ⟨w2, hw2, hb2, hc2⟩ := A2 w1 (.cells (Pw ⟨#[]⟩ ⟨#[]⟩ cp cq).toArray 50)
 unfold Pw at hw2 hb2
 have HT2 := Aa (hT1.no hc2)
 have HC2 := Aa (HC1.out.trans (Ce hc2))
 have HA2 := Aa (hc2.keep _ _ HA1.out (fun h => h))
 have HB2 := Aa hb2
 clear hT1 hb2 hc2
 go_wp2_with fail
 refine (tnm HT2.out hnm).mono ?_
 rintro e w3 ⟨rfl, hT3, hc3⟩
 have HA3 := Aa (hc3.keep _ _ HA2.out (fun e => ne1 e))
 have HB3 := Aa (hc3.keep _ _ HB2.out (fun e => HN2.out e))
 have HC3 := Aa (HC2.out.trans hc3)
 have hb3 := HB3.out
 have q0 := Ab hb3 0
 have f0 := Ad hb3 0
 obtain ⟨w4, hw4', hb4, hc4⟩ := Ai hb3 0 (.string nm)
 have HT4 := Aa (hT3.new hc4 (by omega) (fun e => HN2.out e.symm))
 have HC4 := Aa (Ao HC3.out hc4 (by omega))
 have HA4 := Aa (hc4.keep _ _ HA3.out (Bm (by omega)))
 have HB4 := Aa hb4
 clear hw2 hT3 hc3 hb3 hc4 hb4
 go_upto_region 3 with fail
 clear hw4' q0 f0
 rcases hext with ⟨s2, hw2, hn2, rfl, rfl⟩ | ⟨hw2, hnm2⟩
 {have e2 := Et s2 [101, 120, 116, 101, 110, 100, 115] hn2
  clear hn2
  go_wp2_with fail
  refine (O3 HT4.out hw2).mono ?_
  rintro e w5 ⟨rfl, hT5, hc5⟩
  have HA5 := Aa (hc5.keep _ _ HA4.out (fun e => ne1 e))
  have HB5 := Aa (hc5.keep _ _ HB4.out (fun e => HN2.out e))
  have HC5 := Aa (HC4.out.trans hc5)
  have HT5 := Aa hT5
  obtain ⟨sup, hsup⟩ : ∃ s : ByteArray, s = ⟨#[]⟩ := ⟨_, rfl⟩
  rw [← hsup]
  have HB5 := Aa (show w5.heap[w1.heap.size]? = some (.cells (Pw nm sup cp cq).toArray 50 (0, 0)) from by rw [hsup]; exact HB5.out)
  have HSUP := Aa hsup
  clear hT5 hc5 hsup
  exact Adw}
 {obtain ⟨s2, hs2⟩ : ∃ s : ByteArray, s = ⟨#[101, 120, 116, 101, 110, 100, 115]⟩ := ⟨_, rfl⟩
  rw [← hs2] at hw2
  have e2 := Pv s2 [101, 120, 116, 101, 110, 100, 115] hs2
  clear hs2
  go_wp2_with fail
  refine (O3 HT4.out hw2).mono ?_
  rintro e w9 ⟨rfl, hT9, hc9⟩
  have HA9 := Aa (hc9.keep _ _ HA4.out (fun e => ne1 e))
  have HB9 := Aa (hc9.keep _ _ HB4.out (fun e => HN2.out e))
  have HC9 := Aa (HC4.out.trans hc9)
  have hb9 := HB9.out
  have q2 := Ab hb9 2
  clear hb9 hc9
  go_wp2_with fail
  refine (tnm hT9 hnm2).mono ?_
  rintro e w10 ⟨rfl, hT10, hc10⟩
  have HA10 := Aa (hc10.keep _ _ HA9.out (fun e => ne1 e))
  have HB10 := Aa (hc10.keep _ _ HB9.out (fun e => HN2.out e))
  have HC10 := Aa (HC9.out.trans hc10)
  have hb10 := HB10.out
  clear q2
  have q1 := Ab hb10 1
  have f1 := Ad hb10 1
  obtain ⟨w5, hw5', hb5, hc5⟩ := Ai hb10 1 (.string sup)
  have HT5 := Aa (hT10.new hc5 (by omega) (fun e => HN2.out e.symm))
  have HC5 := Aa (Ao HC10.out hc5 (by omega))
  have HA5 := Aa (hc5.keep _ _ HA10.out (Bm (by omega)))
  have HB5 := Aa (show w5.heap[w1.heap.size]? = some (.cells (Pw nm sup cp cq).toArray 50 (0, 0)) from hb5)
  clear hT9 hT10 hc10 hb10 hc5 hb5
  go_upto_region 7 with fail
  clear hw5' q1 f1
  exact Adw}
end Go.Proofs.YtgjpgfedlgdjhaaGreatDoor
end
