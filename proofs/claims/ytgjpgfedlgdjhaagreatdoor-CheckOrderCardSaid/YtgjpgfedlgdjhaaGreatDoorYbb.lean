/- Part 28. -/
import Derived.Test.YtgjpgfedlgdjhaaGreatDoorYba
import Derived.Deep.RegionHeld3
set_option linter.unusedVariables false
set_option linter.unusedSimpArgs false
set_option maxHeartbeats 64000000
set_option maxRecDepth 8192
section
namespace Go.Proofs.YtgjpgfedlgdjhaaGreatDoor
open Go.RowKit Go.W
structure Re (L : List Iv) (z : Int) (nm tn : ByteArray) (z4 : Int) : Prop where
 z0 : 0 ≤ z
 z9 : z ≤ 50000
 nm : Nm L z nm (z + 1)
 eq : Wd L (z + 1) ⟨#[61]⟩
 nw : Wd L (z + 1 + 1) ⟨#[110, 101, 119]⟩
 tn : Nm L (z + 1 + 1 + 1) tn z4
 b4 : 0 ≤ z4
 no : ∃ w2, Wd L z4 w2 ∧ ¬ w2 = ⟨#[91]⟩
theorem Aal {w0 w : World} {g : Nat} {L : List Iv} {a b c d : Int} (h : Tx w0 w g L a b c d) {z z4 : Int} {nm tn : ByteArray} (hN : Re L z nm tn z4) (x0 x7 x10 x11 : Int) (x1 x2 x3 x4 x5 : ByteArray) (x6 x8 x9 : Option Addr) (u6 v6 u8 v8 u9 v9 : Nat) :
 Calls Tryz.prog 131 #[.pointer (some ⟨g, 0, none⟩), .agg #[.int .i64 x0, .string x1, .string x2, .string x3, .string x4, .string x5, .slice x6 u6 v6, .int .i64 x7, .slice x8 u8 v8, .slice x9 u9 v9, .int .i64 x10, .int .i64 x11], .int .i64 z] w fun e w' => e = .returned (.tuple #[.agg #[.int .i64 0, .string nm, .string x2, .string x3, .string tn, .string x5, .slice x6 u6 v6, .int .i64 x7, .slice x8 u8 v8, .slice x9 u9 v9, .int .i64 x10, .int .i64 x11], .int .i64 z4]) ∧ Io w0 w g L a b c d w' := by
 obtain ⟨hz0, hz1, hnm, heq, hnw, htn, hz4, w2, hw2, hne⟩ := hN
 obtain ⟨s, hs⟩ : ∃ s : ByteArray, s = ⟨#[61]⟩ := ⟨_, rfl⟩
 rw [← hs] at heq
 have e1 : (s.toList == [61]) = true := Pv _ _ hs
 have wz : IntKind.i64.wrap (z + 1 + 1) = z + 1 + 1 := by rw [IntKind.wrap_i64]; omega
 have d1 : decide (z + 1 < 0) = false := decide_eq_false (by omega)
 clear hs
 obtain ⟨wa, hwa, hba, hca⟩ := A2 w (.cells #[.int .i64 x0, .string x1, .string x2, .string x3, .string x4, .string x5, .slice x6 u6 v6, .int .i64 x7, .slice x8 u8 v8, .slice x9 u9 v9, .int .i64 x10, .int .i64 x11] 128)
 obtain ⟨wb, hwb, hbb, hcb⟩ := A2 wa (.cells O2 128)
 unfold O2 at hwb hbb
 have HT := Aa ((h.no hca).no hcb)
 have HBA := Aa (hcb.keep _ _ hba (fun h => h))
 have HBB := Aa hbb
 have HGL := Aa h.lt
 have h0w := h.ch.size
 have hsz := hca.size
 have hlt := Ac hba
 clear h hba hbb
 have ne1 : w.heap.size ≠ g := by have := HGL.out; omega
 have HN2 : Hid (wa.heap.size ≠ g) := Aa (by have := HGL.out; omega)
 go_in
 go_wp2_with fail
 refine (tnm HT.out hnm).mono ?_
 rintro e w1 ⟨rfl, hT1, hc1⟩
 have HC1 := Aa ((Ce (hca.trans hcb)).trans hc1)
 have HA1 := Aa (hc1.keep _ _ HBA.out (fun e => ne1 e))
 have HB1 := Aa (hc1.keep _ _ HBB.out (fun e => HN2.out e))
 clear hwa hwb hc1
 go_wp2_with fail
 refine (O3 hT1 heq).mono ?_
 rintro e w2 ⟨rfl, hT2, hc2⟩
 have HA2 := Aa (hc2.keep _ _ HA1.out (fun e => ne1 e))
 have HB2 := Aa (hc2.keep _ _ HB1.out (fun e => HN2.out e))
 have ha2 := HA2.out
 have p1 := Ab ha2 1
 have f1 := Ad ha2 1
 obtain ⟨w3, hw3, hb3, hc3⟩ := Ai HA2.out 1 (.string nm)
 have hT3 := hT2.new hc3 h0w (fun e => ne1 e.symm)
 have HC3 := Aa (Ao (HC1.out.trans hc2) hc3 (Nat.le_refl _))
 have HB3 := Aa (hc3.keep _ _ HB2.out (Bm (by omega)))
 clear ha2 hc2 hc3 hT1 hT2
 go_upto_region 7 with fail
 clear hw3 p1 f1
 obtain ⟨p0, p1, p2, p3, p4, p5, p6, p7, p8, p9, p10, p11⟩ := Ay hb3
 go_wp2_with fail
 refine (Aak hT3 (by omega) (by omega) hnw htn hz4 hw2 hne x0 x7 x10 x11 nm x2 x3 x4 x5 x6 x8 x9 u6 v6 u8 v8 u9 v9).mono ?_
 rintro e w5 ⟨rfl, hT5, hc5⟩
 have HB5 := Aa (hc5.keep _ _ HB3.out (fun e => HN2.out e))
 have hb5 := HB5.out
 clear p0 p1 p2 p3 p4 p5 p6 p7 p8 p9 p10 p11
 obtain ⟨q0, q1, q2, q3, q4, q5, q6, q7, q8, q9, q10, q11⟩ := Ay hb5
 obtain ⟨f0, f1, f2, f3, f4, f5, f6, f7, f8, f9, f10, f11⟩ := De hb5
 clear hb5 hb3 hT3
 go_wp2_with fail
 obtain ⟨wf, hwf, hfb, hfc⟩ := Bj HB5.out (.int .i64 0) (.string nm) (.string x2) (.string x3) (.string tn) (.string x5) (.slice x6 u6 v6) (.int .i64 x7) (.slice x8 u8 v8) (.slice x9 u9 v9) (.int .i64 x10) (.int .i64 x11)
 rw [hwf]
 obtain ⟨k0, k1, k2, k3, k4, k5, k6, k7, k8, k9, k10, k11⟩ := Ay hfb
 refine bodyPost_ret (v := .tuple #[.agg #[.int .i64 0, .string nm, .string x2, .string x3, .string tn, .string x5, .slice x6 u6 v6, .int .i64 x7, .slice x8 u8 v8, .slice x9 u9 v9, .int .i64 x10, .int .i64 x11], .int .i64 z4]) (by simp [results, Tryz.results131, go_sem, k0, k1, k2, k3, k4, k5, k6, k7, k8, k9, k10, k11]) rfl ?_
 exact ⟨rfl, hT5.new hfc (by omega) (fun e => HN2.out e.symm), Ao (HC3.out.trans hc5) hfc (by omega)⟩
structure Mo (L : List Iv) (z : Int) (nm tn : ByteArray) (p q z5 : Int) : Prop where
 pl : Sy L z p q
 wd : Wd L z nm
 k1 : ¬ nm = ⟨#[116, 104, 114, 111, 119]⟩
 k2 : ¬ nm = ⟨#[114, 101, 116, 117, 114, 110]⟩
 k3 : ¬ nm = ⟨#[116, 114, 121]⟩
 k4 : ¬ nm = ⟨#[105, 102]⟩
 k5 : ¬ nm = ⟨#[119, 104, 105, 108, 101]⟩
 new : ∃ z4, Re L z nm tn z4 ∧ M5 L z4 ⟨#[59]⟩ z5
theorem Adv {w0 w : World} {g : Nat} {L : List Iv} {a b c d : Int} (h : Tx w0 w g L a b c d) {z p q z5 deep : Int} {nm tn : ByteArray} (hN : Mo L z nm tn p q z5) :
 Calls Tryz.prog 99 #[.pointer (some ⟨g, 0, none⟩), .int .i64 z, .int .i64 deep] w fun e w' => e = .returned (.tuple #[.agg #[.int .i64 0, .string nm, .string ⟨#[]⟩, .string ⟨#[]⟩, .string tn, .string ⟨#[]⟩, .slice none 0 0, .int .i64 0, .slice none 0 0, .slice none 0 0, .int .i64 p, .int .i64 q], .int .i64 z5]) ∧ Io w0 w g L a b c d w' := by
 obtain ⟨hpl, hwd, k1, k2, k3, k4, k5, z4, Tt, hone⟩ := hN
 have e1 := Et nm [116, 104, 114, 111, 119] k1
 have e2 := Et nm [114, 101, 116, 117, 114, 110] k2
 have e3 := Et nm [116, 114, 121] k3
 have e4 := Et nm [105, 102] k4
 have e5 := Et nm [119, 104, 105, 108, 101] k5
 clear k1 k2 k3 k4 k5
 obtain ⟨wa, hwa, hba, hca⟩ := A2 w (.cells O2 128)
 unfold O2 at hwa hba
 have HT := Aa (h.no hca)
 have HBA := Aa hba
 have HGL := Aa h.lt
 have h0w := h.ch.size
 have hsz := hca.size
 have hlt := Ac hba
 clear h hba
 have ne1 : w.heap.size ≠ g := by have := HGL.out; omega
 go_in
 go_wp2_with fail
 refine (Aaj HT.out hpl).mono ?_
 rintro e w1 ⟨rfl, hT1, hc1⟩
 have HC1 := Aa ((Ce hca).trans hc1)
 have HA1 := Aa (hc1.keep _ _ HBA.out (fun e => ne1 e))
 have HN2 : Hid (w1.heap.size ≠ g) := Aa (by have := HGL.out; have := hc1.size; omega)
 have Jj := hc1.size
 clear hwa hc1
 go_upto_region 2 with fail
 obtain ⟨w2, hw2, hb2, hc2⟩ := A2 w1 (.cells #[.int .i64 0, .string ⟨#[]⟩, .string ⟨#[]⟩, .string ⟨#[]⟩, .string ⟨#[]⟩, .string ⟨#[]⟩, .slice none 0 0, .int .i64 0, .slice none 0 0, .slice none 0 0, .int .i64 p, .int .i64 q] 128)
 rw [hw2]
 have HT2 := Aa (hT1.no hc2)
 have HC2 := Aa (HC1.out.trans (Ce hc2))
 have HA2 := Aa (hc2.keep _ _ HA1.out (fun h => h))
 have HB2 := Aa hb2
 clear hT1 hb2 hc2 hw2
 go_wp2_with fail
 refine (O3 HT2.out hwd).mono ?_
 rintro e w3 ⟨rfl, hT3, hc3⟩
 have HC3 := Aa (HC2.out.trans hc3)
 have HA3 := Aa (hc3.keep _ _ HA2.out (fun e => ne1 e))
 have HB3 := Aa (hc3.keep _ _ HB2.out (fun e => HN2.out e))
 have hb3 := HB3.out
 obtain ⟨p0, p1, p2, p3, p4, p5, p6, p7, p8, p9, p10, p11⟩ := Ay hb3
 clear hc3 hb3
 go_wp2_with fail
 refine (Aal hT3 Tt 0 0 p q ⟨#[]⟩ ⟨#[]⟩ ⟨#[]⟩ ⟨#[]⟩ ⟨#[]⟩ none none none 0 0 0 0 0 0).mono ?_
 rintro e w5 ⟨rfl, hT5, hc5⟩
 have HC5 := Aa (HC3.out.trans hc5)
 have HA5 := Aa (hc5.keep _ _ HA3.out (fun e => ne1 e))
 have HB5 := Aa (hc5.keep _ _ HB3.out (fun e => HN2.out e))
 have hb5 := HB5.out
 clear p0 p1 p2 p3 p4 p5 p6 p7 p8 p9 p10 p11
 obtain ⟨f0, f1, f2, f3, f4, f5, f6, f7, f8, f9, f10, f11⟩ := De hb5
 obtain ⟨p0, p1, p2, p3, p4, p5, p6, p7, p8, p9, p10, p11⟩ := Ay hb5
 obtain ⟨w6, hw6, hb6, hc6⟩ := Bj HB5.out (.int .i64 0) (.string nm) (.string ⟨#[]⟩) (.string ⟨#[]⟩) (.string tn) (.string ⟨#[]⟩) (.slice none 0 0) (.int .i64 0) (.slice none 0 0) (.slice none 0 0) (.int .i64 p) (.int .i64 q)
 have HT6 := Aa (hT5.new hc6 (by omega) (fun e => HN2.out e.symm))
 have HC6 := Aa (Ao HC5.out hc6 (by omega))
 have HA6 := Aa (hc6.keep _ _ HA5.out (Bm (by omega)))
 have HB6 := Aa hb6
 clear hc5 hb5 hc6 hT3 hT5
 go_upto_region 38 with fail
 clear hw6 p0 p1 p2 p3 p4 p5 p6 p7 p8 p9 p10 p11 f0 f1 f2 f3 f4 f5 f6 f7 f8 f9 f10 f11
 obtain ⟨p0, p1, p2, p3, p4, p5, p6, p7, p8, p9, p10, p11⟩ := Ay hb6
 have HS6 : Hid (w6.cell? ⟨w1.heap.size, 0, none⟩ = some (.int .i64 0) ∧ w6.cell? ⟨w1.heap.size, 1, none⟩ = some (.string nm) ∧ w6.cell? ⟨w1.heap.size, 2, none⟩ = some (.string ⟨#[]⟩) ∧ w6.cell? ⟨w1.heap.size, 3, none⟩ = some (.string ⟨#[]⟩) ∧ w6.cell? ⟨w1.heap.size, 4, none⟩ = some (.string tn) ∧ w6.cell? ⟨w1.heap.size, 5, none⟩ = some (.string ⟨#[]⟩) ∧ w6.cell? ⟨w1.heap.size, 6, none⟩ = some (.slice none 0 0) ∧ w6.cell? ⟨w1.heap.size, 7, none⟩ = some (.int .i64 0) ∧ w6.cell? ⟨w1.heap.size, 8, none⟩ = some (.slice none 0 0) ∧ w6.cell? ⟨w1.heap.size, 9, none⟩ = some (.slice none 0 0) ∧ w6.cell? ⟨w1.heap.size, 10, none⟩ = some (.int .i64 p) ∧ w6.cell? ⟨w1.heap.size, 11, none⟩ = some (.int .i64 q)) := Aa ⟨p0, p1, p2, p3, p4, p5, p6, p7, p8, p9, p10, p11⟩
 have HSd := Aa (O5 HS6.out)
 have HTd := Aa (HT6.out.no ((Ch.refl No w6).drew))
 clear p0 p1 p2 p3 p4 p5 p6 p7 p8 p9 p10 p11 hb6
 go_region_held3 (fun w' => w'.cell? ⟨w1.heap.size, 0, none⟩ = some (.int .i64 0) ∧ w'.cell? ⟨w1.heap.size, 1, none⟩ = some (.string nm) ∧ w'.cell? ⟨w1.heap.size, 2, none⟩ = some (.string ⟨#[]⟩) ∧ w'.cell? ⟨w1.heap.size, 3, none⟩ = some (.string ⟨#[]⟩) ∧ w'.cell? ⟨w1.heap.size, 4, none⟩ = some (.string tn) ∧ w'.cell? ⟨w1.heap.size, 5, none⟩ = some (.string ⟨#[]⟩) ∧ w'.cell? ⟨w1.heap.size, 6, none⟩ = some (.slice none 0 0) ∧ w'.cell? ⟨w1.heap.size, 7, none⟩ = some (.int .i64 0) ∧ w'.cell? ⟨w1.heap.size, 8, none⟩ = some (.slice none 0 0) ∧ w'.cell? ⟨w1.heap.size, 9, none⟩ = some (.slice none 0 0) ∧ w'.cell? ⟨w1.heap.size, 10, none⟩ = some (.int .i64 p) ∧ w'.cell? ⟨w1.heap.size, 11, none⟩ = some (.int .i64 q)) (first | with_reducible exact HS6.out | with_reducible exact HSd.out | with_reducible exact HS7.out | with_reducible exact HS8.out | go_keep) (first | (go_at_call 29; refine (Vc HTd.out hone).mono ?_; rintro e w7 ⟨rfl, hT7, hc7⟩; have hb7 := hc7.keep _ _ HB6.out (fun e => HN2.out e); have HS7 := Aa (cZ hb7); have HC7 := Aa ((HC6.out.drew).trans hc7); have HT7 := Aa hT7; have HA7 := Aa (hc7.keep _ _ HA6.out (fun e => ne1 e)); have ha7 := HA7.out; obtain ⟨q0, q1, q2, q3, q4, q5, q6, q7, q8, q9, q10, q11⟩ := Ay ha7; obtain ⟨f0, f1, f2, f3, f4, f5, f6, f7, f8, f9, f10, f11⟩ := De ha7; obtain ⟨w8, hw8, hb8, hc8⟩ := Bj HA7.out (.int .i64 0) (.string nm) (.string ⟨#[]⟩) (.string ⟨#[]⟩) (.string tn) (.string ⟨#[]⟩) (.slice none 0 0) (.int .i64 0) (.slice none 0 0) (.slice none 0 0) (.int .i64 p) (.int .i64 q); have hb78 := hc8.keep _ _ hb7 (Bm (by omega)); have HS8 := Aa (cZ hb78); have HB8 := Aa hb8; have HC8 := Aa hc8; clear hT7 hc7 hb7 ha7 hb8 hc8 hb78))
 all_goals (
  go_wp2_with fail
  have hfb := HB8.out
  have hfc := HC8.out
  try rw [hw8]
  obtain ⟨k0, k1, k2, k3, k4, k5, k6, k7, k8, k9, k10, k11⟩ := Ay hfb
  refine bodyPost_ret (v := .tuple #[.agg #[.int .i64 0, .string nm, .string ⟨#[]⟩, .string ⟨#[]⟩, .string tn, .string ⟨#[]⟩, .slice none 0 0, .int .i64 0, .slice none 0 0, .slice none 0 0, .int .i64 p, .int .i64 q], .int .i64 z5]) (by simp [results, Tryz.results99, go_sem, k0, k1, k2, k3, k4, k5, k6, k7, k8, k9, k10, k11]) rfl ?_
  exact ⟨rfl, HT7.out.new hfc (by omega) (fun e => ne1 e.symm), Ao HC7.out hfc (by omega)⟩)
end Go.Proofs.YtgjpgfedlgdjhaaGreatDoor
end
