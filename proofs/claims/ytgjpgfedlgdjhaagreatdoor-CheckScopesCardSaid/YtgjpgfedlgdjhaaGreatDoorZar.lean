/- What the claim uses: part 18. -/
import Derived.Test.YtgjpgfedlgdjhaaGreatDoorZaq
import Derived.Deep.RegionHeld3
import Derived.Deep.RegionHeld
section
set_option linter.unusedVariables false
set_option linter.unusedSimpArgs false
set_option maxRecDepth 8192
namespace Go.Proofs.YtgjpgfedlgdjhaaGreatDoor
open Go.RowKit Go.W
structure NewAt (L : List Tok) (z : Int) (nm tn : ByteArray) (z4 : Int) : Prop where
 z0 : 0 ≤ z
 z9 : z ≤ 50000
 nm : Nm L z nm (z + 1)
 eq : Wd L (z + 1) ⟨#[61]⟩
 nw : Wd L (z + 1 + 1) ⟨#[110, 101, 119]⟩
 tn : Nm L (z + 1 + 1 + 1) tn z4
 b4 : 0 ≤ z4
 no : ∃ w2, Wd L z4 w2 ∧ ¬ w2 = ⟨#[91]⟩
set_option maxHeartbeats 8000000 in
theorem tplain {w0 w : World} {g : Nat} {L : List Tok} {a b c d : Int} (h : Tx w0 w g L a b c d) {z z4 : Int} {nm tn : ByteArray} (hN : NewAt L z nm tn z4) (x0 x7 x10 x11 : Int) (x1 x2 x3 x4 x5 : ByteArray) (x6 x8 x9 : Option Addr) (u6 v6 u8 v8 u9 v9 : Nat) :
   Calls Tryz.prog 131 #[.pointer (some ⟨g, 0, none⟩), .agg #[.int .i64 x0, .string x1, .string x2, .string x3, .string x4, .string x5, .slice x6 u6 v6, .int .i64 x7, .slice x8 u8 v8, .slice x9 u9 v9, .int .i64 x10, .int .i64 x11], .int .i64 z] w fun e w' => e = .returned (.tuple #[.agg #[.int .i64 0, .string nm, .string x2, .string x3, .string tn, .string x5, .slice x6 u6 v6, .int .i64 x7, .slice x8 u8 v8, .slice x9 u9 v9, .int .i64 x10, .int .i64 x11], .int .i64 z4]) ∧ TxO w0 w g L a b c d w' := by
 obtain ⟨hz0, hz1, hnm, heq, hnw, htn, hz4, w2, hw2, hne⟩ := hN
 obtain ⟨s, hs⟩ : ∃ s : ByteArray, s = ⟨#[61]⟩ := ⟨_, rfl⟩
 rw [← hs] at heq
 have e1 : (s.toList == [61]) = true := litC _ _ hs
 have wz : IntKind.i64.wrap (z + 1 + 1) = z + 1 + 1 := by rw [IntKind.wrap_i64]; omega
 have d1 : decide (z + 1 < 0) = false := decide_eq_false (by omega)
 clear hs
 obtain ⟨wa, hwa⟩ : ∃ wa, w.alloc (.cells #[.int .i64 x0, .string x1, .string x2, .string x3, .string x4, .string x5, .slice x6 u6 v6, .int .i64 x7, .slice x8 u8 v8, .slice x9 u9 v9, .int .i64 x10, .int .i64 x11] 128) = wa := ⟨_, rfl⟩
 have hba := heap_alloc_new w (.cells #[.int .i64 x0, .string x1, .string x2, .string x3, .string x4, .string x5, .slice x6 u6 v6, .int .i64 x7, .slice x8 u8 v8, .slice x9 u9 v9, .int .i64 x10, .int .i64 x11] 128)
 have hca := (Ch.refl No w).alloc (.cells #[.int .i64 x0, .string x1, .string x2, .string x3, .string x4, .string x5, .slice x6 u6 v6, .int .i64 x7, .slice x8 u8 v8, .slice x9 u9 v9, .int .i64 x10, .int .i64 x11] 128)
 rw [hwa] at hba hca
 obtain ⟨wb, hwb⟩ : ∃ wb, wa.alloc (.cells stZ 128) = wb := ⟨_, rfl⟩
 have hbb := heap_alloc_new wa (.cells stZ 128)
 have hcb := (Ch.refl No wa).alloc (.cells stZ 128)
 rw [hwb] at hbb hcb
 unfold stZ at hwb hbb
 have HT := hid ((h.no hca).no hcb)
 have HBA := hid (hcb.keep _ _ hba (fun h => h))
 have HBB := hid hbb
 have HGL := hid h.lt
 have h0w := h.ch.size
 have hsz := hca.size
 have hlt := lt_size hba
 clear h hba hbb
 have ne1 : w.heap.size ≠ g := by have := HGL.out; omega
 have HN2 : Hid (wa.heap.size ≠ g) := hid (by have := HGL.out; omega)
 go_enter Tryz.func131, Tryz.ntmps131
 go_wp2_with fail
 refine (tnm HT.out hnm).mono ?_
 rintro e w1 ⟨rfl, hT1, hc1⟩
 have HC1 := hid ((chNo (hca.trans hcb)).trans hc1)
 have HA1 := hid (hc1.keep _ _ HBA.out (fun e => ne1 e))
 have HB1 := hid (hc1.keep _ _ HBB.out (fun e => HN2.out e))
 clear hwa hwb hc1
 go_wp2_with fail
 refine (twd hT1 heq).mono ?_
 rintro e w2 ⟨rfl, hT2, hc2⟩
 have HA2 := hid (hc2.keep _ _ HA1.out (fun e => ne1 e))
 have HB2 := hid (hc2.keep _ _ HB1.out (fun e => HN2.out e))
 have ha2 := HA2.out
 have p1 := cellAt ha2 1
 have f1 := freeAt ha2 1
 obtain ⟨w3, hw3, hb3, hc3⟩ := set1At HA2.out 1 (.string nm)
 have hT3 := hT2.new hc3 h0w (fun e => ne1 e.symm)
 have HC3 := hid (chOwn (HC1.out.trans hc2) hc3 (Nat.le_refl _))
 have HB3 := hid (hc3.keep _ _ HB2.out (fun e => by have e' : wa.heap.size = w.heap.size := e; omega))
 clear ha2 hc2 hc3 hT1 hT2
 go_upto_region 7 with fail
 clear hw3 p1 f1
 have p0 := cellAt hb3 0
 have p1 := cellAt hb3 1
 have p2 := cellAt hb3 2
 have p3 := cellAt hb3 3
 have p4 := cellAt hb3 4
 have p5 := cellAt hb3 5
 have p6 := cellAt hb3 6
 have p7 := cellAt hb3 7
 have p8 := cellAt hb3 8
 have p9 := cellAt hb3 9
 have p10 := cellAt hb3 10
 have p11 := cellAt hb3 11
 go_wp2_with fail
 refine (tvalue hT3 (by omega) (by omega) hnw htn hz4 hw2 hne x0 x7 x10 x11 nm x2 x3 x4 x5 x6 x8 x9 u6 v6 u8 v8 u9 v9).mono ?_
 rintro e w5 ⟨rfl, hT5, hc5⟩
 have HB5 := hid (hc5.keep _ _ HB3.out (fun e => HN2.out e))
 have hb5 := HB5.out
 clear p0 p1 p2 p3 p4 p5 p6 p7 p8 p9 p10 p11
 have q0 := cellAt hb5 0
 have q1 := cellAt hb5 1
 have q2 := cellAt hb5 2
 have q3 := cellAt hb5 3
 have q4 := cellAt hb5 4
 have q5 := cellAt hb5 5
 have q6 := cellAt hb5 6
 have q7 := cellAt hb5 7
 have q8 := cellAt hb5 8
 have q9 := cellAt hb5 9
 have q10 := cellAt hb5 10
 have q11 := cellAt hb5 11
 have f0 := freeAt hb5 0
 have f1 := freeAt hb5 1
 have f2 := freeAt hb5 2
 have f3 := freeAt hb5 3
 have f4 := freeAt hb5 4
 have f5 := freeAt hb5 5
 have f6 := freeAt hb5 6
 have f7 := freeAt hb5 7
 have f8 := freeAt hb5 8
 have f9 := freeAt hb5 9
 have f10 := freeAt hb5 10
 have f11 := freeAt hb5 11
 clear hb5 hb3 hT3
 go_wp2_with fail
 obtain ⟨wf, hwf, hfb, hfc⟩ := put12 HB5.out (.int .i64 0) (.string nm) (.string x2) (.string x3) (.string tn) (.string x5) (.slice x6 u6 v6) (.int .i64 x7) (.slice x8 u8 v8) (.slice x9 u9 v9) (.int .i64 x10) (.int .i64 x11)
 rw [hwf]
 have k0 := cellAt hfb 0
 have k1 := cellAt hfb 1
 have k2 := cellAt hfb 2
 have k3 := cellAt hfb 3
 have k4 := cellAt hfb 4
 have k5 := cellAt hfb 5
 have k6 := cellAt hfb 6
 have k7 := cellAt hfb 7
 have k8 := cellAt hfb 8
 have k9 := cellAt hfb 9
 have k10 := cellAt hfb 10
 have k11 := cellAt hfb 11
 refine bodyPost_ret (v := .tuple #[.agg #[.int .i64 0, .string nm, .string x2, .string x3, .string tn, .string x5, .slice x6 u6 v6, .int .i64 x7, .slice x8 u8 v8, .slice x9 u9 v9, .int .i64 x10, .int .i64 x11], .int .i64 z4]) (by simp [results, Tryz.results131, go_sem, k0, k1, k2, k3, k4, k5, k6, k7, k8, k9, k10, k11]) rfl ?_
 exact ⟨rfl, hT5.new hfc (by omega) (fun e => HN2.out e.symm), chOwn (HC3.out.trans hc5) hfc (by omega)⟩
structure StmtAt (L : List Tok) (z : Int) (nm tn : ByteArray) (p q z5 : Int) : Prop where
 pl : Plc L z p q
 wd : Wd L z nm
 k1 : ¬ nm = ⟨#[116, 104, 114, 111, 119]⟩
 k2 : ¬ nm = ⟨#[114, 101, 116, 117, 114, 110]⟩
 k3 : ¬ nm = ⟨#[116, 114, 121]⟩
 k4 : ¬ nm = ⟨#[105, 102]⟩
 k5 : ¬ nm = ⟨#[119, 104, 105, 108, 101]⟩
 new : ∃ z4, NewAt L z nm tn z4 ∧ One L z4 ⟨#[59]⟩ z5
set_option maxHeartbeats 8000000 in
theorem tstmt {w0 w : World} {g : Nat} {L : List Tok} {a b c d : Int} (h : Tx w0 w g L a b c d) {z p q z5 deep : Int} {nm tn : ByteArray} (hN : StmtAt L z nm tn p q z5) :
   Calls Tryz.prog 99 #[.pointer (some ⟨g, 0, none⟩), .int .i64 z, .int .i64 deep] w fun e w' => e = .returned (.tuple #[.agg #[.int .i64 0, .string nm, .string ⟨#[]⟩, .string ⟨#[]⟩, .string tn, .string ⟨#[]⟩, .slice none 0 0, .int .i64 0, .slice none 0 0, .slice none 0 0, .int .i64 p, .int .i64 q], .int .i64 z5]) ∧ TxO w0 w g L a b c d w' := by
 obtain ⟨hpl, hwd, k1, k2, k3, k4, k5, z4, hnew, hone⟩ := hN
 have e1 := litCn nm [116, 104, 114, 111, 119] k1
 have e2 := litCn nm [114, 101, 116, 117, 114, 110] k2
 have e3 := litCn nm [116, 114, 121] k3
 have e4 := litCn nm [105, 102] k4
 have e5 := litCn nm [119, 104, 105, 108, 101] k5
 clear k1 k2 k3 k4 k5
 obtain ⟨wa, hwa⟩ : ∃ wa, w.alloc (.cells stZ 128) = wa := ⟨_, rfl⟩
 have hba := heap_alloc_new w (.cells stZ 128)
 have hca := (Ch.refl No w).alloc (.cells stZ 128)
 rw [hwa] at hba hca
 unfold stZ at hwa hba
 have HT := hid (h.no hca)
 have HBA := hid hba
 have HGL := hid h.lt
 have h0w := h.ch.size
 have hsz := hca.size
 have hlt := lt_size hba
 clear h hba
 have ne1 : w.heap.size ≠ g := by have := HGL.out; omega
 go_enter Tryz.func99, Tryz.ntmps99
 go_wp2_with fail
 refine (tplc HT.out hpl).mono ?_
 rintro e w1 ⟨rfl, hT1, hc1⟩
 have HC1 := hid ((chNo hca).trans hc1)
 have HA1 := hid (hc1.keep _ _ HBA.out (fun e => ne1 e))
 have HN2 : Hid (w1.heap.size ≠ g) := hid (by have := HGL.out; have := hc1.size; omega)
 have hs1 := hc1.size
 clear hwa hc1
 go_upto_region 2 with fail
 obtain ⟨w2, hw2⟩ : ∃ w2, w1.alloc (.cells #[.int .i64 0, .string ⟨#[]⟩, .string ⟨#[]⟩, .string ⟨#[]⟩, .string ⟨#[]⟩, .string ⟨#[]⟩, .slice none 0 0, .int .i64 0, .slice none 0 0, .slice none 0 0, .int .i64 p, .int .i64 q] 128) = w2 := ⟨_, rfl⟩
 rw [hw2]
 have hb2 := heap_alloc_new w1 (.cells #[.int .i64 0, .string ⟨#[]⟩, .string ⟨#[]⟩, .string ⟨#[]⟩, .string ⟨#[]⟩, .string ⟨#[]⟩, .slice none 0 0, .int .i64 0, .slice none 0 0, .slice none 0 0, .int .i64 p, .int .i64 q] 128)
 have hc2 := (Ch.refl No w1).alloc (.cells #[.int .i64 0, .string ⟨#[]⟩, .string ⟨#[]⟩, .string ⟨#[]⟩, .string ⟨#[]⟩, .string ⟨#[]⟩, .slice none 0 0, .int .i64 0, .slice none 0 0, .slice none 0 0, .int .i64 p, .int .i64 q] 128)
 rw [hw2] at hb2 hc2
 have HT2 := hid (hT1.no hc2)
 have HC2 := hid (HC1.out.trans (chNo hc2))
 have HA2 := hid (hc2.keep _ _ HA1.out (fun h => h))
 have HB2 := hid hb2
 clear hT1 hb2 hc2 hw2
 go_wp2_with fail
 refine (twd HT2.out hwd).mono ?_
 rintro e w3 ⟨rfl, hT3, hc3⟩
 have HC3 := hid (HC2.out.trans hc3)
 have HA3 := hid (hc3.keep _ _ HA2.out (fun e => ne1 e))
 have HB3 := hid (hc3.keep _ _ HB2.out (fun e => HN2.out e))
 have hb3 := HB3.out
 have p0 := cellAt hb3 0
 have p1 := cellAt hb3 1
 have p2 := cellAt hb3 2
 have p3 := cellAt hb3 3
 have p4 := cellAt hb3 4
 have p5 := cellAt hb3 5
 have p6 := cellAt hb3 6
 have p7 := cellAt hb3 7
 have p8 := cellAt hb3 8
 have p9 := cellAt hb3 9
 have p10 := cellAt hb3 10
 have p11 := cellAt hb3 11
 clear hc3 hb3
 go_wp2_with fail
 refine (tplain hT3 hnew 0 0 p q ⟨#[]⟩ ⟨#[]⟩ ⟨#[]⟩ ⟨#[]⟩ ⟨#[]⟩ none none none 0 0 0 0 0 0).mono ?_
 rintro e w5 ⟨rfl, hT5, hc5⟩
 have HC5 := hid (HC3.out.trans hc5)
 have HA5 := hid (hc5.keep _ _ HA3.out (fun e => ne1 e))
 have HB5 := hid (hc5.keep _ _ HB3.out (fun e => HN2.out e))
 have hb5 := HB5.out
 clear p0 p1 p2 p3 p4 p5 p6 p7 p8 p9 p10 p11
 have f0 := freeAt hb5 0
 have f1 := freeAt hb5 1
 have f2 := freeAt hb5 2
 have f3 := freeAt hb5 3
 have f4 := freeAt hb5 4
 have f5 := freeAt hb5 5
 have f6 := freeAt hb5 6
 have f7 := freeAt hb5 7
 have f8 := freeAt hb5 8
 have f9 := freeAt hb5 9
 have f10 := freeAt hb5 10
 have f11 := freeAt hb5 11
 have p0 := cellAt hb5 0
 have p1 := cellAt hb5 1
 have p2 := cellAt hb5 2
 have p3 := cellAt hb5 3
 have p4 := cellAt hb5 4
 have p5 := cellAt hb5 5
 have p6 := cellAt hb5 6
 have p7 := cellAt hb5 7
 have p8 := cellAt hb5 8
 have p9 := cellAt hb5 9
 have p10 := cellAt hb5 10
 have p11 := cellAt hb5 11
 obtain ⟨w6, hw6, hb6, hc6⟩ := put12 HB5.out (.int .i64 0) (.string nm) (.string ⟨#[]⟩) (.string ⟨#[]⟩) (.string tn) (.string ⟨#[]⟩) (.slice none 0 0) (.int .i64 0) (.slice none 0 0) (.slice none 0 0) (.int .i64 p) (.int .i64 q)
 have HT6 := hid (hT5.new hc6 (by omega) (fun e => HN2.out e.symm))
 have HC6 := hid (chOwn HC5.out hc6 (by omega))
 have HA6 := hid (hc6.keep _ _ HA5.out (fun e => by have e' : w.heap.size = w1.heap.size := e; omega))
 have HB6 := hid hb6
 clear hc5 hb5 hc6 hT3 hT5
 go_upto_region 38 with fail
 clear hw6 p0 p1 p2 p3 p4 p5 p6 p7 p8 p9 p10 p11 f0 f1 f2 f3 f4 f5 f6 f7 f8 f9 f10 f11
 have p0 := cellAt hb6 0
 have p1 := cellAt hb6 1
 have p2 := cellAt hb6 2
 have p3 := cellAt hb6 3
 have p4 := cellAt hb6 4
 have p5 := cellAt hb6 5
 have p6 := cellAt hb6 6
 have p7 := cellAt hb6 7
 have p8 := cellAt hb6 8
 have p9 := cellAt hb6 9
 have p10 := cellAt hb6 10
 have p11 := cellAt hb6 11
 have HS6 : Hid (w6.cell? ⟨w1.heap.size, 0, none⟩ = some (.int .i64 0) ∧ w6.cell? ⟨w1.heap.size, 1, none⟩ = some (.string nm) ∧ w6.cell? ⟨w1.heap.size, 2, none⟩ = some (.string ⟨#[]⟩) ∧ w6.cell? ⟨w1.heap.size, 3, none⟩ = some (.string ⟨#[]⟩) ∧ w6.cell? ⟨w1.heap.size, 4, none⟩ = some (.string tn) ∧ w6.cell? ⟨w1.heap.size, 5, none⟩ = some (.string ⟨#[]⟩) ∧ w6.cell? ⟨w1.heap.size, 6, none⟩ = some (.slice none 0 0) ∧ w6.cell? ⟨w1.heap.size, 7, none⟩ = some (.int .i64 0) ∧ w6.cell? ⟨w1.heap.size, 8, none⟩ = some (.slice none 0 0) ∧ w6.cell? ⟨w1.heap.size, 9, none⟩ = some (.slice none 0 0) ∧ w6.cell? ⟨w1.heap.size, 10, none⟩ = some (.int .i64 p) ∧ w6.cell? ⟨w1.heap.size, 11, none⟩ = some (.int .i64 q)) := hid ⟨p0, p1, p2, p3, p4, p5, p6, p7, p8, p9, p10, p11⟩
 have HSd : Hid (w6.drew.cell? ⟨w1.heap.size, 0, none⟩ = some (.int .i64 0) ∧ w6.drew.cell? ⟨w1.heap.size, 1, none⟩ = some (.string nm) ∧ w6.drew.cell? ⟨w1.heap.size, 2, none⟩ = some (.string ⟨#[]⟩) ∧ w6.drew.cell? ⟨w1.heap.size, 3, none⟩ = some (.string ⟨#[]⟩) ∧ w6.drew.cell? ⟨w1.heap.size, 4, none⟩ = some (.string tn) ∧ w6.drew.cell? ⟨w1.heap.size, 5, none⟩ = some (.string ⟨#[]⟩) ∧ w6.drew.cell? ⟨w1.heap.size, 6, none⟩ = some (.slice none 0 0) ∧ w6.drew.cell? ⟨w1.heap.size, 7, none⟩ = some (.int .i64 0) ∧ w6.drew.cell? ⟨w1.heap.size, 8, none⟩ = some (.slice none 0 0) ∧ w6.drew.cell? ⟨w1.heap.size, 9, none⟩ = some (.slice none 0 0) ∧ w6.drew.cell? ⟨w1.heap.size, 10, none⟩ = some (.int .i64 p) ∧ w6.drew.cell? ⟨w1.heap.size, 11, none⟩ = some (.int .i64 q)) := HS6
 have HTd := hid (HT6.out.no ((Ch.refl No w6).drew))
 clear p0 p1 p2 p3 p4 p5 p6 p7 p8 p9 p10 p11 hb6
 go_region_held3 (fun w' => w'.cell? ⟨w1.heap.size, 0, none⟩ = some (.int .i64 0) ∧ w'.cell? ⟨w1.heap.size, 1, none⟩ = some (.string nm) ∧ w'.cell? ⟨w1.heap.size, 2, none⟩ = some (.string ⟨#[]⟩) ∧ w'.cell? ⟨w1.heap.size, 3, none⟩ = some (.string ⟨#[]⟩) ∧ w'.cell? ⟨w1.heap.size, 4, none⟩ = some (.string tn) ∧ w'.cell? ⟨w1.heap.size, 5, none⟩ = some (.string ⟨#[]⟩) ∧ w'.cell? ⟨w1.heap.size, 6, none⟩ = some (.slice none 0 0) ∧ w'.cell? ⟨w1.heap.size, 7, none⟩ = some (.int .i64 0) ∧ w'.cell? ⟨w1.heap.size, 8, none⟩ = some (.slice none 0 0) ∧ w'.cell? ⟨w1.heap.size, 9, none⟩ = some (.slice none 0 0) ∧ w'.cell? ⟨w1.heap.size, 10, none⟩ = some (.int .i64 p) ∧ w'.cell? ⟨w1.heap.size, 11, none⟩ = some (.int .i64 q)) (first | with_reducible exact HS6.out | with_reducible exact HSd.out | with_reducible exact HS7.out | with_reducible exact HS8.out | go_keep) (first | (go_at_call 29; refine (tone HTd.out hone).mono ?_; rintro e w7 ⟨rfl, hT7, hc7⟩; have hb7 := hc7.keep _ _ HB6.out (fun e => HN2.out e); have HS7 := hid (show w7.cell? ⟨w1.heap.size, 0, none⟩ = some (.int .i64 0) ∧ w7.cell? ⟨w1.heap.size, 1, none⟩ = some (.string nm) ∧ w7.cell? ⟨w1.heap.size, 2, none⟩ = some (.string ⟨#[]⟩) ∧ w7.cell? ⟨w1.heap.size, 3, none⟩ = some (.string ⟨#[]⟩) ∧ w7.cell? ⟨w1.heap.size, 4, none⟩ = some (.string tn) ∧ w7.cell? ⟨w1.heap.size, 5, none⟩ = some (.string ⟨#[]⟩) ∧ w7.cell? ⟨w1.heap.size, 6, none⟩ = some (.slice none 0 0) ∧ w7.cell? ⟨w1.heap.size, 7, none⟩ = some (.int .i64 0) ∧ w7.cell? ⟨w1.heap.size, 8, none⟩ = some (.slice none 0 0) ∧ w7.cell? ⟨w1.heap.size, 9, none⟩ = some (.slice none 0 0) ∧ w7.cell? ⟨w1.heap.size, 10, none⟩ = some (.int .i64 p) ∧ w7.cell? ⟨w1.heap.size, 11, none⟩ = some (.int .i64 q) from ⟨cellAt hb7 0, cellAt hb7 1, cellAt hb7 2, cellAt hb7 3, cellAt hb7 4, cellAt hb7 5, cellAt hb7 6, cellAt hb7 7, cellAt hb7 8, cellAt hb7 9, cellAt hb7 10, cellAt hb7 11⟩); have HC7 := hid ((HC6.out.drew).trans hc7); have HT7 := hid hT7; have HA7 := hid (hc7.keep _ _ HA6.out (fun e => ne1 e)); have ha7 := HA7.out; have q0 := cellAt ha7 0; have q1 := cellAt ha7 1; have q2 := cellAt ha7 2; have q3 := cellAt ha7 3; have q4 := cellAt ha7 4; have q5 := cellAt ha7 5; have q6 := cellAt ha7 6; have q7 := cellAt ha7 7; have q8 := cellAt ha7 8; have q9 := cellAt ha7 9;   have q10 := cellAt ha7 10;   have q11 := cellAt ha7 11; have f0 := freeAt ha7 0; have f1 := freeAt ha7 1; have f2 := freeAt ha7 2; have f3 := freeAt ha7 3; have f4 := freeAt ha7 4; have f5 := freeAt ha7 5; have f6 := freeAt ha7 6; have f7 := freeAt ha7 7; have f8 := freeAt ha7 8; have f9 := freeAt ha7 9; have f10 := freeAt ha7 10; have f11 := freeAt ha7 11; obtain ⟨w8, hw8, hb8, hc8⟩ := put12 HA7.out (.int .i64 0) (.string nm) (.string ⟨#[]⟩) (.string ⟨#[]⟩) (.string tn) (.string ⟨#[]⟩) (.slice none 0 0) (.int .i64 0) (.slice none 0 0) (.slice none 0 0) (.int .i64 p) (.int .i64 q); have hb78 := hc8.keep _ _ hb7 (fun e => by have e' : w1.heap.size = w.heap.size := e; omega); have HS8 := hid (show w8.cell? ⟨w1.heap.size, 0, none⟩ = some (.int .i64 0) ∧ w8.cell? ⟨w1.heap.size, 1, none⟩ = some (.string nm) ∧ w8.cell? ⟨w1.heap.size, 2, none⟩ = some (.string ⟨#[]⟩) ∧ w8.cell? ⟨w1.heap.size, 3, none⟩ = some (.string ⟨#[]⟩) ∧ w8.cell? ⟨w1.heap.size, 4, none⟩ = some (.string tn) ∧ w8.cell? ⟨w1.heap.size, 5, none⟩ = some (.string ⟨#[]⟩) ∧ w8.cell? ⟨w1.heap.size, 6, none⟩ = some (.slice none 0 0) ∧ w8.cell? ⟨w1.heap.size, 7, none⟩ = some (.int .i64 0) ∧ w8.cell? ⟨w1.heap.size, 8, none⟩ = some (.slice none 0 0) ∧ w8.cell? ⟨w1.heap.size, 9, none⟩ = some (.slice none 0 0) ∧ w8.cell? ⟨w1.heap.size, 10, none⟩ = some (.int .i64 p) ∧ w8.cell? ⟨w1.heap.size, 11, none⟩ = some (.int .i64 q) from ⟨cellAt hb78 0, cellAt hb78 1, cellAt hb78 2, cellAt hb78 3, cellAt hb78 4, cellAt hb78 5, cellAt hb78 6, cellAt hb78 7, cellAt hb78 8, cellAt hb78 9, cellAt hb78 10, cellAt hb78 11⟩); have HB8 := hid hb8; have HC8 := hid hc8; clear hT7 hc7 hb7 ha7 hb8 hc8 hb78))
 all_goals (
   go_wp2_with fail
   have hfb := HB8.out
   have hfc := HC8.out
   try rw [hw8]
   have k0 := cellAt hfb 0
   have k1 := cellAt hfb 1
   have k2 := cellAt hfb 2
   have k3 := cellAt hfb 3
   have k4 := cellAt hfb 4
   have k5 := cellAt hfb 5
   have k6 := cellAt hfb 6
   have k7 := cellAt hfb 7
   have k8 := cellAt hfb 8
   have k9 := cellAt hfb 9
   have k10 := cellAt hfb 10
   have k11 := cellAt hfb 11
   refine bodyPost_ret (v := .tuple #[.agg #[.int .i64 0, .string nm, .string ⟨#[]⟩, .string ⟨#[]⟩, .string tn, .string ⟨#[]⟩, .slice none 0 0, .int .i64 0, .slice none 0 0, .slice none 0 0, .int .i64 p, .int .i64 q], .int .i64 z5]) (by simp [results, Tryz.results99, go_sem, k0, k1, k2, k3, k4, k5, k6, k7, k8, k9, k10, k11]) rfl ?_
   exact ⟨rfl, HT7.out.new hfc (by omega) (fun e => ne1 e.symm), chOwn HC7.out hfc (by omega)⟩)
end Go.Proofs.YtgjpgfedlgdjhaaGreatDoor
end
section
set_option linter.unusedVariables false
set_option linter.unusedSimpArgs false
namespace Go.Proofs.YtgjpgfedlgdjhaaGreatDoor
open Go.RowKit Go.W
def AbX (cs : List Cls) (x : Int) (k : Nat) : Prop := 0 ≤ x ∧ x < cs.length ∧ (x = k ∨ Gr.Reach (upsN cs) x.toNat k)
def AbP (cs : List Cls) (is : List Int) (k : Nat) : Prop := ∃ x ∈ is, AbX cs x k
open Classical in
/-- those of the first n -/
noncomputable def abL (cs : List Cls) (is : List Int) (n : Nat) : List Int := ((List.range n).filter (fun j => decide (AbP cs is j))).map (fun j : Nat => (j : Int))
theorem mem_abL {cs : List Cls} {is : List Int} {n : Nat} {z : Int} : z ∈ abL cs is n ↔ ∃ k : Nat, z = k ∧ k < n ∧ AbP cs is k := by
 unfold abL
 constructor
 · intro h
   obtain ⟨k, hk, rfl⟩ := List.mem_map.1 h
   have := List.mem_filter.1 hk
   exact ⟨k, rfl, by simpa using this.1, by simpa using this.2⟩
 · rintro ⟨k, rfl, h1, h2⟩
   exact List.mem_map.2 ⟨k, List.mem_filter.2 ⟨by simpa using h1, by simpa using h2⟩, rfl⟩
theorem abSorted (cs : List Cls) (is : List Int) (n : Nat) : (abL cs is n).Pairwise (· < ·) := by
 unfold abL
 rw [List.pairwise_map]
 refine List.Pairwise.filter _ ((List.pairwise_lt_range).imp ?_)
 intro a b h; omega
end Go.Proofs.YtgjpgfedlgdjhaaGreatDoor
end
