/- Part 27. -/
import Derived.Test.YtgjpgfedlgdjhaaGreatDoorYaz
import Derived.Test.YtgjpgfedlgdjhaaGreatDoorYac
set_option linter.unusedVariables false
set_option linter.unusedSimpArgs false
set_option maxHeartbeats 64000000
set_option maxRecDepth 8192
section
namespace Go.Proofs.YtgjpgfedlgdjhaaGreatDoor
open Go.RowKit Go.W
abbrev Iv := Tk
theorem Yr {S : Nat → Obj → Prop} {a b c : World} (h : Ch No a b) (h' : Ch S b c) (hs : ∀ k o, b.heap[k]? = some o → S k o → a.heap.size ≤ k) : Ch No a c := Ch.newOnly h h' hs
def Wd (L : List Iv) (z : Int) (s : ByteArray) : Prop := Ar L z = s
theorem F8 {L : List Iv} {z : Int} {s : ByteArray} (h : Ar L z = s) : Wd L z s := h
def Sy (L : List Iv) (z p q : Int) : Prop := ∀ a b, Fx L a b z = (p, q)
def Nm (L : List Iv) (z : Int) (s : ByteArray) (z' : Int) : Prop := Gq L ∧ z ≤ 100000 ∧ Gm L z = (s, z') ∧ 0 ≤ z'
def M5 (L : List Iv) (z : Int) (s : ByteArray) (z' : Int) : Prop := -1 ≤ z ∧ z ≤ 100000 ∧ s ≠ ⟨#[]⟩ ∧ Gs L z s = z' ∧ 0 ≤ z'
def Vri (L : List Iv) (z : Int) (t n : ByteArray) (p q z' : Int) : Prop := Gq L ∧ z ≤ 50000 ∧ (∀ a b, Sw L a b z = (⟨t, n, p, q⟩, z')) ∧ 0 ≤ z'
def Beg (L : List Iv) (z : Int) (r : Bool) : Prop := Gq L ∧ Cw (Ar L z) = true ∧ r = true
section
variable {w0 w : World} {g : Nat} {L : List Iv} {a b c d : Int}
theorem He.txO {z r : Int} {w' : World} (h : He w0 w g L a b c d z r w') (hr : 0 ≤ r) : Io w0 w g L a b c d w' := by
 obtain ⟨c1, d1, h1, h2, h3 | ⟨_, _, _, rfl, rfl⟩⟩ := h
 {omega}
 {exact ⟨h1, h2⟩}
theorem O3 (h : Tx w0 w g L a b c d) {z : Int} {s : ByteArray} (hf : Wd L z s) : Calls Tryz.prog 25 #[.pointer (some ⟨g, 0, none⟩), .int .i64 z] w fun e w' => e = .returned (.string s) ∧ Io w0 w g L a b c d w' := by
 refine (A6 h z).mono ?_
 rintro e w' ⟨rfl, rfl⟩
 exact ⟨by rw [show Ar L z = s from hf], h, Ch.refl _ _⟩
theorem Aaj (h : Tx w0 w g L a b c d) {z p q : Int} (hf : Sy L z p q) : Calls Tryz.prog 28 #[.pointer (some ⟨g, 0, none⟩), .int .i64 z] w fun e w' => e = .returned (.agg #[.int .i64 p, .int .i64 q]) ∧ Io w0 w g L a b c d w' := by
 refine (Ds h z).mono ?_
 rintro e w' ⟨rfl, hc⟩
 exact ⟨by rw [hf a b], h.no hc, Ce hc⟩
theorem tnm (h : Tx w0 w g L a b c d) {z z' : Int} {s : ByteArray} (hf : Nm L z s z') : Calls Tryz.prog 54 #[.pointer (some ⟨g, 0, none⟩), .int .i64 z] w fun e w' => e = .returned (.tuple #[.string s, .int .i64 z']) ∧ Io w0 w g L a b c d w' := by
 obtain ⟨hL, hz, hn, h0⟩ := hf
 refine (Dz h hL hz).mono ?_
 rintro e w' ⟨rfl, hp⟩
 rw [hn] at hp ⊢
 exact ⟨rfl, hp.txO h0⟩
theorem Vc (h : Tx w0 w g L a b c d) {z z' : Int} {s : ByteArray} (hf : M5 L z s z') : Calls Tryz.prog 29 #[.pointer (some ⟨g, 0, none⟩), .int .i64 z, .string s] w fun e w' => e = .returned (.int .i64 z') ∧ Io w0 w g L a b c d w' := by
 obtain ⟨hz, hz9, hs, hn, h0⟩ := hf
 refine (Da h hz hz9 s hs).mono ?_
 rintro e w' ⟨rfl, hp⟩
 rw [hn] at hp ⊢
 exact ⟨rfl, hp.txO h0⟩
theorem Afo (h : Tx w0 w g L a b c d) {z p q z' : Int} {t n : ByteArray} (hf : Vri L z t n p q z') : Calls Tryz.prog 59 #[.pointer (some ⟨g, 0, none⟩), .int .i64 z] w fun e w' => e = .returned (.tuple #[.agg #[.string t, .string n, .int .i64 p, .int .i64 q], .int .i64 z']) ∧ Io w0 w g L a b c d w' := by
 obtain ⟨hL, hz, hn, h0⟩ := hf
 refine (N0 h hL hz).mono ?_
 rintro e w' ⟨rfl, hp⟩
 rw [hn a b] at hp ⊢
 exact ⟨rfl, hp.txO h0⟩
theorem Afp (h : Tx w0 w g L a b c d) {z : Int} {r : Bool} (hf : Beg L z r) : Calls Tryz.prog 98 #[.pointer (some ⟨g, 0, none⟩), .int .i64 z] w fun e w' => e = .returned (.bool r) ∧ Io w0 w g L a b c d w' := by
 obtain ⟨hL, hn, rfl⟩ := hf
 refine (Yl h hL z).mono ?_
 rintro e w' ⟨r, rfl, hr, hc⟩
 exact ⟨by rw [hr hn], h.no hc, Ce hc⟩
end
theorem Vd (a : ByteArray) (l : List UInt8) : (a.toList == l) = decide (a = ⟨l.toArray⟩) := by
 have h : (⟨l.toArray⟩ : ByteArray).toList = l := by rw [Gp]
 rw [← Hi, h]
theorem Pv (a : ByteArray) (l : List UInt8) (h : a = ⟨l.toArray⟩) : (a.toList == l) = true := by rw [Vd]; simpa using h
theorem Et (a : ByteArray) (l : List UInt8) (h : ¬ a = ⟨l.toArray⟩) : (a.toList == l) = false := by rw [Vd]; simpa using h
theorem Aak {w0 w : World} {g : Nat} {L : List Iv} {a b c d : Int} (h : Tx w0 w g L a b c d) {z z2 : Int} (hz0 : 0 ≤ z) (hz1 : z ≤ 100000) {tn w2 : ByteArray} (hw : Wd L z ⟨#[110, 101, 119]⟩) (hn : Nm L (z + 1) tn z2) (hz2 : 0 ≤ z2) (hw2 : Wd L z2 w2) (hne : ¬ w2 = ⟨#[91]⟩) (x0 x7 x10 x11 : Int) (x1 x2 x3 x4 x5 : ByteArray) (x6 x8 x9 : Option Addr) (u6 v6 u8 v8 u9 v9 : Nat) :
 Calls Tryz.prog 157 #[.pointer (some ⟨g, 0, none⟩), .agg #[.int .i64 x0, .string x1, .string x2, .string x3, .string x4, .string x5, .slice x6 u6 v6, .int .i64 x7, .slice x8 u8 v8, .slice x9 u9 v9, .int .i64 x10, .int .i64 x11], .int .i64 z] w fun e w' => e = .returned (.tuple #[.agg #[.int .i64 0, .string x1, .string x2, .string x3, .string tn, .string x5, .slice x6 u6 v6, .int .i64 x7, .slice x8 u8 v8, .slice x9 u9 v9, .int .i64 x10, .int .i64 x11], .int .i64 z2]) ∧ Io w0 w g L a b c d w' := by
 obtain ⟨s, hs⟩ : ∃ s : ByteArray, s = ⟨#[110, 101, 119]⟩ := ⟨_, rfl⟩
 rw [← hs] at hw
 have e1 : (s.toList == [110, 117, 108, 108]) = false := Et _ _ (by rw [hs]; decide)
 have e2 : (s.toList == [105, 110, 112, 117, 116]) = false := Et _ _ (by rw [hs]; decide)
 have e3 : (s.toList == [110, 101, 119]) = true := Pv _ _ hs
 have e4 : (w2.toList == [91]) = false := Et _ _ hne
 have wz : IntKind.i64.wrap (z + 1) = z + 1 := by rw [IntKind.wrap_i64]; omega
 clear hs
 obtain ⟨wa, hwa, hba, hca⟩ := A2 w (.cells #[.int .i64 x0, .string x1, .string x2, .string x3, .string x4, .string x5, .slice x6 u6 v6, .int .i64 x7, .slice x8 u8 v8, .slice x9 u9 v9, .int .i64 x10, .int .i64 x11] 128)
 obtain ⟨wb, hwb, hbb, hcb⟩ := A2 wa (.cells O2 128)
 unfold O2 at hwb hbb
 have HT := Aa ((h.no hca).no hcb)
 have HBA := Aa (hcb.keep _ _ hba (fun h => h))
 have HBB := Aa hbb
 have HG := Aa h.ge
 have HGL := Aa h.lt
 have h0w := h.ch.size
 have hsz := hca.size
 have hlt := Ac hba
 clear h hba hbb
 go_in
 go_wp2_with fail
 refine (O3 HT.out hw).mono ?_
 rintro e w1 ⟨rfl, hT1, hc1⟩
 have ne1 : w.heap.size ≠ g := by have := HGL.out; omega
 have HN2 : Hid (wa.heap.size ≠ g) := Aa (by have := HGL.out; have := hca.size; omega)
 have HA1 := Aa (hc1.keep _ _ HBA.out (fun e => ne1 e))
 have HB1 := Aa (hc1.keep _ _ HBB.out (fun e => HN2.out e))
 have HT1 := Aa hT1
 have ha1 := HA1.out
 obtain ⟨p0, p1, p2, p3, p4, p5, p6, p7, p8, p9, p10, p11⟩ := Ay ha1
 obtain ⟨q0, q1, q2, q3, q4, q5, q6, q7, q8, q9⟩ := Y6 ha1
 have HC1 := Aa ((Ce (hca.trans hcb)).trans hc1)
 clear hT1 hw ha1 hwa hwb
 go_wp2_with fail
 refine (tnm HT1.out hn).mono ?_
 rintro e w3 ⟨rfl, hT3, hc3⟩
 have HA3 := Aa (hc3.keep _ _ HA1.out (fun e => ne1 e))
 have HB3 := Aa (hc3.keep _ _ HB1.out (fun e => HN2.out e))
 clear p0 p1 p2 p3 p4 p5 p6 p7 p8 p9 p10 p11 q0 q1 q2 q3 q4 q5 q6 q7 q8 q9
 have f4 := Ad HA3.out 4
 have f0 := Ad HA3.out 0
 have p4 := Ab HA3.out 4
 have p0 := Ab HA3.out 0
 obtain ⟨w4, hw4, hb4, hc4⟩ := Eq HA3.out 4 (.string tn) 0 (.int .i64 0)
 have hT4 := hT3.new hc4 h0w (fun e => ne1 e.symm)
 have HC4 := Aa (Ao (HC1.out.trans hc3) hc4 (Nat.le_refl _))
 have HA4 := Aa hb4
 have HB4 := Aa (hc4.keep _ _ HB3.out (Bm (by omega)))
 clear hb4 hT3 hc3 hc4
 go_upto_region 11 with fail
 clear hw4 p0 p4 f0 f4
 go_wp2_with fail
 refine (O3 hT4 hw2).mono ?_
 rintro e w5 ⟨rfl, hT5, hc5⟩
 have HA5 := Aa (hc5.keep _ _ HA4.out (fun e => ne1 e))
 have HB5 := Aa (hc5.keep _ _ HB4.out (fun e => HN2.out e))
 have ha5 := HA5.out
 have hb5 := HB5.out
 obtain ⟨p0, p1, p2, p3, p4, p5, p6, p7, p8, p9, p10, p11⟩ := Ay ha5
 obtain ⟨q0, q1, q2, q3, q4, q5, q6, q7, q8, q9, q10, q11⟩ := Ay hb5
 obtain ⟨f0, f1, f2, f3, f4, f5, f6, f7, f8, f9, f10, f11⟩ := De hb5
 clear ha5 hb5 hT4
 go_wp2_with fail
 obtain ⟨wf, hwf, hfb, hfc⟩ := Bj HB5.out (.int .i64 0) (.string x1) (.string x2) (.string x3) (.string tn) (.string x5) (.slice x6 u6 v6) (.int .i64 x7) (.slice x8 u8 v8) (.slice x9 u9 v9) (.int .i64 x10) (.int .i64 x11)
 rw [hwf]
 obtain ⟨k0, k1, k2, k3, k4, k5, k6, k7, k8, k9, k10, k11⟩ := Ay hfb
 refine bodyPost_ret (v := .tuple #[.agg #[.int .i64 0, .string x1, .string x2, .string x3, .string tn, .string x5, .slice x6 u6 v6, .int .i64 x7, .slice x8 u8 v8, .slice x9 u9 v9, .int .i64 x10, .int .i64 x11], .int .i64 z2]) (by simp [results, Tryz.results157, go_sem, k0, k1, k2, k3, k4, k5, k6, k7, k8, k9, k10, k11]) rfl ?_
 exact ⟨rfl, hT5.new hfc (by omega) (fun e => HN2.out e.symm), Ao (HC4.out.trans hc5) hfc (by omega)⟩
end Go.Proofs.YtgjpgfedlgdjhaaGreatDoor
end
