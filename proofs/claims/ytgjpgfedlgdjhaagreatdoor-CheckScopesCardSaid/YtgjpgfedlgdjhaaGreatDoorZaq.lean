/- What the claim uses: part 17. -/
import Derived.Test.YtgjpgfedlgdjhaaGreatDoorZap
import Derived.Test.YtgjpgfedlgdjhaaGreatDoorZak
section
section
set_option linter.unusedVariables false
set_option linter.unusedSimpArgs false
namespace Go.Proofs.YtgjpgfedlgdjhaaGreatDoor
open Go.RowKit Go.W
theorem intsCell {w : World} {ao : Option Addr} {n cap : Nat} {l : List Int} (h : IntsAt w (.slice ao n cap) l) {k : Nat} {x : Int} (hk : l[k]? = some x) :
   ∃ b off, ao = some ⟨b, off, none⟩ ∧ w.cell? ⟨b, off + k, none⟩ = some (.int .i64 x) := by
 obtain ⟨ao', cap', e, h1, h2, _, h3⟩ := h
 cases e
 obtain ⟨b, off, rfl, h4⟩ := h3 (by have := (List.getElem?_eq_some_iff.1 hk).1; omega)
 exact ⟨b, off, rfl, h4 k x hk⟩
end Go.Proofs.YtgjpgfedlgdjhaaGreatDoor
end
section
set_option linter.unusedVariables false
set_option linter.unusedSimpArgs false
namespace Go.Proofs.YtgjpgfedlgdjhaaGreatDoor
open Go.RowKit Go.W
def okI (cs : List Cls) (i : Nat) : Prop := ∀ c, cs[i]? = some c → okC cs i c
def FaultAt (cs : List Cls) : Option Nat → Prop
 | some i => i < cs.length ∧ (¬ okI cs i ∧ (∀ j, j < i → okI cs j) ∨ SoundP cs ∧ Gr.Reach (upsN cs) i i ∧ ∀ j, j < i → ¬ Gr.Reach (upsN cs) j j)
 | none => SoundP cs ∧ ∀ i, i < cs.length → ¬ Gr.Reach (upsN cs) i i
theorem SoundP.ok {cs : List Cls} (h : SoundP cs) (i : Nat) : okI cs i := fun c hc => h i c hc
theorem soundOf {cs : List Cls} (h : ∀ i, i < cs.length → okI cs i) : SoundP cs := fun i c hc => h i (List.getElem?_eq_some_iff.1 hc).1 c hc
theorem FaultAt.uniq {cs : List Cls} {a b : Option Nat} (h : FaultAt cs a) (h' : FaultAt cs b) : a = b := by
 cases a with
 | none => cases b with
   | none => rfl
   | some j =>
     exfalso
     rcases h'.2 with ⟨h1, _⟩ | ⟨_, h1, _⟩
     · exact h1 (h.1.ok j)
     · exact h.2 j h'.1 h1
 | some i => cases b with
   | none =>
     exfalso
     rcases h.2 with ⟨h1, _⟩ | ⟨_, h1, _⟩
     · exact h1 (h'.1.ok i)
     · exact h'.2 i h.1 h1
   | some j =>
     congr 1
     rcases Nat.lt_trichotomy i j with hij | hij | hij
     · exfalso
       rcases h.2 with ⟨h1, _⟩ | ⟨hs, h1, _⟩ <;> rcases h'.2 with ⟨g1, g2⟩ | ⟨gs, g1, g2⟩
       · exact h1 (g2 i hij)
       · exact h1 (gs.ok i)
       · exact g1 (hs.ok j)
       · exact g2 i hij h1
     · exact hij
     · exfalso
       rcases h.2 with ⟨h1, h2⟩ | ⟨hs, h1, h2⟩ <;> rcases h'.2 with ⟨g1, g2⟩ | ⟨gs, g1, g2⟩
       · exact g1 (h2 j hij)
       · exact h1 (gs.ok i)
       · exact g1 (hs.ok j)
       · exact h2 j hij g1
def faultC (cs : List Cls) (o : Option Nat) : Int × Int × Int := match o with
 | some i => match cs[i]? with
   | some c => (11, c.line, c.col)
   | none => (11, 0, 0)
 | none => (0, 0, 0)
theorem faultSome {cs : List Cls} {i : Nat} {c : Cls} (h : cs[i]? = some c) : faultC cs (some i) = (11, c.line, c.col) := by simp [faultC, h]
def faultV (f : Int × Int × Int) : Value := .agg #[.int .i64 f.1, .int .i64 f.2.1, .int .i64 f.2.2]
theorem put3 {w : World} {b : Nat} {x0 x1 x2 : Value} {t : TypeId} (h : w.heap[b]? = some (.cells #[x0, x1, x2] t (0, 0))) (v0 v1 v2 : Value) :
   ∃ wf, ((w.setCell ⟨b, 0, none⟩ v0).setCell ⟨b, 1, none⟩ v1).setCell ⟨b, 2, none⟩ v2 = wf ∧ wf.heap[b]? = some (.cells #[v0, v1, v2] t (0, 0)) ∧ Ch (fun k _ => k = b) w wf := by
 refine ⟨_, rfl, ?_, (((Ch.refl _ _).setCell (fun _ _ => rfl) _).setCell (fun _ _ => rfl) _).setCell (fun _ _ => rfl) _⟩
 rw [setCell_heap (setCell_heap (setCell_heap h 0 v0) 1 v1) 2 v2]
 rfl
end Go.Proofs.YtgjpgfedlgdjhaaGreatDoor
end
end
section
set_option linter.unusedVariables false
set_option linter.unusedSimpArgs false
set_option maxRecDepth 8192
namespace Go.Proofs.YtgjpgfedlgdjhaaGreatDoor
open Go.RowKit Go.W
theorem streqC (a : ByteArray) (l : List UInt8) : (a.toList == l) = decide (a = ⟨l.toArray⟩) := by
 have h : (⟨l.toArray⟩ : ByteArray).toList = l := by rw [toList_eq]
 rw [← streq, h]
theorem litC (a : ByteArray) (l : List UInt8) (h : a = ⟨l.toArray⟩) : (a.toList == l) = true := by rw [streqC]; simpa using h
theorem litCn (a : ByteArray) (l : List UInt8) (h : ¬ a = ⟨l.toArray⟩) : (a.toList == l) = false := by rw [streqC]; simpa using h
theorem set1At {w : World} {b : Nat} {cs : Array Value} {t : TypeId} (h : w.heap[b]? = some (.cells cs t (0, 0))) (i : Nat) (u : Value) :
   ∃ wf, w.setCell ⟨b, i, none⟩ u = wf ∧ wf.heap[b]? = some (.cells (cs.setIfInBounds i u) t (0, 0)) ∧ Ch (Tb b) w wf :=
 ⟨_, rfl, setCell_heap h i u, (Ch.refl _ _).setCell (fun _ _ => rfl) _⟩
theorem set2At {w : World} {b : Nat} {cs : Array Value} {t : TypeId} (h : w.heap[b]? = some (.cells cs t (0, 0))) (i : Nat) (u : Value) (j : Nat) (v : Value) :
   ∃ wf, (w.setCell ⟨b, i, none⟩ u).setCell ⟨b, j, none⟩ v = wf ∧ wf.heap[b]? = some (.cells ((cs.setIfInBounds i u).setIfInBounds j v) t (0, 0)) ∧ Ch (Tb b) w wf :=
 ⟨_, rfl, setCell_heap (setCell_heap h i u) j v, ((Ch.refl _ _).setCell (fun _ _ => rfl) _).setCell (fun _ _ => rfl) _⟩
theorem put12 {w : World} {b : Nat} {x0 x1 x2 x3 x4 x5 x6 x7 x8 x9 x10 x11 : Value} {t : TypeId} (h : w.heap[b]? = some (.cells #[x0, x1, x2, x3, x4, x5, x6, x7, x8, x9, x10, x11] t (0, 0))) (v0 v1 v2 v3 v4 v5 v6 v7 v8 v9 v10 v11 : Value) :
   ∃ wf, (((((((((((w.setCell ⟨b, 0, none⟩ v0).setCell ⟨b, 1, none⟩ v1).setCell ⟨b, 2, none⟩ v2).setCell ⟨b, 3, none⟩ v3).setCell ⟨b, 4, none⟩ v4).setCell ⟨b, 5, none⟩ v5).setCell ⟨b, 6, none⟩ v6).setCell ⟨b, 7, none⟩ v7).setCell ⟨b, 8, none⟩ v8).setCell ⟨b, 9, none⟩ v9).setCell ⟨b, 10, none⟩ v10).setCell ⟨b, 11, none⟩ v11 = wf ∧ wf.heap[b]? = some (.cells #[v0, v1, v2, v3, v4, v5, v6, v7, v8, v9, v10, v11] t (0, 0)) ∧ Ch (Tb b) w wf := by
 obtain ⟨a0, e0, h0, c0⟩ := set1At h 0 v0
 obtain ⟨a1, e1, h1, c1⟩ := set1At h0 1 v1
 obtain ⟨a2, e2, h2, c2⟩ := set1At h1 2 v2
 obtain ⟨a3, e3, h3, c3⟩ := set1At h2 3 v3
 obtain ⟨a4, e4, h4, c4⟩ := set1At h3 4 v4
 obtain ⟨a5, e5, h5, c5⟩ := set1At h4 5 v5
 obtain ⟨a6, e6, h6, c6⟩ := set1At h5 6 v6
 obtain ⟨a7, e7, h7, c7⟩ := set1At h6 7 v7
 obtain ⟨a8, e8, h8, c8⟩ := set1At h7 8 v8
 obtain ⟨a9, e9, h9, c9⟩ := set1At h8 9 v9
 obtain ⟨a10, e10, h10, c10⟩ := set1At h9 10 v10
 obtain ⟨a11, e11, h11, c11⟩ := set1At h10 11 v11
 exact ⟨a11, by rw [e0, e1, e2, e3, e4, e5, e6, e7, e8, e9, e10, e11], by simpa using h11, (((((((((((c0.trans c1).trans c2).trans c3).trans c4).trans c5).trans c6).trans c7).trans c8).trans c9).trans c10).trans c11)⟩
def stZ : Array Value := #[.int .i64 0, .string ⟨#[]⟩, .string ⟨#[]⟩, .string ⟨#[]⟩, .string ⟨#[]⟩, .string ⟨#[]⟩, .slice none 0 0, .int .i64 0, .slice none 0 0, .slice none 0 0, .int .i64 0, .int .i64 0]
set_option maxHeartbeats 8000000 in
theorem tvalue {w0 w : World} {g : Nat} {L : List Tok} {a b c d : Int} (h : Tx w0 w g L a b c d) {z z2 : Int} (hz0 : 0 ≤ z) (hz1 : z ≤ 100000) {tn w2 : ByteArray} (hw : Wd L z ⟨#[110, 101, 119]⟩) (hn : Nm L (z + 1) tn z2) (hz2 : 0 ≤ z2) (hw2 : Wd L z2 w2) (hne : ¬ w2 = ⟨#[91]⟩) (x0 x7 x10 x11 : Int) (x1 x2 x3 x4 x5 : ByteArray) (x6 x8 x9 : Option Addr) (u6 v6 u8 v8 u9 v9 : Nat) :
   Calls Tryz.prog 157 #[.pointer (some ⟨g, 0, none⟩), .agg #[.int .i64 x0, .string x1, .string x2, .string x3, .string x4, .string x5, .slice x6 u6 v6, .int .i64 x7, .slice x8 u8 v8, .slice x9 u9 v9, .int .i64 x10, .int .i64 x11], .int .i64 z] w fun e w' => e = .returned (.tuple #[.agg #[.int .i64 0, .string x1, .string x2, .string x3, .string tn, .string x5, .slice x6 u6 v6, .int .i64 x7, .slice x8 u8 v8, .slice x9 u9 v9, .int .i64 x10, .int .i64 x11], .int .i64 z2]) ∧ TxO w0 w g L a b c d w' := by
 obtain ⟨s, hs⟩ : ∃ s : ByteArray, s = ⟨#[110, 101, 119]⟩ := ⟨_, rfl⟩
 rw [← hs] at hw
 have e1 : (s.toList == [110, 117, 108, 108]) = false := litCn _ _ (by rw [hs]; decide)
 have e2 : (s.toList == [105, 110, 112, 117, 116]) = false := litCn _ _ (by rw [hs]; decide)
 have e3 : (s.toList == [110, 101, 119]) = true := litC _ _ hs
 have e4 : (w2.toList == [91]) = false := litCn _ _ hne
 have wz : IntKind.i64.wrap (z + 1) = z + 1 := by rw [IntKind.wrap_i64]; omega
 clear hs
 obtain ⟨wa, hwa⟩ : ∃ wa, w.alloc (.cells #[.int .i64 x0, .string x1, .string x2, .string x3, .string x4, .string x5, .slice x6 u6 v6, .int .i64 x7, .slice x8 u8 v8, .slice x9 u9 v9, .int .i64 x10, .int .i64 x11] 128) = wa := ⟨_, rfl⟩
 have hba := heap_alloc_new w (.cells #[.int .i64 x0, .string x1, .string x2, .string x3, .string x4, .string x5, .slice x6 u6 v6, .int .i64 x7, .slice x8 u8 v8, .slice x9 u9 v9, .int .i64 x10, .int .i64 x11] 128)
 have hca := (Ch.refl No w).alloc (.cells #[.int .i64 x0, .string x1, .string x2, .string x3, .string x4, .string x5, .slice x6 u6 v6, .int .i64 x7, .slice x8 u8 v8, .slice x9 u9 v9, .int .i64 x10, .int .i64 x11] 128)
 rw [hwa] at hba hca
 obtain ⟨wb, hwb⟩ : ∃ wb, wa.alloc (.cells stZ 128) = wb := ⟨_, rfl⟩
 have hbb := heap_alloc_new wa (.cells stZ 128)
 have hcb := (Ch.refl No wa).alloc (.cells stZ 128)
 rw [hwb] at hbb hcb
 unfold stZ at hwb hbb
 have HT := hid ((h.no hca).no hcb)
 have HBA := hid (hcb.keep _ _ hba (fun h => h))
 have HBB := hid hbb
 have HG := hid h.ge
 have HGL := hid h.lt
 have h0w := h.ch.size
 have hsz := hca.size
 have hlt := lt_size hba
 clear h hba hbb
 go_enter Tryz.func157, Tryz.ntmps157
 go_wp2_with fail
 refine (twd HT.out hw).mono ?_
 rintro e w1 ⟨rfl, hT1, hc1⟩
 have ne1 : w.heap.size ≠ g := by have := HGL.out; omega
 have HN2 : Hid (wa.heap.size ≠ g) := hid (by have := HGL.out; have := hca.size; omega)
 have HA1 := hid (hc1.keep _ _ HBA.out (fun e => ne1 e))
 have HB1 := hid (hc1.keep _ _ HBB.out (fun e => HN2.out e))
 have HT1 := hid hT1
 have ha1 := HA1.out
 have p0 := cellAt ha1 0
 have p1 := cellAt ha1 1
 have p2 := cellAt ha1 2
 have p3 := cellAt ha1 3
 have p4 := cellAt ha1 4
 have p5 := cellAt ha1 5
 have p6 := cellAt ha1 6
 have p7 := cellAt ha1 7
 have p8 := cellAt ha1 8
 have p9 := cellAt ha1 9
 have p10 := cellAt ha1 10
 have p11 := cellAt ha1 11
 have q0 := freeAt ha1 0
 have q1 := freeAt ha1 1
 have q2 := freeAt ha1 2
 have q3 := freeAt ha1 3
 have q4 := freeAt ha1 4
 have q5 := freeAt ha1 5
 have q6 := freeAt ha1 6
 have q7 := freeAt ha1 7
 have q8 := freeAt ha1 8
 have q9 := freeAt ha1 9
 have HC1 := hid ((chNo (hca.trans hcb)).trans hc1)
 clear hT1 hw ha1 hwa hwb
 go_wp2_with fail
 refine (tnm HT1.out hn).mono ?_
 rintro e w3 ⟨rfl, hT3, hc3⟩
 have HA3 := hid (hc3.keep _ _ HA1.out (fun e => ne1 e))
 have HB3 := hid (hc3.keep _ _ HB1.out (fun e => HN2.out e))
 clear p0 p1 p2 p3 p4 p5 p6 p7 p8 p9 p10 p11 q0 q1 q2 q3 q4 q5 q6 q7 q8 q9
 have f4 := freeAt HA3.out 4
 have f0 := freeAt HA3.out 0
 have p4 := cellAt HA3.out 4
 have p0 := cellAt HA3.out 0
 obtain ⟨w4, hw4, hb4, hc4⟩ := set2At HA3.out 4 (.string tn) 0 (.int .i64 0)
 have hT4 := hT3.new hc4 h0w (fun e => ne1 e.symm)
 have HC4 := hid (chOwn (HC1.out.trans hc3) hc4 (Nat.le_refl _))
 have HA4 := hid hb4
 have HB4 := hid (hc4.keep _ _ HB3.out (fun e => by have e' : wa.heap.size = w.heap.size := e; omega))
 clear hb4 hT3 hc3 hc4
 go_upto_region 11 with fail
 clear hw4 p0 p4 f0 f4
 go_wp2_with fail
 refine (twd hT4 hw2).mono ?_
 rintro e w5 ⟨rfl, hT5, hc5⟩
 have HA5 := hid (hc5.keep _ _ HA4.out (fun e => ne1 e))
 have HB5 := hid (hc5.keep _ _ HB4.out (fun e => HN2.out e))
 have ha5 := HA5.out
 have hb5 := HB5.out
 have p0 := cellAt ha5 0
 have p1 := cellAt ha5 1
 have p2 := cellAt ha5 2
 have p3 := cellAt ha5 3
 have p4 := cellAt ha5 4
 have p5 := cellAt ha5 5
 have p6 := cellAt ha5 6
 have p7 := cellAt ha5 7
 have p8 := cellAt ha5 8
 have p9 := cellAt ha5 9
 have p10 := cellAt ha5 10
 have p11 := cellAt ha5 11
 have q0 := cellAt hb5 0
 have q1 := cellAt hb5 1
 have q2 := cellAt hb5 2
 have q3 := cellAt hb5 3
 have q4 := cellAt hb5 4
 have q5 := cellAt hb5 5
 have q6 := cellAt hb5 6
 have q7 := cellAt hb5 7
 have q8 := cellAt hb5 8
 have q9 := cellAt hb5 9
 have q10 := cellAt hb5 10
 have q11 := cellAt hb5 11
 have f0 := freeAt hb5 0
 have f1 := freeAt hb5 1
 have f2 := freeAt hb5 2
 have f3 := freeAt hb5 3
 have f4 := freeAt hb5 4
 have f5 := freeAt hb5 5
 have f6 := freeAt hb5 6
 have f7 := freeAt hb5 7
 have f8 := freeAt hb5 8
 have f9 := freeAt hb5 9
 have f10 := freeAt hb5 10
 have f11 := freeAt hb5 11
 clear ha5 hb5 hT4
 go_wp2_with fail
 obtain ⟨wf, hwf, hfb, hfc⟩ := put12 HB5.out (.int .i64 0) (.string x1) (.string x2) (.string x3) (.string tn) (.string x5) (.slice x6 u6 v6) (.int .i64 x7) (.slice x8 u8 v8) (.slice x9 u9 v9) (.int .i64 x10) (.int .i64 x11)
 rw [hwf]
 have k0 := cellAt hfb 0
 have k1 := cellAt hfb 1
 have k2 := cellAt hfb 2
 have k3 := cellAt hfb 3
 have k4 := cellAt hfb 4
 have k5 := cellAt hfb 5
 have k6 := cellAt hfb 6
 have k7 := cellAt hfb 7
 have k8 := cellAt hfb 8
 have k9 := cellAt hfb 9
 have k10 := cellAt hfb 10
 have k11 := cellAt hfb 11
 refine bodyPost_ret (v := .tuple #[.agg #[.int .i64 0, .string x1, .string x2, .string x3, .string tn, .string x5, .slice x6 u6 v6, .int .i64 x7, .slice x8 u8 v8, .slice x9 u9 v9, .int .i64 x10, .int .i64 x11], .int .i64 z2]) (by simp [results, Tryz.results157, go_sem, k0, k1, k2, k3, k4, k5, k6, k7, k8, k9, k10, k11]) rfl ?_
 exact ⟨rfl, hT5.new hfc (by omega) (fun e => HN2.out e.symm), chOwn (HC4.out.trans hc5) hfc (by omega)⟩
end Go.Proofs.YtgjpgfedlgdjhaaGreatDoor
end
