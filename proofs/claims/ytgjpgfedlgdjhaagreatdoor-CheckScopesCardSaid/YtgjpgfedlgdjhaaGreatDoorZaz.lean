/- What the claim uses: part 26. -/
import Derived.Test.YtgjpgfedlgdjhaaGreatDoorZay
section
set_option linter.unusedVariables false
set_option linter.unusedSimpArgs false
set_option maxRecDepth 8192
namespace Go.Proofs.YtgjpgfedlgdjhaaGreatDoor
open Go.RowKit Go.W
theorem put9 {w : World} {b : Nat} {x0 x1 x2 x3 x4 x5 x6 x7 x8 : Value} {t : TypeId} (h : w.heap[b]? = some (.cells #[x0, x1, x2, x3, x4, x5, x6, x7, x8] t (0, 0))) (v0 v1 v2 v3 v4 v5 v6 v7 v8 : Value) :
   ∃ wf, ((((((((w.setCell ⟨b, 0, none⟩ v0).setCell ⟨b, 1, none⟩ v1).setCell ⟨b, 2, none⟩ v2).setCell ⟨b, 3, none⟩ v3).setCell ⟨b, 4, none⟩ v4).setCell ⟨b, 5, none⟩ v5).setCell ⟨b, 6, none⟩ v6).setCell ⟨b, 7, none⟩ v7).setCell ⟨b, 8, none⟩ v8 = wf ∧ wf.heap[b]? = some (.cells #[v0, v1, v2, v3, v4, v5, v6, v7, v8] t (0, 0)) ∧ Ch (Tb b) w wf := by
 obtain ⟨a0, e0, h0, c0⟩ := set1At h 0 v0
 obtain ⟨a1, e1, h1, c1⟩ := set1At h0 1 v1
 obtain ⟨a2, e2, h2, c2⟩ := set1At h1 2 v2
 obtain ⟨a3, e3, h3, c3⟩ := set1At h2 3 v3
 obtain ⟨a4, e4, h4, c4⟩ := set1At h3 4 v4
 obtain ⟨a5, e5, h5, c5⟩ := set1At h4 5 v5
 obtain ⟨a6, e6, h6, c6⟩ := set1At h5 6 v6
 obtain ⟨a7, e7, h7, c7⟩ := set1At h6 7 v7
 obtain ⟨a8, e8, h8, c8⟩ := set1At h7 8 v8
 exact ⟨a8, by rw [e0, e1, e2, e3, e4, e5, e6, e7, e8], by simpa using h8, (((((((c0.trans c1).trans c2).trans c3).trans c4).trans c5).trans c6).trans c7).trans c8⟩
theorem Tryz.infoVar : (Tryz.prog.info? 64).map (fun i => (i.zero.map (fun z => z.cells.size), i.size, i.bytes)) = some (some 4, 4, 48) := by kernel_rfl
theorem Tryz.sliceVar : Tryz.prog.underlying 24 = some (.slice 64) := by kernel_rfl
def vrC (t n : ByteArray) (p q : Int) : List Value := [.string t, .string n, .int .i64 p, .int .i64 q]
theorem vrC_one (t n : ByteArray) (p q : Int) : ∀ u ∈ vrC t n p q, u.oneCell' = true := by
 intro u hu
 simp [vrC] at hu
 rcases hu with rfl | rfl | rfl | rfl <;> rfl
def mtZ : Array Value := #[.string ⟨#[]⟩, .string ⟨#[]⟩, .bool false, .bool false, .slice none 0 0, .slice none 0 0, .slice none 0 0, .int .i64 0, .int .i64 0]
structure BlkAt (L : List Tok) (z : Int) (vt vn : ByteArray) (vp vq : Int) (nm tn : ByteArray) (p q z6 : Int) : Prop where
 at_ : ∃ z1 z2 z3, One L z ⟨#[123]⟩ z1 ∧ 0 ≤ z1 ∧ z1 ≤ 100000 ∧ Wd L z1 ⟨#[118, 97, 114]⟩ ∧ Vri L (z1 + 1) vt vn vp vq z2 ∧ One L z2 ⟨#[59]⟩ z3 ∧ Wd L z3 nm ∧ ¬ nm = ⟨#[118, 97, 114]⟩ ∧ BodyAt L z3 nm tn p q z6
def BlkOut (w0 w : World) (g : Nat) (L : List Tok) (a b c d : Int) (ret mn : ByteArray) (st ba : Bool) (ml mc : Int) (vt vn : ByteArray) (vp vq : Int) (nm tn : ByteArray) (p q z6 : Int) (e : Ending) (w' : World) : Prop :=
 ∃ al cl ab cb, e = .returned (.tuple #[.agg #[.string ret, .string mn, .bool st, .bool ba, .slice none 0 0, .slice al 1 cl, .slice ab 1 cb, .int .i64 ml, .int .i64 mc], .int .i64 z6]) ∧ w'.ownsRow w.heap.size 64 4 (.slice al 1 cl) 1 (vrC vt vn vp vq) ∧ w'.ownsRow w.heap.size 128 12 (.slice ab 1 cb) 1 (stC nm tn p q) ∧ TxO w0 w g L a b c d w'
theorem ownsBase {w : World} {base base' sz n : Nat} {e : TypeId} {v : Value} {xs : List Value} (h : w.ownsRow base e sz v n xs) (hb : base' ≤ base) : w.ownsRow base' e sz v n xs := by
 refine ⟨h.1, ?_⟩
 rcases h.2 with h | ⟨g, cap, cur, h1, h2, h3⟩
 · exact .inl h
 · exact .inr ⟨g, cap, cur, h1, Nat.le_trans hb h2, h3⟩
set_option maxHeartbeats 8000000 in
theorem tblock {w0 w : World} {g : Nat} {L : List Tok} {a b c d : Int} (h : Tx w0 w g L a b c d) {z vp vq p q z6 : Int} {vt vn nm tn : ByteArray} (hB : BlkAt L z vt vn vp vq nm tn p q z6) (ret mn : ByteArray) (st ba : Bool) (ml mc : Int) :
   Calls Tryz.prog 30 #[.pointer (some ⟨g, 0, none⟩), .agg #[.string ret, .string mn, .bool st, .bool ba, .slice none 0 0, .slice none 0 0, .slice none 0 0, .int .i64 ml, .int .i64 mc], .int .i64 z] w (BlkOut w0 w g L a b c d ret mn st ba ml mc vt vn vp vq nm tn p q z6) := by
 obtain ⟨z1, z2, z3, ho1, h10, h11, hw1, hvr, ho3, hw3, hnv, hbo⟩ := hB.at_
 have h30 := hbo.b0
 obtain ⟨s, hs⟩ : ∃ s : ByteArray, s = ⟨#[118, 97, 114]⟩ := ⟨_, rfl⟩
 rw [← hs] at hw1
 have e1 := litC s [118, 97, 114] hs
 have e2 := litCn nm [118, 97, 114] hnv
 have wz : IntKind.i64.wrap (z1 + 1) = z1 + 1 := by rw [IntKind.wrap_i64]; omega
 have d1 : decide (z1 ≥ 0) = true := decide_eq_true h10
 have d2 : decide (z3 ≥ 0) = true := decide_eq_true h30
 clear hs hnv
 obtain ⟨wa, hwa⟩ : ∃ wa, w.alloc (.cells #[.string ret, .string mn, .bool st, .bool ba, .slice none 0 0, .slice none 0 0, .slice none 0 0, .int .i64 ml, .int .i64 mc] 29) = wa := ⟨_, rfl⟩
 have hba := heap_alloc_new w (.cells #[.string ret, .string mn, .bool st, .bool ba, .slice none 0 0, .slice none 0 0, .slice none 0 0, .int .i64 ml, .int .i64 mc] 29)
 have hca := (Ch.refl No w).alloc (.cells #[.string ret, .string mn, .bool st, .bool ba, .slice none 0 0, .slice none 0 0, .slice none 0 0, .int .i64 ml, .int .i64 mc] 29)
 rw [hwa] at hba hca
 obtain ⟨wb, hwb⟩ : ∃ wb, wa.alloc (.cells mtZ 29) = wb := ⟨_, rfl⟩
 have hbb := heap_alloc_new wa (.cells mtZ 29)
 have hcb := (Ch.refl No wa).alloc (.cells mtZ 29)
 rw [hwb] at hbb hcb
 unfold mtZ at hwb hbb
 have HT := hid ((h.no hca).no hcb)
 have HBA := hid (hcb.keep _ _ hba (fun h => h))
 have HBB := hid hbb
 have HCB := hid (hca.trans hcb)
 have HGL := hid h.lt
 have h0w := h.ch.size
 have hsz := hca.size
 have hlt := lt_size hba
 clear h hba hbb hca hcb
 have ne1 : w.heap.size ≠ g := by have := HGL.out; omega
 have HN2 : Hid (wa.heap.size ≠ g) := hid (by have := HGL.out; omega)
 go_enter Tryz.func30, Tryz.ntmps30
 go_wp2_with fail
 refine (tone HT.out ho1).mono ?_
 rintro e w1 ⟨rfl, hT1, hc1⟩
 have HA1 := hid (hc1.keep _ _ HBA.out (fun e => ne1 e))
 have HB1 := hid (hc1.keep _ _ HBB.out (fun e => HN2.out e))
 have HC1 := hid ((chNo (S := Tb g) HCB.out).trans hc1)
 have HT1 := hid hT1
 clear hwa hwb hc1 hT1
 go_wp2_with fail
 go_loopg [7, 2, 8, 9] 1 (fun gg s7 s2 s8 s9 wr => Hid (TxO w0 w g L a b c d wr) ∧ Hid (wr.heap[wa.heap.size]? = some (.cells #[.string ⟨#[]⟩, .string ⟨#[]⟩, .bool false, .bool false, .slice none 0 0, .slice none 0 0, .slice none 0 0, .int .i64 0, .int .i64 0] 29 (0, 0))) ∧ ((s2 = .int .i64 z1 ∧ 1 ≤ gg ∧ Hid (wr.heap[w.heap.size]? = some (.cells #[.string ret, .string mn, .bool st, .bool ba, .slice none 0 0, .slice none 0 0, .slice none 0 0, .int .i64 ml, .int .i64 mc] 29 (0, 0)))) ∨ (s2 = .int .i64 z3 ∧ ∃ al cl, Hid (wr.heap[w.heap.size]? = some (.cells #[.string ret, .string mn, .bool st, .bool ba, .slice none 0 0, .slice al 1 cl, .slice none 0 0, .int .i64 ml, .int .i64 mc] 29 (0, 0))) ∧ Hid (wr.ownsRow w.heap.size 64 4 (.slice al 1 cl) 1 (vrC vt vn vp vq)))))
 case atStart => exact ⟨hid ⟨HT1.out, HC1.out⟩, hid HB1.out, .inl ⟨rfl, Nat.le_refl _, HA1⟩⟩
 case round =>
   obtain ⟨HTR, HBR, hor⟩ := hrel
   obtain ⟨hT, hcr⟩ := HTR.out
   rcases hor with ⟨rfl, hg, HAR⟩ | ⟨rfl, al, cl, HAR, HR⟩
   · have har := HAR.out
     have m5 := cellAt har 5
     clear har
     go_wp2_with fail
     refine (twd hT hw1).mono ?_
     rintro e w2 ⟨rfl, hT2, hc2⟩
     have HA2 := hid (hc2.keep _ _ HAR.out (fun e => ne1 e))
     have ha2 := HA2.out
     clear m5
     have m5 := cellAt ha2 5
     go_wp2_with fail
     refine (tvri hT2 hvr).mono ?_
     rintro e w3 ⟨rfl, hT3, hc3⟩
     have HC3 := hid ((hcr.trans hc2).trans hc3)
     have HA3 := hid (hc3.keep _ _ HA2.out (fun e => ne1 e))
     have HB3 := hid (hc3.keep _ _ (hc2.keep _ _ HBR.out (fun e => HN2.out e)) (fun e => HN2.out e))
     clear m5 ha2 hcr hc2 hc3 hT hT2
     go_upto_region 6 with fail
     obtain ⟨w4, hw4⟩ : ∃ w4, w3.alloc (.cells (vrC vt vn vp vq).toArray 64) = w4 := ⟨_, rfl⟩
     have hb4 := heap_alloc_new w3 (.cells (vrC vt vn vp vq).toArray 64)
     have hc4 := (Ch.refl No w3).alloc (.cells (vrC vt vn vp vq).toArray 64)
     rw [hw4] at hb4 hc4
     unfold vrC at hw4 hb4
     have HC4 := hid (HC3.out.trans (chNo hc4))
     have HT4 := hid (hT3.no hc4)
     have HA4 := hid (hc4.keep _ _ HA3.out (fun h => h))
     have HB4 := hid (hc4.keep _ _ HB3.out (fun h => h))
     have ha4 := HA4.out
     have m5 := cellAt ha4 5
     have x0 := cellAt hb4 0
     have x1 := cellAt hb4 1
     have x2 := cellAt hb4 2
     have x3 := cellAt hb4 3
     have hbase : w.heap.size ≤ (w4.alloc (.cells (vrC vt vn vp vq).toArray 64)).heap.size := (HC4.out.alloc _).size
     clear hb4 hc4 hT3 ha4
     go_wp2_with (at_builtin; go_must (refine wpAppendOwn rfl _ _ rfl Tryz.sliceVar Tryz.infoVar (Nat.le_of_ble_eq_true rfl) (Nat.le_of_ble_eq_true rfl) w.heap.size (.slice none 0 0) 0 [] rfl (World.ownsRow_nil _ _ _ _) w4.heap.size 1 1 (vrC vt vn vp vq) rfl rfl (heap_alloc_new w4 _) (vrC_one _ _ _ _) (Nat.le_of_ble_eq_true rfl) hbase ?_))
     intro v6 w6 hr6 hc6
     obtain ⟨a6, c6, e6, _, _⟩ := ownsSh hr6
     subst e6
     clear hw4 x0 x1 x2 x3 m5
     have hN6 : Ch No (w4.alloc (.cells (vrC vt vn vp vq).toArray 64)) w6 := hc6.mono (fun k o ho e => by simp [Value.ownBlock] at e)
     have hT6 := (HT4.out.no ((Ch.refl No w4).alloc (.cells (vrC vt vn vp vq).toArray 64))).no hN6
     have HC6 := hid ((HC4.out.alloc (.cells (vrC vt vn vp vq).toArray 64)).trans (chNo hN6))
     have HA6 := hid (hN6.keep _ _ (heapOld HA4.out _) (fun h => h))
     have HB6 := hid (hN6.keep _ _ (heapOld HB4.out _) (fun h => h))
     have ha6 := HA6.out
     have m5 := cellAt ha6 5
     have f5 := freeAt ha6 5
     obtain ⟨w7, hw7, hb7, hc7⟩ := set1At ha6 5 (.slice a6 1 c6)
     have HA7 := hid hb7
     have HR7 := hid (ownsTb hr6 hc7 ha6 (by decide))
     have HT7 := hid (hT6.new hc7 h0w (fun e => ne1 e.symm))
     have HC7 := hid (chOwn HC6.out hc7 (Nat.le_refl _))
     have HB7 := hid (hc7.keep _ _ HB6.out (fun e => by have e' : wa.heap.size = w.heap.size := e; omega))
     clear hr6 hc6 hbase hN6 hT6 ha6 hb7 hc7
     go_upto_region 7 with fail
     clear hw7 m5 f5
     go_wp2_with fail
     refine (tone HT7.out ho3).mono ?_
     rintro e w8 ⟨rfl, hT8, hc8⟩
     have HA8 := hid (hc8.keep _ _ HA7.out (fun e => ne1 e))
     have HB8 := hid (hc8.keep _ _ HB7.out (fun e => HN2.out e))
     have HR8 := hid (ownsTx HT7.out HR7.out hc8 (by decide))
     have HX8 := hid (show TxO w0 w g L a b c d w8 from ⟨hT8, HC7.out.trans hc8⟩)
     clear hT8 hc8
     go_wp2_with fail
     go_roundg 0
     case rel => exact ⟨HX8, HB8, .inr ⟨rfl, a6, c6, HA8, HR8⟩⟩
     case measure => omega
   · have har := HAR.out
     have m5 := cellAt har 5
     clear har
     go_wp2_with fail
     refine (twd hT hw3).mono ?_
     rintro e w2 ⟨rfl, hT2, hc2⟩
     have HA2 := hid (hc2.keep _ _ HAR.out (fun e => ne1 e))
     have HB2 := hid (hc2.keep _ _ HBR.out (fun e => HN2.out e))
     have HR2 := hid (ownsTx hT HR.out hc2 (by decide))
     have HC2 := hid (hcr.trans hc2)
     clear m5 hc2 hcr hT
     go_wp2_with fail
     refine (tstmts hT2 hbo).mono ?_
     rintro e w3 ⟨vb, rfl, hrb, hT3, hc3⟩
     obtain ⟨ab, cb, eb, _, _⟩ := ownsSh hrb
     subst eb
     have HA3 := hid (hc3.keep _ _ HA2.out (fun e => ne1 e))
     have HB3 := hid (hc3.keep _ _ HB2.out (fun e => HN2.out e))
     have HR3 := hid (ownsTx hT2 HR2.out hc3 (by decide))
     have HS3 := hid (ownsBase hrb (by have := HC2.out.size; exact this))
     have HC3 := hid (HC2.out.trans hc3)
     have ha3 := HA3.out
     have f6 := freeAt ha3 6
     have m6 := cellAt ha3 6
     obtain ⟨w4, hw4, hb4, hc4⟩ := set1At ha3 6 (.slice ab 1 cb)
     have HA4 := hid hb4
     have HB4 := hid (hc4.keep _ _ HB3.out (fun e => by have e' : wa.heap.size = w.heap.size := e; omega))
     have HR4 := hid (ownsTb HR3.out hc4 ha3 (by decide))
     have HS4 := hid (ownsTb HS3.out hc4 ha3 (by decide))
     have HT4 := hid (hT3.new hc4 h0w (fun e => ne1 e.symm))
     have HC4 := hid (chOwn HC3.out hc4 (Nat.le_refl _))
     clear hrb hT3 hc3 hT2 ha3 hb4 hc4
     go_upto_region 9 with fail
     clear hw4 f6 m6
     have ha4 := HA4.out
     have hb4 := HB4.out
     have p0 := cellAt ha4 0
     have p1 := cellAt ha4 1
     have p2 := cellAt ha4 2
     have p3 := cellAt ha4 3
     have p4 := cellAt ha4 4
     have p5 := cellAt ha4 5
     have p6 := cellAt ha4 6
     have p7 := cellAt ha4 7
     have p8 := cellAt ha4 8
     have q0 := cellAt hb4 0
     have q1 := cellAt hb4 1
     have q2 := cellAt hb4 2
     have q3 := cellAt hb4 3
     have q4 := cellAt hb4 4
     have q5 := cellAt hb4 5
     have q6 := cellAt hb4 6
     have q7 := cellAt hb4 7
     have q8 := cellAt hb4 8
     have f0 := freeAt hb4 0
     have f1 := freeAt hb4 1
     have f2 := freeAt hb4 2
     have f3 := freeAt hb4 3
     have f4 := freeAt hb4 4
     have f5 := freeAt hb4 5
     have f6 := freeAt hb4 6
     have f7 := freeAt hb4 7
     have f8 := freeAt hb4 8
     clear ha4 hb4
     go_wp2_with fail
     obtain ⟨wf, hwf, hfb, hfc⟩ := put9 HB4.out (.string ret) (.string mn) (.bool st) (.bool ba) (.slice none 0 0) (.slice al 1 cl) (.slice ab 1 cb) (.int .i64 ml) (.int .i64 mc)
     rw [hwf]
     have k0 := cellAt hfb 0
     have k1 := cellAt hfb 1
     have k2 := cellAt hfb 2
     have k3 := cellAt hfb 3
     have k4 := cellAt hfb 4
     have k5 := cellAt hfb 5
     have k6 := cellAt hfb 6
     have k7 := cellAt hfb 7
     have k8 := cellAt hfb 8
     refine bodyPost_ret (v := .tuple #[.agg #[.string ret, .string mn, .bool st, .bool ba, .slice none 0 0, .slice al 1 cl, .slice ab 1 cb, .int .i64 ml, .int .i64 mc], .int .i64 z6]) (by simp [results, Tryz.results30, go_sem, k0, k1, k2, k3, k4, k5, k6, k7, k8]) rfl ?_
     exact ⟨al, cl, ab, cb, rfl, ownsTb HR4.out hfc HB4.out (by decide), ownsTb HS4.out hfc HB4.out (by decide), HT4.out.new hfc (by omega) (fun e => HN2.out e.symm), chOwn HC4.out hfc (by omega)⟩
end Go.Proofs.YtgjpgfedlgdjhaaGreatDoor
end
