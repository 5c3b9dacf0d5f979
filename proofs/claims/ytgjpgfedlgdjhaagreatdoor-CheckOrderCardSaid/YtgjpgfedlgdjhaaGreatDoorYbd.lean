/- Part 30. -/
import Derived.Test.YtgjpgfedlgdjhaaGreatDoorYbc
set_option linter.unusedVariables false
set_option linter.unusedSimpArgs false
set_option maxHeartbeats 64000000
set_option maxRecDepth 8192
section
namespace Go.Proofs.YtgjpgfedlgdjhaaGreatDoor
open Go.RowKit Go.W
def Sk (t n : ByteArray) (p q : Int) : List Value := [.string t, .string n, .int .i64 p, .int .i64 q]
theorem Xq (t n : ByteArray) (p q : Int) : ∀ u ∈ Sk t n p q, u.oneCell' = true := by
 intro u hu
 simp [Sk] at hu
 rcases hu with rfl | rfl | rfl | rfl <;> rfl
structure Rf (L : List Iv) (z : Int) (vt vn : ByteArray) (vp vq : Int) (nm tn : ByteArray) (p q z6 : Int) : Prop where
 at_ : ∃ z1 z2 z3, M5 L z ⟨#[123]⟩ z1 ∧ 0 ≤ z1 ∧ z1 ≤ 100000 ∧ Wd L z1 ⟨#[118, 97, 114]⟩ ∧ Vri L (z1 + 1) vt vn vp vq z2 ∧ M5 L z2 ⟨#[59]⟩ z3 ∧ Wd L z3 nm ∧ ¬ nm = ⟨#[118, 97, 114]⟩ ∧ Mp L z3 nm tn p q z6
def Aan (w0 w : World) (g : Nat) (L : List Iv) (a b c d : Int) (ret mn : ByteArray) (st ba : Bool) (ml mc : Int) (vt vn : ByteArray) (vp vq : Int) (nm tn : ByteArray) (p q z6 : Int) (e : Ending) (w' : World) : Prop :=
 ∃ al cl ab cb, e = .returned (.tuple #[.agg #[.string ret, .string mn, .bool st, .bool ba, .slice none 0 0, .slice al 1 cl, .slice ab 1 cb, .int .i64 ml, .int .i64 mc], .int .i64 z6]) ∧ w'.ownsRow w.heap.size 64 4 (.slice al 1 cl) 1 (Sk vt vn vp vq) ∧ w'.ownsRow w.heap.size 128 12 (.slice ab 1 cb) 1 (Sj nm tn p q) ∧ Io w0 w g L a b c d w'
theorem Aao {w0 w : World} {g : Nat} {L : List Iv} {a b c d : Int} (h : Tx w0 w g L a b c d) {z vp vq p q z6 : Int} {vt vn nm tn : ByteArray} (hB : Rf L z vt vn vp vq nm tn p q z6) (ret mn : ByteArray) (st ba : Bool) (ml mc : Int) :
 Calls Tryz.prog 30 #[.pointer (some ⟨g, 0, none⟩), .agg #[.string ret, .string mn, .bool st, .bool ba, .slice none 0 0, .slice none 0 0, .slice none 0 0, .int .i64 ml, .int .i64 mc], .int .i64 z] w (Aan w0 w g L a b c d ret mn st ba ml mc vt vn vp vq nm tn p q z6) := by
 obtain ⟨z1, z2, z3, ho1, h10, h11, hw1, hvr, ho3, hw3, hnv, hbo⟩ := hB.at_
 have h30 := hbo.b0
 obtain ⟨s, hs⟩ : ∃ s : ByteArray, s = ⟨#[118, 97, 114]⟩ := ⟨_, rfl⟩
 rw [← hs] at hw1
 have e1 := Pv s [118, 97, 114] hs
 have e2 := Et nm [118, 97, 114] hnv
 have wz : IntKind.i64.wrap (z1 + 1) = z1 + 1 := by rw [IntKind.wrap_i64]; omega
 have d1 : decide (z1 ≥ 0) = true := decide_eq_true h10
 have d2 : decide (z3 ≥ 0) = true := decide_eq_true h30
 clear hs hnv
 obtain ⟨wa, hwa, hba, hca⟩ := A2 w (.cells #[.string ret, .string mn, .bool st, .bool ba, .slice none 0 0, .slice none 0 0, .slice none 0 0, .int .i64 ml, .int .i64 mc] 29)
 obtain ⟨wb, hwb, hbb, hcb⟩ := A2 wa (.cells Sx 29)
 unfold Sx at hwb hbb
 have HT := Aa ((h.no hca).no hcb)
 have HBA := Aa (hcb.keep _ _ hba (fun h => h))
 have HBB := Aa hbb
 have HCB := Aa (hca.trans hcb)
 have HGL := Aa h.lt
 have h0w := h.ch.size
 have hsz := hca.size
 have hlt := Ac hba
 clear h hba hbb hca hcb
 have ne1 : w.heap.size ≠ g := by have := HGL.out; omega
 have HN2 : Hid (wa.heap.size ≠ g) := Aa (by have := HGL.out; omega)
 go_in
 go_wp2_with fail
 refine (Vc HT.out ho1).mono ?_
 rintro e w1 ⟨rfl, hT1, hc1⟩
 have HA1 := Aa (hc1.keep _ _ HBA.out (fun e => ne1 e))
 have HB1 := Aa (hc1.keep _ _ HBB.out (fun e => HN2.out e))
 have HC1 := Aa ((Ce (S := Tb g) HCB.out).trans hc1)
 have HT1 := Aa hT1
 clear hwa hwb hc1 hT1
 go_wp2
 go_loopg [7, 2, 8, 9] 1 (fun gg s7 s2 s8 s9 wr => Hid (Io w0 w g L a b c d wr) ∧ Hid (wr.heap[wa.heap.size]? = some (.cells #[.string ⟨#[]⟩, .string ⟨#[]⟩, .bool false, .bool false, .slice none 0 0, .slice none 0 0, .slice none 0 0, .int .i64 0, .int .i64 0] 29 (0, 0))) ∧ ((s2 = .int .i64 z1 ∧ 1 ≤ gg ∧ Hid (wr.heap[w.heap.size]? = some (.cells #[.string ret, .string mn, .bool st, .bool ba, .slice none 0 0, .slice none 0 0, .slice none 0 0, .int .i64 ml, .int .i64 mc] 29 (0, 0)))) ∨ (s2 = .int .i64 z3 ∧ ∃ al cl, Hid (wr.heap[w.heap.size]? = some (.cells #[.string ret, .string mn, .bool st, .bool ba, .slice none 0 0, .slice al 1 cl, .slice none 0 0, .int .i64 ml, .int .i64 mc] 29 (0, 0))) ∧ Hid (wr.ownsRow w.heap.size 64 4 (.slice al 1 cl) 1 (Sk vt vn vp vq)))))
 case atStart => exact ⟨Aa ⟨HT1.out, HC1.out⟩, Aa HB1.out, .inl ⟨rfl, Nat.le_refl _, HA1⟩⟩
 case round =>
  obtain ⟨HTR, HBR, hor⟩ := hrel
  obtain ⟨hT, hcr⟩ := HTR.out
  rcases hor with ⟨rfl, hg, HAR⟩ | ⟨rfl, al, cl, HAR, HR⟩
  {have har := HAR.out
   have m5 := Ab har 5
   clear har
   go_wp2_with fail
   refine (O3 hT hw1).mono ?_
   rintro e w2 ⟨rfl, hT2, hc2⟩
   have HA2 := Aa (hc2.keep _ _ HAR.out (fun e => ne1 e))
   have ha2 := HA2.out
   clear m5
   have m5 := Ab ha2 5
   go_wp2_with fail
   refine (Afo hT2 hvr).mono ?_
   rintro e w3 ⟨rfl, hT3, hc3⟩
   have HC3 := Aa ((hcr.trans hc2).trans hc3)
   have HA3 := Aa (hc3.keep _ _ HA2.out (fun e => ne1 e))
   have HB3 := Aa (hc3.keep _ _ (hc2.keep _ _ HBR.out (fun e => HN2.out e)) (fun e => HN2.out e))
   clear m5 ha2 hcr hc2 hc3 hT hT2
   go_upto_region 6 with fail
   obtain ⟨w4, hw4, hb4, hc4⟩ := A2 w3 (.cells (Sk vt vn vp vq).toArray 64)
   unfold Sk at hw4 hb4
   have HC4 := Aa (HC3.out.trans (Ce hc4))
   have HT4 := Aa (hT3.no hc4)
   have HA4 := Aa (hc4.keep _ _ HA3.out (fun h => h))
   have HB4 := Aa (hc4.keep _ _ HB3.out (fun h => h))
   have ha4 := HA4.out
   have m5 := Ab ha4 5
   obtain ⟨x0, x1, x2, x3⟩ := F9 hb4
   have hbase : w.heap.size ≤ (w4.alloc (.cells (Sk vt vn vp vq).toArray 64)).heap.size := (HC4.out.alloc _).size
   clear hb4 hc4 hT3 ha4
   go_wp2_with (at_builtin; go_must (refine C1 rfl _ _ rfl Tryz.sliceVar Tryz.infoVar (lb rfl) (lb rfl) w.heap.size (.slice none 0 0) 0 [] rfl (World.ownsRow_nil _ _ _ _) w4.heap.size 1 1 (Sk vt vn vp vq) rfl rfl (heap_alloc_new w4 _) (Xq _ _ _ _) (lb rfl) hbase ?_))
   intro v6 w6 hr6 hc6
   obtain ⟨a6, c6, e6, _, _⟩ := Dh hr6
   subst e6
   clear hw4 x0 x1 x2 x3 m5
   have hN6 : Ch No (w4.alloc (.cells (Sk vt vn vp vq).toArray 64)) w6 := hc6.mono (fun k o ho e => by simp [Value.ownBlock] at e)
   have hT6 := (HT4.out.no ((Ch.refl No w4).alloc (.cells (Sk vt vn vp vq).toArray 64))).no hN6
   have HC6 := Aa ((HC4.out.alloc (.cells (Sk vt vn vp vq).toArray 64)).trans (Ce hN6))
   have HA6 := Aa (hN6.keep _ _ (Bh HA4.out _) (fun h => h))
   have HB6 := Aa (hN6.keep _ _ (Bh HB4.out _) (fun h => h))
   have ha6 := HA6.out
   have m5 := Ab ha6 5
   have f5 := Ad ha6 5
   obtain ⟨w7, hw7, hb7, hc7⟩ := Ai ha6 5 (.slice a6 1 c6)
   have HA7 := Aa hb7
   have HR7 := Aa (Bd hr6 hc7 ha6 (by decide))
   have HT7 := Aa (hT6.new hc7 h0w (fun e => ne1 e.symm))
   have HC7 := Aa (Ao HC6.out hc7 (Nat.le_refl _))
   have HB7 := Aa (hc7.keep _ _ HB6.out (Bm (by omega)))
   clear hr6 hc6 hbase hN6 hT6 ha6 hb7 hc7
   go_upto_region 7 with fail
   clear hw7 m5 f5
   go_wp2_with fail
   refine (Vc HT7.out ho3).mono ?_
   rintro e w8 ⟨rfl, hT8, hc8⟩
   have HA8 := Aa (hc8.keep _ _ HA7.out (fun e => ne1 e))
   have HB8 := Aa (hc8.keep _ _ HB7.out (fun e => HN2.out e))
   have HR8 := Aa (Cn HT7.out HR7.out hc8 (by decide))
   have HX8 := Aa (show Io w0 w g L a b c d w8 from ⟨hT8, HC7.out.trans hc8⟩)
   clear hT8 hc8
   go_wp2
   go_roundg 0
   case rel => exact ⟨HX8, HB8, .inr ⟨rfl, a6, c6, HA8, HR8⟩⟩
   case measure => omega}
  {have har := HAR.out
   have m5 := Ab har 5
   clear har
   go_wp2_with fail
   refine (O3 hT hw3).mono ?_
   rintro e w2 ⟨rfl, hT2, hc2⟩
   have HA2 := Aa (hc2.keep _ _ HAR.out (fun e => ne1 e))
   have HB2 := Aa (hc2.keep _ _ HBR.out (fun e => HN2.out e))
   have HR2 := Aa (Cn hT HR.out hc2 (by decide))
   have HC2 := Aa (hcr.trans hc2)
   clear m5 hc2 hcr hT
   go_wp2_with fail
   refine (Aam hT2 hbo).mono ?_
   rintro e w3 ⟨vb, rfl, hrb, hT3, hc3⟩
   obtain ⟨ab, cb, eb, _, _⟩ := Dh hrb
   subst eb
   have HA3 := Aa (hc3.keep _ _ HA2.out (fun e => ne1 e))
   have HB3 := Aa (hc3.keep _ _ HB2.out (fun e => HN2.out e))
   have HR3 := Aa (Cn hT2 HR2.out hc3 (by decide))
   have HS3 := Aa (Cg hrb (by have := HC2.out.size; exact this))
   have HC3 := Aa (HC2.out.trans hc3)
   have ha3 := HA3.out
   have f6 := Ad ha3 6
   have m6 := Ab ha3 6
   obtain ⟨w4, hw4, hb4, hc4⟩ := Ai ha3 6 (.slice ab 1 cb)
   have HA4 := Aa hb4
   have HB4 := Aa (hc4.keep _ _ HB3.out (Bm (by omega)))
   have HR4 := Aa (Bd HR3.out hc4 ha3 (by decide))
   have HS4 := Aa (Bd HS3.out hc4 ha3 (by decide))
   have HT4 := Aa (hT3.new hc4 h0w (fun e => ne1 e.symm))
   have HC4 := Aa (Ao HC3.out hc4 (Nat.le_refl _))
   clear hrb hT3 hc3 hT2 ha3 hb4 hc4
   go_upto_region 9 with fail
   clear hw4 f6 m6
   have ha4 := HA4.out
   have hb4 := HB4.out
   obtain ⟨p0, p1, p2, p3, p4, p5, p6, p7, p8⟩ := Y4 ha4
   obtain ⟨q0, q1, q2, q3, q4, q5, q6, q7, q8⟩ := Y4 hb4
   have f0 := Ad hb4 0
   have f1 := Ad hb4 1
   have f2 := Ad hb4 2
   have f3 := Ad hb4 3
   have f4 := Ad hb4 4
   have f5 := Ad hb4 5
   have f6 := Ad hb4 6
   have f7 := Ad hb4 7
   have f8 := Ad hb4 8
   clear ha4 hb4
   go_wp2_with fail
   obtain ⟨wf, hwf, hfb, hfc⟩ := N3 HB4.out (.string ret) (.string mn) (.bool st) (.bool ba) (.slice none 0 0) (.slice al 1 cl) (.slice ab 1 cb) (.int .i64 ml) (.int .i64 mc)
   rw [hwf]
   obtain ⟨k0, k1, k2, k3, k4, k5, k6, k7, k8⟩ := Y4 hfb
   refine bodyPost_ret (v := .tuple #[.agg #[.string ret, .string mn, .bool st, .bool ba, .slice none 0 0, .slice al 1 cl, .slice ab 1 cb, .int .i64 ml, .int .i64 mc], .int .i64 z6]) (by simp [results, Tryz.results30, go_sem, k0, k1, k2, k3, k4, k5, k6, k7, k8]) rfl ?_
   exact ⟨al, cl, ab, cb, rfl, Bd HR4.out hfc HB4.out (by decide), Bd HS4.out hfc HB4.out (by decide), HT4.out.new hfc (by omega) (fun e => HN2.out e.symm), Ao HC4.out hfc (by omega)⟩}
end Go.Proofs.YtgjpgfedlgdjhaaGreatDoor
end
