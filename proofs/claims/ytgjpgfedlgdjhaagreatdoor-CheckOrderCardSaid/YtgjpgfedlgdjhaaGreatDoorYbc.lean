/- Part 29. -/
import Derived.Test.YtgjpgfedlgdjhaaGreatDoorYbb
import Derived.Test.YtgjpgfedlgdjhaaGreatDoorYag
set_option linter.unusedVariables false
set_option linter.unusedSimpArgs false
set_option maxHeartbeats 64000000
set_option maxRecDepth 8192
section
namespace Go.Proofs.YtgjpgfedlgdjhaaGreatDoor
open Go.RowKit Go.W
def Sj (nm tn : ByteArray) (p q : Int) : List Value := [.int .i64 0, .string nm, .string ⟨#[]⟩, .string ⟨#[]⟩, .string tn, .string ⟨#[]⟩, .slice none 0 0, .int .i64 0, .slice none 0 0, .slice none 0 0, .int .i64 p, .int .i64 q]
theorem Xp (nm tn : ByteArray) (p q : Int) : ∀ u ∈ Sj nm tn p q, u.oneCell' = true := by
 intro u hu
 simp [Sj] at hu
 rcases hu with rfl | rfl | rfl | rfl | rfl | rfl | rfl | rfl | rfl | rfl | rfl | rfl <;> rfl
structure Mp (L : List Iv) (z : Int) (nm tn : ByteArray) (p q z6 : Int) : Prop where
 bg : Beg L z true
 kb : ¬ nm = ⟨#[125]⟩
 b0 : 0 ≤ z
 st : ∃ z5, Mo L z nm tn p q z5 ∧ 0 ≤ z5 ∧ z5 ≤ 100000 ∧ Wd L z5 ⟨#[125]⟩ ∧ z6 = z5 + 1
def N9 (w0 w : World) (g : Nat) (L : List Iv) (a b c d : Int) (nm tn : ByteArray) (p q z6 : Int) (e : Ending) (w' : World) : Prop :=
 ∃ v, e = .returned (.tuple #[v, .int .i64 z6]) ∧ w'.ownsRow w.heap.size 128 12 v 1 (Sj nm tn p q) ∧ Io w0 w g L a b c d w'
theorem Aam {w0 w : World} {g : Nat} {L : List Iv} {a b c d : Int} (h : Tx w0 w g L a b c d) {z p q z6 deep : Int} {nm tn : ByteArray} (hB : Mp L z nm tn p q z6) :
 Calls Tryz.prog 60 #[.pointer (some ⟨g, 0, none⟩), .int .i64 z, .int .i64 deep] w (N9 w0 w g L a b c d nm tn p q z6) := by
 obtain ⟨hbg, kb, hz0, z5, hst, h50, h51, hw5, rfl⟩ := hB
 have hwd := hst.wd
 have e1 := Et nm [125] kb
 obtain ⟨s, hs⟩ : ∃ s : ByteArray, s = ⟨#[125]⟩ := ⟨_, rfl⟩
 rw [← hs] at hw5
 have e2 := Pv s [125] hs
 have wz : IntKind.i64.wrap (z5 + 1) = z5 + 1 := by rw [IntKind.wrap_i64]; omega
 have d1 : decide (z ≥ 0) = true := decide_eq_true hz0
 have d2 : decide (z5 ≥ 0) = true := decide_eq_true h50
 have d3 : decide (z5 < 0) = false := decide_eq_false (by omega)
 clear kb hs
 have HT := Aa h
 have h0w := h.ch.size
 clear h
 go_in
 go_wp2
 go_loopg [6, 7, 8, 1, 9, 10] 1 (fun gg s6 s7 s8 s1 s9 s10 wr => Hid (Io w0 w g L a b c d wr) ∧ ((s1 = .int .i64 z ∧ s8 = .slice none 0 0 ∧ 1 ≤ gg) ∨ (s1 = .int .i64 z5 ∧ ∃ ao cap, s8 = .slice ao 1 cap ∧ Hid (wr.ownsRow w.heap.size 128 12 (.slice ao 1 cap) 1 (Sj nm tn p q)))))
 case atStart => exact ⟨Aa ⟨HT.out, Ch.refl _ _⟩, .inl ⟨rfl, rfl, Nat.le_refl _⟩⟩
 case round =>
  obtain ⟨HTR, hor⟩ := hrel
  obtain ⟨hT, hcr⟩ := HTR.out
  rcases hor with ⟨rfl, rfl, hg⟩ | ⟨rfl, ao, cap, rfl, HR⟩
  {go_wp2_with fail
   refine (O3 hT hwd).mono ?_
   rintro e w1 ⟨rfl, hT1, hc1⟩
   go_wp2_with fail
   refine (Afp hT1 hbg).mono ?_
   rintro e w2 ⟨rfl, hT2, hc2⟩
   go_wp2_with fail
   refine (Adv hT2 hst).mono ?_
   rintro e w3 ⟨rfl, hT3, hc3⟩
   have HC3 := Aa (((hcr.trans hc1).trans hc2).trans hc3)
   clear hT hT1 hT2 hc1 hc2 hc3 hcr
   go_upto_region 8 with fail
   obtain ⟨w4, hw4, hb4, hc4⟩ := A2 w3 (.cells (Sj nm tn p q).toArray 128)
   unfold Sj at hw4 hb4
   have HC4 := Aa (HC3.out.trans (Ce hc4))
   have HT4 := Aa (hT3.no hc4)
   obtain ⟨p0, p1, p2, p3, p4, p5, p6, p7, p8, p9, p10, p11⟩ := Ay hb4
   have hbase : w.heap.size ≤ (w4.alloc (.cells (Sj nm tn p q).toArray 128)).heap.size := (HC4.out.alloc _).size
   clear hb4 hc4 hT3
   go_wp2_with (at_builtin; go_must (refine C1 rfl _ _ rfl Tryz.sliceStmt Tryz.infoStmt (lb rfl) (lb rfl) w.heap.size (.slice none 0 0) 0 [] rfl (World.ownsRow_nil _ _ _ _) w4.heap.size 1 1 (Sj nm tn p q) rfl rfl (heap_alloc_new w4 _) (Xp _ _ _ _) (lb rfl) hbase ?_))
   intro v6 w6 hr6 hc6
   obtain ⟨a6, c6, e6, _, _⟩ := Dh hr6
   subst e6
   clear hw4 p0 p1 p2 p3 p4 p5 p6 p7 p8 p9 p10 p11
   have hx := (HT4.out.no ((Ch.refl No w4).alloc (.cells (Sj nm tn p q).toArray 128))).app (World.ownsRow_nil _ _ _ 12) hc6 (by decide : (79 : TypeId) ≠ 128) h0w
   have HX := Aa hx
   have HC6 := Aa ((HC4.out.alloc (.cells (Sj nm tn p q).toArray 128)).trans (Ce (hc6.mono (fun k o ho e => by simp [Value.ownBlock] at e))))
   have HR6 := Aa hr6
   clear hx hr6 hc6 hbase
   go_wp2
   go_roundg 0
   case rel => exact ⟨Aa ⟨HX.out, HC6.out⟩, .inr ⟨rfl, a6, c6, rfl, Aa HR6.out⟩⟩
   case measure => omega}
  {go_wp2_with fail
   refine (O3 hT hw5).mono ?_
   rintro e w1 ⟨rfl, hT1, hc1⟩
   have hr1 := Cn hT HR.out hc1 (by decide)
   have HO := Aa (show N9 w0 w g L a b c d nm tn p q (z5 + 1) (.returned (.tuple #[.slice ao 1 cap, .int .i64 (z5 + 1)])) w1 from ⟨_, rfl, hr1, hT1, hcr.trans hc1⟩)
   clear hT hT1 hc1 hr1 hcr
   go_wp2
   refine bodyPost_ret (v := .tuple #[.slice ao 1 cap, .int .i64 (z5 + 1)]) (by simp [results, Tryz.results60, go_sem]) rfl ?_
   exact HO.out}
end Go.Proofs.YtgjpgfedlgdjhaaGreatDoor
end
