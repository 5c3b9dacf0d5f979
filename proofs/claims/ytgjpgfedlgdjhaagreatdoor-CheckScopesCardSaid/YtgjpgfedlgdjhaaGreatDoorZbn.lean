/- What the claim uses: part 40. -/
import Derived.Test.YtgjpgfedlgdjhaaGreatDoorZbm
section
set_option linter.unusedVariables false
set_option linter.unusedSimpArgs false
set_option maxRecDepth 8192
namespace Go.Proofs.YtgjpgfedlgdjhaaGreatDoor
open Go.RowKit Go.W
def AlikeP (x y : MbR) : Prop := (x.ty = y.ty ∧ x.ps = y.ps) ∧ x.st = false ∧ y.st = false
set_option maxHeartbeats 8000000 in
theorem clSound2 {w : World} {x y : MbR} {bx : Nat} {sa sa' : Option Addr} {sn sc sn' sc' : Nat} (hb : w.heap[bx]? = some (.cells #[.int .i64 x.cls, .string x.nm, .string x.ty, .slice sa sn sc, .bool x.st, .bool x.ba] 54 (0, 0))) (hx : StrsAt w (.slice sa sn sc) x.ps) (hy : StrsAt w (.slice sa' sn' sc') y.ps) :
   Calls Tryz.prog 123 #[.agg #[.int .i64 y.cls, .string y.nm, .string y.ty, .slice sa' sn' sc', .bool y.st, .bool y.ba], .pointer (some ⟨bx, 0, none⟩)] w fun e w' => BoolIs (¬ AlikeP x y) e ∧ Ch No w w' := by
 obtain ⟨xc, xn, xt, xp, xs, xb⟩ := x
 obtain ⟨yc, yn, yt, yp, ys, yb⟩ := y
 dsimp only at hb hx hy ⊢
 obtain ⟨w1, hw1⟩ : ∃ w1, w.alloc (.cells #[.int .i64 yc, .string yn, .string yt, .slice sa' sn' sc', .bool ys, .bool yb] 54) = w1 := ⟨_, rfl⟩
 have hb1 := heap_alloc_new w (.cells #[.int .i64 yc, .string yn, .string yt, .slice sa' sn' sc', .bool ys, .bool yb] 54)
 have hc1 := (Ch.refl No w).alloc (.cells #[.int .i64 yc, .string yn, .string yt, .slice sa' sn' sc', .bool ys, .bool yb] 54)
 rw [hw1] at hb1 hc1
 have hbx := hc1.keep _ _ hb (fun h => h)
 have hal := malike (c := xc) (nm := xn) (ty := xt) (st := xs) (ba := xb) (c' := yc) (nm' := yn) (ty' := yt) (st' := ys) (ba' := yb) (hx.no hc1) (hy.no hc1)
 have HC1 := hid hc1
 have HB1 := hid hb1
 have HBX := hid hbx
 have d0 := cellAt hb1 0
 have d1 := cellAt hb1 1
 have d2 := cellAt hb1 2
 have d3 := cellAt hb1 3
 have d4 := cellAt hb1 4
 have d5 := cellAt hb1 5
 have e0 := cellAt hbx 0
 have e1 := cellAt hbx 1
 have e2 := cellAt hbx 2
 have e3 := cellAt hbx 3
 have e4 := cellAt hbx 4
 have e5 := cellAt hbx 5
 have y0 := lt_size hb
 clear hb hx hy hb1 hc1 hbx
 go_enter Tryz.func123, Tryz.ntmps123
 go_wp2_with fail
 refine hal.mono ?_
 rintro e w2 ⟨⟨r, rfl, hr⟩, hc2⟩
 have HR := hid hr
 have HC2 := hid (HC1.out.trans hc2)
 have hb2 := hc2.keep _ _ HB1.out (fun h => h)
 have hx2 := hc2.keep _ _ HBX.out (fun h => h)
 have d4' := cellAt hb2 4
 have e4' := cellAt hx2 4
 clear hal hr hc2 hb2 hx2 d0 d1 d2 d3 d4 d5 e0 e1 e2 e3 e4 e5 hw1
 cases r with
 | false =>
   go_wp2_with fail
   go_ret
   refine ⟨BoolIs.t (fun h => ?_), HC2.out⟩
   have h0 := HR.out.2 h.1
   first | cases h0 | exact h0
 | true =>
   have HAL := hid (HR.out.1 (by first | rfl | trivial))
   cases xs with
   | true =>
     go_wp2_with fail
     go_ret
     exact ⟨BoolIs.t (fun h => by have h0 : true = false := h.2.1; cases h0), HC2.out⟩
   | false =>
     cases ys with
     | true =>
       go_wp2_with fail
       go_ret
       exact ⟨BoolIs.t (fun h => by have h0 : true = false := h.2.2; cases h0), HC2.out⟩
     | false =>
       go_wp2_with fail
       go_ret
       exact ⟨BoolIs.f (fun h => h ⟨HAL.out, rfl, rfl⟩), HC2.out⟩
def SoundOk (cs : List Cls) (ms : List Mem) (i : Nat) (x : MbR) : Prop :=
 (x.ty = sVoid ∨ typedP cs x.ty) ∧ (∀ p ∈ x.ps, typedP cs p) ∧ ∀ y ∈ (upsAll cs i).filterMap (abM ms x.nm i), AlikeP x y
set_option maxHeartbeats 16000000 in
theorem msound {w : World} {mb : Nat} {cs : List Cls} {ms : List Mem} (hT : Tab w) (h : MembIs w mb cs ms) (hf : FaultAt cs none) (hn : cs.length ≤ 20) (hln : ms.length = cs.length) {i : Nat} (hi : i < cs.length)
   {x : MbR} {sa : Option Addr} {sn sc : Nat} (hx : StrsAt w (.slice sa sn sc) x.ps) (hnz : x.nm.size ≤ maxLen) (htz : x.ty.size ≤ maxLen) (hpz : ∀ p ∈ x.ps, p.size ≤ maxLen) :
   Calls Tryz.prog 86 #[.pointer (some ⟨mb, 0, none⟩), .int .i64 i, .agg #[.int .i64 x.cls, .string x.nm, .string x.ty, .slice sa sn sc, .bool x.st, .bool x.ba]] w fun e w' => BoolIs (SoundOk cs ms i x) e ∧ Ch No w w' := by
 have hmf : ∀ (fn : Fn) (first cap : Array Value) (w : World), (Instr.makeFunc fn first cap).run Tryz.prog w = .ok (.func fn first cap) w := fun _ _ _ _ => rfl
 obtain ⟨w1, hw1⟩ : ∃ w1, w.alloc (.cells #[.pointer (some ⟨mb, 0, none⟩)] 38) = w1 := ⟨_, rfl⟩
 have hb1 := heap_alloc_new w (.cells #[.pointer (some ⟨mb, 0, none⟩)] 38)
 have hc1 := (Ch.refl No w).alloc (.cells #[.pointer (some ⟨mb, 0, none⟩)] 38)
 rw [hw1] at hb1 hc1
 obtain ⟨w2, hw2⟩ : ∃ w2, w1.alloc (.cells #[.int .i64 x.cls, .string x.nm, .string x.ty, .slice sa sn sc, .bool x.st, .bool x.ba] 54) = w2 := ⟨_, rfl⟩
 have hb2 := heap_alloc_new w1 (.cells #[.int .i64 x.cls, .string x.nm, .string x.ty, .slice sa sn sc, .bool x.st, .bool x.ba] 54)
 have hc2 := (Ch.refl No w1).alloc (.cells #[.int .i64 x.cls, .string x.nm, .string x.ty, .slice sa sn sc, .bool x.st, .bool x.ba] 54)
 rw [hw2] at hb2 hc2
 have HC := hid (hc1.trans hc2)
 have HB1 := hid (hc2.keep _ _ hb1 (fun h => h))
 have HB2 := hid hb2
 have HM := hid (h.no HC.out)
 have HX := hid (hx.no HC.out)
 have HT := hid (hT.no HC.out)
 have HF := hid hf
 have HN := hid hn
 have HLN := hid hln
 have HI := hid hi
 have HNZ := hid hnz
 have HTZ := hid htz
 have HPZ := hid hpz
 have hb12 := HB1.out
 have d0 := cellAt hb12 0
 have e0 := cellAt hb2 0
 have e1 := cellAt hb2 1
 have e2 := cellAt hb2 2
 have e3 := cellAt hb2 3
 have e4 := cellAt hb2 4
 have e5 := cellAt hb2 5
 have y1 := lt_size hb1
 have y2 := lt_size hb2
 clear h hx hT hf hn hln hi hnz htz hpz hb1 hc1 hb2 hc2 hb12
 by_cases hv : x.ty = sVoid
 · have e0 := lit x.ty [118, 111, 105, 100] hv
   have HV := hid (show x.ty = sVoid ∨ typedP cs x.ty from .inl hv)
   clear hv
   go_enter Tryz.func86, Tryz.ntmps86
   have hcont := contS (idxS (bx := w.heap.size) HX.out (fun p => ¬ typedP cs p) (fun wz p hc hp => clSound1 (HM.out.no hc) (cellAt (hc.keep _ _ HB1.out (fun h => h)) 0) (HPZ.out p hp)))
   go_wp2_with fail
   refine hcont.mono ?_
   rintro e w4 ⟨⟨r4, rfl, hr4⟩, hc4⟩
   have HR4 := hid hr4
   have K4 := hid (Ch.trans (Ch.refl No w2) hc4)
   have hb24 := K4.out.keep _ _ HB2.out (fun h => h)
   have hb14 := K4.out.keep _ _ HB1.out (fun h => h)
   clear hcont hr4 hc4 d0 e0 e1 e2 e3 e4 e5
   have d0 := cellAt hb14 0
   have e0 := cellAt hb24 0
   have e1 := cellAt hb24 1
   have e2 := cellAt hb24 2
   have e3 := cellAt hb24 3
   have e4 := cellAt hb24 4
   have e5 := cellAt hb24 5
   clear hb24 hb14
   cases r4 with
   | true =>
     go_wp2_with fail
     go_ret
     refine ⟨BoolIs.f (fun h => ?_), HC.out.trans K4.out⟩
     obtain ⟨p, hp, hn⟩ := HR4.out.1 (by first | rfl | trivial)
     exact hn (h.2.1 p hp)
   | false =>
     have HPS := hid (show ∀ p ∈ x.ps, typedP cs p from fun p hp => Classical.byContradiction fun hn => by
       have h0 := HR4.out.2 ⟨p, hp, hn⟩
       first | cases h0 | exact h0)
     have hab := mabove (HT.out.no K4.out) (HM.out.no K4.out) HF.out HN.out HLN.out HI.out (nm := x.nm) HNZ.out
     go_wp2_with fail
     refine hab.mono ?_
     rintro e w5 ⟨ua, un, uc, rfl, hmb, hc5⟩
     have K5 := hid (K4.out.trans hc5)
     have hcn := contMb (idxMb (bx := w1.heap.size) hmb (fun y => ¬ AlikeP x y) (fun wz y sa' sn' sc' hc hy hys => clSound2 ((K5.out.trans hc).keep _ _ HB2.out (fun h => h)) (HX.out.no (K5.out.trans hc)) hys))
     clear hab hmb hc5 d0 e0 e1 e2 e3 e4 e5
     go_wp2_with fail
     refine hcn.mono ?_
     rintro e w6 ⟨⟨r6, rfl, hr6⟩, hc6⟩
     have HR6 := hid hr6
     have HC6 := hid (HC.out.trans (K5.out.trans hc6))
     clear hcn hr6 hc6
     go_wp2_with fail
     go_ret
     refine ⟨⟨_, rfl, ?_⟩, HC6.out⟩
     have h6 := HR6.out
     constructor
     · intro h0
       refine ⟨HV.out, HPS.out, fun y hy => Classical.byContradiction fun hn => ?_⟩
       have h7 := h6.2 ⟨y, hy, hn⟩
       subst h7
       cases h0
     · intro h0
       cases r6 with
       | false => rfl
       | true =>
         obtain ⟨y, hy, hn⟩ := h6.1 rfl
         exact absurd (h0.2.2 y hy) hn
 · have e0' := litn x.ty [118, 111, 105, 100] hv
   have HV0 := hid hv
   have hty := mtyped HM.out HTZ.out
   clear hv
   go_enter Tryz.func86, Tryz.ntmps86
   go_wp2_with fail
   refine hty.mono ?_
   rintro e w3 ⟨⟨r, rfl, hr⟩, hc3⟩
   have HR := hid hr
   have K3 := hid hc3
   have hb23 := hc3.keep _ _ HB2.out (fun h => h)
   have hb13 := hc3.keep _ _ HB1.out (fun h => h)
   clear hty hr d0 e0 e1 e2 e3 e4 e5
   have d0 := cellAt hb13 0
   have e0 := cellAt hb23 0
   have e1 := cellAt hb23 1
   have e2 := cellAt hb23 2
   have e3 := cellAt hb23 3
   have e4 := cellAt hb23 4
   have e5 := cellAt hb23 5
   clear hb23 hb13
   cases r with
   | false =>
     go_wp2_with fail
     go_ret
     refine ⟨BoolIs.f (fun h => ?_), HC.out.trans K3.out⟩
     rcases h.1 with h1 | h1
     · exact HV0.out h1
     · have h0 := HR.out.2 h1
       first | cases h0 | exact h0
   | true =>
     have HV := hid (show x.ty = sVoid ∨ typedP cs x.ty from .inr (HR.out.1 (by first | rfl | trivial)))
     have hcont := contS (idxS (bx := w.heap.size) (HX.out.no hc3) (fun p => ¬ typedP cs p) (fun wz p hc hp => clSound1 (HM.out.no (K3.out.trans hc)) (cellAt ((K3.out.trans hc).keep _ _ HB1.out (fun h => h)) 0) (HPZ.out p hp)))
     clear hc3
     go_wp2_with fail
     refine hcont.mono ?_
     rintro e w4 ⟨⟨r4, rfl, hr4⟩, hc4⟩
     have HR4 := hid hr4
     have K4 := hid (Ch.trans K3.out hc4)
     have hb24 := K4.out.keep _ _ HB2.out (fun h => h)
     have hb14 := K4.out.keep _ _ HB1.out (fun h => h)
     clear hcont hr4 hc4 d0 e0 e1 e2 e3 e4 e5
     have d0 := cellAt hb14 0
     have e0 := cellAt hb24 0
     have e1 := cellAt hb24 1
     have e2 := cellAt hb24 2
     have e3 := cellAt hb24 3
     have e4 := cellAt hb24 4
     have e5 := cellAt hb24 5
     clear hb24 hb14
     cases r4 with
     | true =>
       go_wp2_with fail
       go_ret
       refine ⟨BoolIs.f (fun h => ?_), HC.out.trans K4.out⟩
       obtain ⟨p, hp, hn⟩ := HR4.out.1 (by first | rfl | trivial)
       exact hn (h.2.1 p hp)
     | false =>
       have HPS := hid (show ∀ p ∈ x.ps, typedP cs p from fun p hp => Classical.byContradiction fun hn => by
         have h0 := HR4.out.2 ⟨p, hp, hn⟩
         first | cases h0 | exact h0)
       have hab := mabove (HT.out.no K4.out) (HM.out.no K4.out) HF.out HN.out HLN.out HI.out (nm := x.nm) HNZ.out
       go_wp2_with fail
       refine hab.mono ?_
       rintro e w5 ⟨ua, un, uc, rfl, hmb, hc5⟩
       have K5 := hid (K4.out.trans hc5)
       have hcn := contMb (idxMb (bx := w1.heap.size) hmb (fun y => ¬ AlikeP x y) (fun wz y sa' sn' sc' hc hy hys => clSound2 ((K5.out.trans hc).keep _ _ HB2.out (fun h => h)) (HX.out.no (K5.out.trans hc)) hys))
       clear hab hmb hc5 d0 e0 e1 e2 e3 e4 e5
       go_wp2_with fail
       refine hcn.mono ?_
       rintro e w6 ⟨⟨r6, rfl, hr6⟩, hc6⟩
       have HR6 := hid hr6
       have HC6 := hid (HC.out.trans (K5.out.trans hc6))
       clear hcn hr6 hc6
       go_wp2_with fail
       go_ret
       refine ⟨⟨_, rfl, ?_⟩, HC6.out⟩
       have h6 := HR6.out
       constructor
       · intro h0
         refine ⟨HV.out, HPS.out, fun y hy => Classical.byContradiction fun hn => ?_⟩
         have h7 := h6.2 ⟨y, hy, hn⟩
         subst h7
         cases h0
       · intro h0
         cases r6 with
         | false => rfl
         | true =>
           obtain ⟨y, hy, hn⟩ := h6.1 rfl
           exact absurd (h0.2.2 y hy) hn
end Go.Proofs.YtgjpgfedlgdjhaaGreatDoor
end
