/- What the claim uses: part 42. -/
import Derived.Test.YtgjpgfedlgdjhaaGreatDoorZbo
import Derived.Deep.RegionLaw
section
set_option linter.unusedVariables false
set_option linter.unusedSimpArgs false
set_option maxRecDepth 8192
namespace Go.Proofs.YtgjpgfedlgdjhaaGreatDoor
open Go.RowKit Go.W
def mbR (i : Nat) (x : Mt) : MbR := ⟨i, x.nm, x.ret, x.ps.map Vr.ty, x.st, x.ba⟩
def MtOk (cs : List Cls) (ms : List Mem) (i : Nat) (face : Bool) (l : List Mt) (k : Nat) : Prop :=
 ∀ x, l[k]? = some x → (∀ y ∈ l.take k, y.nm ≠ x.nm) ∧ (face = true → x.ba = true) ∧ SoundOk cs ms i (mbR i x)
structure RightOk (cs : List Cls) (ms : List Mem) (i : Nat) (c : Cls) (m : Mem) : Prop where
 fs : VarsOk cs lkField ms (supN cs i) m.fs
 ss : VarsOk cs lkStatic ms (supN cs i) m.ss
 mts : ∀ k, k < m.ms.length → MtOk cs ms i c.face m.ms k
 face : c.face = true → c.sup.toList.isEmpty = true
 whole : c.face = false → WholeOk cs ms i
set_option maxRecDepth 100000 in
set_option maxHeartbeats 64000000 in
theorem mright {w : World} {mb : Nat} {cs : List Cls} {ms : List Mem} (hT : Tab w) (h : MembIs w mb cs ms) (hma : MemsAt w cs ms) (hf : FaultAt cs none) (hno : NoRing cs) (hsm : SmallP cs) (hn : cs.length ≤ 20) (hln : ms.length = cs.length) (hfw : FewP ms) (hsz : SzM ms) {i : Nat} {c : Cls} {m : Mem} (hcs : cs[i]? = some c) (hmi : ms[i]? = some m) :
   Calls Tryz.prog 45 #[.pointer (some ⟨mb, 0, none⟩), .int .i64 i, .agg #[.string c.name, .string c.sup, .bool c.face, .slice c.fa c.faces.length c.fc, .slice c.s4.1 c.s4.2.1 c.s4.2.2, .slice c.s5.1 c.s5.2.1 c.s5.2.2, .slice c.s6.1 c.s6.2.1 c.s6.2.2, .pointer c.p7, .int .i64 c.line, .int .i64 c.col]] w fun e w' => PosOut (RightOk cs ms i c m) e ∧ Ch No w w' := by
 have hmf : ∀ (fn : Fn) (first cap : Array Value) (w : World), (Instr.makeFunc fn first cap).run Tryz.prog w = .ok (.func fn first cap) w := fun _ _ _ _ => rfl
 have HT := hid hT
 have HMS := hid h
 have HF := hid hf
 have HNO := hid hno
 have HSM := hid hsm
 have HN20 := hid hn
 have HLN := hid hln
 have HFW := hid hfw
 have HSZ := hid hsz
 have HCS := hid hcs
 have HMI := hid hmi
 have HI := hid (List.getElem?_eq_some_iff.1 hcs).1
 have HSA := hid (supAtZ hcs (hf.1 i c hcs))
 have HMA := hid (hma.at_ i c m hcs hmi)
 obtain ⟨z, hz⟩ : ∃ z, supZ cs c = z := ⟨_, rfl⟩
 have hsu := fun (wz : World) (hz : Ch No w wz) => HMS.out.no hz
 rw [hz] at HSA
 have HZ := hid hz
 obtain ⟨r4, hr4⟩ : ∃ r, c.s4 = r := ⟨_, rfl⟩
 obtain ⟨r5, hr5⟩ : ∃ r, c.s5 = r := ⟨_, rfl⟩
 obtain ⟨r6, hr6⟩ : ∃ r, c.s6 = r := ⟨_, rfl⟩
 have v4 := HMA.out.fs
 have v5 := HMA.out.ss
 have v6 := HMA.out.ms
 rw [hr4] at v4
 rw [hr5] at v5
 rw [hr6] at v6
 obtain ⟨fb, hfb⟩ : ∃ fb, c.face = fb := ⟨_, rfl⟩
 rw [hr4, hr5, hr6, hfb]
 have HFB := hid hfb
 obtain ⟨a4, n4, c4⟩ := r4
 obtain ⟨a5, n5, c5⟩ := r5
 obtain ⟨a6, n6, c6⟩ := r6
 dsimp only at v4 v5 v6 ⊢
 obtain ⟨hn6, hc6, hm6⟩ := v6.shape
 unfold maxLen at hm6
 have x6 : n6 ≤ c6 := by have h1 : n6 = m.ms.length := hn6; have h2 : m.ms.length ≤ c6 := hc6; omega
 have V4 := hid v4
 have V5 := hid v5
 have V6 := hid v6
 have N6 := hid (show n6 = m.ms.length from hn6)
 have HSZM := hid (hsz m (List.mem_of_getElem? hmi))
 have HFWM := hid (hfw m (List.mem_of_getElem? hmi))
 obtain ⟨w1, hw1⟩ : ∃ w1, w.alloc (.cells #[.pointer (some ⟨mb, 0, none⟩)] 38) = w1 := ⟨_, rfl⟩
 have hb1 := heap_alloc_new w (.cells #[.pointer (some ⟨mb, 0, none⟩)] 38)
 have hc1 := (Ch.refl No w).alloc (.cells #[.pointer (some ⟨mb, 0, none⟩)] 38)
 rw [hw1] at hb1 hc1
 obtain ⟨w2, hw2⟩ : ∃ w2, w1.alloc (.cells #[.string c.name, .string c.sup, .bool fb, .slice c.fa c.faces.length c.fc, .slice a4 n4 c4, .slice a5 n5 c5, .slice a6 n6 c6, .pointer c.p7, .int .i64 c.line, .int .i64 c.col] 50) = w2 := ⟨_, rfl⟩
 have hb2 := heap_alloc_new w1 (.cells #[.string c.name, .string c.sup, .bool fb, .slice c.fa c.faces.length c.fc, .slice a4 n4 c4, .slice a5 n5 c5, .slice a6 n6 c6, .pointer c.p7, .int .i64 c.line, .int .i64 c.col] 50)
 have hc2 := (Ch.refl No w1).alloc (.cells #[.string c.name, .string c.sup, .bool fb, .slice c.fa c.faces.length c.fc, .slice a4 n4 c4, .slice a5 n5 c5, .slice a6 n6 c6, .pointer c.p7, .int .i64 c.line, .int .i64 c.col] 50)
 rw [hw2] at hb2 hc2
 obtain ⟨w3, hw3⟩ : ∃ w3, w2.alloc (.cells #[.int .i64 0, .int .i64 0] 27) = w3 := ⟨_, rfl⟩
 have hb3 := heap_alloc_new w2 (.cells #[.int .i64 0, .int .i64 0] 27)
 have hc3 := (Ch.refl No w2).alloc (.cells #[.int .i64 0, .int .i64 0] 27)
 rw [hw3] at hb3 hc3
 have HC3 := hid (hc1.trans (hc2.trans hc3))
 have HB1 := hid ((hc2.trans hc3).keep _ _ hb1 (fun h => h))
 have HB2 := hid (hc3.keep _ _ hb2 (fun h => h))
 have HB3 := hid hb3
 have y1 := lt_size hb1
 have y2 := lt_size hb2
 have y3 := lt_size hb3
 have hm3 := HMS.out.no HC3.out
 obtain ⟨cv, m0, m1, m2, m3, m4, m5, m6, m7, m8, xv, ov, bs, hm⟩ := hm3
 obtain ⟨xb, tb, abv, ss, hxv, hx⟩ := hm.typ
 subst hxv
 have c10 := cellAt hm.blk 10
 have x0 := cellAt hx.blk 0
 have hsu := tSuper hx.tab hcs
 rw [hz] at hsu
 have b10 := cellAt HB1.out 0
 clear hT h hma hf hno hsm hn hln hfw hsz hcs hmi hz hr4 hr5 hr6 hfb v4 v5 v6 hn6 hc6 hb1 hc1 hb2 hc2 hb3 hc3 hm hx
 go_enter Tryz.func45, Tryz.ntmps45
 go_wp2_with fail
 refine hsu.mono ?_
 rintro e w3' ⟨rfl, rfl⟩
 clear hsu hw1 hw2 hw3 c10 x0
 obtain ⟨w4, hw4⟩ : ∃ w4, w3.alloc (.cells #[.int .i64 z] 3) = w4 := ⟨_, rfl⟩
 have hb4 := heap_alloc_new w3 (.cells #[.int .i64 z] 3)
 have hc4 := (Ch.refl No w3).alloc (.cells #[.int .i64 z] 3)
 rw [hw4] at hb4 hc4
 have HC4 := hid (HC3.out.trans hc4)
 have HB14 := hid (hc4.keep _ _ HB1.out (fun h => h))
 have HB24 := hid (hc4.keep _ _ HB2.out (fun h => h))
 have HB34 := hid (hc4.keep _ _ HB3.out (fun h => h))
 have HB44 := hid hb4
 have hb14 := HB14.out
 have hb24 := HB24.out
 have b10 := cellAt hb14 0
 have e4 := cellAt hb24 4
 have hvf := mvarsField (HMS.out.no HC4.out) HF.out.1 HNO.out HLN.out HFW.out HSA.out (V4.out.no HC4.out) HSZM.out.fs (cellAt HB14.out 0) (cellAt HB44.out 0)
 have y4 := lt_size hb4
 clear hb4 hc4 hb14 hb24
 go_wp2_with fail
 refine hvf.mono ?_
 rintro e w5 ⟨⟨p5, q5, ok5, rfl, hok5⟩, hc5⟩
 clear hw4 hvf b10 e4
 have HOK5 := hid hok5
 obtain ⟨w6, hwm⟩ : ∃ w6, w5.alloc (.cells #[.int .i64 p5, .int .i64 q5] 27) = w6 := ⟨_, rfl⟩
 have hbm := heap_alloc_new w5 (.cells #[.int .i64 p5, .int .i64 q5] 27)
 have hcm := (Ch.refl No w5).alloc (.cells #[.int .i64 p5, .int .i64 q5] 27)
 rw [hwm] at hbm hcm
 have HC6 := hid (HC4.out.trans (hc5.trans hcm))
 have HB16 := hid ((hc5.trans hcm).keep _ _ HB14.out (fun h => h))
 have HB26 := hid ((hc5.trans hcm).keep _ _ HB24.out (fun h => h))
 have HB36 := hid ((hc5.trans hcm).keep _ _ HB34.out (fun h => h))
 have HB46 := hid ((hc5.trans hcm).keep _ _ HB44.out (fun h => h))
 have g0 := cellAt hbm 0
 have g1 := cellAt hbm 1
 have hb3m := HB36.out
 have a0 := cellAt hb3m 0
 have a1 := cellAt hb3m 1
 have f0 := freeAt hb3m 0
 have f1 := freeAt hb3m 1
 clear hok5 hbm hcm hb3m hc5
 go_upto_region 3 with fail
 clear hwm
 cases ok5 with
 | false =>
   go_wp2_with fail
   have HBAD := hid (show ¬ RightOk cs ms i c m from fun hr => by
     have h0 := HOK5.out.2 hr.fs
     first | cases h0 | exact h0)
   obtain ⟨wf, hwf, hfb, hfc⟩ := put2 HB36.out (.int .i64 p5) (.int .i64 q5)
   rw [hwf]
   have k0 := cellAt hfb 0
   have k1 := cellAt hfb 1
   refine bodyPost_ret (v := .tuple #[.agg #[.int .i64 p5, .int .i64 q5], .bool false]) (by simp [results, Tryz.results45, go_sem, k0, k1]) rfl ?_
   exact ⟨PosOut.f HBAD.out, Ch.newOnly HC6.out hfc (fun k _ _ e => by have e' : k = w2.heap.size := e; omega)⟩
 | true =>
   have HFS := hid (HOK5.out.1 (by first | rfl | trivial))
   have hb16 := HB16.out
   have hb26 := HB26.out
   clear a0 a1 f0 f1 g0 g1
   have b10 := cellAt hb16 0
   have e5 := cellAt hb26 5
   have hvs := mvarsStatic (HMS.out.no HC6.out) HF.out.1 HNO.out HLN.out HFW.out HSA.out (V5.out.no HC6.out) HSZM.out.ss (cellAt HB16.out 0) (cellAt HB46.out 0)
   clear hb16 hb26
   go_wp2_with fail
   refine hvs.mono ?_
   rintro e w7 ⟨⟨p7, q7, ok7, rfl, hok7⟩, hc7⟩
   clear hvs b10 e5
   have HOK7 := hid hok7
   obtain ⟨w8, hwm⟩ : ∃ w8, w7.alloc (.cells #[.int .i64 p7, .int .i64 q7] 27) = w8 := ⟨_, rfl⟩
   have hbm := heap_alloc_new w7 (.cells #[.int .i64 p7, .int .i64 q7] 27)
   have hcm := (Ch.refl No w7).alloc (.cells #[.int .i64 p7, .int .i64 q7] 27)
   rw [hwm] at hbm hcm
   have HC8 := hid (HC6.out.trans (hc7.trans hcm))
   have HB18 := hid ((hc7.trans hcm).keep _ _ HB16.out (fun h => h))
   have HB28 := hid ((hc7.trans hcm).keep _ _ HB26.out (fun h => h))
   have HB38 := hid ((hc7.trans hcm).keep _ _ HB36.out (fun h => h))
   have HB48 := hid ((hc7.trans hcm).keep _ _ HB46.out (fun h => h))
   have g0 := cellAt hbm 0
   have g1 := cellAt hbm 1
   have hb3m := HB38.out
   have a0 := cellAt hb3m 0
   have a1 := cellAt hb3m 1
   have f0 := freeAt hb3m 0
   have f1 := freeAt hb3m 1
   clear hok7 hbm hcm hb3m hc7
   go_upto_region 6 with fail
   clear hwm
   cases ok7 with
   | false =>
     go_wp2_with fail
     have HBAD := hid (show ¬ RightOk cs ms i c m from fun hr => by
       have h0 := HOK7.out.2 hr.ss
       first | cases h0 | exact h0)
     obtain ⟨wf, hwf, hfb, hfc⟩ := put2 HB38.out (.int .i64 p7) (.int .i64 q7)
     rw [hwf]
     have k0 := cellAt hfb 0
     have k1 := cellAt hfb 1
     refine bodyPost_ret (v := .tuple #[.agg #[.int .i64 p7, .int .i64 q7], .bool false]) (by simp [results, Tryz.results45, go_sem, k0, k1]) rfl ?_
     exact ⟨PosOut.f HBAD.out, Ch.newOnly HC8.out hfc (fun k _ _ e => by have e' : k = w2.heap.size := e; omega)⟩
   | true =>
     have HSS := hid (HOK7.out.1 (by first | rfl | trivial))
     have hb28 := HB28.out
     clear a0 a1 f0 f1 g0 g1
     have e6 := cellAt hb28 6
     clear hb28
     go_wp2_with fail
     clear e6
     go_loopg [50, 13, 14, 15] n6 (fun g s50 s13 s14 s15 wr => ∃ k : Nat, k ≤ n6 ∧ n6 - k ≤ g ∧ s50 = .int .i64 k ∧ Hid (∀ q, q < k → MtOk cs ms i fb m.ms q) ∧ Ch No w8 wr)
     case atStart => exact ⟨0, Nat.zero_le _, by omega, rfl, hid (fun q hq => absurd hq (Nat.not_lt_zero q)), Ch.refl _ _⟩
     case round =>
       obtain ⟨k, hk, hg, rfl, HA, hcr⟩ := hrel
       have HCR := hid hcr
       have HCW := hid (HC8.out.trans hcr)
       have HB1R := hid (hcr.keep _ _ HB18.out (fun h => h))
       have HB2R := hid (hcr.keep _ _ HB28.out (fun h => h))
       have HB3R := hid (hcr.keep _ _ HB38.out (fun h => h))
       have zr := HCW.out.size
       clear hcr
       cases hd : decide (k < n6) with
       | true =>
         have hkl : k < n6 := by simpa using hd
         obtain ⟨x, hx⟩ : ∃ x, m.ms[k]? = some x := ⟨_, List.getElem?_eq_getElem (by have := N6.out; omega)⟩
         have hmts := V6.out.no HCW.out
         obtain ⟨mxb, mxo, hma6, q0, q1, q2, q3, q4, q5, q6, q7, q8⟩ := hmts.cell hx
         obtain ⟨w9, hw9⟩ : ∃ w9, wr.alloc (.cells #[.string x.ret, .string x.nm, .bool x.st, .bool x.ba, .slice x.pa x.ps.length x.pc, .slice x.s5.1 x.s5.2.1 x.s5.2.2, .slice x.s6.1 x.s6.2.1 x.s6.2.2, .int .i64 x.line, .int .i64 x.col] 29) = w9 := ⟨_, rfl⟩
         have hb9 := heap_alloc_new wr (.cells #[.string x.ret, .string x.nm, .bool x.st, .bool x.ba, .slice x.pa x.ps.length x.pc, .slice x.s5.1 x.s5.2.1 x.s5.2.2, .slice x.s6.1 x.s6.2.1 x.s6.2.2, .int .i64 x.line, .int .i64 x.col] 29)
         have hc9 := (Ch.refl No wr).alloc (.cells #[.string x.ret, .string x.nm, .bool x.st, .bool x.ba, .slice x.pa x.ps.length x.pc, .slice x.s5.1 x.s5.2.1 x.s5.2.2, .slice x.s6.1 x.s6.2.1 x.s6.2.2, .int .i64 x.line, .int .i64 x.col] 29)
         rw [hw9] at hb9 hc9
         have HB9 := hid hb9
         have hb29 := hc9.keep _ _ HB2R.out (fun h => h)
         have e6 := cellAt hb29 6
         have hcont := contMt (bx := wr.heap.size) (idxMt (bx := wr.heap.size) ((hmts.take (k := k) (by have := N6.out; omega)).no hc9) (fun y => y.nm = x.nm) (fun wz y hcz hy => clRight3 (cellAt (hcz.keep _ _ HB9.out (fun h => h)) 1)))
         have HX := hid hx
         have HC9 := hid hc9
         have y9 := lt_size hb9
         have y29 := lt_size hb29
         subst hma6
         clear hmts hb9 hc9 hb29 hx
         go_wp2_with fail
         refine hcont.mono ?_
         rintro e wa ⟨⟨ra, rfl, hra⟩, hca⟩
         have HRA := hid hra
         have KA := hid (HC9.out.trans hca)
         have HCA := hid (HCW.out.trans KA.out)
         have HB9A := hid (hca.keep _ _ HB9.out (fun h => h))
         have HB2A := hid (KA.out.keep _ _ HB2R.out (fun h => h))
         have HB3A := hid (KA.out.keep _ _ HB3R.out (fun h => h))
         have HB1A := hid (KA.out.keep _ _ HB1R.out (fun h => h))
         obtain ⟨xb, hxb⟩ : ∃ xb, x.ba = xb := ⟨_, rfl⟩
         have hb9a := HB9A.out
         rw [hxb] at hb9a
         have HB9B := hid hb9a
         have hb3a := HB3A.out
         have hb2a := HB2A.out
         have d0 := cellAt hb9a 0
         have d1 := cellAt hb9a 1
         have d2 := cellAt hb9a 2
         have d3 := cellAt hb9a 3
         have d4 := cellAt hb9a 4
         have d5 := cellAt hb9a 5
         have d6 := cellAt hb9a 6
         have d7 := cellAt hb9a 7
         have d8 := cellAt hb9a 8
         have a0 := cellAt hb3a 0
         have a1 := cellAt hb3a 1
         have f0 := freeAt hb3a 0
         have f1 := freeAt hb3a 1
         have e2 := cellAt hb2a 2
         have HXBA := hid hxb
         clear hw9 hcont hra hca hxb hb9a hb3a hb2a e6 q0 q1 q2 q3 q4 q5 q6 q7 q8
         cases ra with
         | true =>
           have HBAD := hid (show ¬ RightOk cs ms i c m from fun hr => by
             obtain ⟨y, hy, hn⟩ := HRA.out.1 (by first | rfl | trivial)
             exact (hr.mts k (by have := N6.out; omega) x HX.out).1 y hy hn)
           go_wp2_with fail
           go_quiet (fail)
           go_wp2_with fail
           obtain ⟨wf, hwf, hfb, hfc⟩ := put2 (w := wa.drewN nq) HB3A.out (.int .i64 x.line) (.int .i64 x.col)
           rw [hwf]
           have k0 := cellAt hfb 0
           have k1 := cellAt hfb 1
           refine bodyPost_ret (v := .tuple #[.agg #[.int .i64 x.line, .int .i64 x.col], .bool false]) (by simp [results, Tryz.results45, go_sem, k0, k1]) rfl ?_
           exact ⟨PosOut.f HBAD.out, Ch.newOnly (HCA.out.drewN nq) hfc (fun k _ _ e => by have e' : k = w2.heap.size := e; omega)⟩
         | false =>
           have HNT := hid (show ∀ y ∈ m.ms.take k, y.nm ≠ x.nm from fun y hy hn => by
             have h0 := HRA.out.2 ⟨y, hy, hn⟩
             first | cases h0 | exact h0)
           have hme := mmethod ((V6.out.ps x (List.mem_of_getElem? HX.out)).no (HCA.out.trans ((Ch.refl No wa).drew))) (HFWM.out x (List.mem_of_getElem? HX.out)) (i : Int)
           unfold mbV at hme
           rw [HXBA.out] at hme
           have hso := fun (wz : World) (hz : Ch No wa wz) (sa : Option Addr) (sn sc : Nat) (hst : StrsAt wz (.slice sa sn sc) (x.ps.map Vr.ty)) => msound (x := mbR i x) (HT.out.no (HCA.out.trans hz)) (HMS.out.no (HCA.out.trans hz)) HF.out HN20.out HLN.out HI.out hst (HSZM.out.ms x (List.mem_of_getElem? HX.out)).1 (HSZM.out.ms x (List.mem_of_getElem? HX.out)).2.1 (fun p hp => by
             obtain ⟨v, hv, rfl⟩ := List.mem_map.1 hp
             exact (HSZM.out.ms x (List.mem_of_getElem? HX.out)).2.2 v hv)
           unfold mbR at hso
           dsimp only at hso
           rw [HXBA.out] at hso
           have HSx := hid (show wa.cell? ⟨w1.heap.size, 2, none⟩ = some (.bool fb) ∧ wa.cell? ⟨w.heap.size, 0, none⟩ = some (.pointer (some ⟨mb, 0, none⟩)) ∧ wa.cell? ⟨wr.heap.size, 0, none⟩ = some (.string x.ret) ∧ wa.cell? ⟨wr.heap.size, 1, none⟩ = some (.string x.nm) ∧ wa.cell? ⟨wr.heap.size, 2, none⟩ = some (.bool x.st) ∧ wa.cell? ⟨wr.heap.size, 3, none⟩ = some (.bool xb) ∧ wa.cell? ⟨wr.heap.size, 4, none⟩ = some (.slice x.pa x.ps.length x.pc) ∧ wa.cell? ⟨wr.heap.size, 5, none⟩ = some (.slice x.s5.1 x.s5.2.1 x.s5.2.2) ∧ wa.cell? ⟨wr.heap.size, 6, none⟩ = some (.slice x.s6.1 x.s6.2.1 x.s6.2.2) ∧ wa.cell? ⟨wr.heap.size, 7, none⟩ = some (.int .i64 x.line) ∧ wa.cell? ⟨wr.heap.size, 8, none⟩ = some (.int .i64 x.col) from ⟨e2, cellAt HB1A.out 0, d0, d1, d2, d3, d4, d5, d6, d7, d8⟩)
           cases fb with
           | true =>
             cases xb with
             | false =>
               have HBAD := hid (show ¬ RightOk cs ms i c m from fun hr => by
                 have h0 := (hr.mts k (by have := N6.out; omega) x HX.out).2.1 HFB.out
                 rw [HXBA.out] at h0; cases h0)
               go_wp2_with fail
               go_quiet (fail)
               go_wp2_with fail
               obtain ⟨wf, hwf, hfb, hfc⟩ := put2 (w := wa.drewN nq) HB3A.out (.int .i64 x.line) (.int .i64 x.col)
               rw [hwf]
               have k0 := cellAt hfb 0
               have k1 := cellAt hfb 1
               refine bodyPost_ret (v := .tuple #[.agg #[.int .i64 x.line, .int .i64 x.col], .bool false]) (by simp [results, Tryz.results45, go_sem, k0, k1]) rfl ?_
               exact ⟨PosOut.f HBAD.out, Ch.newOnly (HCA.out.drewN nq) hfc (fun k _ _ e => by have e' : k = w2.heap.size := e; omega)⟩
             | true =>
               go_wp2_with fail
               refine wp_region_held_drew (S := fun w' => w'.cell? ⟨w1.heap.size, 2, none⟩ = some (.bool true) ∧ w'.cell? ⟨w.heap.size, 0, none⟩ = some (.pointer (some ⟨mb, 0, none⟩)) ∧ w'.cell? ⟨wr.heap.size, 0, none⟩ = some (.string x.ret) ∧ w'.cell? ⟨wr.heap.size, 1, none⟩ = some (.string x.nm) ∧ w'.cell? ⟨wr.heap.size, 2, none⟩ = some (.bool x.st) ∧ w'.cell? ⟨wr.heap.size, 3, none⟩ = some (.bool true) ∧ w'.cell? ⟨wr.heap.size, 4, none⟩ = some (.slice x.pa x.ps.length x.pc) ∧ w'.cell? ⟨wr.heap.size, 5, none⟩ = some (.slice x.s5.1 x.s5.2.1 x.s5.2.2) ∧ w'.cell? ⟨wr.heap.size, 6, none⟩ = some (.slice x.s6.1 x.s6.2.1 x.s6.2.2) ∧ w'.cell? ⟨wr.heap.size, 7, none⟩ = some (.int .i64 x.line) ∧ w'.cell? ⟨wr.heap.size, 8, none⟩ = some (.int .i64 x.col)) (by kernel_rfl) HSx.out (fun hHeld => ?_)
               (refine tkW 0 (v := ?_) rfl ?_ ?_; rotate_left 1; · (intro wz hSw; (try dsimp only at hSw); go_simp; try rfl)); (try simp only [Act.put, s1, s2, s3, s4, s5, s6])
               (refine tkW 1 (v := ?_) rfl ?_ ?_; rotate_left 1; · (intro wz hSw; (try dsimp only at hSw); go_simp; try rfl)); (try simp only [Act.put, s1, s2, s3, s4, s5, s6])
               (refine tkW 2 (v := ?_) rfl ?_ ?_; rotate_left 1; · (intro wz hSw; (try dsimp only at hSw); go_simp; try rfl)); (try simp only [Act.put, s1, s2, s3, s4, s5, s6])
               (refine tkW 3 (v := ?_) rfl ?_ ?_; rotate_left 1; · (intro wz hSw; (try dsimp only at hSw); go_simp; try rfl)); (try simp only [Act.put, s1, s2, s3, s4, s5, s6])
               (refine tkW 4 (v := ?_) rfl ?_ ?_; rotate_left 1; · (intro wz hSw; (try dsimp only at hSw); go_simp; try rfl)); (try simp only [Act.put, s1, s2, s3, s4, s5, s6])
               (refine tkW 5 (v := ?_) rfl ?_ ?_; rotate_left 1; · (intro wz hSw; (try dsimp only at hSw); go_simp; try rfl)); (try simp only [Act.put, s1, s2, s3, s4, s5, s6])
               (refine tkW 6 (v := ?_) rfl ?_ ?_; rotate_left 1; · (intro wz hSw; (try dsimp only at hSw); go_simp; try rfl)); (try simp only [Act.put, s1, s2, s3, s4, s5, s6])
               (refine tkW 7 (v := ?_) rfl ?_ ?_; rotate_left 1; · (intro wz hSw; (try dsimp only at hSw); go_simp; try rfl)); (try simp only [Act.put, s1, s2, s3, s4, s5, s6])
               (refine tkW 8 (v := ?_) rfl ?_ ?_; rotate_left 1; · (intro wz hSw; (try dsimp only at hSw); go_simp; try rfl)); (try simp only [Act.put, s1, s2, s3, s4, s5, s6])
               (refine tkW 9 (v := ?_) rfl ?_ ?_; rotate_left 1; · (intro wz hSw; (try dsimp only at hSw); go_simp; try rfl)); (try simp only [Act.put, s1, s2, s3, s4, s5, s6])
               (refine tkW 10 (v := ?_) rfl ?_ ?_; rotate_left 1; · (intro wz hSw; (try dsimp only at hSw); go_simp; try rfl)); (try simp only [Act.put, s1, s2, s3, s4, s5, s6])
               (refine tkW 11 (v := ?_) rfl ?_ ?_; rotate_left 1; · (intro wz hSw; (try dsimp only at hSw); go_simp; try rfl)); (try simp only [Act.put, s1, s2, s3, s4, s5, s6])
               (refine tkW 12 (v := ?_) rfl ?_ ?_; rotate_left 1; · (intro wz hSw; (try dsimp only at hSw); go_simp; try rfl)); (try simp only [Act.put, s1, s2, s3, s4, s5, s6])
               (refine tkW 13 (v := ?_) rfl ?_ ?_; rotate_left 1; · (intro wz hSw; (try dsimp only at hSw); go_simp; try rfl)); (try simp only [Act.put, s1, s2, s3, s4, s5, s6])
               (refine tkW 14 (v := ?_) rfl ?_ ?_; rotate_left 1; · (intro wz hSw; (try dsimp only at hSw); go_simp; try rfl)); (try simp only [Act.put, s1, s2, s3, s4, s5, s6])
               refine wpAnyH_ready (rs := [15]) (by kernel_rfl) (by simp) (AllReadyH.cons rfl (fun K hK => ?_) AllReadyH.nil)
               go_simp
               go_at_call 79
               refine (hme).mono ?_
               rintro e w10 ⟨sa, sn, sc, rfl, hst, hc10⟩
               have K10 := hid (((Ch.refl No wa).drew).trans hc10)
               have HST := hid hst.at_
               clear hst
               clear hc10
               go_simp
               have HS10 := hid (show w10.cell? ⟨w1.heap.size, 2, none⟩ = some (.bool true) ∧ w10.cell? ⟨w.heap.size, 0, none⟩ = some (.pointer (some ⟨mb, 0, none⟩)) ∧ w10.cell? ⟨wr.heap.size, 0, none⟩ = some (.string x.ret) ∧ w10.cell? ⟨wr.heap.size, 1, none⟩ = some (.string x.nm) ∧ w10.cell? ⟨wr.heap.size, 2, none⟩ = some (.bool x.st) ∧ w10.cell? ⟨wr.heap.size, 3, none⟩ = some (.bool true) ∧ w10.cell? ⟨wr.heap.size, 4, none⟩ = some (.slice x.pa x.ps.length x.pc) ∧ w10.cell? ⟨wr.heap.size, 5, none⟩ = some (.slice x.s5.1 x.s5.2.1 x.s5.2.2) ∧ w10.cell? ⟨wr.heap.size, 6, none⟩ = some (.slice x.s6.1 x.s6.2.1 x.s6.2.2) ∧ w10.cell? ⟨wr.heap.size, 7, none⟩ = some (.int .i64 x.line) ∧ w10.cell? ⟨wr.heap.size, 8, none⟩ = some (.int .i64 x.col) from ⟨cell_ch HSx.out.1 K10.out (fun _ _ h => h), cell_ch HSx.out.2.1 K10.out (fun _ _ h => h), cell_ch HSx.out.2.2.1 K10.out (fun _ _ h => h), cell_ch HSx.out.2.2.2.1 K10.out (fun _ _ h => h), cell_ch HSx.out.2.2.2.2.1 K10.out (fun _ _ h => h), cell_ch HSx.out.2.2.2.2.2.1 K10.out (fun _ _ h => h), cell_ch HSx.out.2.2.2.2.2.2.1 K10.out (fun _ _ h => h), cell_ch HSx.out.2.2.2.2.2.2.2.1 K10.out (fun _ _ h => h), cell_ch HSx.out.2.2.2.2.2.2.2.2.1 K10.out (fun _ _ h => h), cell_ch HSx.out.2.2.2.2.2.2.2.2.2.1 K10.out (fun _ _ h => h), cell_ch HSx.out.2.2.2.2.2.2.2.2.2.2 K10.out (fun _ _ h => h)⟩)
               refine hK.out _ _ HS10.out (fun hHeld10 => ?_)
               clear hK
               refine wpAnyH_ready (rs := [16]) (by kernel_rfl) (by simp) (AllReadyH.cons rfl (fun K hK => ?_) AllReadyH.nil)
               go_simp
               go_at_call 86
               refine (hso _ K10.out _ _ _ HST.out).mono ?_
               rintro e w11 ⟨⟨r11, rfl, hr11⟩, hc11⟩
               have K11 := hid (K10.out.trans hc11)
               have HR11 := hid hr11
               clear hr11
               clear hc11
               go_simp
               have HS11 := hid (show w11.cell? ⟨w1.heap.size, 2, none⟩ = some (.bool true) ∧ w11.cell? ⟨w.heap.size, 0, none⟩ = some (.pointer (some ⟨mb, 0, none⟩)) ∧ w11.cell? ⟨wr.heap.size, 0, none⟩ = some (.string x.ret) ∧ w11.cell? ⟨wr.heap.size, 1, none⟩ = some (.string x.nm) ∧ w11.cell? ⟨wr.heap.size, 2, none⟩ = some (.bool x.st) ∧ w11.cell? ⟨wr.heap.size, 3, none⟩ = some (.bool true) ∧ w11.cell? ⟨wr.heap.size, 4, none⟩ = some (.slice x.pa x.ps.length x.pc) ∧ w11.cell? ⟨wr.heap.size, 5, none⟩ = some (.slice x.s5.1 x.s5.2.1 x.s5.2.2) ∧ w11.cell? ⟨wr.heap.size, 6, none⟩ = some (.slice x.s6.1 x.s6.2.1 x.s6.2.2) ∧ w11.cell? ⟨wr.heap.size, 7, none⟩ = some (.int .i64 x.line) ∧ w11.cell? ⟨wr.heap.size, 8, none⟩ = some (.int .i64 x.col) from ⟨cell_ch HSx.out.1 K11.out (fun _ _ h => h), cell_ch HSx.out.2.1 K11.out (fun _ _ h => h), cell_ch HSx.out.2.2.1 K11.out (fun _ _ h => h), cell_ch HSx.out.2.2.2.1 K11.out (fun _ _ h => h), cell_ch HSx.out.2.2.2.2.1 K11.out (fun _ _ h => h), cell_ch HSx.out.2.2.2.2.2.1 K11.out (fun _ _ h => h), cell_ch HSx.out.2.2.2.2.2.2.1 K11.out (fun _ _ h => h), cell_ch HSx.out.2.2.2.2.2.2.2.1 K11.out (fun _ _ h => h), cell_ch HSx.out.2.2.2.2.2.2.2.2.1 K11.out (fun _ _ h => h), cell_ch HSx.out.2.2.2.2.2.2.2.2.2.1 K11.out (fun _ _ h => h), cell_ch HSx.out.2.2.2.2.2.2.2.2.2.2 K11.out (fun _ _ h => h)⟩)
               refine hK.out _ _ HS11.out (fun hHeld11 => ?_)
               clear hK
               (refine tkW 17 (v := ?_) rfl ?_ ?_; rotate_left 1; · (intro wz hSw; (try dsimp only at hSw); go_simp; try rfl)); (try simp only [Act.put, s1, s2, s3, s4, s5, s6])
               (refine tkW 18 (v := ?_) rfl ?_ ?_; rotate_left 1; · (intro wz hSw; (try dsimp only at hSw); go_simp; try rfl)); (try simp only [Act.put, s1, s2, s3, s4, s5, s6])
               refine wpAnyH_done (by kernel_rfl) ?_ _
               clear a0 a1 f0 f1 d0 d1 d2 d3 d4 d5 d6 d7 d8
               have hb9k := K11.out.keep _ _ HB9A.out (fun h => h)
               have hb3k := K11.out.keep _ _ HB3A.out (fun h => h)
               have HB3K := hid hb3k
               have d0 := cellAt hb9k 0
               have d1 := cellAt hb9k 1
               have d2 := cellAt hb9k 2
               have d3 := cellAt hb9k 3
               have d4 := cellAt hb9k 4
               have d5 := cellAt hb9k 5
               have d6 := cellAt hb9k 6
               have d7 := cellAt hb9k 7
               have d8 := cellAt hb9k 8
               have a0 := cellAt hb3k 0
               have a1 := cellAt hb3k 1
               have f0 := freeAt hb3k 0
               have f1 := freeAt hb3k 1
               clear hb9k hb3k
               cases r11 with
               | false =>
                 have HBAD := hid (show ¬ RightOk cs ms i c m from fun hr => by
                   have h0 := HR11.out.2 (hr.mts k (by have := N6.out; omega) x HX.out).2.2
                   first | cases h0 | exact h0)
                 go_wp2_with fail
                 obtain ⟨wf, hwf, hfb, hfc⟩ := put2 HB3K.out (.int .i64 x.line) (.int .i64 x.col)
                 rw [hwf]
                 have k0 := cellAt hfb 0
                 have k1 := cellAt hfb 1
                 refine bodyPost_ret (v := .tuple #[.agg #[.int .i64 x.line, .int .i64 x.col], .bool false]) (by simp [results, Tryz.results45, go_sem, k0, k1]) rfl ?_
                 exact ⟨PosOut.f HBAD.out, Ch.newOnly (HCA.out.trans K11.out) hfc (fun k _ _ e => by have e' : k = w2.heap.size := e; omega)⟩
               | true =>
                 have HSO := hid (HR11.out.1 (by first | rfl | trivial))
                 go_wp2_with fail
                 go_roundg (n6 - k - 1)
                 case rel =>
                   refine ⟨k + 1, by omega, by omega, by go_num, hid fun q hq => ?_, HCR.out.trans (KA.out.trans K11.out)⟩
                   by_cases h1 : q < k
                   · exact HA.out q h1
                   · obtain rfl : q = k := by omega
                     intro x' hx'
                     rw [HX.out] at hx'; cases hx'
                     exact ⟨HNT.out, (fun hf => by first | exact HXBA.out | cases hf), HSO.out⟩
                 case measure => omega
           | false =>
             go_wp2_with fail
             refine wp_region_held_drew (S := fun w' => w'.cell? ⟨w1.heap.size, 2, none⟩ = some (.bool false) ∧ w'.cell? ⟨w.heap.size, 0, none⟩ = some (.pointer (some ⟨mb, 0, none⟩)) ∧ w'.cell? ⟨wr.heap.size, 0, none⟩ = some (.string x.ret) ∧ w'.cell? ⟨wr.heap.size, 1, none⟩ = some (.string x.nm) ∧ w'.cell? ⟨wr.heap.size, 2, none⟩ = some (.bool x.st) ∧ w'.cell? ⟨wr.heap.size, 3, none⟩ = some (.bool xb) ∧ w'.cell? ⟨wr.heap.size, 4, none⟩ = some (.slice x.pa x.ps.length x.pc) ∧ w'.cell? ⟨wr.heap.size, 5, none⟩ = some (.slice x.s5.1 x.s5.2.1 x.s5.2.2) ∧ w'.cell? ⟨wr.heap.size, 6, none⟩ = some (.slice x.s6.1 x.s6.2.1 x.s6.2.2) ∧ w'.cell? ⟨wr.heap.size, 7, none⟩ = some (.int .i64 x.line) ∧ w'.cell? ⟨wr.heap.size, 8, none⟩ = some (.int .i64 x.col)) (by kernel_rfl) HSx.out (fun hHeld => ?_)
             (refine tkW 0 (v := ?_) rfl ?_ ?_; rotate_left 1; · (intro wz hSw; (try dsimp only at hSw); go_simp; try rfl)); (try simp only [Act.put, s1, s2, s3, s4, s5, s6])
             (refine tkW 1 (v := ?_) rfl ?_ ?_; rotate_left 1; · (intro wz hSw; (try dsimp only at hSw); go_simp; try rfl)); (try simp only [Act.put, s1, s2, s3, s4, s5, s6])
             (refine tkW 2 (v := ?_) rfl ?_ ?_; rotate_left 1; · (intro wz hSw; (try dsimp only at hSw); go_simp; try rfl)); (try simp only [Act.put, s1, s2, s3, s4, s5, s6])
             (refine tkW 3 (v := ?_) rfl ?_ ?_; rotate_left 1; · (intro wz hSw; (try dsimp only at hSw); go_simp; try rfl)); (try simp only [Act.put, s1, s2, s3, s4, s5, s6])
             (refine tkW 4 (v := ?_) rfl ?_ ?_; rotate_left 1; · (intro wz hSw; (try dsimp only at hSw); go_simp; try rfl)); (try simp only [Act.put, s1, s2, s3, s4, s5, s6])
             (refine tkN 5 rfl ?_); (try simp only [Act.put, s1, s2, s3, s4, s5, s6])
             (refine tkN 6 rfl ?_); (try simp only [Act.put, s1, s2, s3, s4, s5, s6])
             (refine tkN 7 rfl ?_); (try simp only [Act.put, s1, s2, s3, s4, s5, s6])
             (refine tkW 8 (v := ?_) rfl ?_ ?_; rotate_left 1; · (intro wz hSw; (try dsimp only at hSw); go_simp; try rfl)); (try simp only [Act.put, s1, s2, s3, s4, s5, s6])
             (refine tkW 9 (v := ?_) rfl ?_ ?_; rotate_left 1; · (intro wz hSw; (try dsimp only at hSw); go_simp; try rfl)); (try simp only [Act.put, s1, s2, s3, s4, s5, s6])
             (refine tkW 10 (v := ?_) rfl ?_ ?_; rotate_left 1; · (intro wz hSw; (try dsimp only at hSw); go_simp; try rfl)); (try simp only [Act.put, s1, s2, s3, s4, s5, s6])
             (refine tkW 11 (v := ?_) rfl ?_ ?_; rotate_left 1; · (intro wz hSw; (try dsimp only at hSw); go_simp; try rfl)); (try simp only [Act.put, s1, s2, s3, s4, s5, s6])
             (refine tkW 12 (v := ?_) rfl ?_ ?_; rotate_left 1; · (intro wz hSw; (try dsimp only at hSw); go_simp; try rfl)); (try simp only [Act.put, s1, s2, s3, s4, s5, s6])
             (refine tkW 13 (v := ?_) rfl ?_ ?_; rotate_left 1; · (intro wz hSw; (try dsimp only at hSw); go_simp; try rfl)); (try simp only [Act.put, s1, s2, s3, s4, s5, s6])
             (refine tkW 14 (v := ?_) rfl ?_ ?_; rotate_left 1; · (intro wz hSw; (try dsimp only at hSw); go_simp; try rfl)); (try simp only [Act.put, s1, s2, s3, s4, s5, s6])
             refine wpAnyH_ready (rs := [15]) (by kernel_rfl) (by simp) (AllReadyH.cons rfl (fun K hK => ?_) AllReadyH.nil)
             go_simp
             go_at_call 79
             refine (hme).mono ?_
             rintro e w10 ⟨sa, sn, sc, rfl, hst, hc10⟩
             have K10 := hid (((Ch.refl No wa).drew).trans hc10)
             have HST := hid hst.at_
             clear hst
             clear hc10
             go_simp
             have HS10 := hid (show w10.cell? ⟨w1.heap.size, 2, none⟩ = some (.bool false) ∧ w10.cell? ⟨w.heap.size, 0, none⟩ = some (.pointer (some ⟨mb, 0, none⟩)) ∧ w10.cell? ⟨wr.heap.size, 0, none⟩ = some (.string x.ret) ∧ w10.cell? ⟨wr.heap.size, 1, none⟩ = some (.string x.nm) ∧ w10.cell? ⟨wr.heap.size, 2, none⟩ = some (.bool x.st) ∧ w10.cell? ⟨wr.heap.size, 3, none⟩ = some (.bool xb) ∧ w10.cell? ⟨wr.heap.size, 4, none⟩ = some (.slice x.pa x.ps.length x.pc) ∧ w10.cell? ⟨wr.heap.size, 5, none⟩ = some (.slice x.s5.1 x.s5.2.1 x.s5.2.2) ∧ w10.cell? ⟨wr.heap.size, 6, none⟩ = some (.slice x.s6.1 x.s6.2.1 x.s6.2.2) ∧ w10.cell? ⟨wr.heap.size, 7, none⟩ = some (.int .i64 x.line) ∧ w10.cell? ⟨wr.heap.size, 8, none⟩ = some (.int .i64 x.col) from ⟨cell_ch HSx.out.1 K10.out (fun _ _ h => h), cell_ch HSx.out.2.1 K10.out (fun _ _ h => h), cell_ch HSx.out.2.2.1 K10.out (fun _ _ h => h), cell_ch HSx.out.2.2.2.1 K10.out (fun _ _ h => h), cell_ch HSx.out.2.2.2.2.1 K10.out (fun _ _ h => h), cell_ch HSx.out.2.2.2.2.2.1 K10.out (fun _ _ h => h), cell_ch HSx.out.2.2.2.2.2.2.1 K10.out (fun _ _ h => h), cell_ch HSx.out.2.2.2.2.2.2.2.1 K10.out (fun _ _ h => h), cell_ch HSx.out.2.2.2.2.2.2.2.2.1 K10.out (fun _ _ h => h), cell_ch HSx.out.2.2.2.2.2.2.2.2.2.1 K10.out (fun _ _ h => h), cell_ch HSx.out.2.2.2.2.2.2.2.2.2.2 K10.out (fun _ _ h => h)⟩)
             refine hK.out _ _ HS10.out (fun hHeld10 => ?_)
             clear hK
             refine wpAnyH_ready (rs := [16]) (by kernel_rfl) (by simp) (AllReadyH.cons rfl (fun K hK => ?_) AllReadyH.nil)
             go_simp
             go_at_call 86
             refine (hso _ K10.out _ _ _ HST.out).mono ?_
             rintro e w11 ⟨⟨r11, rfl, hr11⟩, hc11⟩
             have K11 := hid (K10.out.trans hc11)
             have HR11 := hid hr11
             clear hr11
             clear hc11
             go_simp
             have HS11 := hid (show w11.cell? ⟨w1.heap.size, 2, none⟩ = some (.bool false) ∧ w11.cell? ⟨w.heap.size, 0, none⟩ = some (.pointer (some ⟨mb, 0, none⟩)) ∧ w11.cell? ⟨wr.heap.size, 0, none⟩ = some (.string x.ret) ∧ w11.cell? ⟨wr.heap.size, 1, none⟩ = some (.string x.nm) ∧ w11.cell? ⟨wr.heap.size, 2, none⟩ = some (.bool x.st) ∧ w11.cell? ⟨wr.heap.size, 3, none⟩ = some (.bool xb) ∧ w11.cell? ⟨wr.heap.size, 4, none⟩ = some (.slice x.pa x.ps.length x.pc) ∧ w11.cell? ⟨wr.heap.size, 5, none⟩ = some (.slice x.s5.1 x.s5.2.1 x.s5.2.2) ∧ w11.cell? ⟨wr.heap.size, 6, none⟩ = some (.slice x.s6.1 x.s6.2.1 x.s6.2.2) ∧ w11.cell? ⟨wr.heap.size, 7, none⟩ = some (.int .i64 x.line) ∧ w11.cell? ⟨wr.heap.size, 8, none⟩ = some (.int .i64 x.col) from ⟨cell_ch HSx.out.1 K11.out (fun _ _ h => h), cell_ch HSx.out.2.1 K11.out (fun _ _ h => h), cell_ch HSx.out.2.2.1 K11.out (fun _ _ h => h), cell_ch HSx.out.2.2.2.1 K11.out (fun _ _ h => h), cell_ch HSx.out.2.2.2.2.1 K11.out (fun _ _ h => h), cell_ch HSx.out.2.2.2.2.2.1 K11.out (fun _ _ h => h), cell_ch HSx.out.2.2.2.2.2.2.1 K11.out (fun _ _ h => h), cell_ch HSx.out.2.2.2.2.2.2.2.1 K11.out (fun _ _ h => h), cell_ch HSx.out.2.2.2.2.2.2.2.2.1 K11.out (fun _ _ h => h), cell_ch HSx.out.2.2.2.2.2.2.2.2.2.1 K11.out (fun _ _ h => h), cell_ch HSx.out.2.2.2.2.2.2.2.2.2.2 K11.out (fun _ _ h => h)⟩)
             refine hK.out _ _ HS11.out (fun hHeld11 => ?_)
             clear hK
             (refine tkW 17 (v := ?_) rfl ?_ ?_; rotate_left 1; · (intro wz hSw; (try dsimp only at hSw); go_simp; try rfl)); (try simp only [Act.put, s1, s2, s3, s4, s5, s6])
             (refine tkW 18 (v := ?_) rfl ?_ ?_; rotate_left 1; · (intro wz hSw; (try dsimp only at hSw); go_simp; try rfl)); (try simp only [Act.put, s1, s2, s3, s4, s5, s6])
             refine wpAnyH_done (by kernel_rfl) ?_ _
             clear a0 a1 f0 f1 d0 d1 d2 d3 d4 d5 d6 d7 d8
             have hb9k := K11.out.keep _ _ HB9A.out (fun h => h)
             have hb3k := K11.out.keep _ _ HB3A.out (fun h => h)
             have HB3K := hid hb3k
             have d0 := cellAt hb9k 0
             have d1 := cellAt hb9k 1
             have d2 := cellAt hb9k 2
             have d3 := cellAt hb9k 3
             have d4 := cellAt hb9k 4
             have d5 := cellAt hb9k 5
             have d6 := cellAt hb9k 6
             have d7 := cellAt hb9k 7
             have d8 := cellAt hb9k 8
             have a0 := cellAt hb3k 0
             have a1 := cellAt hb3k 1
             have f0 := freeAt hb3k 0
             have f1 := freeAt hb3k 1
             clear hb9k hb3k
             cases r11 with
             | false =>
               have HBAD := hid (show ¬ RightOk cs ms i c m from fun hr => by
                 have h0 := HR11.out.2 (hr.mts k (by have := N6.out; omega) x HX.out).2.2
                 first | cases h0 | exact h0)
               go_wp2_with fail
               obtain ⟨wf, hwf, hfb, hfc⟩ := put2 HB3K.out (.int .i64 x.line) (.int .i64 x.col)
               rw [hwf]
               have k0 := cellAt hfb 0
               have k1 := cellAt hfb 1
               refine bodyPost_ret (v := .tuple #[.agg #[.int .i64 x.line, .int .i64 x.col], .bool false]) (by simp [results, Tryz.results45, go_sem, k0, k1]) rfl ?_
               exact ⟨PosOut.f HBAD.out, Ch.newOnly (HCA.out.trans K11.out) hfc (fun k _ _ e => by have e' : k = w2.heap.size := e; omega)⟩
             | true =>
               have HSO := hid (HR11.out.1 (by first | rfl | trivial))
               go_wp2_with fail
               go_roundg (n6 - k - 1)
               case rel =>
                 refine ⟨k + 1, by omega, by omega, by go_num, hid fun q hq => ?_, HCR.out.trans (KA.out.trans K11.out)⟩
                 by_cases h1 : q < k
                 · exact HA.out q h1
                 · obtain rfl : q = k := by omega
                   intro x' hx'
                   rw [HX.out] at hx'; cases hx'
                   exact ⟨HNT.out, (fun hf => by first | exact HXBA.out | cases hf), HSO.out⟩
               case measure => omega
       | false =>
         have hkl : ¬ k < n6 := by simpa using hd
         have HALL := hid (show ∀ q, q < m.ms.length → MtOk cs ms i fb m.ms q from fun q hq => HA.out q (by have := N6.out; omega))
         have hb2r := HB2R.out
         have hb3r := HB3R.out
         have hb1r := HB1R.out
         have e0 := cellAt hb2r 0
         have e1 := cellAt hb2r 1
         have e2 := cellAt hb2r 2
         have e3 := cellAt hb2r 3
         have e4 := cellAt hb2r 4
         have e5 := cellAt hb2r 5
         have e6 := cellAt hb2r 6
         have e7 := cellAt hb2r 7
         have e8 := cellAt hb2r 8
         have e9 := cellAt hb2r 9
         have a0 := cellAt hb3r 0
         have a1 := cellAt hb3r 1
         have f0 := freeAt hb3r 0
         have f1 := freeAt hb3r 1
         have b10 := cellAt hb1r 0
         clear hb1r hb2r hb3r HA
         cases fb with
         | true =>
           cases he : c.sup.toList.isEmpty with
           | true =>
             have HE := hid he
             go_wp2_with fail
             go_region
             go_wp2_with fail
             obtain ⟨wf, hwf, hfb, hfc⟩ := put2 HB3R.out (.int .i64 c.line) (.int .i64 c.col)
             rw [hwf]
             have k0 := cellAt hfb 0
             have k1 := cellAt hfb 1
             refine bodyPost_ret (v := .tuple #[.agg #[.int .i64 c.line, .int .i64 c.col], .bool true]) (by simp [results, Tryz.results45, go_sem, k0, k1]) rfl ?_
             exact ⟨PosOut.t ⟨HFS.out, HSS.out, fun q hq => by rw [HFB.out]; exact HALL.out q hq, fun _ => HE.out, fun h => by rw [HFB.out] at h; cases h⟩, Ch.newOnly HCW.out hfc.drew (fun k _ _ e => by have e' : k = w2.heap.size := e; omega)⟩
           | false =>
             have HE := hid he
             go_wp2_with fail
             go_region
             go_wp2_with fail
             obtain ⟨wf, hwf, hfb, hfc⟩ := put2 HB3R.out (.int .i64 c.line) (.int .i64 c.col)
             rw [hwf]
             have k0 := cellAt hfb 0
             have k1 := cellAt hfb 1
             refine bodyPost_ret (v := .tuple #[.agg #[.int .i64 c.line, .int .i64 c.col], .bool false]) (by simp [results, Tryz.results45, go_sem, k0, k1]) rfl ?_
             exact ⟨PosOut.f (fun hr => by have h0 := hr.face HFB.out; rw [HE.out] at h0; cases h0), Ch.newOnly HCW.out hfc.drew (fun k _ _ e => by have e' : k = w2.heap.size := e; omega)⟩
         | false =>
           have hwh := fun (wz : World) (hz : Ch No w wz) => mwhole (HT.out.no hz) (HMS.out.no hz) HF.out HNO.out HSM.out HN20.out HLN.out HFW.out HSZ.out HI.out
           have hwA := hwh wr.drew (HCW.out.trans ((Ch.refl No wr).drew))
           obtain ⟨wf, hwf, hfb, hfc⟩ := put2 HB3R.out (.int .i64 c.line) (.int .i64 c.col)
           have hchf := Ch.newOnly HCW.out hfc (fun k _ _ e => by have e' : k = w2.heap.size := e; omega)
           have hwB := hwh wf.drew (hchf.trans ((Ch.refl No wf).drew))
           have HFBK := hid hfb
           have hb2f := hfc.keep _ _ HB2R.out (fun e => by have e' : w1.heap.size = w2.heap.size := e; omega)
           have hb1f := hfc.keep _ _ HB1R.out (fun e => by have e' : w.heap.size = w2.heap.size := e; omega)
           have eF2 := cellAt hb2f 2
           have eF8 := cellAt hb2f 8
           have eF9 := cellAt hb2f 9
           have bF0 := cellAt hb1f 0
           have yw2 : w2.heap.size < wf.heap.size := lt_size HFBK.out
           clear hb2f hb1f
           have HCF := hid hchf
           clear hwh hfb hfc hchf
           go_wp2_with fail
           go_region_law (first | (go_simp; go_at_call 87; refine hwA.mono ?_; rintro e wb ⟨⟨rb, rfl, hrb⟩, hcb⟩; have HRB := hid hrb; have KB := hid (((Ch.refl No wr).drew).trans hcb); have hb3b := KB.out.keep _ _ HB3R.out (fun h => h); have HB3B := hid hb3b; have a0 := cellAt hb3b 0; have a1 := cellAt hb3b 1; have f0 := freeAt hb3b 0; have f1 := freeAt hb3b 1; have hb2b := KB.out.keep _ _ HB2R.out (fun h => h); have eb8 := cellAt hb2b 8; have eb9 := cellAt hb2b 9; clear hrb hcb hb3b hb2b hwA) | (go_simp; go_at_call 87; refine hwB.mono ?_; rintro e wb ⟨⟨rb, rfl, hrb⟩, hcb⟩; have HRB := hid hrb; have KB := hid hcb; clear hrb hcb hwB))
           all_goals (
             clear hwf
             go_wp2_with fail
             obtain ⟨wg, hwg, hgb, hgc⟩ := put2 HB3B.out (.int .i64 c.line) (.int .i64 c.col)
             rw [hwg]
             have k0 := cellAt hgb 0
             have k1 := cellAt hgb 1
             refine bodyPost_ret (v := .tuple #[.agg #[.int .i64 c.line, .int .i64 c.col], .bool rb]) (by simp [results, Tryz.results45, go_sem, k0, k1]) rfl ?_
             refine ⟨⟨_, _, _, rfl, ?_⟩, Ch.newOnly (HCW.out.trans KB.out) hgc (fun k _ _ e => by have e' : k = w2.heap.size := e; omega)⟩
             rw [HRB.out]
             exact ⟨fun hw => ⟨HFS.out, HSS.out, fun q hq => by rw [HFB.out]; exact HALL.out q hq, fun h => (by rw [HFB.out] at h; cases h), fun _ => hw⟩, fun hr => hr.whole HFB.out⟩)
end Go.Proofs.YtgjpgfedlgdjhaaGreatDoor
end
