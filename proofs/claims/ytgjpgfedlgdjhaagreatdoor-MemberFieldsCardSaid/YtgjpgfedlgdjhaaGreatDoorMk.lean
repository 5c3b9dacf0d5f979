/- Members: Fault of the reference 10. -/
import Derived.Test.YtgjpgfedlgdjhaaGreatDoorMj
import Derived.Test.YtgjpgfedlgdjhaaGreatDoorPw
import Derived.Deep.CutRange
set_option linter.unusedVariables false
set_option linter.unusedSimpArgs false
set_option maxRecDepth 8192
namespace Go.Proofs.YtgjpgfedlgdjhaaGreatDoor
open Go.RowKit Go.W

set_option maxHeartbeats 2000000 in
theorem rfaultAt {w : World} (l c : Int) : Calls Tryz.prog 39 #[.agg #[.int .i64 l, .int .i64 c]] w fun e w' => e = .returned (.agg #[.int .i64 11, .int .i64 l, .int .i64 c]) ∧ Ch No w w' := by
  obtain ⟨w1, hw1⟩ : ∃ w1, w.alloc (.cells #[.int .i64 l, .int .i64 c] 27) = w1 := ⟨_, rfl⟩
  have hb1 := heap_alloc_new w (.cells #[.int .i64 l, .int .i64 c] 27)
  have hc1 := (Ch.refl No w).alloc (.cells #[.int .i64 l, .int .i64 c] 27)
  rw [hw1] at hb1 hc1
  obtain ⟨w2, hw2⟩ : ∃ w2, w1.alloc (.cells #[.int .i64 0, .int .i64 0, .int .i64 0] 34) = w2 := ⟨_, rfl⟩
  have hb2 := heap_alloc_new w1 (.cells #[.int .i64 0, .int .i64 0, .int .i64 0] 34)
  have hc2 := (Ch.refl No w1).alloc (.cells #[.int .i64 0, .int .i64 0, .int .i64 0] 34)
  rw [hw2] at hb2 hc2
  have hb12 := hc2.keep _ _ hb1 (fun h => h)
  have d0 := cellAt hb12 0
  have d1 := cellAt hb12 1
  have a0 := cellAt hb2 0
  have a1 := cellAt hb2 1
  have a2 := cellAt hb2 2
  have f0 := freeAt hb2 0
  have f1 := freeAt hb2 1
  have f2 := freeAt hb2 2
  have HC := hid (hc1.trans hc2)
  have HB := hid hb2
  have y1 := hc1.size
  clear hb1 hc1 hb2 hc2 hb12
  go_enter Tryz.func39, Tryz.ntmps39
  go_wp2_with fail
  obtain ⟨wf, hwf, hfb, hfc⟩ := put3 HB.out (.int .i64 11) (.int .i64 l) (.int .i64 c)
  rw [hwf]
  have k0 := cellAt hfb 0
  have k1 := cellAt hfb 1
  have k2 := cellAt hfb 2
  refine bodyPost_ret (v := .agg #[.int .i64 11, .int .i64 l, .int .i64 c]) (by simp [results, Tryz.results39, go_sem, k0, k1, k2]) rfl ?_
  exact ⟨rfl, Ch.newOnly HC.out hfc (fun k _ _ e => by have e' : k = w1.heap.size := e; omega)⟩

/-- what Fault tells: where its number is 0, all is right -/
def FaultM (cs : List Cls) (ms : List Mem) (e : Ending) : Prop := ∃ a l c, e = .returned (.agg #[.int .i64 a, .int .i64 l, .int .i64 c]) ∧ (a = 0 → FaultAt cs none ∧ GoodM cs ms)

set_option maxRecDepth 100000 in
set_option maxHeartbeats 64000000 in
theorem rfault10 {w : World} {pv : Value} {cs : List Cls} {ms : List Mem} (h : ProgAt w pv cs) (hm : MemsAt w cs ms) (hpl : PlainP cs) (hsm : SmallP cs) (hszm : SzM ms) (hfp : FewPs ms) :
    Calls Tryz.prog 14 #[pv] w fun e w' => FaultM cs ms e ∧ Ch No w w' := by
  have HM0 := hid hm
  have HSM := hid hsm
  have HPL := hid hpl
  have HSZ := hid hszm
  have HFP := hid hfp
  have HLN := hid hm.len
  clear hm hpl hsm hszm hfp
  have hp := h
  obtain ⟨cv, m0, m1, m2, m3, m4, m5, m6, m7, m8, rfl, h⟩ := h
  obtain ⟨ao, cap, rfl, hcap, hmax, _, _⟩ := h.row
  rw [List.length_map] at hcap h hp ⊢
  obtain ⟨len, hlen⟩ : ∃ len, cs.length = len := ⟨_, rfl⟩
  rw [hlen] at hcap h hp ⊢
  unfold maxLen at hmax
  obtain ⟨wa, hwa⟩ : ∃ wa, w.alloc (.cells #[.slice ao len cap, m0, m1, m2, m3, m4, m5, m6, m7, m8] 31) = wa := ⟨_, rfl⟩
  have hpb := heap_alloc_new w (.cells #[.slice ao len cap, m0, m1, m2, m3, m4, m5, m6, m7, m8] 31)
  have hch := (Ch.refl No w).alloc (.cells #[.slice ao len cap, m0, m1, m2, m3, m4, m5, m6, m7, m8] 31)
  rw [hwa] at hch hpb
  have HL := hid hlen
  have HP := hid (hp.no hch)
  have HC := hid (h.no hch)
  have HPB := hid hpb
  have HCH := hid hch
  have p0 := cellAt hpb 0
  have p1 := cellAt hpb 1
  have p2 := cellAt hpb 2
  have p3 := cellAt hpb 3
  have p4 := cellAt hpb 4
  have p5 := cellAt hpb 5
  have p6 := cellAt hpb 6
  have p7 := cellAt hpb 7
  have p8 := cellAt hpb 8
  have p9 := cellAt hpb 9
  have hz := lt_size hpb
  clear hlen h hp hpb hch
  have HM := hid (HM0.out.no HCH.out)
  have hl20 : len ≤ 20 := by have := HSM.out.1; have := HL.out; omega
  obtain ⟨wb, hwb⟩ : ∃ wb, wa.alloc (.cells #[.int .i64 0, .int .i64 0, .int .i64 0] 34) = wb := ⟨_, rfl⟩
  have hbb := heap_alloc_new wa (.cells #[.int .i64 0, .int .i64 0, .int .i64 0] 34)
  have hcb := (Ch.refl No wa).alloc (.cells #[.int .i64 0, .int .i64 0, .int .i64 0] 34)
  rw [hwb] at hbb hcb
  have HCB := hid hcb
  have HPB2 := hid (hcb.keep _ _ HPB.out (fun h => h))
  have HBB := hid hbb
  have hfa := rfault (HP.out.no hcb) HSM.out
  have yb := lt_size hbb
  clear p0 p1 p2 p3 p4 p5 p6 p7 p8 p9 hbb hcb
  have p0 := cellAt HPB2.out 0
  have p1 := cellAt HPB2.out 1
  have p2 := cellAt HPB2.out 2
  have p3 := cellAt HPB2.out 3
  have p4 := cellAt HPB2.out 4
  have p5 := cellAt HPB2.out 5
  have p6 := cellAt HPB2.out 6
  have p7 := cellAt HPB2.out 7
  have p8 := cellAt HPB2.out 8
  have p9 := cellAt HPB2.out 9
  go_enter Tryz.func14, Tryz.ntmps14
  go_wp2_with fail
  refine hfa.mono ?_
  rintro e w3 ⟨o, hf, rfl, hc3⟩
  have HC3 := hid (HCB.out.trans hc3)
  have HF := hid hf
  have HP3 := hid (hc3.keep _ _ HPB2.out (fun h => h))
  have HB3 := hid (hc3.keep _ _ HBB.out (fun h => h))
  clear hwa hwb p0 p1 p2 p3 p4 p5 p6 p7 p8 p9 hfa hf hc3
  rcases faultIs HF.out with ⟨rfl, hfc⟩ | ⟨i, l, c, rfl, hfc⟩
  · rw [hfc]
    unfold faultV
    clear hfc
    have HSO := hid HF.out.1
    have HNO := hid (show NoRing cs from HF.out.2)
    go_upto_region 2 with fail
    obtain ⟨w4, hw4⟩ : ∃ w4, w3.alloc (.cells #[.int .i64 0, .int .i64 0, .int .i64 0] 34) = w4 := ⟨_, rfl⟩
    rw [hw4]
    have hb4 := heap_alloc_new w3 (.cells #[.int .i64 0, .int .i64 0, .int .i64 0] 34)
    have hc4 := (Ch.refl No w3).alloc (.cells #[.int .i64 0, .int .i64 0, .int .i64 0] 34)
    rw [hw4] at hb4 hc4
    have HC4 := hid (HC3.out.trans hc4)
    have HP4 := hid (hc4.keep _ _ HP3.out (fun h => h))
    have HB34 := hid (hc4.keep _ _ HB3.out (fun h => h))
    have g0 := cellAt hb4 0
    have g1 := cellAt hb4 1
    have g2 := cellAt hb4 2
    clear hw4 hb4 hc4
    go_wp2_with fail
    clear g0 g1 g2
    go_loopg [4, 5, 6] len (fun g s4 s5 s6 wr => ∃ k : Nat, k ≤ len ∧ len - k ≤ g ∧ s4 = .int .i64 k ∧ Hid (∀ (q : Nat) (c : Cls) (m : Mem), q < k → cs[q]? = some c → ms[q]? = some m → GoodC cs ms q c m) ∧ Ch No w4 wr)
    case atStart => exact ⟨0, Nat.zero_le _, by omega, rfl, hid (fun q c m hq => absurd hq (Nat.not_lt_zero q)), Ch.refl _ _⟩
    case round =>
      obtain ⟨k, hk, hg, rfl, HA, hcr⟩ := hrel
      obtain ⟨w5, hw5⟩ : ∃ w5, w5 = wr := ⟨_, rfl⟩
      subst hw5
      have HCR := hid hcr
      have HCW := hid (HC4.out.trans hcr)
      have HP5 := hid (hcr.keep _ _ HP4.out (fun h => h))
      have HB5 := hid (hcr.keep _ _ HB34.out (fun h => h))
      have hp5 := HP5.out
      have p0 := cellAt hp5 0
      have p1 := cellAt hp5 1
      have p2 := cellAt hp5 2
      have p3 := cellAt hp5 3
      have p4 := cellAt hp5 4
      have p5 := cellAt hp5 5
      have p6 := cellAt hp5 6
      have p7 := cellAt hp5 7
      have p8 := cellAt hp5 8
      have p9 := cellAt hp5 9
      clear hcr hp5
      cases hd : decide (k < len) with
      | false =>
        have hkl : ¬ k < len := by simpa using hd
        have hb5 := HB5.out
        have a0 := cellAt hb5 0
        have a1 := cellAt hb5 1
        have a2 := cellAt hb5 2
        have f0 := freeAt hb5 0
        have f1 := freeAt hb5 1
        have f2 := freeAt hb5 2
        clear hb5
        go_wp2_with fail
        obtain ⟨wf, hwf, hfb, hfc⟩ := put3 HB5.out (.int .i64 0) (.int .i64 0) (.int .i64 0)
        rw [hwf]
        have k0 := cellAt hfb 0
        have k1 := cellAt hfb 1
        have k2 := cellAt hfb 2
        refine bodyPost_ret (v := .agg #[.int .i64 0, .int .i64 0, .int .i64 0]) (by simp [results, Tryz.results14, go_sem, k0, k1, k2]) rfl ?_
        exact ⟨⟨0, 0, 0, rfl, fun _ => ⟨HF.out, fun q c' m' hc' hm' => HA.out q c' m' (by have := (List.getElem?_eq_some_iff.1 hc').1; have := HL.out; omega) hc' hm'⟩⟩, Ch.newOnly (HCH.out.trans HCW.out) hfc (fun q _ _ e => by have e' : q = wa.heap.size := e; omega)⟩
      | true =>
        have hkl : k < len := by simpa using hd
        obtain ⟨c, hcs⟩ : ∃ c, cs[k]? = some c := ⟨_, List.getElem?_eq_getElem (by have := HL.out; omega)⟩
        obtain ⟨m, hmi⟩ : ∃ m, ms[k]? = some m := ⟨_, List.getElem?_eq_getElem (by have := HL.out; have := HLN.out; omega)⟩
        obtain ⟨cb, co, cc, ecs, hcell, _, _⟩ := (HC.out.no HCW.out).cell hcs
        rw [HL.out] at ecs
        cases ecs
        obtain ⟨q0, q1, q2, q3, q4, q5, q6, q7, q8, q9⟩ := hcell
        obtain ⟨r4, hr4⟩ : ∃ r, c.s4 = r := ⟨_, rfl⟩
        obtain ⟨r5, hr5⟩ : ∃ r, c.s5 = r := ⟨_, rfl⟩
        obtain ⟨r6, hr6⟩ : ∃ r, c.s6 = r := ⟨_, rfl⟩
        have hma := HM.out.at_ k c m hcs hmi
        have v4 := hma.fs
        have v5 := hma.ss
        have v6 := hma.ms
        rw [hr4] at v4 q4
        rw [hr5] at v5 q5
        rw [hr6] at v6 q6
        obtain ⟨a4, n4, c4⟩ := r4
        obtain ⟨a5, n5, c5⟩ := r5
        obtain ⟨a6, n6, c6⟩ := r6
        dsimp only at v4 v5 v6 q4 q5 q6
        obtain ⟨hn4, hc4, hm4⟩ := v4.shape
        obtain ⟨hn5, hc5, hm5⟩ := v5.shape
        obtain ⟨hn6, hc6, hm6⟩ := v6.shape
        unfold maxLen at hm4 hm5 hm6
        have x4 : n4 ≤ c4 := by have h1 : n4 = m.fs.length := hn4; have h2 : m.fs.length ≤ c4 := hc4; omega
        have x5 : n5 ≤ c5 := by have h1 : n5 = m.ss.length := hn5; have h2 : m.ss.length ≤ c5 := hc5; omega
        have x6 : n6 ≤ c6 := by have h1 : n6 = m.ms.length := hn6; have h2 : m.ms.length ≤ c6 := hc6; omega
        have V4 := hid v4
        have V5 := hid v5
        have V6 := hid v6
        have N4 := hid (show n4 = m.fs.length from hn4)
        have N5 := hid (show n5 = m.ss.length from hn5)
        have N6 := hid (show n6 = m.ms.length from hn6)
        obtain ⟨fb, hfb⟩ : ∃ fb, c.face = fb := ⟨_, rfl⟩
        rw [hfb] at q2
        have HFB := hid hfb
        obtain ⟨w6, hw6⟩ : ∃ w6, w5.alloc (.cells #[.string c.name, .string c.sup, .bool fb, .slice c.fa c.faces.length c.fc, .slice a4 n4 c4, .slice a5 n5 c5, .slice a6 n6 c6, .pointer c.p7, .int .i64 c.line, .int .i64 c.col] 50) = w6 := ⟨_, rfl⟩
        have hb6 := heap_alloc_new w5 (.cells #[.string c.name, .string c.sup, .bool fb, .slice c.fa c.faces.length c.fc, .slice a4 n4 c4, .slice a5 n5 c5, .slice a6 n6 c6, .pointer c.p7, .int .i64 c.line, .int .i64 c.col] 50)
        have hcc6 := (Ch.refl No w5).alloc (.cells #[.string c.name, .string c.sup, .bool fb, .slice c.fa c.faces.length c.fc, .slice a4 n4 c4, .slice a5 n5 c5, .slice a6 n6 c6, .pointer c.p7, .int .i64 c.line, .int .i64 c.col] 50)
        rw [hw6] at hb6 hcc6
        have HC6 := hid (HCW.out.trans hcc6)
        have HP6 := hid (hcc6.keep _ _ HP5.out (fun h => h))
        have HB56 := hid (hcc6.keep _ _ HB5.out (fun h => h))
        have HX6 := hid hb6
        have HCS := hid hcs
        have HMI := hid hmi
        have hvf := rvars (HP.out.no HC6.out) (HM.out.no HC6.out) HPL.out HSO.out HNO.out HSZ.out hcs hmi false
        have hp6 := HP6.out
        have y6 := lt_size hb6
        have K56 := hid hcc6
        clear p0 p1 p2 p3 p4 p5 p6 p7 p8 p9
        have p0 := cellAt hp6 0
        have p1 := cellAt hp6 1
        have p2 := cellAt hp6 2
        have p3 := cellAt hp6 3
        have p4 := cellAt hp6 4
        have p5 := cellAt hp6 5
        have p6 := cellAt hp6 6
        have p7 := cellAt hp6 7
        have p8 := cellAt hp6 8
        have p9 := cellAt hp6 9
        have p0' := cellAt HP5.out 0
        clear hcs hmi hma v4 v5 v6 hr4 hr5 hr6 hn4 hc4 hn5 hc5 hn6 hc6 hb6 hcc6 hp6 hfb
        go_wp2_with fail
        refine hvf.mono ?_
        rintro e w7 ⟨hvo, hc7⟩
        have HC7 := hid (HC6.out.trans hc7)
        have K7 := hid hc7
        have HX7 := hid (hc7.keep _ _ HX6.out (fun h => h))
        have HP7 := hid (hc7.keep _ _ HP6.out (fun h => h))
        have HB7 := hid (hc7.keep _ _ HB56.out (fun h => h))
        clear hw6 hvf hc7 p0' p0 p1 p2 p3 p4 p5 p6 p7 p8 p9 q0 q1 q2 q3 q4 q5 q6 q7 q8 q9
        rcases hvo with ⟨rfl, hvs⟩ | ⟨t, rfl, htl⟩
        · have HFS := hid hvs
          have hp7 := HP7.out
          have p0 := cellAt hp7 0
          have p1 := cellAt hp7 1
          have p2 := cellAt hp7 2
          have p3 := cellAt hp7 3
          have p4 := cellAt hp7 4
          have p5 := cellAt hp7 5
          have p6 := cellAt hp7 6
          have p7 := cellAt hp7 7
          have p8 := cellAt hp7 8
          have p9 := cellAt hp7 9
          have hvf := rvars (HP.out.no HC7.out) (HM.out.no HC7.out) HPL.out HSO.out HNO.out HSZ.out HCS.out HMI.out true
          clear hvs hp7
          go_wp2_with fail
          refine hvf.mono ?_
          rintro e w8 ⟨hvo, hc8⟩
          have HC8 := hid (HC7.out.trans hc8)
          have HX8 := hid (hc8.keep _ _ HX7.out (fun h => h))
          have HP8 := hid (hc8.keep _ _ HP7.out (fun h => h))
          have HB8 := hid (hc8.keep _ _ HB7.out (fun h => h))
          have K8 := hid (K7.out.trans hc8)
          clear hvf hc8 p0 p1 p2 p3 p4 p5 p6 p7 p8 p9
          rcases hvo with ⟨rfl, hvs⟩ | ⟨t, rfl, htl⟩
          · have HSS := hid hvs
            have hx8 := HX8.out
            have e6 := cellAt hx8 6
            clear hvs hx8
            go_wp2_with fail
            clear e6
            go_loopg [6] n6 (fun g s6 wr => ∃ q : Nat, q ≤ n6 ∧ n6 - q ≤ g ∧ s6 = .int .i64 q ∧ Hid (∀ (t : Nat) (x : Mt), t < q → m.ms[t]? = some x → SoundM cs ms k c.face m.ms t x) ∧ Ch No w8 wr)
            case atStart => exact ⟨0, Nat.zero_le _, by omega, rfl, hid (fun t x ht => absurd ht (Nat.not_lt_zero t)), Ch.refl _ _⟩
            case round =>
              obtain ⟨q, hq, hgq, rfl, HQ, hcr⟩ := hrel
              have HCQ := hid (HC8.out.trans hcr)
              have HX9 := hid (hcr.keep _ _ HX8.out (fun h => h))
              have HP9 := hid (hcr.keep _ _ HP8.out (fun h => h))
              have HB9 := hid (hcr.keep _ _ HB8.out (fun h => h))
              have K9 := hid (K8.out.trans hcr)
              have K89 := hid hcr
              have hx9 := HX9.out
              have hp9 := HP9.out
              have e0 := cellAt hx9 0
              have e1 := cellAt hx9 1
              have e2 := cellAt hx9 2
              have e3 := cellAt hx9 3
              have e4 := cellAt hx9 4
              have e5 := cellAt hx9 5
              have e6 := cellAt hx9 6
              have e7 := cellAt hx9 7
              have e8 := cellAt hx9 8
              have e9 := cellAt hx9 9
              have p0 := cellAt hp9 0
              have p1 := cellAt hp9 1
              have p2 := cellAt hp9 2
              have p3 := cellAt hp9 3
              have p4 := cellAt hp9 4
              have p5 := cellAt hp9 5
              have p6 := cellAt hp9 6
              have p7 := cellAt hp9 7
              have p8 := cellAt hp9 8
              have p9 := cellAt hp9 9
              clear hcr hx9 hp9
              cases hdq : decide (q < n6) with
              | true =>
                have hql : q < n6 := by simpa using hdq
                obtain ⟨x, hx⟩ : ∃ x, m.ms[q]? = some x := ⟨_, List.getElem?_eq_getElem (by have := N6.out; omega)⟩
                have hso := rsound10 (HP.out.no HCQ.out) (HM.out.no HCQ.out) HPL.out HSO.out HSM.out HSZ.out HFP.out HCS.out HMI.out hx
                have HX := hid hx
                clear hx
                go_wp2_with fail
                refine hso.mono ?_
                rintro e w10 ⟨⟨r, rfl, hr⟩, hc10⟩
                have HR := hid hr
                have K10 := hid hc10
                clear hso hr hc10 p0 p1 p2 p3 p4 p5 p6 p7 p8 p9
                cases r with
                | true =>
                  go_wp2_with fail
                  go_roundg (n6 - q - 1)
                  case rel =>
                    refine ⟨q + 1, by omega, by omega, by go_num, hid fun t x' ht hx' => ?_, K89.out.trans K10.out⟩
                    by_cases h1 : t < q
                    · exact HQ.out t x' h1 hx'
                    · obtain rfl : t = q := by omega
                      rw [HX.out] at hx'; cases hx'
                      exact HR.out (by first | rfl | trivial)
                  case measure => omega
                | false =>
                  clear e0 e1 e2 e3 e4 e5 e6 e7 e8 e9
                  have hx10 := K10.out.keep _ _ HX9.out (fun h => h)
                  have hb10 := K10.out.keep _ _ HB9.out (fun h => h)
                  have HBZ := hid hb10
                  have HCZ := hid (HCQ.out.trans K10.out)
                  have e6 := cellAt hx10 6
                  obtain ⟨vb, vo, hva, u0, u1, u2, u3, u4, u5, u6, u7, u8⟩ := (V6.out.no HCZ.out).cell HX.out
                  subst hva
                  have hfl := rfaultAt (w := w10) x.line x.col
                  clear hx10 hb10
                  go_wp2_with fail
                  refine hfl.mono ?_
                  rintro e w11 ⟨rfl, hc11⟩
                  have HC11 := hid (HCZ.out.trans hc11)
                  have HB11 := hid (hc11.keep _ _ HBZ.out (fun h => h))
                  have hb11 := HB11.out
                  have a0 := cellAt hb11 0
                  have a1 := cellAt hb11 1
                  have a2 := cellAt hb11 2
                  have f0 := freeAt hb11 0
                  have f1 := freeAt hb11 1
                  have f2 := freeAt hb11 2
                  clear hfl hc11 hb11
                  go_wp2_with fail
                  obtain ⟨wf, hwf, hfb, hfc⟩ := put3 HB11.out (.int .i64 11) (.int .i64 x.line) (.int .i64 x.col)
                  rw [hwf]
                  have k0 := cellAt hfb 0
                  have k1 := cellAt hfb 1
                  have k2 := cellAt hfb 2
                  refine bodyPost_ret (v := .agg #[.int .i64 11, .int .i64 x.line, .int .i64 x.col]) (by simp [results, Tryz.results14, go_sem, k0, k1, k2]) rfl ?_
                  exact ⟨⟨11, _, _, rfl, fun h => by cases h⟩, Ch.newOnly (HCH.out.trans HC11.out) hfc (fun q _ _ e => by have e' : q = wa.heap.size := e; omega)⟩
              | false =>
                have hql : ¬ q < n6 := by simpa using hdq
                have HMS := hid (show ∀ (t : Nat) (x : Mt), m.ms[t]? = some x → SoundM cs ms k c.face m.ms t x from fun t x hx => HQ.out t x (by have := (List.getElem?_eq_some_iff.1 hx).1; have := N6.out; omega) hx)
                cases fb with
                | true =>
                  cases he : c.sup.toList.isEmpty with
                  | true =>
                    have HE := hid he
                    go_wp2_with fail
                    go_roundg (len - k - 1)
                    case rel =>
                      refine ⟨k + 1, by omega, by omega, by go_num, hid fun q' c' m' hq' hc' hm' => ?_, HCR.out.trans ((K56.out.trans K9.out))⟩
                      by_cases h1 : q' < k
                      · exact HA.out q' c' m' h1 hc' hm'
                      · obtain rfl : q' = k := by omega
                        rw [HCS.out] at hc'; cases hc'
                        rw [HMI.out] at hm'; cases hm'
                        exact ⟨HFS.out, HSS.out, HMS.out, fun _ => HE.out, fun h => by rw [HFB.out] at h; cases h⟩
                    case measure => omega
                  | false =>
                    have hfl := rfaultAt (w := wr) c.line c.col
                    have HCZ := hid HCQ.out
                    have HBZ := hid HB9.out
                    clear p0 p1 p2 p3 p4 p5 p6 p7 p8 p9
                    go_wp2_with fail
                    refine hfl.mono ?_
                    rintro e w11 ⟨rfl, hc11⟩
                    have HC11 := hid (HCZ.out.trans hc11)
                    have HB11 := hid (hc11.keep _ _ HBZ.out (fun h => h))
                    have hb11 := HB11.out
                    have a0 := cellAt hb11 0
                    have a1 := cellAt hb11 1
                    have a2 := cellAt hb11 2
                    have f0 := freeAt hb11 0
                    have f1 := freeAt hb11 1
                    have f2 := freeAt hb11 2
                    clear hfl hc11 hb11
                    go_wp2_with fail
                    obtain ⟨wf, hwf, hfb, hfc⟩ := put3 HB11.out (.int .i64 11) (.int .i64 c.line) (.int .i64 c.col)
                    rw [hwf]
                    have k0 := cellAt hfb 0
                    have k1 := cellAt hfb 1
                    have k2 := cellAt hfb 2
                    refine bodyPost_ret (v := .agg #[.int .i64 11, .int .i64 c.line, .int .i64 c.col]) (by simp [results, Tryz.results14, go_sem, k0, k1, k2]) rfl ?_
                    exact ⟨⟨11, _, _, rfl, fun h => by cases h⟩, Ch.newOnly (HCH.out.trans HC11.out) hfc (fun q _ _ e => by have e' : q = wa.heap.size := e; omega)⟩
                | false =>
                  have hwh := rwhole (HP.out.no HCQ.out) (HM.out.no HCQ.out) HSO.out HNO.out HSM.out HFP.out (show k < cs.length from by have := HL.out; omega)
                  go_wp2_with fail
                  refine hwh.mono ?_
                  rintro e w10 ⟨⟨r, rfl, hr⟩, hc10⟩
                  have HR := hid hr
                  have K10 := hid hc10
                  clear hwh hr hc10 p0 p1 p2 p3 p4 p5 p6 p7 p8 p9
                  cases r with
                  | true =>
                    go_wp2_with fail
                    go_roundg (len - k - 1)
                    case rel =>
                      refine ⟨k + 1, by omega, by omega, by go_num, hid fun q' c' m' hq' hc' hm' => ?_, HCR.out.trans ((K56.out.trans K9.out).trans K10.out)⟩
                      by_cases h1 : q' < k
                      · exact HA.out q' c' m' h1 hc' hm'
                      · obtain rfl : q' = k := by omega
                        rw [HCS.out] at hc'; cases hc'
                        rw [HMI.out] at hm'; cases hm'
                        exact ⟨HFS.out, HSS.out, HMS.out, fun h => (by rw [HFB.out] at h; cases h), fun _ => HR.out (by first | rfl | trivial)⟩
                    case measure => omega
                  | false =>
                    clear e0 e1 e2 e3 e4 e5 e6 e7 e8 e9
                    have hx10 := K10.out.keep _ _ HX9.out (fun h => h)
                    have HBZ := hid (K10.out.keep _ _ HB9.out (fun h => h))
                    have HCZ := hid (HCQ.out.trans K10.out)
                    have e8 := cellAt hx10 8
                    have e9 := cellAt hx10 9
                    have hfl := rfaultAt (w := w10) c.line c.col
                    clear hx10
                    go_wp2_with fail
                    refine hfl.mono ?_
                    rintro e w11 ⟨rfl, hc11⟩
                    have HC11 := hid (HCZ.out.trans hc11)
                    have HB11 := hid (hc11.keep _ _ HBZ.out (fun h => h))
                    have hb11 := HB11.out
                    have a0 := cellAt hb11 0
                    have a1 := cellAt hb11 1
                    have a2 := cellAt hb11 2
                    have f0 := freeAt hb11 0
                    have f1 := freeAt hb11 1
                    have f2 := freeAt hb11 2
                    clear hfl hc11 hb11
                    go_wp2_with fail
                    obtain ⟨wf, hwf, hfb, hfc⟩ := put3 HB11.out (.int .i64 11) (.int .i64 c.line) (.int .i64 c.col)
                    rw [hwf]
                    have k0 := cellAt hfb 0
                    have k1 := cellAt hfb 1
                    have k2 := cellAt hfb 2
                    refine bodyPost_ret (v := .agg #[.int .i64 11, .int .i64 c.line, .int .i64 c.col]) (by simp [results, Tryz.results14, go_sem, k0, k1, k2]) rfl ?_
                    exact ⟨⟨11, _, _, rfl, fun h => by cases h⟩, Ch.newOnly (HCH.out.trans HC11.out) hfc (fun q _ _ e => by have e' : q = wa.heap.size := e; omega)⟩
          · have hx8 := HX8.out
            have e5 := cellAt hx8 5
            have HCZ := hid HC8.out
            have HBZ := hid HB8.out
            obtain ⟨v, hv⟩ : ∃ v, m.ss[t]? = some v := ⟨_, List.getElem?_eq_getElem (show t < m.ss.length from htl)⟩
            obtain ⟨vb, vo, hva, u0, u1, u2, u3⟩ := (V5.out.no HC8.out).cell hv
            have htn : t < n5 := by have h1 : t < m.ss.length := htl; have := N5.out; omega
            subst hva
            have hfl := rfaultAt (w := w8) v.line v.col
            clear hx8 htl hv
            go_wp2_with fail
            refine hfl.mono ?_
            rintro e w11 ⟨rfl, hc11⟩
            have HC11 := hid (HCZ.out.trans hc11)
            have HB11 := hid (hc11.keep _ _ HBZ.out (fun h => h))
            have hb11 := HB11.out
            have a0 := cellAt hb11 0
            have a1 := cellAt hb11 1
            have a2 := cellAt hb11 2
            have f0 := freeAt hb11 0
            have f1 := freeAt hb11 1
            have f2 := freeAt hb11 2
            clear hfl hc11 hb11
            go_wp2_with fail
            obtain ⟨wf, hwf, hfb, hfc⟩ := put3 HB11.out (.int .i64 11) (.int .i64 v.line) (.int .i64 v.col)
            rw [hwf]
            have k0 := cellAt hfb 0
            have k1 := cellAt hfb 1
            have k2 := cellAt hfb 2
            refine bodyPost_ret (v := .agg #[.int .i64 11, .int .i64 v.line, .int .i64 v.col]) (by simp [results, Tryz.results14, go_sem, k0, k1, k2]) rfl ?_
            exact ⟨⟨11, _, _, rfl, fun h => by cases h⟩, Ch.newOnly (HCH.out.trans HC11.out) hfc (fun q _ _ e => by have e' : q = wa.heap.size := e; omega)⟩
        · have hx7 := HX7.out
          have e4 := cellAt hx7 4
          have HCZ := hid HC7.out
          have HBZ := hid HB7.out
          obtain ⟨v, hv⟩ : ∃ v, m.fs[t]? = some v := ⟨_, List.getElem?_eq_getElem (show t < m.fs.length from htl)⟩
          obtain ⟨vb, vo, hva, u0, u1, u2, u3⟩ := (V4.out.no HC7.out).cell hv
          have htn : t < n4 := by have h1 : t < m.fs.length := htl; have := N4.out; omega
          subst hva
          have hfl := rfaultAt (w := w7) v.line v.col
          clear hx7 htl hv
          go_wp2_with fail
          refine hfl.mono ?_
          rintro e w11 ⟨rfl, hc11⟩
          have HC11 := hid (HCZ.out.trans hc11)
          have HB11 := hid (hc11.keep _ _ HBZ.out (fun h => h))
          have hb11 := HB11.out
          have a0 := cellAt hb11 0
          have a1 := cellAt hb11 1
          have a2 := cellAt hb11 2
          have f0 := freeAt hb11 0
          have f1 := freeAt hb11 1
          have f2 := freeAt hb11 2
          clear hfl hc11 hb11
          go_wp2_with fail
          obtain ⟨wf, hwf, hfb, hfc⟩ := put3 HB11.out (.int .i64 11) (.int .i64 v.line) (.int .i64 v.col)
          rw [hwf]
          have k0 := cellAt hfb 0
          have k1 := cellAt hfb 1
          have k2 := cellAt hfb 2
          refine bodyPost_ret (v := .agg #[.int .i64 11, .int .i64 v.line, .int .i64 v.col]) (by simp [results, Tryz.results14, go_sem, k0, k1, k2]) rfl ?_
          exact ⟨⟨11, _, _, rfl, fun h => by cases h⟩, Ch.newOnly (HCH.out.trans HC11.out) hfc (fun q _ _ e => by have e' : q = wa.heap.size := e; omega)⟩
  · rw [hfc]
    unfold faultV
    clear hfc
    go_upto_region 2 with fail
    obtain ⟨w4, hw4⟩ : ∃ w4, w3.alloc (.cells #[.int .i64 11, .int .i64 l, .int .i64 c] 34) = w4 := ⟨_, rfl⟩
    rw [hw4]
    have hb4 := heap_alloc_new w3 (.cells #[.int .i64 11, .int .i64 l, .int .i64 c] 34)
    have hc4 := (Ch.refl No w3).alloc (.cells #[.int .i64 11, .int .i64 l, .int .i64 c] 34)
    rw [hw4] at hb4 hc4
    have HC4 := hid (HC3.out.trans hc4)
    have HB34 := hid (hc4.keep _ _ HB3.out (fun h => h))
    have hb34 := HB34.out
    have g0 := cellAt hb4 0
    have g1 := cellAt hb4 1
    have g2 := cellAt hb4 2
    have a0 := cellAt hb34 0
    have a1 := cellAt hb34 1
    have a2 := cellAt hb34 2
    have f0 := freeAt hb34 0
    have f1 := freeAt hb34 1
    have f2 := freeAt hb34 2
    have y4 := lt_size hb4
    clear hw4 hb4 hc4 hb34
    go_wp2_with fail
    obtain ⟨wf, hwf, hfb, hfc⟩ := put3 HB34.out (.int .i64 11) (.int .i64 l) (.int .i64 c)
    rw [hwf]
    have k0 := cellAt hfb 0
    have k1 := cellAt hfb 1
    have k2 := cellAt hfb 2
    refine bodyPost_ret (v := .agg #[.int .i64 11, .int .i64 l, .int .i64 c]) (by simp [results, Tryz.results14, go_sem, k0, k1, k2]) rfl ?_
    exact ⟨⟨11, _, _, rfl, fun h => by cases h⟩, Ch.newOnly (HCH.out.trans HC4.out) hfc (fun q _ _ e => by have e' : q = wa.heap.size := e; omega)⟩
end Go.Proofs.YtgjpgfedlgdjhaaGreatDoor
