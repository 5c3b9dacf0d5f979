/- Members: vars of the reference 10. -/
import Derived.Test.YtgjpgfedlgdjhaaGreatDoorMg
set_option linter.unusedVariables false
set_option linter.unusedSimpArgs false
set_option maxRecDepth 8192
namespace Go.Proofs.YtgjpgfedlgdjhaaGreatDoor
open Go.RowKit Go.W

theorem inZ_nat {cs : List Cls} {j : Nat} (h : j < cs.length) : inZ cs (j : Int) = some j := by
  unfold inZ
  rw [if_pos ⟨by omega, by omega⟩]
  simp
/-- what vars tells: -1: all are right; else the number of one -/
def VarsOut (cs : List Cls) (ms : List Mem) (st : Bool) (i : Nat) (l : List Vr) (e : Ending) : Prop :=
  (e = .returned (.int .i64 (-1)) ∧ VarsP cs ms st i l) ∨ ∃ k : Nat, e = .returned (.int .i64 k) ∧ k < l.length

theorem VrCells.list {w : World} {b a : Nat} {x : Vr} (h : VrCells w b a x) : w.cell? ⟨b, a, none⟩ = some (.string x.ty) ∧ w.cell? ⟨b, a + 1, none⟩ = some (.string x.nm) := ⟨h.q0, h.q1⟩

theorem supCases {cs : List Cls} {i : Nat} {c : Cls} (hc : cs[i]? = some c) (ho : okC cs i c) : (supZ cs c = -1 ∧ supN cs i = none) ∨ ∃ j : Nat, supZ cs c = (j : Int) ∧ supN cs i = some j ∧ j < cs.length := by
  cases e0 : c.sup.toList.isEmpty with
  | true =>
    refine .inl ⟨supZ_no e0, ?_⟩
    unfold supN
    rw [hc]
    simp [e0]
  | false =>
    obtain ⟨s, d, hf, hs, _⟩ := ho.sup e0
    refine .inr ⟨s, ?_, ?_, (List.getElem?_eq_some_iff.1 hs).1⟩
    · rw [supZ_yes e0, findZ_some hf]
    · unfold supN
      rw [hc]
      simp [e0, hf]

set_option maxRecDepth 100000 in
set_option maxHeartbeats 16000000 in
theorem rvars {w : World} {pv : Value} {cs : List Cls} {ms : List Mem} (h : ProgAt w pv cs) (hm : MemsAt w cs ms) (hpl : PlainP cs) (hS : SoundP cs) (hno : NoRing cs) (hsz : SzM ms) {i : Nat} {c : Cls} {m : Mem} (hi : cs[i]? = some c) (hmi : ms[i]? = some m) (st : Bool) :
    Calls Tryz.prog 38 #[pv, .int .i64 i, .bool st] w fun e w' => VarsOut cs ms st i (m.vs st) e ∧ Ch No w w' := by
  have HM0 := hid hm
  have HS := hid hS
  have HNO := hid hno
  have HPL := hid hpl
  have HCS := hid hi
  have HMI := hid hmi
  have HSZ := hid (show ∀ v ∈ m.vs st, v.nm.size ≤ maxLen ∧ v.ty.size ≤ maxLen from by
    have h1 := hsz m (List.mem_of_getElem? hmi)
    cases st
    · exact h1.fs
    · exact h1.ss)
  have HVS0 := hid ((hm.at_ i c m hi hmi).vs st)
  clear hm hS hno hpl hmi hsz
  have hp := h
  obtain ⟨cv, m0, m1, m2, m3, m4, m5, m6, m7, m8, rfl, h⟩ := h
  obtain ⟨ao, cap, rfl, hcap, hmax, _, _⟩ := h.row
  rw [List.length_map] at hcap h hp ⊢
  obtain ⟨len, hlen⟩ : ∃ len, cs.length = len := ⟨_, rfl⟩
  rw [hlen] at hcap h hp ⊢
  unfold maxLen at hmax
  obtain ⟨wa, hwa⟩ : ∃ wa, w.alloc (.cells #[.slice ao len cap, m0, m1, m2, m3, m4, m5, m6, m7, m8] 31) = wa := ⟨_, rfl⟩
  have hpb := heap_alloc_new w (.cells #[.slice ao len cap, m0, m1, m2, m3, m4, m5, m6, m7, m8] 31)
  have hch := (Ch.refl No w).alloc (.cells #[.slice ao len cap, m0, m1, m2, m3, m4, m5, m6, m7, m8] 31)
  rw [hwa] at hch hpb
  have HL := hid hlen
  have HP := hid (hp.no hch)
  have HC := hid (h.no hch)
  have HPB := hid hpb
  have HCH := hid hch
  have p0 := cellAt hpb 0
  have p1 := cellAt hpb 1
  have p2 := cellAt hpb 2
  have p3 := cellAt hpb 3
  have p4 := cellAt hpb 4
  have p5 := cellAt hpb 5
  have p6 := cellAt hpb 6
  have p7 := cellAt hpb 7
  have p8 := cellAt hpb 8
  have p9 := cellAt hpb 9
  have hz := lt_size hpb
  clear hlen h hp hpb hch
  have HM := hid (HM0.out.no HCH.out)
  obtain ⟨b, off, cap', e, hcell, _, _⟩ := HC.out.cell hi
  rw [HL.out] at e
  cases e
  have hil : i < len := by have := (List.getElem?_eq_some_iff.1 hi).1; have := HL.out; omega
  have q4 := hcell.q4
  have q5 := hcell.q5
  have hvs := HVS0.out.no HCH.out
  obtain ⟨sl, hsl⟩ : ∃ sl, (if st then c.s5 else c.s4) = sl := ⟨_, rfl⟩
  rw [hsl] at hvs
  obtain ⟨va, vn, vc⟩ := sl
  obtain ⟨hvn, hvc, hvm⟩ := hvs.shape
  unfold maxLen at hvm
  have hvx : vn ≤ vc := by have h1 : vn = (m.vs st).length := hvn; have h2 : (m.vs st).length ≤ vc := hvc; omega
  obtain ⟨l, hl⟩ : ∃ l, m.vs st = l := ⟨_, rfl⟩
  have HVN := hid (show vn = l.length from by rw [← hl]; exact hvn)
  have HVS := hid (show VarsAt wa (.slice va vn vc) l from by rw [← hl]; exact hvs)
  rw [hl] at HSZ ⊢
  obtain ⟨su, hsu⟩ : ∃ su, st = su := ⟨_, rfl⟩
  rw [show VarsOut cs ms st = VarsOut cs ms su from by rw [hsu]]
  have HSU := hid hsu
  clear hsu
  obtain ⟨r4, hr4⟩ : ∃ r, c.s4 = r := ⟨_, rfl⟩
  obtain ⟨r5, hr5⟩ : ∃ r, c.s5 = r := ⟨_, rfl⟩
  rw [hr4] at q4
  rw [hr5] at q5
  have hsl' : (if st then r5 else r4) = (va, vn, vc) := by rw [← hr4, ← hr5]; exact hsl
  clear hvn hvc hvs hl hr4 hr5 hsl hcell HVS0 hi
  cases st
  all_goals (
    simp only [Bool.false_eq_true, if_false, if_true] at hsl'
    subst hsl'
    go_enter Tryz.func38, Tryz.ntmps38
    go_wp2_with fail
    clear hwa q4 q5
    go_loopg [8, 9, 10, 11, 12] vn (fun g s8 s9 s10 s11 s12 wr => ∃ k : Nat, k ≤ vn ∧ vn - k ≤ g ∧ s8 = .int .i64 k ∧ Hid (∀ q, q < k → VarP cs ms su i l q) ∧ Ch No wa wr)
    case atStart => exact ⟨0, Nat.zero_le _, by omega, rfl, hid (fun q hq => absurd hq (Nat.not_lt_zero q)), Ch.refl _ _⟩
    case round =>
      obtain ⟨k, hk, hg, rfl, HV, hcr⟩ := hrel
      obtain ⟨w1, hw1⟩ : ∃ w1, w1 = wr := ⟨_, rfl⟩
      subst hw1
      have HCR := hid hcr
      have HB1 := hid (hcr.keep _ _ HPB.out (fun h => h))
      have HP1 := hid (HP.out.no hcr)
      have HM1 := hid (HM.out.no hcr)
      clear p0 p1 p2 p3 p4 p5 p6 p7 p8 p9 hcr
      have p0 := cellAt HB1.out 0
      have p1 := cellAt HB1.out 1
      have p2 := cellAt HB1.out 2
      have p3 := cellAt HB1.out 3
      have p4 := cellAt HB1.out 4
      have p5 := cellAt HB1.out 5
      have p6 := cellAt HB1.out 6
      have p7 := cellAt HB1.out 7
      have p8 := cellAt HB1.out 8
      have p9 := cellAt HB1.out 9
      cases hd : decide (k < vn) with
      | false =>
        have hkl : ¬ k < vn := by simpa using hd
        have HALL := hid (show VarsP cs ms su i l from fun q hq => HV.out q (by have := HVN.out; omega))
        go_wp2_with fail
        go_ret
        exact ⟨.inl ⟨rfl, HALL.out⟩, HCH.out.trans HCR.out⟩
      | true =>
        have hkl : k < vn := by simpa using hd
        obtain ⟨v, hv⟩ : ∃ v, l[k]? = some v := ⟨_, List.getElem?_eq_getElem (by have := HVN.out; omega)⟩
        obtain ⟨vb, vo, hva, hvcell⟩ := (HVS.out.no HCR.out).cell hv
        have hva1 := hva
        subst hva
        have hlt := lt_size HB1.out
        have HVK := hid hv
        have hvz := HSZ.out v (List.mem_of_getElem? hv)
        have r0 := hvcell.q0
        have r1 := hvcell.q1
        have HKL := hid (show k < l.length from by have := HVN.out; omega)
        have hty := rtyped (HP1.out.no ((Ch.refl No w1).drew)) HPL.out hvz.2
        have HVZ := hid hvz
        have HSx := hid (show w1.cell? ⟨vb, vo + k * 4, none⟩ = some (.string v.ty) ∧ w1.cell? ⟨vb, vo + k * 4 + 1, none⟩ = some (.string v.nm) ∧ w1.cell? ⟨w.heap.size, 0, none⟩ = some (.slice (some ⟨b, off, none⟩) len cap) ∧ w1.cell? ⟨w.heap.size, 1, none⟩ = some m0 ∧ w1.cell? ⟨w.heap.size, 2, none⟩ = some m1 ∧ w1.cell? ⟨w.heap.size, 3, none⟩ = some m2 ∧ w1.cell? ⟨w.heap.size, 4, none⟩ = some m3 ∧ w1.cell? ⟨w.heap.size, 5, none⟩ = some m4 ∧ w1.cell? ⟨w.heap.size, 6, none⟩ = some m5 ∧ w1.cell? ⟨w.heap.size, 7, none⟩ = some m6 ∧ w1.cell? ⟨w.heap.size, 8, none⟩ = some m7 ∧ w1.cell? ⟨w.heap.size, 9, none⟩ = some m8 from ⟨r0, r1, progCells9 HB1.out⟩)
        have HR0 := hid r0
        have HR1 := hid r1
        clear hv hvz hvcell
        go_wp2_with fail
        have HSd := hid (show w1.drew.cell? ⟨vb, vo + k * 4, none⟩ = some (.string v.ty) ∧ w1.drew.cell? ⟨vb, vo + k * 4 + 1, none⟩ = some (.string v.nm) ∧ w1.drew.cell? ⟨w.heap.size, 0, none⟩ = some (.slice (some ⟨b, off, none⟩) len cap) ∧ w1.drew.cell? ⟨w.heap.size, 1, none⟩ = some m0 ∧ w1.drew.cell? ⟨w.heap.size, 2, none⟩ = some m1 ∧ w1.drew.cell? ⟨w.heap.size, 3, none⟩ = some m2 ∧ w1.drew.cell? ⟨w.heap.size, 4, none⟩ = some m3 ∧ w1.drew.cell? ⟨w.heap.size, 5, none⟩ = some m4 ∧ w1.drew.cell? ⟨w.heap.size, 6, none⟩ = some m5 ∧ w1.drew.cell? ⟨w.heap.size, 7, none⟩ = some m6 ∧ w1.drew.cell? ⟨w.heap.size, 8, none⟩ = some m7 ∧ w1.drew.cell? ⟨w.heap.size, 9, none⟩ = some m8 from HSx.out)
        go_region_held3 (fun w' => w'.cell? ⟨vb, vo + k * 4, none⟩ = some (.string v.ty) ∧ w'.cell? ⟨vb, vo + k * 4 + 1, none⟩ = some (.string v.nm) ∧ w'.cell? ⟨w.heap.size, 0, none⟩ = some (.slice (some ⟨b, off, none⟩) len cap) ∧ w'.cell? ⟨w.heap.size, 1, none⟩ = some m0 ∧ w'.cell? ⟨w.heap.size, 2, none⟩ = some m1 ∧ w'.cell? ⟨w.heap.size, 3, none⟩ = some m2 ∧ w'.cell? ⟨w.heap.size, 4, none⟩ = some m3 ∧ w'.cell? ⟨w.heap.size, 5, none⟩ = some m4 ∧ w'.cell? ⟨w.heap.size, 6, none⟩ = some m5 ∧ w'.cell? ⟨w.heap.size, 7, none⟩ = some m6 ∧ w'.cell? ⟨w.heap.size, 8, none⟩ = some m7 ∧ w'.cell? ⟨w.heap.size, 9, none⟩ = some m8) (first | with_reducible exact HSx.out | with_reducible exact HSd.out | with_reducible exact HS5.out | go_keep) (first | (go_at_call 65; refine (hty).mono ?_; rintro e w5 ⟨⟨r5, rfl, hr5⟩, hc5⟩; have K5 := hid (((Ch.refl No w1).drew).trans hc5); have HS5 := hid (show w5.cell? ⟨vb, vo + k * 4, none⟩ = some (.string v.ty) ∧ w5.cell? ⟨vb, vo + k * 4 + 1, none⟩ = some (.string v.nm) ∧ w5.cell? ⟨w.heap.size, 0, none⟩ = some (.slice (some ⟨b, off, none⟩) len cap) ∧ w5.cell? ⟨w.heap.size, 1, none⟩ = some m0 ∧ w5.cell? ⟨w.heap.size, 2, none⟩ = some m1 ∧ w5.cell? ⟨w.heap.size, 3, none⟩ = some m2 ∧ w5.cell? ⟨w.heap.size, 4, none⟩ = some m3 ∧ w5.cell? ⟨w.heap.size, 5, none⟩ = some m4 ∧ w5.cell? ⟨w.heap.size, 6, none⟩ = some m5 ∧ w5.cell? ⟨w.heap.size, 7, none⟩ = some m6 ∧ w5.cell? ⟨w.heap.size, 8, none⟩ = some m7 ∧ w5.cell? ⟨w.heap.size, 9, none⟩ = some m8 from ⟨cell_ch HSx.out.1 K5.out (fun _ _ h => h), cell_ch HSx.out.2.1 K5.out (fun _ _ h => h), cell_ch HSx.out.2.2.1 K5.out (fun _ _ h => h), cell_ch HSx.out.2.2.2.1 K5.out (fun _ _ h => h), cell_ch HSx.out.2.2.2.2.1 K5.out (fun _ _ h => h), cell_ch HSx.out.2.2.2.2.2.1 K5.out (fun _ _ h => h), cell_ch HSx.out.2.2.2.2.2.2.1 K5.out (fun _ _ h => h), cell_ch HSx.out.2.2.2.2.2.2.2.1 K5.out (fun _ _ h => h), cell_ch HSx.out.2.2.2.2.2.2.2.2.1 K5.out (fun _ _ h => h), cell_ch HSx.out.2.2.2.2.2.2.2.2.2.1 K5.out (fun _ _ h => h), cell_ch HSx.out.2.2.2.2.2.2.2.2.2.2.1 K5.out (fun _ _ h => h), cell_ch HSx.out.2.2.2.2.2.2.2.2.2.2.2 K5.out (fun _ _ h => h)⟩); clear hc5; clear hty; have HR5 := hid hr5; clear hr5))
        cases r5 with
        | false =>
          go_wp2_with fail
          go_ret
          exact ⟨.inr ⟨k, rfl, HKL.out⟩, HCH.out.trans (HCR.out.trans K5.out)⟩
        | true =>
          have HTY := hid (HR5.out.1 rfl)
          go_wp2_with fail
          go_loopg [9] k (fun g' s9 wr' => ∃ q : Nat, q ≤ k ∧ k - q ≤ g' ∧ s9 = .int .i64 q ∧ Hid (∀ u ∈ l.take q, u.nm ≠ v.nm) ∧ Ch No w5 wr')
          case atStart => exact ⟨0, Nat.zero_le _, by omega, rfl, hid (by simp), Ch.refl _ _⟩
          case round =>
            obtain ⟨q, hq, hg', rfl, HN, hc6⟩ := hrel
            obtain ⟨w6, hw6⟩ : ∃ w6, w6 = wr := ⟨_, rfl⟩
            subst hw6
            have K6 := hid (K5.out.trans hc6)
            have HC6 := hid hc6
            have HB6 := hid (K6.out.keep _ _ HB1.out (fun h => h))
            have r1 := cell_ch HR1.out K6.out (fun _ _ h => h)
            clear p0 p1 p2 p3 p4 p5 p6 p7 p8 p9 hc6
            have p0 := cellAt HB6.out 0
            have p1 := cellAt HB6.out 1
            have p2 := cellAt HB6.out 2
            have p3 := cellAt HB6.out 3
            have p4 := cellAt HB6.out 4
            have p5 := cellAt HB6.out 5
            have p6 := cellAt HB6.out 6
            have p7 := cellAt HB6.out 7
            have p8 := cellAt HB6.out 8
            have p9 := cellAt HB6.out 9
            cases hdq : decide (q < k) with
            | true =>
              have hql : q < k := by simpa using hdq
              obtain ⟨u, hu⟩ : ∃ u, l[q]? = some u := ⟨_, List.getElem?_eq_getElem (by have := HVN.out; omega)⟩
              obtain ⟨vb', vo', e', hucell⟩ := (HVS.out.no (HCR.out.trans K6.out)).cell hu
              cases e'
              have u1 := hucell.q1
              have HU := hid hu
              clear hu hucell
              cases e0 : (u.nm.toList == v.nm.toList) with
              | true =>
                go_wp2_with fail
                go_quiet (fail)
                go_wp2_with fail
                go_ret
                exact ⟨.inr ⟨k, rfl, HKL.out⟩, HCH.out.trans (HCR.out.trans (K6.out.trans (by first | exact (Ch.refl No _).drew | exact (Ch.refl No _).drewN _ | exact Ch.refl No _)))⟩
              | false =>
                go_wp2_with fail
                go_quiet (fail)
                go_wp2_with fail
                go_roundg (k - q - 1)
                case rel =>
                  have hcn : u.nm ≠ v.nm := by rw [streq] at e0; simpa using e0
                  refine ⟨q + 1, by omega, by omega, by go_num, hid fun y hy => ?_, ?_⟩
                  · rw [List.take_add_one, HU.out] at hy
                    rcases List.mem_append.1 hy with hy | hy
                    · exact HN.out y hy
                    · simp at hy; subst hy; exact hcn
                  · exact HC6.out.trans (by first | exact (Ch.refl No _).drew | exact (Ch.refl No _).drewN _ | exact Ch.refl No _)
                case measure => omega
            | false =>
              have hql : ¬ q < k := by simpa using hdq
              have HNK := hid (show ∀ u ∈ l.take k, u.nm ≠ v.nm from by
                have h1 := HN.out
                rw [show q = k by omega] at h1
                exact h1)
              have hsu' := rsuper (HP1.out.no K6.out) HCS.out
              rcases supCases HCS.out (HS.out i c HCS.out) with ⟨ez, en⟩ | ⟨j, ez, en, hj⟩
              · rw [ez] at hsu'
                have HEN := hid en
                clear ez en
                go_wp2_with fail
                refine hsu'.mono ?_
                rintro e w7 ⟨rfl, hc7⟩
                have K7 := hid (K6.out.trans hc7)
                clear hc7 hsu'
                go_wp2_with fail
                go_roundg (vn - k - 1)
                case rel =>
                  refine ⟨k + 1, by omega, by omega, by go_num, hid fun q' hq' => ?_, HCR.out.trans K7.out⟩
                  by_cases h1 : q' < k
                  · exact HV.out q' h1
                  · obtain rfl : q' = k := by omega
                    intro v' hv'
                    rw [HVK.out] at hv'; cases hv'
                    exact ⟨HTY.out, HNK.out, by rw [HEN.out]; rfl⟩
                case measure => omega
              · rw [ez] at hsu'
                have HEN := hid en
                have HJ := hid hj
                clear ez en hj
                go_wp2_with fail
                refine hsu'.mono ?_
                rintro e w7 ⟨rfl, hc7⟩
                have K7 := hid (K6.out.trans hc7)
                have HB7 := hid (K7.out.keep _ _ HB1.out (fun h => h))
                clear p0 p1 p2 p3 p4 p5 p6 p7 p8 p9 hc7 hsu' r1
                have p0 := cellAt HB7.out 0
                have p1 := cellAt HB7.out 1
                have p2 := cellAt HB7.out 2
                have p3 := cellAt HB7.out 3
                have p4 := cellAt HB7.out 4
                have p5 := cellAt HB7.out 5
                have p6 := cellAt HB7.out 6
                have p7 := cellAt HB7.out 7
                have p8 := cellAt HB7.out 8
                have p9 := cellAt HB7.out 9
                have r1 := cell_ch HR1.out K7.out (fun _ _ h => h)
                have HSy := hid (show w7.cell? ⟨vb, vo + k * 4 + 1, none⟩ = some (.string v.nm) ∧ w7.cell? ⟨w.heap.size, 0, none⟩ = some (.slice (some ⟨b, off, none⟩) len cap) ∧ w7.cell? ⟨w.heap.size, 1, none⟩ = some m0 ∧ w7.cell? ⟨w.heap.size, 2, none⟩ = some m1 ∧ w7.cell? ⟨w.heap.size, 3, none⟩ = some m2 ∧ w7.cell? ⟨w.heap.size, 4, none⟩ = some m3 ∧ w7.cell? ⟨w.heap.size, 5, none⟩ = some m4 ∧ w7.cell? ⟨w.heap.size, 6, none⟩ = some m5 ∧ w7.cell? ⟨w.heap.size, 7, none⟩ = some m6 ∧ w7.cell? ⟨w.heap.size, 8, none⟩ = some m7 ∧ w7.cell? ⟨w.heap.size, 9, none⟩ = some m8 from ⟨r1, progCells9 HB7.out⟩)
                have hrv := rvar ((HP1.out.no K7.out).no ((Ch.refl No w7).drew)) ((HM1.out.no K7.out).no ((Ch.refl No w7).drew)) HS.out HNO.out (j : Int) v.nm su
                rw [inZ_nat HJ.out, show Value.bool su = _ from congrArg Value.bool HSU.out.symm] at hrv
                cases hr : varUp cs ms su v.nm (some j) with
                | none =>
                  rw [hr, show varV none = .tuple #[.int .i64 (-1), .string { data := #[] }] from rfl] at hrv
                  have HR := hid hr
                  clear hr
                  go_wp2_with fail
                  have HSd := hid (show w7.drew.cell? ⟨vb, vo + k * 4 + 1, none⟩ = some (.string v.nm) ∧ w7.drew.cell? ⟨w.heap.size, 0, none⟩ = some (.slice (some ⟨b, off, none⟩) len cap) ∧ w7.drew.cell? ⟨w.heap.size, 1, none⟩ = some m0 ∧ w7.drew.cell? ⟨w.heap.size, 2, none⟩ = some m1 ∧ w7.drew.cell? ⟨w.heap.size, 3, none⟩ = some m2 ∧ w7.drew.cell? ⟨w.heap.size, 4, none⟩ = some m3 ∧ w7.drew.cell? ⟨w.heap.size, 5, none⟩ = some m4 ∧ w7.drew.cell? ⟨w.heap.size, 6, none⟩ = some m5 ∧ w7.drew.cell? ⟨w.heap.size, 7, none⟩ = some m6 ∧ w7.drew.cell? ⟨w.heap.size, 8, none⟩ = some m7 ∧ w7.drew.cell? ⟨w.heap.size, 9, none⟩ = some m8 from HSy.out)
                  go_region_held3 (fun w' => w'.cell? ⟨vb, vo + k * 4 + 1, none⟩ = some (.string v.nm) ∧ w'.cell? ⟨w.heap.size, 0, none⟩ = some (.slice (some ⟨b, off, none⟩) len cap) ∧ w'.cell? ⟨w.heap.size, 1, none⟩ = some m0 ∧ w'.cell? ⟨w.heap.size, 2, none⟩ = some m1 ∧ w'.cell? ⟨w.heap.size, 3, none⟩ = some m2 ∧ w'.cell? ⟨w.heap.size, 4, none⟩ = some m3 ∧ w'.cell? ⟨w.heap.size, 5, none⟩ = some m4 ∧ w'.cell? ⟨w.heap.size, 6, none⟩ = some m5 ∧ w'.cell? ⟨w.heap.size, 7, none⟩ = some m6 ∧ w'.cell? ⟨w.heap.size, 8, none⟩ = some m7 ∧ w'.cell? ⟨w.heap.size, 9, none⟩ = some m8) (first | with_reducible exact HSy.out | with_reducible exact HSd.out | with_reducible exact HS9.out | go_keep) (first | (go_at_call 66; refine (hrv).mono ?_; rintro e w9 ⟨rfl, hc9⟩; have K9 := hid (((Ch.refl No w7).drew).trans hc9); have HS9 := hid (show w9.cell? ⟨vb, vo + k * 4 + 1, none⟩ = some (.string v.nm) ∧ w9.cell? ⟨w.heap.size, 0, none⟩ = some (.slice (some ⟨b, off, none⟩) len cap) ∧ w9.cell? ⟨w.heap.size, 1, none⟩ = some m0 ∧ w9.cell? ⟨w.heap.size, 2, none⟩ = some m1 ∧ w9.cell? ⟨w.heap.size, 3, none⟩ = some m2 ∧ w9.cell? ⟨w.heap.size, 4, none⟩ = some m3 ∧ w9.cell? ⟨w.heap.size, 5, none⟩ = some m4 ∧ w9.cell? ⟨w.heap.size, 6, none⟩ = some m5 ∧ w9.cell? ⟨w.heap.size, 7, none⟩ = some m6 ∧ w9.cell? ⟨w.heap.size, 8, none⟩ = some m7 ∧ w9.cell? ⟨w.heap.size, 9, none⟩ = some m8 from ⟨cell_ch HSy.out.1 K9.out (fun _ _ h => h), cell_ch HSy.out.2.1 K9.out (fun _ _ h => h), cell_ch HSy.out.2.2.1 K9.out (fun _ _ h => h), cell_ch HSy.out.2.2.2.1 K9.out (fun _ _ h => h), cell_ch HSy.out.2.2.2.2.1 K9.out (fun _ _ h => h), cell_ch HSy.out.2.2.2.2.2.1 K9.out (fun _ _ h => h), cell_ch HSy.out.2.2.2.2.2.2.1 K9.out (fun _ _ h => h), cell_ch HSy.out.2.2.2.2.2.2.2.1 K9.out (fun _ _ h => h), cell_ch HSy.out.2.2.2.2.2.2.2.2.1 K9.out (fun _ _ h => h), cell_ch HSy.out.2.2.2.2.2.2.2.2.2.1 K9.out (fun _ _ h => h), cell_ch HSy.out.2.2.2.2.2.2.2.2.2.2 K9.out (fun _ _ h => h)⟩); clear hc9; clear hrv))
                  go_wp2_with fail
                  go_roundg (vn - k - 1)
                  case rel =>
                    refine ⟨k + 1, by omega, by omega, by go_num, hid fun q' hq' => ?_, HCR.out.trans (K7.out.trans K9.out)⟩
                    by_cases h1 : q' < k
                    · exact HV.out q' h1
                    · obtain rfl : q' = k := by omega
                      intro v' hv'
                      rw [HVK.out] at hv'; cases hv'
                      exact ⟨HTY.out, HNK.out, by rw [HEN.out]; exact HR.out⟩
                  case measure => omega
                | some r =>
                  obtain ⟨j', x⟩ := r
                  rw [hr, show varV (some (j', x)) = .tuple #[.int .i64 (j' : Int), .string x.ty] from rfl] at hrv
                  clear hr
                  go_wp2_with fail
                  have HSd := hid (show w7.drew.cell? ⟨vb, vo + k * 4 + 1, none⟩ = some (.string v.nm) ∧ w7.drew.cell? ⟨w.heap.size, 0, none⟩ = some (.slice (some ⟨b, off, none⟩) len cap) ∧ w7.drew.cell? ⟨w.heap.size, 1, none⟩ = some m0 ∧ w7.drew.cell? ⟨w.heap.size, 2, none⟩ = some m1 ∧ w7.drew.cell? ⟨w.heap.size, 3, none⟩ = some m2 ∧ w7.drew.cell? ⟨w.heap.size, 4, none⟩ = some m3 ∧ w7.drew.cell? ⟨w.heap.size, 5, none⟩ = some m4 ∧ w7.drew.cell? ⟨w.heap.size, 6, none⟩ = some m5 ∧ w7.drew.cell? ⟨w.heap.size, 7, none⟩ = some m6 ∧ w7.drew.cell? ⟨w.heap.size, 8, none⟩ = some m7 ∧ w7.drew.cell? ⟨w.heap.size, 9, none⟩ = some m8 from HSy.out)
                  go_region_held3 (fun w' => w'.cell? ⟨vb, vo + k * 4 + 1, none⟩ = some (.string v.nm) ∧ w'.cell? ⟨w.heap.size, 0, none⟩ = some (.slice (some ⟨b, off, none⟩) len cap) ∧ w'.cell? ⟨w.heap.size, 1, none⟩ = some m0 ∧ w'.cell? ⟨w.heap.size, 2, none⟩ = some m1 ∧ w'.cell? ⟨w.heap.size, 3, none⟩ = some m2 ∧ w'.cell? ⟨w.heap.size, 4, none⟩ = some m3 ∧ w'.cell? ⟨w.heap.size, 5, none⟩ = some m4 ∧ w'.cell? ⟨w.heap.size, 6, none⟩ = some m5 ∧ w'.cell? ⟨w.heap.size, 7, none⟩ = some m6 ∧ w'.cell? ⟨w.heap.size, 8, none⟩ = some m7 ∧ w'.cell? ⟨w.heap.size, 9, none⟩ = some m8) (first | with_reducible exact HSy.out | with_reducible exact HSd.out | with_reducible exact HS9.out | go_keep) (first | (go_at_call 66; refine (hrv).mono ?_; rintro e w9 ⟨rfl, hc9⟩; have K9 := hid (((Ch.refl No w7).drew).trans hc9); have HS9 := hid (show w9.cell? ⟨vb, vo + k * 4 + 1, none⟩ = some (.string v.nm) ∧ w9.cell? ⟨w.heap.size, 0, none⟩ = some (.slice (some ⟨b, off, none⟩) len cap) ∧ w9.cell? ⟨w.heap.size, 1, none⟩ = some m0 ∧ w9.cell? ⟨w.heap.size, 2, none⟩ = some m1 ∧ w9.cell? ⟨w.heap.size, 3, none⟩ = some m2 ∧ w9.cell? ⟨w.heap.size, 4, none⟩ = some m3 ∧ w9.cell? ⟨w.heap.size, 5, none⟩ = some m4 ∧ w9.cell? ⟨w.heap.size, 6, none⟩ = some m5 ∧ w9.cell? ⟨w.heap.size, 7, none⟩ = some m6 ∧ w9.cell? ⟨w.heap.size, 8, none⟩ = some m7 ∧ w9.cell? ⟨w.heap.size, 9, none⟩ = some m8 from ⟨cell_ch HSy.out.1 K9.out (fun _ _ h => h), cell_ch HSy.out.2.1 K9.out (fun _ _ h => h), cell_ch HSy.out.2.2.1 K9.out (fun _ _ h => h), cell_ch HSy.out.2.2.2.1 K9.out (fun _ _ h => h), cell_ch HSy.out.2.2.2.2.1 K9.out (fun _ _ h => h), cell_ch HSy.out.2.2.2.2.2.1 K9.out (fun _ _ h => h), cell_ch HSy.out.2.2.2.2.2.2.1 K9.out (fun _ _ h => h), cell_ch HSy.out.2.2.2.2.2.2.2.1 K9.out (fun _ _ h => h), cell_ch HSy.out.2.2.2.2.2.2.2.2.1 K9.out (fun _ _ h => h), cell_ch HSy.out.2.2.2.2.2.2.2.2.2.1 K9.out (fun _ _ h => h), cell_ch HSy.out.2.2.2.2.2.2.2.2.2.2 K9.out (fun _ _ h => h)⟩); clear hc9; clear hrv))
                  go_wp2_with fail
                  go_ret
                  exact ⟨.inr ⟨k, rfl, HKL.out⟩, HCH.out.trans (HCR.out.trans (K7.out.trans K9.out))⟩
      )
end Go.Proofs.YtgjpgfedlgdjhaaGreatDoor
