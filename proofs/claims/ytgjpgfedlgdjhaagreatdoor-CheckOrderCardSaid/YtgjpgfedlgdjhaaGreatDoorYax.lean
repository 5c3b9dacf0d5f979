/- Part 24. -/
import Derived.Test.YtgjpgfedlgdjhaaGreatDoorYaw
set_option linter.unusedVariables false
set_option linter.unusedSimpArgs false
set_option maxHeartbeats 64000000
set_option maxRecDepth 8192
section
namespace Go.Proofs.YtgjpgfedlgdjhaaGreatDoor
open Go.RowKit Go.W
def N8 (m : Ba) : Prop := m.fs.length ≤ 8 ∧ m.ss.length ≤ 8 ∧ m.ms.length ≤ 8 ∧ ∀ x ∈ m.ms, x.ps.length ≤ 6
structure Ir (cs : List Aj) (ms : List Ba) : Prop where
 few : Df cs
 plain : Pe cs
 mem : ∀ (i : Nat) (m : Ba), ms[i]? = some m → N8 m
set_option maxRecDepth 100000 in
set_option maxHeartbeats 64000000 in
theorem U6 {w : World} {pv : Value} {cs : List Aj} {ms : List Ba} (h : Cz w pv cs) (hm : En w cs ms) (hsz : Sv cs) :
 Calls Tryz.prog 13 #[pv] w fun e w' => Dj (Ir cs ms) e ∧ Ch No w w' := by
 have HM0 := Aa hm
 have HLN := Aa hm.len
 have HSZP := Aa hsz
 clear hm hsz
 have hp := h
 obtain ⟨cv, m0, m1, m2, m3, m4, m5, m6, m7, m8, rfl, h⟩ := h
 obtain ⟨ao, cap, rfl, hcap, hmax, _, _⟩ := h.row
 rw [List.length_map] at hcap h hp ⊢
 obtain ⟨len, Av⟩ := Ax cs.length
 rw [Av] at hcap h hp ⊢
 unfold maxLen at hmax
 obtain ⟨wa, hwa, hpb, hch⟩ := A2 w (.cells #[.slice ao len cap, m0, m1, m2, m3, m4, m5, m6, m7, m8] 31)
 have HL := Aa Av
 have HP := Aa (hp.no hch)
 have HC := Aa (h.no hch)
 have HPB := Aa hpb
 have HCH := Aa hch
 obtain ⟨p0, p1, p2, p3, p4, p5, p6, p7, p8, p9⟩ := Cp hpb
 have hz := Ac hpb
 clear Av h hp hpb hch
 have HM := Aa (HM0.out.no HCH.out)
 have hsm := Zc HP.out
 cases h12 : decide (len ≤ 12) with
 | false =>
  have hgt : ¬ len ≤ 12 := by simpa using h12
  have hgt' : 12 < len := by omega
  clear hsm
  go_in
  go_wp2
  go_ret
  exact ⟨Dj.f, HCH.out⟩
 | true =>
  have hle : len ≤ 12 := by simpa using h12
  have hle' : ¬ 12 < len := by omega
  go_in
  go_wp2_with fail
  refine hsm.mono ?_
  rintro e w1 ⟨⟨r1, rfl, hr1⟩, hc1⟩
  have HR1 := Aa hr1
  have HC1 := Aa hc1
  have hp1 := hc1.keep _ _ HPB.out (fun h => h)
  have HP1 := Aa hp1
  clear hwa hsm hr1 hc1 p0 p1 p2 p3 p4 p5 p6 p7 p8 p9
  obtain ⟨p0, p1, p2, p3, p4, p5, p6, p7, p8, p9⟩ := Cp hp1
  clear hp1
  cases r1 with
  | false =>
   go_wp2
   go_ret
   exact ⟨Dj.f, HCH.out.trans HC1.out⟩
  | true =>
   have HSM := Aa (HR1.out.1 (by first | rfl | trivial))
   have hpl := Zw (HP.out.no HC1.out) HSZP.out
   go_wp2_with fail
   refine hpl.mono ?_
   rintro e w2 ⟨⟨r2, rfl, hr2⟩, hc2⟩
   have HR2 := Aa hr2
   have HC2 := Aa (HC1.out.trans hc2)
   have HP2 := Aa (hc2.keep _ _ HP1.out (fun h => h))
   have p0' := Ab HP2.out 0
   clear hpl hr2 hc2 p0 p1 p2 p3 p4 p5 p6 p7 p8 p9
   cases r2 with
   | false =>
    go_wp2
    go_ret
    exact ⟨Dj.f, HCH.out.trans HC2.out⟩
   | true =>
    have HPL := Aa (HR2.out.1 (by first | rfl | trivial))
    go_wp2_with fail
    clear p0'
    go_loopg [3, 4, 5] len (fun g s3 s4 s5 wr => ∃ k : Nat, k ≤ len ∧ len - k ≤ g ∧ s3 = .int .i64 k ∧ Hid (∀ (q : Nat) (m : Ba), q < k → ms[q]? = some m → N8 m) ∧ Ch No w2 wr)
    case atStart => exact ⟨0, Nat.zero_le _, by omega, rfl, Aa (fun q m hq => absurd hq (Nat.not_lt_zero q)), Ch.refl _ _⟩
    case round =>
     obtain ⟨k, hk, hg, rfl, HA, hcr⟩ := hrel
     obtain ⟨w3, hw3⟩ : ∃ w3, w3 = wr := ⟨_, rfl⟩
     subst hw3
     have HCR := Aa hcr
     have HCW := Aa (HC2.out.trans hcr)
     have p0 := Ab (hcr.keep _ _ HP2.out (fun h => h)) 0
     clear hcr
     cases hd : decide (k < len) with
     | false =>
      have hkl : ¬ k < len := by simpa using hd
      go_wp2
      go_ret
      exact ⟨Dj.t ⟨HSM.out, HPL.out, fun i m hm => HA.out i m (by have := (gL hm); have := HLN.out; have := HL.out; omega) hm⟩, HCH.out.trans HCW.out⟩
     | true =>
      have hkl : k < len := by simpa using hd
      obtain ⟨c, hcs⟩ := gE (l := cs) (i := k) (by have := HL.out; omega)
      obtain ⟨m, hmi⟩ := gE (l := ms) (i := k) (by have := HL.out; have := HLN.out; omega)
      obtain ⟨cb, co, cc, ecs, hcell, _, _⟩ := (HC.out.no HCW.out).cell hcs
      rw [HL.out] at ecs
      cases ecs
      obtain ⟨q0, q1, q2, q3, q4, q5, q6, q7, q8, q9⟩ := hcell
      obtain ⟨r4, hr4⟩ : ∃ r, c.s4 = r := ⟨_, rfl⟩
      obtain ⟨r5, hr5⟩ : ∃ r, c.s5 = r := ⟨_, rfl⟩
      obtain ⟨r6, hr6⟩ : ∃ r, c.s6 = r := ⟨_, rfl⟩
      have hma := HM.out.at_ k c m hcs hmi
      have v4 := hma.fs
      have v5 := hma.ss
      have v6 := hma.ms
      rw [hr4] at v4 q4
      rw [hr5] at v5 q5
      rw [hr6] at v6 q6
      obtain ⟨a4, n4, c4⟩ := r4
      obtain ⟨a5, n5, c5⟩ := r5
      obtain ⟨a6, n6, c6⟩ := r6
      dsimp only at v4 v5 v6 q4 q5 q6
      obtain ⟨hn4, hc4, hm4⟩ := v4.shape
      obtain ⟨hn5, hc5, hm5⟩ := v5.shape
      obtain ⟨hn6, hc6, hm6⟩ := v6.shape
      unfold maxLen at hm4 hm5 hm6
      have x4 : n4 ≤ c4 := by have h1 : n4 = m.fs.length := hn4; have h2 : m.fs.length ≤ c4 := hc4; omega
      have x5 : n5 ≤ c5 := by have h1 : n5 = m.ss.length := hn5; have h2 : m.ss.length ≤ c5 := hc5; omega
      have x6 : n6 ≤ c6 := by have h1 : n6 = m.ms.length := hn6; have h2 : m.ms.length ≤ c6 := hc6; omega
      have V6 := Aa v6
      have N4 := Aa (show n4 = m.fs.length from hn4)
      have N5 := Aa (show n5 = m.ss.length from hn5)
      have N6 := Aa (show n6 = m.ms.length from hn6)
      obtain ⟨w6, hw6, hb6, hcc6⟩ := A2 w3 (.cells #[.string c.name, .string c.sup, .bool c.face, .slice c.fa c.faces.length c.fc, .slice a4 n4 c4, .slice a5 n5 c5, .slice a6 n6 c6, .pointer c.p7, .int .i64 c.line, .int .i64 c.col] 50)
      have HX6 := Aa hb6
      have HC6 := Aa (HCW.out.trans hcc6)
      have K6 := Aa (HCR.out.trans hcc6)
      have HMI := Aa hmi
      have e4 := Ab hb6 4
      have e5 := Ab hb6 5
      have e6 := Ab hb6 6
      clear hcs hmi hma v4 v5 v6 hr4 hr5 hr6 hn4 hc4 hn5 hc5 hn6 hc6 hb6 hcc6
      cases t4 : decide (n4 ≤ 8) with
      | false =>
       have u4 : ¬ n4 ≤ 8 := by simpa using t4
       have u4' : 8 < n4 := by omega
       go_wp2
       go_ret
       exact ⟨Dj.f, HCH.out.trans HC6.out⟩
      | true =>
       have u4 : n4 ≤ 8 := by simpa using t4
       have u4' : ¬ 8 < n4 := by omega
       cases t5 : decide (n5 ≤ 8) with
       | false =>
        have u5 : ¬ n5 ≤ 8 := by simpa using t5
        have u5' : 8 < n5 := by omega
        go_wp2
        go_ret
        exact ⟨Dj.f, HCH.out.trans HC6.out⟩
       | true =>
        have u5 : n5 ≤ 8 := by simpa using t5
        have u5' : ¬ 8 < n5 := by omega
        cases t6 : decide (n6 ≤ 8) with
        | false =>
         have u6 : ¬ n6 ≤ 8 := by simpa using t6
         have u6' : 8 < n6 := by omega
         go_wp2
         go_ret
         exact ⟨Dj.f, HCH.out.trans HC6.out⟩
        | true =>
         have u6 : n6 ≤ 8 := by simpa using t6
         have u6' : ¬ 8 < n6 := by omega
         go_wp2_with fail
         clear hw6 p0 q0 q1 q2 q3 q4 q5 q6 q7 q8 q9 e4 e5 e6
         go_loopg [5] n6 (fun g s5 wr => ∃ q : Nat, q ≤ n6 ∧ n6 - q ≤ g ∧ s5 = .int .i64 q ∧ Hid (∀ (t : Nat) (x : Mt), t < q → m.ms[t]? = some x → x.ps.length ≤ 6) ∧ Ch No w6 wr)
         case atStart => exact ⟨0, Nat.zero_le _, by omega, rfl, Aa (fun t x ht => absurd ht (Nat.not_lt_zero t)), Ch.refl _ _⟩
         case round =>
          obtain ⟨q, hq, hgq, rfl, HQ, hcq⟩ := hrel
          have e6 := Ab (hcq.keep _ _ HX6.out (fun h => h)) 6
          have HCQ := Aa (HC6.out.trans hcq)
          have KQ := Aa (K6.out.trans hcq)
          have HC6Q := Aa hcq
          clear hcq
          cases hdq : decide (q < n6) with
          | false =>
           have hql : ¬ q < n6 := by simpa using hdq
           go_wp2
           go_roundg (len - k - 1)
           case rel =>
            refine ⟨k + 1, by omega, by omega, by go_num, Aa fun t m' ht hm' => ?_, KQ.out⟩
            by_cases h1 : t < k
            {exact HA.out t m' h1 hm'}
            {obtain rfl : t = k := by omega
             rw [HMI.out] at hm'; cases hm'
             refine ⟨by have := N4.out; omega, by have := N5.out; omega, by have := N6.out; omega, fun x hx => ?_⟩
             obtain ⟨t', ht', rfl⟩ := List.mem_iff_getElem.1 hx
             exact HQ.out t' _ (by have := N6.out; omega) (List.getElem?_eq_getElem ht')}
           case measure => omega
          | true =>
           have hql : q < n6 := by simpa using hdq
           obtain ⟨x, hx⟩ := gE (l := m.ms) (i := q) (by have := N6.out; omega)
           obtain ⟨vb, vo, hva, v0, v1, v2, v3, v4, v5, v6, v7, v8⟩ := (V6.out.no HCQ.out).cell hx
           subst hva
           obtain ⟨pn, hpn⟩ := Ax x.ps.length
           rw [hpn] at v4
           have HPN := Aa hpn
           have HX := Aa hx
           obtain ⟨_, hpc, hpm⟩ := ((V6.out.no HCQ.out).ps x (mG hx)).shape
           unfold maxLen at hpm
           rw [hpn] at hpc
           have hpn' : pn ≤ 9223372036854775807 := by omega
           clear hpn hx
           cases t7 : decide (pn ≤ 6) with
           | false =>
            have u7 : ¬ pn ≤ 6 := by simpa using t7
            have u7' : 6 < pn := by omega
            go_wp2
            go_ret
            exact ⟨Dj.f, HCH.out.trans HCQ.out⟩
           | true =>
            have u7 : pn ≤ 6 := by simpa using t7
            have u7' : ¬ 6 < pn := by omega
            go_wp2
            go_roundg (n6 - q - 1)
            case rel =>
             refine ⟨q + 1, by omega, by omega, by go_num, Aa fun t x' ht hx' => ?_, HC6Q.out⟩
             by_cases h1 : t < q
             {exact HQ.out t x' h1 hx'}
             {obtain rfl : t = q := by omega
              rw [HX.out] at hx'; cases hx'
              have := HPN.out
              omega}
            case measure => omega
end Go.Proofs.YtgjpgfedlgdjhaaGreatDoor
end
