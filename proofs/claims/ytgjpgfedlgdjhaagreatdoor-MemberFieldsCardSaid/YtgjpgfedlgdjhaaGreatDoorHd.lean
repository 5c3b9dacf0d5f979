/- sound of the reference 08. -/
import Derived.Test.YtgjpgfedlgdjhaaGreatDoorHc
set_option linter.unusedVariables false
set_option linter.unusedSimpArgs false
namespace Go.Proofs.YtgjpgfedlgdjhaaGreatDoor
open Go.RowKit Go.W

/-- the first n interfaces of a class are right -/
def okF (cs : List Cls) (c : Cls) (n : Nat) : Prop :=
  ∀ (k : Nat) (f : ByteArray), k < n → c.faces[k]? = some f → (∃ j d, find cs f = some j ∧ cs[j]? = some d ∧ d.face = true) ∧ ∀ (q : Nat) (g : ByteArray), q < k → c.faces[q]? = some g → g ≠ f

/-- a class is right, but that it may be above itself -/
structure okC (cs : List Cls) (i : Nat) (c : Cls) : Prop where
  own : find cs c.name = some i
  sup : c.sup.toList.isEmpty = false → ∃ s d, find cs c.sup = some s ∧ cs[s]? = some d ∧ d.face = false
  faces : okF cs c c.faces.length

theorem findZ_none {cs : List Cls} {nm : ByteArray} (h : find cs nm = none) : findZ cs nm = -1 := by unfold findZ; rw [h]
theorem findZ_some {cs : List Cls} {nm : ByteArray} {s : Nat} (h : find cs nm = some s) : findZ cs nm = (s : Int) := by unfold findZ; rw [h]

theorem ClssAt.face {w : World} {b off len cap : Nat} {cs : List Cls} (h : ClssAt w (.slice (some ⟨b, off, none⟩) len cap) cs) {k : Nat} {d : Cls} (hk : cs[k]? = some d) :
    w.cell? ⟨b, off + k * 10 + 2, none⟩ = some (.bool d.face) := by
  obtain ⟨b', off', cap', e, hcell, _⟩ := h.cell hk
  cases e
  exact hcell.q2

set_option maxHeartbeats 8000000 in
theorem rsound_own {w : World} {pv : Value} {cs : List Cls} (h : ProgAt w pv cs) {i : Nat} {c : Cls} (hi : cs[i]? = some c) (hl : c.faces.length ≤ 1000) :
    Calls Tryz.prog 63 #[pv, .int .i64 i] w fun e w' => BoolIs (okC cs i c) e ∧ Ch No w w' := by
  have hp := h
  obtain ⟨cv, m0, m1, m2, m3, m4, m5, m6, m7, m8, rfl, h⟩ := h
  obtain ⟨b, off, cap, rfl, hcell, h1, h2⟩ := h.cell hi
  have hil := (List.getElem?_eq_some_iff.1 hi).1
  have hst := h.faces c (List.mem_of_getElem? hi)
  unfold maxLen at h2
  obtain ⟨len, hlen⟩ : ∃ len, cs.length = len := ⟨_, rfl⟩
  rw [hlen] at h1 hp hil h ⊢
  obtain ⟨wa, hwa⟩ : ∃ wa, w.alloc (.cells #[.slice (some ⟨b, off, none⟩) len cap, m0, m1, m2, m3, m4, m5, m6, m7, m8] 31) = wa := ⟨_, rfl⟩
  have hpb := heap_alloc_new w (.cells #[.slice (some ⟨b, off, none⟩) len cap, m0, m1, m2, m3, m4, m5, m6, m7, m8] 31)
  have hch := (Ch.refl No w).alloc (.cells #[.slice (some ⟨b, off, none⟩) len cap, m0, m1, m2, m3, m4, m5, m6, m7, m8] 31)
  rw [hwa] at hch hpb
  obtain ⟨q0, q1, q2, q3, q4, q5, q6, q7, q8, q9⟩ := hcell
  have r0 := cell_ch q0 hch (fun _ _ h => h)
  have r1 := cell_ch q1 hch (fun _ _ h => h)
  have r2 := cell_ch q2 hch (fun _ _ h => h)
  have r3 := cell_ch q3 hch (fun _ _ h => h)
  have r4 := cell_ch q4 hch (fun _ _ h => h)
  have r5 := cell_ch q5 hch (fun _ _ h => h)
  have r6 := cell_ch q6 hch (fun _ _ h => h)
  have r7 := cell_ch q7 hch (fun _ _ h => h)
  have r8 := cell_ch q8 hch (fun _ _ h => h)
  have r9 := cell_ch q9 hch (fun _ _ h => h)
  obtain ⟨wb, hwb⟩ : ∃ wb, wa.alloc (.cells #[.string c.name, .string c.sup, .bool c.face, .slice c.fa c.faces.length c.fc, .slice c.s4.1 c.s4.2.1 c.s4.2.2, .slice c.s5.1 c.s5.2.1 c.s5.2.2, .slice c.s6.1 c.s6.2.1 c.s6.2.2, .pointer c.p7, .int .i64 c.line, .int .i64 c.col] 50) = wb := ⟨_, rfl⟩
  have hcb := heap_alloc_new wa (.cells #[.string c.name, .string c.sup, .bool c.face, .slice c.fa c.faces.length c.fc, .slice c.s4.1 c.s4.2.1 c.s4.2.2, .slice c.s5.1 c.s5.2.1 c.s5.2.2, .slice c.s6.1 c.s6.2.1 c.s6.2.2, .pointer c.p7, .int .i64 c.line, .int .i64 c.col] 50)
  have hchb := (Ch.refl No wa).alloc (.cells #[.string c.name, .string c.sup, .bool c.face, .slice c.fa c.faces.length c.fc, .slice c.s4.1 c.s4.2.1 c.s4.2.2, .slice c.s5.1 c.s5.2.1 c.s5.2.2, .slice c.s6.1 c.s6.2.1 c.s6.2.2, .pointer c.p7, .int .i64 c.line, .int .i64 c.col] 50)
  rw [hwb] at hchb hcb
  have hpb2 := hchb.keep _ _ hpb (fun h => h)
  have hch2 := hch.trans hchb
  have hwl := lt_size hpb
  have c0 := cellAt hpb 0
  have d0 := cellAt hcb 0
  have d1 := cellAt hcb 1
  have d2 := cellAt hcb 2
  have d3 := cellAt hcb 3
  have p0 := cellAt hpb2 0
  have p1 := cellAt hpb2 1
  have p2 := cellAt hpb2 2
  have p3 := cellAt hpb2 3
  have p4 := cellAt hpb2 4
  have p5 := cellAt hpb2 5
  have p6 := cellAt hpb2 6
  have p7 := cellAt hpb2 7
  have p8 := cellAt hpb2 8
  have p9 := cellAt hpb2 9
  have HPB := hid hpb2
  have HCB := hid hcb
  have HP := hid (hp.no hch2)
  have HC := hid (h.no hch2)
  have HST := hid (hst.no hch2)
  have HL := hid hlen
  have HI := hid hi
  have z1 := hch.size
  have z2 := hchb.size
  clear q0 q1 q2 q3 q4 q5 q6 q7 q8 q9 hlen h hpb hcb hpb2 hst hp hi
  have hf0 := rfind HP.out c.name
  by_cases hown : find cs c.name = some i
  · rw [findZ_some hown] at hf0
    have hfl : c.faces.length ≤ 9223372036854775807 := by omega
    have HOWN := hid hown
    clear hown
    go_enter Tryz.func63, Tryz.ntmps63
    go_wp2_with fail
    refine hf0.mono ?_
    rintro e w3 ⟨rfl, hc3⟩
    clear hf0 hwa hwb
    have HP3 := hid (hc3.keep _ _ HPB.out (fun h => h))
    have HD3 := hid (hc3.keep _ _ HCB.out (fun h => h))
    have p3_0 := cellAt HP3.out 0
    have p3_1 := cellAt HP3.out 1
    have p3_2 := cellAt HP3.out 2
    have p3_3 := cellAt HP3.out 3
    have p3_4 := cellAt HP3.out 4
    have p3_5 := cellAt HP3.out 5
    have p3_6 := cellAt HP3.out 6
    have p3_7 := cellAt HP3.out 7
    have p3_8 := cellAt HP3.out 8
    have p3_9 := cellAt HP3.out 9
    have d3_0 := cellAt HD3.out 0
    have d3_1 := cellAt HD3.out 1
    have d3_2 := cellAt HD3.out 2
    have d3_3 := cellAt HD3.out 3
    cases hs : c.sup.toList.isEmpty with
    | true =>
      go_wp2_with fail
      go_loopg [7] c.faces.length (fun g s7 wr => ∃ k : Nat, k ≤ c.faces.length ∧ c.faces.length - k ≤ g ∧ s7 = .int .i64 k ∧ Hid (okF cs c k) ∧ Ch No wb wr)
      case atStart => exact ⟨0, Nat.zero_le _, by omega, rfl, hid (fun k f h => absurd h (Nat.not_lt_zero _)), hc3⟩
      case round =>
        obtain ⟨k, hk, hg, rfl, HN, hc5⟩ := hrel
        have HP5 := hid (hc5.keep _ _ HPB.out (fun h => h))
        have HD5 := hid (hc5.keep _ _ HCB.out (fun h => h))
        have p5_0 := cellAt HP5.out 0
        have p5_1 := cellAt HP5.out 1
        have p5_2 := cellAt HP5.out 2
        have p5_3 := cellAt HP5.out 3
        have p5_4 := cellAt HP5.out 4
        have p5_5 := cellAt HP5.out 5
        have p5_6 := cellAt HP5.out 6
        have p5_7 := cellAt HP5.out 7
        have p5_8 := cellAt HP5.out 8
        have p5_9 := cellAt HP5.out 9
        have d5_0 := cellAt HD5.out 0
        have d5_1 := cellAt HD5.out 1
        have d5_2 := cellAt HD5.out 2
        have d5_3 := cellAt HD5.out 3
        cases hd : decide (k < c.faces.length) with
        | false =>
          go_wp2_with fail
          go_ret
          have hkl : ¬ k < c.faces.length := by simpa using hd
          have hkk : k = c.faces.length := by omega
          exact ⟨BoolIs.t ⟨HOWN.out, (fun h => by rw [hs] at h; cases h), by rw [← hkk]; exact HN.out⟩, hch2.trans hc5⟩
        | true =>
          have hkl : k < c.faces.length := by simpa using hd
          obtain ⟨x, hx⟩ : ∃ x, c.faces[k]? = some x := ⟨_, List.getElem?_eq_getElem hkl⟩
          obtain ⟨_, fb, fo, hfa, hq⟩ := (HST.out.no hc5).cell hx
          have HX := hid hx
          have HFA := hid hfa
          rw [hfa] at d5_3
          clear hx hfa
          cases hf : find cs x with
          | none =>
            have hz := findZ_none hf
            have HF := hid hf
            go_wp2_with fail
            go_region_with (go_at_call 92; refine (rfind (HP.out.no (hc5.drew)) x).mono ?_; rintro e w6 ⟨rfl, hc6⟩; rw [hz])
            all_goals (
              clear hf
              go_wp2_with fail
              go_ret
              refine ⟨BoolIs.f fun h => ?_, hch2.trans (hc5.drew.trans hc6)⟩
              obtain ⟨⟨j, d, h5, _⟩, _⟩ := h.faces k x hkl HX.out
              rw [HF.out] at h5; cases h5)
          | some s =>
            obtain ⟨d, hds, _⟩ := find_some hf
            have hsl : s < len := by have := (List.getElem?_eq_some_iff.1 hds).1; rw [HL.out] at this; exact this
            have hz := findZ_some hf
            have HF := hid hf
            have HD := hid hds
            clear hds hf
            cases hfd : d.face with
            | false =>
              go_wp2_with fail
              go_region_with (go_at_call 92; refine (rfind (HP.out.no (hc5.drew)) x).mono ?_; rintro e w6 ⟨rfl, hc6⟩; rw [hz])
              all_goals (
                have hc56 : Ch No wb w6 := hc5.drew.trans hc6
                have hfc := ((HC.out.no hc56).face HD.out)
                rw [hfd] at hfc
                have HP6 := hid (hc56.keep _ _ HPB.out (fun h => h))
                have HD6 := hid (hc56.keep _ _ HCB.out (fun h => h))
                have p6_0 := cellAt HP6.out 0
                have p6_1 := cellAt HP6.out 1
                have p6_2 := cellAt HP6.out 2
                have p6_3 := cellAt HP6.out 3
                have p6_4 := cellAt HP6.out 4
                have p6_5 := cellAt HP6.out 5
                have p6_6 := cellAt HP6.out 6
                have p6_7 := cellAt HP6.out 7
                have p6_8 := cellAt HP6.out 8
                have p6_9 := cellAt HP6.out 9
                go_wp2_with fail
                go_ret
                refine ⟨BoolIs.f fun h => ?_, hch2.trans hc56⟩
                obtain ⟨⟨j, d', h5, h6, h7⟩, _⟩ := h.faces k x hkl HX.out
                rw [HF.out] at h5; cases h5
                rw [HD.out] at h6; cases h6
                rw [hfd] at h7; cases h7)
            | true =>
              go_wp2_with fail
              go_region_with (go_at_call 92; refine (rfind (HP.out.no (hc5.drew)) x).mono ?_; rintro e w6 ⟨rfl, hc6⟩; rw [hz])
              all_goals (
                have hc56 : Ch No wb w6 := hc5.drew.trans hc6
                have hfc := ((HC.out.no hc56).face HD.out)
                rw [hfd] at hfc
                have HP6 := hid (hc56.keep _ _ HPB.out (fun h => h))
                have HD6 := hid (hc56.keep _ _ HCB.out (fun h => h))
                have p6_0 := cellAt HP6.out 0
                have p6_1 := cellAt HP6.out 1
                have p6_2 := cellAt HP6.out 2
                have p6_3 := cellAt HP6.out 3
                have p6_4 := cellAt HP6.out 4
                have p6_5 := cellAt HP6.out 5
                have p6_6 := cellAt HP6.out 6
                have p6_7 := cellAt HP6.out 7
                have p6_8 := cellAt HP6.out 8
                have p6_9 := cellAt HP6.out 9
                have d6_0 := cellAt HD6.out 0
                have d6_1 := cellAt HD6.out 1
                have d6_2 := cellAt HD6.out 2
                have d6_3 := cellAt HD6.out 3
                rw [HFA.out] at d6_3
                go_wp2_with fail
                go_loopg [9] (k + 1) (fun g s9 wr => ∃ (q n : Nat), q ≤ k ∧ k - q ≤ g ∧ s9 = .int .i64 q ∧ Hid (∀ (q' : Nat) (y : ByteArray), q' < q → c.faces[q']? = some y → y ≠ x) ∧ wr = w6.drewN n)
                case atStart => exact ⟨0, 0, Nat.zero_le _, by omega, rfl, hid (fun q y h => absurd h (Nat.not_lt_zero _)), rfl⟩
                case round =>
                  obtain ⟨q, n, hq1, hgq, rfl, HQ, rfl⟩ := hrel
                  cases hdq : decide (q < k) with
                  | false =>
                    go_wp2_with fail
                    go_roundg (c.faces.length - k - 1)
                    case rel =>
                      refine ⟨k + 1, by omega, by omega, by go_num, hid (fun j f hj hjf => ?_), hc56.drewN n⟩
                      have hqk : ¬ q < k := by simpa using hdq
                      by_cases hjk : j < k
                      · exact HN.out j f hjk hjf
                      · have : j = k := by omega
                        subst this
                        rw [HX.out] at hjf; cases hjf
                        exact ⟨⟨s, d, HF.out, HD.out, hfd⟩, fun q' g' h1 h2 => HQ.out q' g' (by omega) h2⟩
                    case measure => omega
                  | true =>
                    have hqk : q < k := by simpa using hdq
                    obtain ⟨y, hy⟩ : ∃ y, c.faces[q]? = some y := ⟨_, List.getElem?_eq_getElem (by omega)⟩
                    obtain ⟨_, fb2, fo2, hfa2, hqy⟩ := (HST.out.no hc56).cell hy
                    rw [HFA.out] at hfa2
                    cases hfa2
                    have hqx := cell_ch hq (((Ch.refl No _).drew).trans hc6) (fun _ _ h => h)
                    have HY := hid hy
                    clear hy
                    cases e0 : (y.toList == x.toList) with
                    | true =>
                      go_wp2_with fail
                      go_quiet (fail)
                      go_wp2_with fail
                      go_ret
                      have hyx : y = x := by rw [streq] at e0; simpa using e0
                      refine ⟨BoolIs.f fun h => ?_, (hch2.trans (hc56.drewN n)).drewN _⟩
                      exact (h.faces k x hkl HX.out).2 q y hqk HY.out hyx
                    | false =>
                      go_wp2_with fail
                      go_quiet (fail)
                      go_wp2_with fail
                      go_roundg (k - q - 1)
                      case rel =>
                        have hyx : y ≠ x := by rw [streq] at e0; simpa using e0
                        refine ⟨q + 1, _, by omega, by omega, by go_num, hid (fun q' z h1 h2 => ?_), rfl⟩
                        by_cases hqq : q' < q
                        · exact HQ.out q' z hqq h2
                        · have : q' = q := by omega
                          subst this
                          rw [HY.out] at h2; cases h2; exact hyx
                      case measure => omega)
    | false =>
      go_wp2_with fail
      refine (rfind (HP.out.no hc3) c.sup).mono ?_
      rintro e w4 ⟨rfl, hc34⟩
      have hc4 := hc3.trans hc34
      have HP4 := hid (hc4.keep _ _ HPB.out (fun h => h))
      have HD4 := hid (hc4.keep _ _ HCB.out (fun h => h))
      have p4_0 := cellAt HP4.out 0
      have p4_1 := cellAt HP4.out 1
      have p4_2 := cellAt HP4.out 2
      have p4_3 := cellAt HP4.out 3
      have p4_4 := cellAt HP4.out 4
      have p4_5 := cellAt HP4.out 5
      have p4_6 := cellAt HP4.out 6
      have p4_7 := cellAt HP4.out 7
      have p4_8 := cellAt HP4.out 8
      have p4_9 := cellAt HP4.out 9
      have d4_0 := cellAt HD4.out 0
      have d4_1 := cellAt HD4.out 1
      have d4_2 := cellAt HD4.out 2
      have d4_3 := cellAt HD4.out 3
      cases hf : find cs c.sup with
      | none =>
        rw [findZ_none hf]
        go_wp2_with fail
        go_ret
        refine ⟨BoolIs.f fun h => ?_, hch2.trans hc4⟩
        obtain ⟨s, d, h5, _⟩ := h.sup hs
        rw [hf] at h5; cases h5
      | some s =>
        rw [findZ_some hf]
        obtain ⟨d, hd, _⟩ := find_some hf
        have hfc := ((HC.out.no hc4).face hd)
        have hsl : s < len := by have := (List.getElem?_eq_some_iff.1 hd).1; rw [HL.out] at this; exact this
        have HF := hid hf
        have HD := hid hd
        clear hf hd
        cases hfd : d.face with
        | true =>
          rw [hfd] at hfc
          go_wp2_with fail
          go_ret
          refine ⟨BoolIs.f fun h => ?_, hch2.trans hc4⟩
          obtain ⟨s', d', h5, h6, h7⟩ := h.sup hs
          rw [HF.out] at h5; cases h5
          rw [HD.out] at h6; cases h6
          rw [hfd] at h7; cases h7
        | false =>
          rw [hfd] at hfc
          go_wp2_with fail
          go_loopg [7] c.faces.length (fun g s7 wr => ∃ k : Nat, k ≤ c.faces.length ∧ c.faces.length - k ≤ g ∧ s7 = .int .i64 k ∧ Hid (okF cs c k) ∧ Ch No wb wr)
          case atStart => exact ⟨0, Nat.zero_le _, by omega, rfl, hid (fun k f h => absurd h (Nat.not_lt_zero _)), hc4⟩
          case round =>
            obtain ⟨k, hk, hg, rfl, HN, hc5⟩ := hrel
            have HP5 := hid (hc5.keep _ _ HPB.out (fun h => h))
            have HD5 := hid (hc5.keep _ _ HCB.out (fun h => h))
            have p5_0 := cellAt HP5.out 0
            have p5_1 := cellAt HP5.out 1
            have p5_2 := cellAt HP5.out 2
            have p5_3 := cellAt HP5.out 3
            have p5_4 := cellAt HP5.out 4
            have p5_5 := cellAt HP5.out 5
            have p5_6 := cellAt HP5.out 6
            have p5_7 := cellAt HP5.out 7
            have p5_8 := cellAt HP5.out 8
            have p5_9 := cellAt HP5.out 9
            have d5_0 := cellAt HD5.out 0
            have d5_1 := cellAt HD5.out 1
            have d5_2 := cellAt HD5.out 2
            have d5_3 := cellAt HD5.out 3
            cases hd : decide (k < c.faces.length) with
            | false =>
              go_wp2_with fail
              go_ret
              have hkl : ¬ k < c.faces.length := by simpa using hd
              have hkk : k = c.faces.length := by omega
              exact ⟨BoolIs.t ⟨HOWN.out, (fun _ => ⟨s, d, HF.out, HD.out, hfd⟩), by rw [← hkk]; exact HN.out⟩, hch2.trans hc5⟩
            | true =>
              have hkl : k < c.faces.length := by simpa using hd
              obtain ⟨x, hx⟩ : ∃ x, c.faces[k]? = some x := ⟨_, List.getElem?_eq_getElem hkl⟩
              obtain ⟨_, fb, fo, hfa, hq⟩ := (HST.out.no hc5).cell hx
              have HX := hid hx
              have HGA := hid hfa
              rw [hfa] at d5_3
              clear hx hfa
              cases hf : find cs x with
              | none =>
                have hz := findZ_none hf
                have HG := hid hf
                go_wp2_with fail
                go_region_with (go_at_call 92; refine (rfind (HP.out.no (hc5.drew)) x).mono ?_; rintro e w6 ⟨rfl, hc6⟩; rw [hz])
                all_goals (
                  clear hf
                  go_wp2_with fail
                  go_ret
                  refine ⟨BoolIs.f fun h => ?_, hch2.trans (hc5.drew.trans hc6)⟩
                  obtain ⟨⟨j, d, h5, _⟩, _⟩ := h.faces k x hkl HX.out
                  rw [HG.out] at h5; cases h5)
              | some s =>
                obtain ⟨d, hds, _⟩ := find_some hf
                have hsl : s < len := by have := (List.getElem?_eq_some_iff.1 hds).1; rw [HL.out] at this; exact this
                have hz := findZ_some hf
                have HG := hid hf
                have HE := hid hds
                clear hds hf
                cases hge : d.face with
                | false =>
                  go_wp2_with fail
                  go_region_with (go_at_call 92; refine (rfind (HP.out.no (hc5.drew)) x).mono ?_; rintro e w6 ⟨rfl, hc6⟩; rw [hz])
                  all_goals (
                    have hc56 : Ch No wb w6 := hc5.drew.trans hc6
                    have hfc := ((HC.out.no hc56).face HE.out)
                    rw [hge] at hfc
                    have HP6 := hid (hc56.keep _ _ HPB.out (fun h => h))
                    have HD6 := hid (hc56.keep _ _ HCB.out (fun h => h))
                    have p6_0 := cellAt HP6.out 0
                    have p6_1 := cellAt HP6.out 1
                    have p6_2 := cellAt HP6.out 2
                    have p6_3 := cellAt HP6.out 3
                    have p6_4 := cellAt HP6.out 4
                    have p6_5 := cellAt HP6.out 5
                    have p6_6 := cellAt HP6.out 6
                    have p6_7 := cellAt HP6.out 7
                    have p6_8 := cellAt HP6.out 8
                    have p6_9 := cellAt HP6.out 9
                    go_wp2_with fail
                    go_ret
                    refine ⟨BoolIs.f fun h => ?_, hch2.trans hc56⟩
                    obtain ⟨⟨j, d', h5, h6, h7⟩, _⟩ := h.faces k x hkl HX.out
                    rw [HG.out] at h5; cases h5
                    rw [HE.out] at h6; cases h6
                    rw [hge] at h7; cases h7)
                | true =>
                  go_wp2_with fail
                  go_region_with (go_at_call 92; refine (rfind (HP.out.no (hc5.drew)) x).mono ?_; rintro e w6 ⟨rfl, hc6⟩; rw [hz])
                  all_goals (
                    have hc56 : Ch No wb w6 := hc5.drew.trans hc6
                    have hfc := ((HC.out.no hc56).face HE.out)
                    rw [hge] at hfc
                    have HP6 := hid (hc56.keep _ _ HPB.out (fun h => h))
                    have HD6 := hid (hc56.keep _ _ HCB.out (fun h => h))
                    have p6_0 := cellAt HP6.out 0
                    have p6_1 := cellAt HP6.out 1
                    have p6_2 := cellAt HP6.out 2
                    have p6_3 := cellAt HP6.out 3
                    have p6_4 := cellAt HP6.out 4
                    have p6_5 := cellAt HP6.out 5
                    have p6_6 := cellAt HP6.out 6
                    have p6_7 := cellAt HP6.out 7
                    have p6_8 := cellAt HP6.out 8
                    have p6_9 := cellAt HP6.out 9
                    have d6_0 := cellAt HD6.out 0
                    have d6_1 := cellAt HD6.out 1
                    have d6_2 := cellAt HD6.out 2
                    have d6_3 := cellAt HD6.out 3
                    rw [HGA.out] at d6_3
                    go_wp2_with fail
                    go_loopg [9] (k + 1) (fun g s9 wr => ∃ (q n : Nat), q ≤ k ∧ k - q ≤ g ∧ s9 = .int .i64 q ∧ Hid (∀ (q' : Nat) (y : ByteArray), q' < q → c.faces[q']? = some y → y ≠ x) ∧ wr = w6.drewN n)
                    case atStart => exact ⟨0, 0, Nat.zero_le _, by omega, rfl, hid (fun q y h => absurd h (Nat.not_lt_zero _)), rfl⟩
                    case round =>
                      obtain ⟨q, n, hq1, hgq, rfl, HQ, rfl⟩ := hrel
                      cases hdq : decide (q < k) with
                      | false =>
                        go_wp2_with fail
                        go_roundg (c.faces.length - k - 1)
                        case rel =>
                          refine ⟨k + 1, by omega, by omega, by go_num, hid (fun j f hj hjf => ?_), hc56.drewN n⟩
                          have hqk : ¬ q < k := by simpa using hdq
                          by_cases hjk : j < k
                          · exact HN.out j f hjk hjf
                          · have : j = k := by omega
                            subst this
                            rw [HX.out] at hjf; cases hjf
                            exact ⟨⟨s, d, HG.out, HE.out, hge⟩, fun q' g' h1 h2 => HQ.out q' g' (by omega) h2⟩
                        case measure => omega
                      | true =>
                        have hqk : q < k := by simpa using hdq
                        obtain ⟨y, hy⟩ : ∃ y, c.faces[q]? = some y := ⟨_, List.getElem?_eq_getElem (by omega)⟩
                        obtain ⟨_, fb2, fo2, hfa2, hqy⟩ := (HST.out.no hc56).cell hy
                        rw [HGA.out] at hfa2
                        cases hfa2
                        have hqx := cell_ch hq (((Ch.refl No _).drew).trans hc6) (fun _ _ h => h)
                        have HY := hid hy
                        clear hy
                        cases e0 : (y.toList == x.toList) with
                        | true =>
                          go_wp2_with fail
                          go_quiet (fail)
                          go_wp2_with fail
                          go_ret
                          have hyx : y = x := by rw [streq] at e0; simpa using e0
                          refine ⟨BoolIs.f fun h => ?_, (hch2.trans (hc56.drewN n)).drewN _⟩
                          exact (h.faces k x hkl HX.out).2 q y hqk HY.out hyx
                        | false =>
                          go_wp2_with fail
                          go_quiet (fail)
                          go_wp2_with fail
                          go_roundg (k - q - 1)
                          case rel =>
                            have hyx : y ≠ x := by rw [streq] at e0; simpa using e0
                            refine ⟨q + 1, _, by omega, by omega, by go_num, hid (fun q' z h1 h2 => ?_), rfl⟩
                            by_cases hqq : q' < q
                            · exact HQ.out q' z hqq h2
                            · have : q' = q := by omega
                              subst this
                              rw [HY.out] at h2; cases h2; exact hyx
                          case measure => omega)
  · have hne : (findZ cs c.name != (i : Int)) = true := by
      unfold findZ
      cases hf : find cs c.name with
      | none => simp
      | some j =>
        have : j ≠ i := fun e => hown (by rw [hf, e])
        simp; omega
    have HN := hid hown
    clear hown
    go_enter Tryz.func63, Tryz.ntmps63
    go_wp2_with fail
    refine hf0.mono ?_
    rintro e w3 ⟨rfl, hc3⟩
    clear hf0 hwa hwb
    go_wp2_with fail
    go_ret
    exact ⟨BoolIs.f fun h => HN.out h.own, hch2.trans hc3⟩
end Go.Proofs.YtgjpgfedlgdjhaaGreatDoor
