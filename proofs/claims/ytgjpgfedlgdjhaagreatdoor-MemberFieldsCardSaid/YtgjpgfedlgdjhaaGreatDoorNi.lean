/- MemberFields: all fields of a class are told, those above first, each once. -/
import Derived.Test.YtgjpgfedlgdjhaaGreatDoorNf
import Derived.Test.YtgjpgfedlgdjhaaGreatDoorNh
set_option linter.unusedVariables false
set_option linter.unusedSimpArgs false
set_option maxRecDepth 8192
namespace Go.Proofs.YtgjpgfedlgdjhaaGreatDoor
open Go.RowKit Go.W

theorem fewM_of {cs : List Cls} {ms : List Mem} (h : SmallM cs ms) : ∀ m ∈ ms, FewM m := by
  intro m hm
  obtain ⟨i, hi, rfl⟩ := List.mem_iff_getElem.1 hm
  obtain ⟨h1, h2, h3, h4⟩ := h.mem i _ (List.getElem?_eq_getElem hi)
  exact ⟨by omega, by omega, by omega, fun x hx => by have := h4 x hx; omega⟩
theorem upvAny {o : Option MbR} {B : Nat} {e : Ending} {w' : World} (h : UpV o B e w') : ∃ (yc : Int) (yn yt : ByteArray) (sa : Option Addr) (sn sc : Nat) (ys yb is : Bool), e = .returned (.tuple #[.agg #[.int .i64 yc, .string yn, .string yt, .slice sa sn sc, .bool ys, .bool yb], .bool is]) ∧ ∀ y, o = some y → yc = y.cls ∧ is = true := by
  cases o with
  | none => exact ⟨_, _, _, _, _, _, _, _, _, h, fun y hy => by cases hy⟩
  | some x =>
    obtain ⟨sa, sn, sc, he, _⟩ := h
    exact ⟨_, _, _, _, _, _, _, _, _, he, fun y hy => by cases hy; exact ⟨rfl, rfl⟩⟩
theorem few10 {cs : List Cls} {ms : List Mem} (h : SmallM cs ms) : FewP ms := fun m hm x hx => (fewM_of h m hm).ps x hx

theorem ownCell {w : World} {base n cap : Nat} {e : TypeId} {ao : Option Addr} {xs : List Value} (h : w.ownsRow base e 1 (.slice ao n cap) n xs) {i : Nat} {x : Value} (hi : xs[i]? = some x) : ∃ b off, ao = some ⟨b, off, none⟩ ∧ w.cell? ⟨b, off + i, none⟩ = some x := by
  have hl := h.1
  rcases h.2 with ⟨_, h0⟩ | ⟨g, cap', cur, hv, hg, hh, h4, h5, h6, h7⟩
  · have := (List.getElem?_eq_some_iff.1 hi).1
    omega
  · cases hv
    refine ⟨g, 0, rfl, ?_⟩
    rw [cellAt hh, Nat.zero_add, ← Array.getElem?_toList]
    rw [← h7, List.getElem?_take] at hi
    split at hi
    · exact hi
    · cases hi
theorem FvOwn.cell {w : World} {base n cap : Nat} {ao : Option Addr} {l : List (Nat × Vr)} (h : FvOwn w base (.slice ao n cap) l) {i : Nat} {p : Nat × Vr} (hi : l[i]? = some p) : ∃ b off, ao = some ⟨b, off, none⟩ ∧ w.cell? ⟨b, off + i * 6, none⟩ = some (.int .i64 p.1) ∧ w.cell? ⟨b, off + i * 6 + 1, none⟩ = some (.string p.2.nm) ∧ w.cell? ⟨b, off + i * 6 + 2, none⟩ = some (.string p.2.ty) := by
  obtain ⟨ao', cap', e, _, _, _, h7⟩ := h.at_
  cases e
  obtain ⟨b, off, rfl, h8⟩ := h7 (by rw [List.length_map]; have := (List.getElem?_eq_some_iff.1 hi).1; omega)
  have h9 := fun j hj => h8 i (FvC p) (by rw [List.getElem?_map, hi]; rfl) j hj
  exact ⟨b, off, rfl, h9 0 (by omega), h9 1 (by omega), h9 2 (by omega)⟩
theorem fewFof {cs : List Cls} {ms : List Mem} (h : SmallM cs ms) : FewF ms := by
  intro m hm
  obtain ⟨i, hi, rfl⟩ := List.mem_iff_getElem.1 hm
  obtain ⟨h1, h2, h3, h4⟩ := h.mem i _ (List.getElem?_eq_getElem hi)
  omega
theorem fieldsM_sz {cs : List Cls} {ms : List Mem} (h : SzM ms) (o : Option Nat) : ∀ p ∈ fieldsM cs ms o, p.2.nm.size ≤ maxLen := by
  intro p hp
  unfold fieldsM at hp
  obtain ⟨i, _, hi⟩ := List.mem_flatMap.1 hp
  unfold fsOf at hi
  cases hm : ms[i]? with
  | none => rw [hm] at hi; simp at hi
  | some m =>
    rw [hm] at hi
    obtain ⟨v, hv, rfl⟩ := List.mem_map.1 hi
    exact ((h m (List.mem_of_getElem? hm)).fs v hv).1

set_option maxRecDepth 100000 in
set_option maxHeartbeats 64000000 in
theorem law_mfields {w : World} {pv : Value} {cs : List Cls} {ms : List Mem} (hT : Tab w) (h : ProgAt w pv cs) (hm : MemsAt w cs ms) (hsz : SzP cs) (hszm : SzM ms) :
    Calls Tryz.prog 6 #[pv] w fun e w' => e = .returned (.bool true) ∧ Ch No w w' := by
  have hfld : ∀ (a l c : Int) (w : World), (Instr.field 34 (.agg #[.int .i64 a, .int .i64 l, .int .i64 c]) 0).run Tryz.prog w = .ok (.int .i64 a) w := fun _ _ _ _ => rfl
  have HT := hid hT
  have HM0 := hid hm
  have HSZ := hid hsz
  have HSZM := hid hszm
  have HLN := hid hm.len
  have HP0 := hid h
  have haw := awake10 (hT.no ((Ch.refl No w).alloc (.cells #[] 9)))
  clear hT hm hsz hszm haw
  have hp := h
  obtain ⟨cv, m0, m1, m2, m3, m4, m5, m6, m7, m8, rfl, h⟩ := h
  obtain ⟨ao, cap, rfl, hcap, hmax, _, _⟩ := h.row
  rw [List.length_map] at hcap h hp ⊢
  obtain ⟨len, hlen⟩ : ∃ len, cs.length = len := ⟨_, rfl⟩
  rw [hlen] at hcap h hp ⊢
  unfold maxLen at hmax
  obtain ⟨wa, hwa⟩ : ∃ wa, w.alloc (.cells #[.slice ao len cap, m0, m1, m2, m3, m4, m5, m6, m7, m8] 31) = wa := ⟨_, rfl⟩
  have hpb := heap_alloc_new w (.cells #[.slice ao len cap, m0, m1, m2, m3, m4, m5, m6, m7, m8] 31)
  have hch := (Ch.refl No w).alloc (.cells #[.slice ao len cap, m0, m1, m2, m3, m4, m5, m6, m7, m8] 31)
  rw [hwa] at hch hpb
  have HL := hid hlen
  have HP := hid (hp.no hch)
  have HC := hid (h.no hch)
  have HPB := hid hpb
  have HCH := hid hch
  have p0 := cellAt hpb 0
  have p1 := cellAt hpb 1
  have p2 := cellAt hpb 2
  have p3 := cellAt hpb 3
  have p4 := cellAt hpb 4
  have p5 := cellAt hpb 5
  have p6 := cellAt hpb 6
  have p7 := cellAt hpb 7
  have p8 := cellAt hpb 8
  have p9 := cellAt hpb 9
  have hz := lt_size hpb
  clear hlen h hp hpb hch
  have HCLS : Hid (ClssAt w (.slice ao len cap) cs) := by
    obtain ⟨_, _, _, _, _, _, _, _, _, _, e, hc⟩ := HP0.out
    rw [List.length_map, HL.out] at e
    cases e
    exact hid hc
  have haw := awake10 (HT.out.no HCH.out)
  go_enter Tryz.func6, Tryz.ntmps6
  go_wp2_with fail
  refine haw.mono ?_
  rintro e w1 ⟨rfl, hc1⟩
  have HC1 := hid (HCH.out.trans hc1)
  have HP1 := hid (hc1.keep _ _ HPB.out (fun h => h))
  have hp1 := HP1.out
  have hsm := rsmall10 (HP.out.no hc1) (HM0.out.no HC1.out) HSZ.out
  have K1 := hid hc1
  clear hwa haw hc1 p0 p1 p2 p3 p4 p5 p6 p7 p8 p9
  have p0 := cellAt hp1 0
  have p1 := cellAt hp1 1
  have p2 := cellAt hp1 2
  have p3 := cellAt hp1 3
  have p4 := cellAt hp1 4
  have p5 := cellAt hp1 5
  have p6 := cellAt hp1 6
  have p7 := cellAt hp1 7
  have p8 := cellAt hp1 8
  have p9 := cellAt hp1 9
  clear hp1
  go_wp2_with fail
  refine hsm.mono ?_
  rintro e w2 ⟨⟨r2, rfl, hr2⟩, hc2⟩
  have HR2 := hid hr2
  have HC2 := hid (HC1.out.trans hc2)
  have K2 := hid (K1.out.trans hc2)
  have HP2 := hid (hc2.keep _ _ HP1.out (fun h => h))
  clear hsm hr2 hc2 p0 p1 p2 p3 p4 p5 p6 p7 p8 p9
  cases r2 with
  | false =>
    have haw := awake10 (HT.out.no HC2.out)
    go_wp2_with fail
    refine haw.mono ?_
    rintro e w3 ⟨rfl, hc3⟩
    have HC3 := hid (HC2.out.trans hc3)
    clear haw hc3
    go_wp2_with fail
    go_ret
    exact ⟨rfl, HC3.out⟩
  | true =>
    have HSM := hid (HR2.out (by first | rfl | trivial))
    have hp2 := HP2.out
    have p0 := cellAt hp2 0
    have p1 := cellAt hp2 1
    have p2 := cellAt hp2 2
    have p3 := cellAt hp2 3
    have p4 := cellAt hp2 4
    have p5 := cellAt hp2 5
    have p6 := cellAt hp2 6
    have p7 := cellAt hp2 7
    have p8 := cellAt hp2 8
    have p9 := cellAt hp2 9
    have hfa := rfault10 (HP.out.no K2.out) (HM0.out.no HC2.out) HSM.out.plain HSM.out.few HSZM.out (fun m hm x hx => (fewM_of HSM.out m hm).ps x hx)
    clear hp2
    go_wp2_with fail
    refine hfa.mono ?_
    rintro e w3 ⟨⟨fa, fl, fc, rfl, hfz⟩, hc3⟩
    have HFZ := hid hfz
    have HC3 := hid (HC2.out.trans hc3)
    have K3 := hid (K2.out.trans hc3)
    have HP3 := hid (hc3.keep _ _ HP2.out (fun h => h))
    clear hfa hfz hc3 p0 p1 p2 p3 p4 p5 p6 p7 p8 p9
    by_cases hz0 : fa = 0
    · subst hz0
      have HOK := hid (HFZ.out rfl)
      have hp3 := HP3.out
      have p0 := cellAt hp3 0
      have p1 := cellAt hp3 1
      have p2 := cellAt hp3 2
      have p3 := cellAt hp3 3
      have p4 := cellAt hp3 4
      have p5 := cellAt hp3 5
      have p6 := cellAt hp3 6
      have p7 := cellAt hp3 7
      have p8 := cellAt hp3 8
      have p9 := cellAt hp3 9
      have hnw := mnew (HP.out.no K3.out) (HM0.out.no HC3.out) (HT.out.no HC3.out) HSZ.out HSZM.out HSM.out.few (fewM_of HSM.out)
      clear hp3
      go_wp2_with fail
      refine hnw.mono ?_
      rintro e w4 ⟨hc4, ⟨mb, rfl, hmb, hok⟩ | ⟨l, c, rfl, hno⟩⟩
      · have HC4 := hid (HC3.out.trans hc4)
        have K4 := hid (K3.out.trans hc4)
        have HMB := hid hmb
        clear hnw hmb hok hc4 p0 p1 p2 p3 p4 p5 p6 p7 p8 p9
        go_upto_region 4 with fail
        obtain ⟨w5, hw5⟩ : ∃ w5, w4.alloc (.cells #[.int .i64 0, .int .i64 0, .int .i64 0] 34) = w5 := ⟨_, rfl⟩
        rw [hw5]
        have hc5 : Ch No w4 w5 := by rw [← hw5]; exact (Ch.refl No w4).alloc _
        have HC5 := hid (HC4.out.trans hc5)
        have K5 := hid (K4.out.trans hc5)
        have HM5 := hid (HMB.out.no hc5)
        have HNO := hid (noRingOf HOK.out.1)
        have HS := hid HOK.out.1.1
        have hl100 : len ≤ 20 := by have := HSM.out.few.1; have := HL.out; omega
        clear hw5 hc5
        go_wp2_with fail
        go_loopg [5, 6, 7, 8, 9, 10, 11] (len + 2) (fun g s5 s6 s7 s8 s9 s10 s11 wr => ∃ z : Int, -1 ≤ z ∧ z ≤ len + 1 ∧ len + 1 - z ≤ g ∧ s5 = .int .i64 z ∧ Ch No w5 wr)
        case atStart => exact ⟨-1, by omega, by omega, by omega, rfl, Ch.refl _ _⟩
        case round =>
          obtain ⟨z, hz1, hz2, hg, rfl, hcr⟩ := hrel
          have HCR := hid hcr
          have HCW := hid (HC5.out.trans hcr)
          have KW := hid (K5.out.trans hcr)
          have HPR := hid (KW.out.keep _ _ HPB.out (fun h => h))
          have hpr := HPR.out
          have p0 := cellAt hpr 0
          have p1 := cellAt hpr 1
          have p2 := cellAt hpr 2
          have p3 := cellAt hpr 3
          have p4 := cellAt hpr 4
          have p5 := cellAt hpr 5
          have p6 := cellAt hpr 6
          have p7 := cellAt hpr 7
          have p8 := cellAt hpr 8
          have p9 := cellAt hpr 9
          clear hcr hpr
          cases hd : decide (z ≤ len) with
          | false =>
            have hkl : ¬ z ≤ len := by simpa using hd
            go_wp2_with fail
            go_ret
            exact ⟨rfl, HCW.out⟩
          | true =>
            have hkl : z ≤ len := by simpa using hd
            obtain ⟨o, ho⟩ : ∃ o, inZ cs z = o := ⟨_, rfl⟩
            have HAZ := hid (show AtZ cs z o by rw [← ho]; exact atZ cs z)
            obtain ⟨N, hN⟩ : ∃ N, ∀ i, o = some i → rankN cs i ≤ N := ⟨match o with | some i => rankN cs i | none => 0, fun i e => by subst e; exact Nat.le_refl _⟩
            have hmf := mfields HS.out HNO.out (by have := HL.out; omega) HLN.out (onceOf HLN.out HOK.out.2) (fewFof HSM.out) HSZM.out N z o (HM5.out.no HCR.out) (HM0.out.no HCW.out) HAZ.out hN
            have HTOLD := hid (fields_told HNO.out HLN.out HOK.out.2 N o hN)
            have HRF := hid (fun (wz : World) (hz : Ch No wa wz) => rfields (cs := cs) (ms := ms) HS.out HNO.out (by have := HL.out; omega) (fewFof HSM.out) N z o (HP.out.no hz) (HM0.out.no (HCH.out.trans hz)) HAZ.out hN)
            have HNZ := hid (fieldsM_sz (cs := cs) HSZM.out o)
            obtain ⟨fl, hfl⟩ : ∃ fl, fieldsM cs ms o = fl := ⟨_, rfl⟩
            rw [hfl] at hmf HTOLD HRF HNZ
            clear hN ho hfl
            go_wp2_with fail
            refine hmf.mono ?_
            rintro e w6 ⟨v6, rfl, hv6, hc6⟩
            have L6 := hid (HCR.out.trans hc6)
            have K6 := hid (KW.out.trans hc6)
            have HV6 := hid hv6
            obtain ⟨a6, c6, e6, hx6, hy6⟩ := hv6.shape
            subst e6
            have hrf := HRF.out _ K6.out
            have hpr := hc6.keep _ _ HPR.out (fun h => h)
            clear hmf hv6 hc6 p0 p1 p2 p3 p4 p5 p6 p7 p8 p9
            have p0 := cellAt hpr 0
            have p1 := cellAt hpr 1
            have p2 := cellAt hpr 2
            have p3 := cellAt hpr 3
            have p4 := cellAt hpr 4
            have p5 := cellAt hpr 5
            have p6 := cellAt hpr 6
            have p7 := cellAt hpr 7
            have p8 := cellAt hpr 8
            have p9 := cellAt hpr 9
            clear hpr
            go_wp2_with fail
            refine hrf.mono ?_
            rintro e w7 ⟨v7, v8, rfl, hv7, hv8, hc7⟩
            have L7 := hid (L6.out.trans hc7)
            have K7 := hid (K6.out.trans hc7)
            have HV67 := hid (HV6.out.no hc7)
            have HV7 := hid hv7
            have HV8 := hid hv8
            obtain ⟨a7, c7, e7, hx7, hy7⟩ := ownsShape hv7
            obtain ⟨a8, c8, e8, hx8, hy8⟩ := ownsShape hv8
            subst e7
            subst e8
            obtain ⟨nf, hnf⟩ : ∃ nf, fl.length = nf := ⟨_, rfl⟩
            rw [hnf] at hx6 hx7 hx8 HV67 HV7 HV8 ⊢
            unfold maxLen at hy6 hy7 hy8
            have HNF := hid hnf
            clear hrf hv7 hv8 hc7 hnf p0 p1 p2 p3 p4 p5 p6 p7 p8 p9
            go_wp2_with fail
            go_loopg [9, 10, 11] nf (fun g s9 s10 s11 wr => ∃ q : Nat, q ≤ nf ∧ nf - q ≤ g ∧ s9 = .int .i64 q ∧ Ch No w7 wr)
            case atStart => exact ⟨0, Nat.zero_le _, by omega, rfl, Ch.refl _ _⟩
            case round =>
              obtain ⟨q, hq, hgq, rfl, hcq⟩ := hrel
              obtain ⟨wt, hwt⟩ : ∃ wt, wt = wr := ⟨_, rfl⟩
              subst hwt
              have HCT := hid hcq
              have LT := hid (L7.out.trans hcq)
              clear hcq
              cases hdq : decide (q < nf) with
              | false =>
                have hql : ¬ q < nf := by simpa using hdq
                go_wp2_with fail
                go_roundg (len - z).toNat
                case rel => exact ⟨z + 1, by omega, by omega, by omega, by go_num, LT.out⟩
                case measure => omega
              | true =>
                have hql : q < nf := by simpa using hdq
                obtain ⟨p, hp⟩ : ∃ p, fl[q]? = some p := ⟨_, List.getElem?_eq_getElem (by have := HNF.out; omega)⟩
                have HP' := hid hp
                obtain ⟨pb, po, ep, u0, u1, u2⟩ := (HV67.out.no HCT.out).cell hp
                subst ep
                have hmem := List.mem_of_getElem? hp
                have hme := mField (HM5.out.no LT.out) HS.out HNO.out HLN.out (few10 HSM.out) HAZ.out (HNZ.out p hmem)
                rw [HTOLD.out p hmem] at hme
                clear hp hmem
                go_wp2_with fail
                refine hme.mono ?_
                rintro e wb ⟨hup, hcb⟩
                obtain ⟨sa, sn, sc, rfl, hst⟩ := hup
                have HCB := hid hcb
                clear hme hst hcb
                go_upto_region 17 with fail
                obtain ⟨wc, hwc⟩ : ∃ wc, wb.alloc (.cells #[.int .i64 p.1, .string p.2.nm, .string p.2.ty, .slice sa sn sc, .bool false, .bool false] 54) = wc := ⟨_, rfl⟩
                rw [hwc]
                have hbc := heap_alloc_new wb (.cells #[.int .i64 p.1, .string p.2.nm, .string p.2.ty, .slice sa sn sc, .bool false, .bool false] 54)
                have hcc := (Ch.refl No wb).alloc (.cells #[.int .i64 p.1, .string p.2.nm, .string p.2.ty, .slice sa sn sc, .bool false, .bool false] 54)
                rw [hwc] at hbc hcc
                have TC := hid (HCB.out.trans hcc)
                have x0 := cellAt hbc 0
                have x2 := cellAt hbc 2
                have r0 := cell_ch u0 TC.out (fun _ _ h => h)
                have r1 := cell_ch u1 TC.out (fun _ _ h => h)
                have r2 := cell_ch u2 TC.out (fun _ _ h => h)
                have h7 := HV7.out
                have h8 := HV8.out
                unfold FldI at h7
                unfold FldS at h8
                rw [HNF.out] at h7 h8
                obtain ⟨ib, io, ei, i7⟩ := ownCell (ownsRow_ch h7 (HCT.out.trans TC.out) (fun _ _ _ _ _ h => h)) (i := q) (x := .int .i64 (p.1 : Int)) (by rw [List.getElem?_map, HP'.out]; rfl)
                obtain ⟨sb, so, es, i8⟩ := ownCell (ownsRow_ch h8 (HCT.out.trans TC.out) (fun _ _ _ _ _ h => h)) (i := q) (x := .string p.2.nm) (by rw [List.getElem?_map, HP'.out]; rfl)
                subst ei
                subst es
                have e0 : (p.2.nm.toList == p.2.nm.toList) = true := by simp
                have e1 : (p.2.ty.toList == p.2.ty.toList) = true := by simp
                clear h7 h8 hwc hbc hcc u0 u1 u2
                go_wp2_with fail
                go_quiet (fail)
                go_wp2_with fail
                go_roundg (nf - q - 1)
                case rel => exact ⟨q + 1, by omega, by omega, by go_num, HCT.out.trans (TC.out.trans (by first | exact (Ch.refl No _).drew | exact (Ch.refl No _).drewN _ | exact Ch.refl No _))⟩
                case measure => omega
      · refine absurd ⟨HOK.out.1, goodR HOK.out.1 HLN.out HOK.out.2⟩ hno
    · have haw := awake10 (HT.out.no HC3.out)
      have hz1 : (fa == 0) = false := by simpa using hz0
      go_wp2_with fail
      refine haw.mono ?_
      rintro e w4 ⟨rfl, hc4⟩
      have HC4 := hid (HC3.out.trans hc4)
      clear haw hc4
      go_wp2_with fail
      go_ret
      exact ⟨rfl, HC4.out⟩
end Go.Proofs.YtgjpgfedlgdjhaaGreatDoor
