/- Types: the reference 09: Below, Under. -/
import Derived.Test.YtkffejgjpnnkmaaDoorPk
set_option linter.unusedVariables false
set_option linter.unusedSimpArgs false
namespace Go.Proofs.YtkffejgjpnnkmaaDoor
open Go.RowKit Go.W

set_option maxRecDepth 100000 in
set_option maxHeartbeats 8000000 in
theorem gbelow {w : World} {pv : Value} {cs : List Cls} (h : ProgAt w pv cs) (hS : SoundP cs) (hsm : SmallP cs) (hp : PlainP cs) {t u : ByteArray} (ht : t.size ≤ maxLen) (hu : u.size ≤ maxLen) :
    Calls Tryd.prog 42 #[pv, .string t, .string u] w fun e w' => BoolIs (belT cs t u) e ∧ Ch No w w' := by
  have HPL := hid hp
  have HSO := hid hS
  have HSM := hid hsm
  clear hp hS hsm
  have hp := h
  obtain ⟨cv, m0, m1, m2, m3, m4, m5, m6, m7, m8, rfl, h⟩ := h
  obtain ⟨ao, cap, rfl, hcap, hmax, _, _⟩ := h.row
  rw [List.length_map] at hcap h hp ⊢
  obtain ⟨len, hlen⟩ : ∃ len, cs.length = len := ⟨_, rfl⟩
  rw [hlen] at hcap h hp ⊢
  unfold maxLen at hmax
  obtain ⟨wa, hwa⟩ : ∃ wa, w.alloc (.cells #[.slice ao len cap, m0, m1, m2, m3, m4, m5, m6, m7, m8] 30) = wa := ⟨_, rfl⟩
  have hpb := heap_alloc_new w (.cells #[.slice ao len cap, m0, m1, m2, m3, m4, m5, m6, m7, m8] 30)
  have hch := (Ch.refl No w).alloc (.cells #[.slice ao len cap, m0, m1, m2, m3, m4, m5, m6, m7, m8] 30)
  rw [hwa] at hch hpb
  have HL := hid hlen
  have HP := hid (hp.no hch)
  have HC := hid (h.no hch)
  have HPB := hid hpb
  have HCH := hid hch
  have p0 := cellAt hpb 0
  have p1 := cellAt hpb 1
  have p2 := cellAt hpb 2
  have p3 := cellAt hpb 3
  have p4 := cellAt hpb 4
  have p5 := cellAt hpb 5
  have p6 := cellAt hpb 6
  have p7 := cellAt hpb 7
  have p8 := cellAt hpb 8
  have p9 := cellAt hpb 9
  have hz := lt_size hpb
  clear hlen h hp hpb hch
  have hgt := gis HP.out HPL.out ht
  go_enter Tryd.func42, Tryd.ntmps42
  go_wp2_with fail
  clear hwa
  refine hgt.mono ?_
  rintro e w1 ⟨⟨r, rfl, hr⟩, hc1⟩
  have hb1 := hc1.keep _ _ HPB.out (fun h => h)
  have HP1 := hid (HP.out.no hc1)
  have HC1 := hid (HCH.out.trans hc1)
  have HB1 := hid hb1
  have HR := hid hr
  have hgu := gis HP1.out HPL.out hu
  clear hgt hr hc1 p0 p1 p2 p3 p4 p5 p6 p7 p8 p9
  have p0 := cellAt hb1 0
  have p1 := cellAt hb1 1
  have p2 := cellAt hb1 2
  have p3 := cellAt hb1 3
  have p4 := cellAt hb1 4
  have p5 := cellAt hb1 5
  have p6 := cellAt hb1 6
  have p7 := cellAt hb1 7
  have p8 := cellAt hb1 8
  have p9 := cellAt hb1 9
  clear hb1
  cases r with
  | false =>
    have HNO := hid (show ¬ isT cs t from fun h => Bool.noConfusion (HR.out.2 h))
    clear HR hgu
    go_wp2_with fail
    go_ret
    exact ⟨BoolIs.f (fun h => HNO.out h.1), HC1.out⟩
  | true =>
    have HIT := hid (HR.out.1 rfl)
    clear HR
    go_wp2_with fail
    refine hgu.mono ?_
    rintro e w2 ⟨⟨r, rfl, hr⟩, hc2⟩
    have hb2 := hc2.keep _ _ HB1.out (fun h => h)
    have HP2 := hid (HP1.out.no hc2)
    have HC2 := hid (HC1.out.trans hc2)
    have HB2 := hid hb2
    have HR := hid hr
    clear hgu hr hc2 p0 p1 p2 p3 p4 p5 p6 p7 p8 p9
    have p0 := cellAt hb2 0
    have p1 := cellAt hb2 1
    have p2 := cellAt hb2 2
    have p3 := cellAt hb2 3
    have p4 := cellAt hb2 4
    have p5 := cellAt hb2 5
    have p6 := cellAt hb2 6
    have p7 := cellAt hb2 7
    have p8 := cellAt hb2 8
    have p9 := cellAt hb2 9
    clear hb2
    cases r with
    | false =>
      have HNO := hid (show ¬ isT cs u from fun h => Bool.noConfusion (HR.out.2 h))
      clear HR
      go_wp2_with fail
      go_ret
      exact ⟨BoolIs.f (fun h => HNO.out h.2.1), HC2.out⟩
    | true =>
      have HIU := hid (HR.out.1 rfl)
      clear HR
      by_cases htu : t = u
      · subst htu
        have e0 := toL t t rfl
        go_wp2_with fail
        go_ret
        exact ⟨BoolIs.t (belT.refl HIT.out), HC2.out⟩
      · have e0 := toLn t u htu
        have HTU := hid htu
        clear htu
        by_cases hn : t = sNull
        · have e2 := lit t [110, 117, 108, 108] hn
          have HN := hid hn
          clear hn
          by_cases hui : u = sInt
          · have e3 := lit u [105, 110, 116] hui
            have HUI := hid hui
            clear hui
            go_wp2_with fail
            go_ret
            refine ⟨BoolIs.f ?_, HC2.out⟩
            rintro ⟨_, _, h3 | ⟨_, h3⟩ | ⟨h3, _⟩⟩
            · exact HTU.out h3
            · exact h3 HUI.out
            · exact h3 HN.out
          · have e3 := litn u [105, 110, 116] hui
            have HUI := hid hui
            clear hui
            go_wp2_with fail
            go_ret
            exact ⟨BoolIs.t ⟨HIT.out, HIU.out, .inr (.inl ⟨HN.out, HUI.out⟩)⟩, HC2.out⟩
        · have e2 := litn t [110, 117, 108, 108] hn
          have HN := hid hn
          clear hn
          have key : belT cs t u ↔ ∃ i k, find cs t = some i ∧ find cs u = some k ∧ upT cs i k := by
            constructor
            · rintro ⟨_, _, h3 | ⟨h3, _⟩ | ⟨_, h3⟩⟩
              · exact absurd h3 HTU.out
              · exact absurd h3 HN.out
              · exact h3
            · intro h3
              exact ⟨HIT.out, HIU.out, .inr (.inr ⟨HN.out, h3⟩)⟩
          have KEY := hid key
          have hfi := rfind (HP2.out.no ((Ch.refl No w2).drew)) t
          have HSx := hid (progCells9 HB2.out)
          have HSd := hid (progCells9 (((Ch.refl No w2).drew).keep _ _ HB2.out (fun h => h)))
          obtain ⟨zt, hzt⟩ : ∃ zt, findZ cs t = zt := ⟨_, rfl⟩
          obtain ⟨zu, hzu⟩ : ∃ zu, findZ cs u = zu := ⟨_, rfl⟩
          rw [hzt] at hfi
          have HZT := hid hzt
          have HZU := hid hzu
          clear key hzt hzu
          go_wp2_with fail
          go_region_held3 (fun w' => w'.cell? ⟨w.heap.size, 0, none⟩ = some (.slice ao len cap) ∧ w'.cell? ⟨w.heap.size, 1, none⟩ = some m0 ∧ w'.cell? ⟨w.heap.size, 2, none⟩ = some m1 ∧ w'.cell? ⟨w.heap.size, 3, none⟩ = some m2 ∧ w'.cell? ⟨w.heap.size, 4, none⟩ = some m3 ∧ w'.cell? ⟨w.heap.size, 5, none⟩ = some m4 ∧ w'.cell? ⟨w.heap.size, 6, none⟩ = some m5 ∧ w'.cell? ⟨w.heap.size, 7, none⟩ = some m6 ∧ w'.cell? ⟨w.heap.size, 8, none⟩ = some m7 ∧ w'.cell? ⟨w.heap.size, 9, none⟩ = some m8) (first | with_reducible exact HSx.out | with_reducible exact HSd.out | with_reducible exact HS5.out | with_reducible exact HS6.out | go_keep) (first | (go_at_call 23; refine hfi.mono ?_; rintro e w5 ⟨rfl, hc5⟩; have K5 := hid (((Ch.refl No w2).drew).trans hc5); have HS5 := hid (progCells9 (K5.out.keep _ _ HB2.out (fun h => h))); clear hc5 hfi) | (go_at_call 23; refine (rfind (HP2.out.no K5.out) u).mono ?_; rintro e w6 ⟨rfl, hc6⟩; rw [HZU.out]; have K6 := hid (K5.out.trans hc6); have HS6 := hid (progCells9 (K6.out.keep _ _ HB2.out (fun h => h))); clear hc6))
          have hb6 := K6.out.keep _ _ HB2.out (fun h => h)
          clear p0 p1 p2 p3 p4 p5 p6 p7 p8 p9
          have p0 := cellAt hb6 0
          have p1 := cellAt hb6 1
          have p2 := cellAt hb6 2
          have p3 := cellAt hb6 3
          have p4 := cellAt hb6 4
          have p5 := cellAt hb6 5
          have p6 := cellAt hb6 6
          have p7 := cellAt hb6 7
          have p8 := cellAt hb6 8
          have p9 := cellAt hb6 9
          clear hb6
          cases hft : find cs t with
          | none =>
            have hz : zt = -1 := by rw [← HZT.out, findZ_none hft]
            have HFT := hid hft
            subst hz
            clear hft
            go_wp2_with fail
            go_ret
            refine ⟨BoolIs.f (fun hb => ?_), HC2.out.trans K6.out⟩
            obtain ⟨i, k, h1, _⟩ := KEY.out.1 hb
            rw [HFT.out] at h1; cases h1
          | some i =>
            have hz : zt = (i : Int) := by rw [← HZT.out, findZ_some hft]
            have HFT := hid hft
            subst hz
            clear hft
            cases hfu : find cs u with
            | none =>
              have hz : zu = -1 := by rw [← HZU.out, findZ_none hfu]
              have HFU := hid hfu
              subst hz
              clear hfu
              go_wp2_with fail
              go_ret
              refine ⟨BoolIs.f (fun hb => ?_), HC2.out.trans K6.out⟩
              obtain ⟨i, k, _, h1, _⟩ := KEY.out.1 hb
              rw [HFU.out] at h1; cases h1
            | some k =>
              have hz : zu = (k : Int) := by rw [← HZU.out, findZ_some hfu]
              have HFU := hid hfu
              subst hz
              clear hfu
              have hil := find_lt HFT.out
              have hkl := find_lt HFU.out
              have hmk := rmarks (HP2.out.no K6.out) HSO.out HSM.out hil
              have hkl' : k < len := by have := HL.out; omega
              have hl20 : len ≤ 20 := by have := HSM.out.1; have := HL.out; omega
              go_wp2_with fail
              refine hmk.mono ?_
              rintro e w7 ⟨g7, m7, rfl, hb7, hg7, hm7, hc7⟩
              rw [HL.out]
              obtain ⟨bk, hbk⟩ : ∃ bk, m7[k]? = some bk := ⟨_, List.getElem?_eq_getElem (by have := hm7.1; omega)⟩
              have hqk := hb7.cell hbk
              have hre := hm7.2 k
              rw [hbk] at hre
              have HRE := hid hre
              have HC7 := hid (HC2.out.trans (K6.out.trans hc7))
              clear hmk hb7 hm7 hc7 hbk hre
              go_wp2_with fail
              go_ret
              refine ⟨⟨bk, rfl, ?_⟩, HC7.out⟩
              rw [KEY.out]
              constructor
              · intro h3
                exact ⟨i, k, HFT.out, HFU.out, .inr (HRE.out.1 (by rw [h3]))⟩
              · rintro ⟨i', k', h1, h2, h3⟩
                rw [HFT.out] at h1; cases h1
                rw [HFU.out] at h2; cases h2
                rcases h3 with rfl | h3
                · exact absurd (find_inj HFT.out HFU.out) HTU.out
                · have := HRE.out.2 h3
                  simpa using this

set_option maxRecDepth 100000 in
set_option maxHeartbeats 8000000 in
theorem gunder {w : World} {pv : Value} {cs : List Cls} (h : ProgAt w pv cs) (hri : RightP cs) (hsz : SzP cs) {t : ByteArray} (ht : t.size ≤ maxLen) :
    Calls Tryd.prog 45 #[pv, .string t] w fun e w' => ∃ v, e = .returned v ∧ StrsAt w' v (underL cs t) ∧ Ch No w w' := by
  have HRI := hid hri
  have HSZ := hid hsz
  clear hri hsz
  have hp := h
  obtain ⟨cv, m0, m1, m2, m3, m4, m5, m6, m7, m8, rfl, h⟩ := h
  obtain ⟨ao, cap, rfl, hcap, hmax, _, _⟩ := h.row
  rw [List.length_map] at hcap h hp ⊢
  obtain ⟨len, hlen⟩ : ∃ len, cs.length = len := ⟨_, rfl⟩
  rw [hlen] at hcap h hp ⊢
  unfold maxLen at hmax
  obtain ⟨wa, hwa⟩ : ∃ wa, w.alloc (.cells #[.slice ao len cap, m0, m1, m2, m3, m4, m5, m6, m7, m8] 30) = wa := ⟨_, rfl⟩
  have hpb := heap_alloc_new w (.cells #[.slice ao len cap, m0, m1, m2, m3, m4, m5, m6, m7, m8] 30)
  have hch := (Ch.refl No w).alloc (.cells #[.slice ao len cap, m0, m1, m2, m3, m4, m5, m6, m7, m8] 30)
  rw [hwa] at hch hpb
  have HL := hid hlen
  have HP := hid (hp.no hch)
  have HC := hid (h.no hch)
  have HPB := hid hpb
  have HCH := hid hch
  have p0 := cellAt hpb 0
  have p1 := cellAt hpb 1
  have p2 := cellAt hpb 2
  have p3 := cellAt hpb 3
  have p4 := cellAt hpb 4
  have p5 := cellAt hpb 5
  have p6 := cellAt hpb 6
  have p7 := cellAt hpb 7
  have p8 := cellAt hpb 8
  have p9 := cellAt hpb 9
  have hz := lt_size hpb
  clear hlen h hp hpb hch
  have hl20 : len ≤ 20 := by have := HRI.out.1.1; have := HL.out; omega
  have hge := gelem HP.out HRI.out.2.2 ht
  go_enter Tryd.func45, Tryd.ntmps45
  go_wp2_with fail
  clear hwa
  refine hge.mono ?_
  rintro e w1 ⟨rfl, hc1⟩
  have HC1 := hid hc1
  clear hge hc1 p0 p1 p2 p3 p4 p5 p6 p7 p8 p9
  cases he : elemO cs t with
  | some el =>
    have e3 := elemS_some HRI.out.2.2 he
    have HE := hid he
    clear he
    go_wp2_with fail
    go_ret
    refine ⟨_, rfl, ?_, HCH.out.trans (HC1.out.alloc _)⟩
    unfold underL
    rw [HE.out]
    exact StrsAt.one [t] (Nat.le_of_ble_eq_true rfl)
  | none =>
    have e3 := elemS_none he
    have HE := hid he
    clear he
    cases hf : find cs t with
    | none =>
      have HF := hid hf
      have hb1 := HC1.out.keep _ _ HPB.out (fun h => h)
      have p0 := cellAt hb1 0
      have p1 := cellAt hb1 1
      have p2 := cellAt hb1 2
      have p3 := cellAt hb1 3
      have p4 := cellAt hb1 4
      have p5 := cellAt hb1 5
      have p6 := cellAt hb1 6
      have p7 := cellAt hb1 7
      have p8 := cellAt hb1 8
      have p9 := cellAt hb1 9
      have hfi := rfind (HP.out.no HC1.out) t
      rw [findZ_none hf] at hfi
      clear hf hb1
      go_wp2_with fail
      go_loopg [5, 6] 1 (fun g s5 s6 wr => 1 ≤ g ∧ s5 = .slice none 0 0 ∧ s6 = .int .i64 0 ∧ wr = w1)
      case atStart => exact ⟨Nat.le_refl _, rfl, rfl, rfl⟩
      case round =>
        obtain ⟨hg, rfl, rfl, rfl⟩ := hrel
        have fin : ∀ w', StrsAt w' (.slice none 0 0) (underL cs t) := fun w' => by
          unfold underL
          rw [HE.out, HF.out]
          exact StrsAt.nil w'
        have FIN := hid fin
        clear fin
        cases hd : decide (0 < len) with
        | false =>
          have hkl : ¬ 0 < len := by simpa using hd
          go_wp2_with fail
          go_ret
          exact ⟨_, rfl, FIN.out _, HCH.out.trans HC1.out⟩
        | true =>
          have hkl : 0 < len := by simpa using hd
          go_wp2_with fail
          refine hfi.mono ?_
          rintro e w5 ⟨rfl, hc5⟩
          clear hfi
          go_wp2_with fail
          go_ret
          exact ⟨_, rfl, FIN.out _, HCH.out.trans (HC1.out.trans hc5)⟩
    | some k =>
      have HF := hid hf
      clear hf
      go_wp2_with fail
      go_loopg [5, 6] len (fun g s5 s6 wr => ∃ (j : Nat), j ≤ len ∧ len - j ≤ g ∧ s6 = .int .i64 j ∧ Hid (StrsOwn wr wa.heap.size s5 (unL cs k j)) ∧ Ch No wa wr)
      case atStart => exact ⟨0, Nat.zero_le _, by omega, rfl, hid (StrsOwn.nil _ _), HC1.out⟩
      case round =>
        obtain ⟨j, hj, hg, rfl, HS, hc⟩ := hrel
        obtain ⟨a9, cap9, rfl, hcap9, hmax9, _⟩ := HS.out.at_
        obtain ⟨nu, hnu⟩ : ∃ nu, (unL cs k j).length = nu := ⟨_, rfl⟩
        rw [hnu] at HS hcap9 ⊢
        unfold maxLen at hmax9
        have hnu1 : nu + 1 ≤ 100000 := by have := unLen cs k j; omega
        have HNU := hid hnu
        have HCR := hid hc
        have hbr := hc.keep _ _ HPB.out (fun h => h)
        have HBR := hid hbr
        have HPR := hid (HP.out.no hc)
        have p0 := cellAt hbr 0
        have p1 := cellAt hbr 1
        have p2 := cellAt hbr 2
        have p3 := cellAt hbr 3
        have p4 := cellAt hbr 4
        have p5 := cellAt hbr 5
        have p6 := cellAt hbr 6
        have p7 := cellAt hbr 7
        have p8 := cellAt hbr 8
        have p9 := cellAt hbr 9
        clear hnu hc hbr
        cases hd : decide (j < len) with
        | false =>
          have hjl : ¬ j < len := by simpa using hd
          have e : j = len := by omega
          go_wp2_with fail
          go_ret
          refine ⟨_, rfl, ?_, HCH.out.trans HCR.out⟩
          have h1 := HS.out.at_
          unfold underL
          rw [HE.out, HF.out]
          rw [e, ← HL.out] at h1
          exact h1
        | true =>
          have hjl : j < len := by simpa using hd
          have hfi := rfind HPR.out t
          rw [findZ_some HF.out] at hfi
          obtain ⟨c, hcj⟩ : ∃ c, cs[j]? = some c := ⟨_, List.getElem?_eq_getElem (by have := HL.out; omega)⟩
          have HCJ := hid hcj
          clear hcj
          go_wp2_with fail
          refine hfi.mono ?_
          rintro e w5 ⟨rfl, hc5⟩
          have HC5 := hid (HCR.out.trans hc5)
          have hb5 := HC5.out.keep _ _ HPB.out (fun h => h)
          obtain ⟨b, off, cap', ecs, hcell, _, _⟩ := (HC.out.no HC5.out).cell HCJ.out
          rw [HL.out] at ecs
          cases ecs
          have q0 := hcell.q0
          have q2 := hcell.q2
          have HS5 := hid (HS.out.no hc5)
          have HB5 := hid hb5
          have HP5 := hid (HP.out.no HC5.out)
          clear hfi hc5 hcell p0 p1 p2 p3 p4 p5 p6 p7 p8 p9
          have p0 := cellAt hb5 0
          have p1 := cellAt hb5 1
          have p2 := cellAt hb5 2
          have p3 := cellAt hb5 3
          have p4 := cellAt hb5 4
          have p5 := cellAt hb5 5
          have p6 := cellAt hb5 6
          have p7 := cellAt hb5 7
          have p8 := cellAt hb5 8
          have p9 := cellAt hb5 9
          clear hb5
          cases hface : c.face with
          | true =>
            have HNO := hid (show ¬ UnP cs k j from fun ⟨d, hd, h1, _⟩ => by rw [HCJ.out] at hd; cases hd; rw [hface] at h1; cases h1)
            rw [hface] at q2
            clear hface
            go_wp2_with fail
            go_quiet (fail)
            go_wp2_with fail
            go_roundg (len - j - 1)
            case rel =>
              refine ⟨j + 1, by omega, by omega, by go_num, hid ?_, HC5.out.trans (by first | exact (Ch.refl No w5).drew | exact (Ch.refl No w5).drewN _)⟩
              have h1 := HS5.out
              rw [← HNU.out] at h1 ⊢
              rw [unNo HNO.out]
              exact h1.no (by first | exact (Ch.refl No w5).drew | exact (Ch.refl No w5).drewN _)
            case measure => omega
          | false =>
            rw [hface] at q2
            have hnz := (HSZ.out c (List.mem_of_getElem? HCJ.out)).1
            have hbe := gbelow (HP5.out.no ((Ch.refl No w5).drew)) HRI.out.2.1.1 HRI.out.1 HRI.out.2.2 hnz ht
            have hub := un_bel HRI.out.2.1 HRI.out.2.2 HCJ.out HF.out
            have HUB := hid hub
            have HFA := hid hface
            have HSx := hid (And.intro q0 (And.intro q2 (progCells9 HB5.out)))
            have q0d := cell_ch q0 ((Ch.refl No w5).drew) (fun _ _ h => h)
            have q2d := cell_ch q2 ((Ch.refl No w5).drew) (fun _ _ h => h)
            have HSd := hid (And.intro q0d (And.intro q2d (progCells9 (((Ch.refl No w5).drew).keep _ _ HB5.out (fun h => h)))))
            clear hface hub hnz q0d q2d
            by_cases hup : belT cs c.name t
            · have HUP := hid hup
              clear hup
              go_wp2_with fail
              go_region_held3 (fun w' => w'.cell? ⟨b, off + j * 10, none⟩ = some (.string c.name) ∧ w'.cell? ⟨b, off + j * 10 + 2, none⟩ = some (.bool false) ∧ w'.cell? ⟨w.heap.size, 0, none⟩ = some (.slice (some ⟨b, off, none⟩) len cap) ∧ w'.cell? ⟨w.heap.size, 1, none⟩ = some m0 ∧ w'.cell? ⟨w.heap.size, 2, none⟩ = some m1 ∧ w'.cell? ⟨w.heap.size, 3, none⟩ = some m2 ∧ w'.cell? ⟨w.heap.size, 4, none⟩ = some m3 ∧ w'.cell? ⟨w.heap.size, 5, none⟩ = some m4 ∧ w'.cell? ⟨w.heap.size, 6, none⟩ = some m5 ∧ w'.cell? ⟨w.heap.size, 7, none⟩ = some m6 ∧ w'.cell? ⟨w.heap.size, 8, none⟩ = some m7 ∧ w'.cell? ⟨w.heap.size, 9, none⟩ = some m8) (first | with_reducible exact HSx.out | with_reducible exact HSd.out | with_reducible exact HS6.out | go_keep) (first | (go_at_call 42; refine hbe.mono ?_; rintro e w6 ⟨hr6, hc6⟩; obtain rfl := hr6.yes HUP.out; have K6 := hid (((Ch.refl No w5).drew).trans hc6); have hq06 := cell_ch q0 K6.out (fun _ _ h => h); have hq26 := cell_ch q2 K6.out (fun _ _ h => h); have HS6 := hid (And.intro hq06 (And.intro hq26 (progCells9 (K6.out.keep _ _ HB5.out (fun h => h))))); clear hr6 hc6 hbe))
              have hb6 := K6.out.keep _ _ HB5.out (fun h => h)
              have HY := hid (HUB.out.2 ⟨HFA.out, HUP.out⟩)
              have hrow := HS5.out.rowN HNU.out (K6.out.alloc (.cells #[.string c.name] 9))
              have hbase : wa.heap.size ≤ _ := ((HC5.out.trans K6.out).alloc (.cells #[.string c.name] 9)).size
              have HROW := hid hrow
              have HCA := hid ((HC5.out.trans K6.out).alloc (.cells #[.string c.name] 9))
              clear hrow p0 p1 p2 p3 p4 p5 p6 p7 p8 p9
              have p0 := cellAt hb6 0
              have p1 := cellAt hb6 1
              have p2 := cellAt hb6 2
              have p3 := cellAt hb6 3
              have p4 := cellAt hb6 4
              have p5 := cellAt hb6 5
              have p6 := cellAt hb6 6
              have p7 := cellAt hb6 7
              have p8 := cellAt hb6 8
              have p9 := cellAt hb6 9
              clear hb6
              go_wp2_with (at_builtin; go_must (refine wpAppendOwn rfl _ _ rfl Tryd.sliceStr Tryd.infoStr Nat.zero_lt_one (Nat.le_of_ble_eq_true rfl) wa.heap.size (.slice a9 nu cap9) nu ((unL cs k j).map Value.string) rfl HROW.out w6.heap.size 1 1 [.string c.name] rfl rfl (heap_alloc_new w6 _) (oneStr1 _) hnu1 hbase ?_))
              intro v7 w7 hr7 hc7
              have hown : StrsOwn w7 wa.heap.size v7 (unL cs k (j + 1)) := by
                unfold StrsOwn
                rw [unYes HY.out, List.length_append, List.map_append, HNU.out]
                have en : nameAt cs j = c.name := by unfold nameAt; rw [HCJ.out]
                rw [en]
                exact hr7
              have hch7 : Ch No wa w7 := HCA.out.trans' hc7 (fun j o ho e => by
                obtain ⟨h1, _⟩ := owned_typed HROW.out j e
                have := lt_size ho
                omega)
              have HOWN := hid hown
              have HC7 := hid hch7
              clear hr7 hc7 hown hch7
              go_wp2_with fail
              go_roundg (len - j - 1)
              case rel => exact ⟨j + 1, by omega, by omega, by go_num, HOWN, HC7.out⟩
              case measure => omega
            · have HUP := hid hup
              clear hup
              go_wp2_with fail
              go_region_held3 (fun w' => w'.cell? ⟨b, off + j * 10, none⟩ = some (.string c.name) ∧ w'.cell? ⟨b, off + j * 10 + 2, none⟩ = some (.bool false) ∧ w'.cell? ⟨w.heap.size, 0, none⟩ = some (.slice (some ⟨b, off, none⟩) len cap) ∧ w'.cell? ⟨w.heap.size, 1, none⟩ = some m0 ∧ w'.cell? ⟨w.heap.size, 2, none⟩ = some m1 ∧ w'.cell? ⟨w.heap.size, 3, none⟩ = some m2 ∧ w'.cell? ⟨w.heap.size, 4, none⟩ = some m3 ∧ w'.cell? ⟨w.heap.size, 5, none⟩ = some m4 ∧ w'.cell? ⟨w.heap.size, 6, none⟩ = some m5 ∧ w'.cell? ⟨w.heap.size, 7, none⟩ = some m6 ∧ w'.cell? ⟨w.heap.size, 8, none⟩ = some m7 ∧ w'.cell? ⟨w.heap.size, 9, none⟩ = some m8) (first | with_reducible exact HSx.out | with_reducible exact HSd.out | with_reducible exact HS6.out | go_keep) (first | (go_at_call 42; refine hbe.mono ?_; rintro e w6 ⟨hr6, hc6⟩; obtain rfl := hr6.no HUP.out; have K6 := hid (((Ch.refl No w5).drew).trans hc6); have hq06 := cell_ch q0 K6.out (fun _ _ h => h); have hq26 := cell_ch q2 K6.out (fun _ _ h => h); have HS6 := hid (And.intro hq06 (And.intro hq26 (progCells9 (K6.out.keep _ _ HB5.out (fun h => h))))); clear hr6 hc6 hbe))
              have HNO := hid (show ¬ UnP cs k j from fun h => HUP.out (HUB.out.1 h).2)
              go_wp2_with fail
              go_roundg (len - j - 1)
              case rel =>
                refine ⟨j + 1, by omega, by omega, by go_num, hid ?_, HC5.out.trans K6.out⟩
                have h1 := HS5.out.no K6.out
                rw [← HNU.out] at h1 ⊢
                rw [unNo HNO.out]
                exact h1
              case measure => omega
end Go.Proofs.YtkffejgjpnnkmaaDoor
