/- SubArrays: the law. -/
import Derived.Test.YtkffejgjpnnkmaaDoorPe
import Derived.Deep.RegionHeld3
import Derived.Deep.CutRange
import Derived.BigQuiet
set_option linter.unusedVariables false
set_option linter.unusedSimpArgs false
namespace Go.Proofs.YtkffejgjpnnkmaaDoor
open Go.RowKit Go.W

set_option maxRecDepth 100000 in
set_option maxHeartbeats 16000000 in
theorem law_sarrays {w : World} {pv : Value} {cs : List Cls} (hT : Tab w) (h : ProgAt w pv cs) (hsz : SzP cs) (hzb : SzB cs) :
    Calls Tryd.prog 9 #[pv] w fun e w' => e = .returned (.bool true) ∧ Ch No w w' := by
  have HT0 := hid hT
  have HSZ := hid hsz
  have HZB := hid hzb
  clear hT hsz hzb
  have hp := h
  obtain ⟨cv, m0, m1, m2, m3, m4, m5, m6, m7, m8, rfl, h⟩ := h
  obtain ⟨ao, cap, rfl, hcap, hmax, _, _⟩ := h.row
  rw [List.length_map] at hcap h hp ⊢
  obtain ⟨len, hlen⟩ : ∃ len, cs.length = len := ⟨_, rfl⟩
  rw [hlen] at hcap h hp ⊢
  unfold maxLen at hmax
  obtain ⟨wa, hwa⟩ : ∃ wa, w.alloc (.cells #[.slice ao len cap, m0, m1, m2, m3, m4, m5, m6, m7, m8] 30) = wa := ⟨_, rfl⟩
  have hpb := heap_alloc_new w (.cells #[.slice ao len cap, m0, m1, m2, m3, m4, m5, m6, m7, m8] 30)
  have hch := (Ch.refl No w).alloc (.cells #[.slice ao len cap, m0, m1, m2, m3, m4, m5, m6, m7, m8] 30)
  rw [hwa] at hch hpb
  have HL := hid hlen
  have HP := hid (hp.no hch)
  have HC := hid (h.no hch)
  have HPB := hid hpb
  have HCH := hid hch
  have p0 := cellAt hpb 0
  have p1 := cellAt hpb 1
  have p2 := cellAt hpb 2
  have p3 := cellAt hpb 3
  have p4 := cellAt hpb 4
  have p5 := cellAt hpb 5
  have p6 := cellAt hpb 6
  have p7 := cellAt hpb 7
  have p8 := cellAt hpb 8
  have p9 := cellAt hpb 9
  have hz := lt_size hpb
  clear hlen h hp hpb hch
  have HT := hid (HT0.out.no HCH.out)
  have haw := awake09 HT.out
  go_enter Tryd.func9, Tryd.ntmps9
  go_wp2_with fail
  clear hwa
  refine haw.mono ?_
  rintro e w1 ⟨rfl, hc1⟩
  have hp1 := hc1.keep _ _ HPB.out (fun h => h)
  have hri := lright (HP.out.no hc1) HSZ.out
  have HP1 := hid hp1
  have HC1 := hid hc1
  clear p0 p1 p2 p3 p4 p5 p6 p7 p8 p9 haw hc1
  have p0 := cellAt hp1 0
  have p1 := cellAt hp1 1
  have p2 := cellAt hp1 2
  have p3 := cellAt hp1 3
  have p4 := cellAt hp1 4
  have p5 := cellAt hp1 5
  have p6 := cellAt hp1 6
  have p7 := cellAt hp1 7
  have p8 := cellAt hp1 8
  have p9 := cellAt hp1 9
  clear hp1
  go_wp2_with fail
  refine hri.mono ?_
  rintro e w2 ⟨⟨r, rfl, hr⟩, hc2⟩
  have hp2 := hc2.keep _ _ HP1.out (fun h => h)
  have HC2 := hid (HC1.out.trans hc2)
  have HP2 := hid hp2
  have HR := hid hr
  clear p0 p1 p2 p3 p4 p5 p6 p7 p8 p9 hri hc2 hr
  have p0 := cellAt hp2 0
  have p1 := cellAt hp2 1
  have p2 := cellAt hp2 2
  have p3 := cellAt hp2 3
  have p4 := cellAt hp2 4
  have p5 := cellAt hp2 5
  have p6 := cellAt hp2 6
  have p7 := cellAt hp2 7
  have p8 := cellAt hp2 8
  have p9 := cellAt hp2 9
  clear hp2
  cases r with
  | false =>
    clear HR
    have haw := awake09 (HT.out.no HC2.out)
    go_wp2_with fail
    refine haw.mono ?_
    rintro e w3 ⟨rfl, hc3⟩
    go_wp2_with fail
    go_ret
    exact ⟨rfl, HCH.out.trans (HC2.out.trans hc3)⟩
  | true =>
    have HRI := hid (HR.out.1 rfl)
    clear HR
    have hmk := lmade (HT.out.no HC2.out) (HP.out.no HC2.out) HSZ.out HRI.out.1 HRI.out.2.1
    go_wp2_with fail
    refine hmk.mono ?_
    rintro e w3 ⟨xv, rfl, hx, hc3⟩
    have HX := hid hx
    have HC3 := hid (HC2.out.trans hc3)
    have hp3 := hc3.keep _ _ HP2.out (fun h => h)
    have hal := lall (HP.out.no HC3.out) HZB.out
    obtain ⟨xb, tb, abv, ss, rfl, _⟩ := hx
    clear p0 p1 p2 p3 p4 p5 p6 p7 p8 p9 hmk hc3
    have p0 := cellAt hp3 0
    have p1 := cellAt hp3 1
    have p2 := cellAt hp3 2
    have p3 := cellAt hp3 3
    have p4 := cellAt hp3 4
    have p5 := cellAt hp3 5
    have p6 := cellAt hp3 6
    have p7 := cellAt hp3 7
    have p8 := cellAt hp3 8
    have p9 := cellAt hp3 9
    clear hp3
    go_wp2_with fail
    refine hal.mono ?_
    rintro e w4 ⟨v, rfl, hv, hc4⟩
    have HX4 := hid (HX.out.no hc4)
    have HC4 := hid (HC3.out.trans hc4)
    have HV := hid hv
    obtain ⟨ao, cap, rfl, hcp, hmx, _⟩ := hv
    obtain ⟨n, hn⟩ : ∃ n, (allT cs 8).length = n := ⟨_, rfl⟩
    rw [hn] at HV hcp ⊢
    unfold maxLen at hmx
    have hn20 : n ≤ 18 := by rw [← hn, allTlen]; have := Nat.min_le_left 8 cs.length; omega
    have HN := hid hn
    clear hn hal hc4 p0 p1 p2 p3 p4 p5 p6 p7 p8 p9
    go_wp2_with fail
    go_loopg [5] n (fun g s5 wr => ∃ (i : Nat), i ≤ n ∧ n - i ≤ g ∧ s5 = .int .i64 i ∧ Ch No w4 wr)
    case atStart => exact ⟨0, Nat.zero_le _, by omega, rfl, Ch.refl _ _⟩
    case round =>
      obtain ⟨i, hi, hg, rfl, hc⟩ := hrel
      have HCR := hid hc
      clear hc
      cases hd : decide (i < n) with
      | false =>
        have hil : ¬ i < n := by simpa using hd
        go_wp2_with fail
        go_ret
        exact ⟨rfl, HCH.out.trans (HC4.out.trans HCR.out)⟩
      | true =>
        have hil : i < n := by simpa using hd
        obtain ⟨ti, hti⟩ : ∃ ti, (allT cs 8)[i]? = some ti := ⟨_, List.getElem?_eq_getElem (by have := HN.out; omega)⟩
        have hti1 := allTis HRI.out.2.1 (List.mem_of_getElem? hti)
        have htz := allTsz HZB.out ti (List.mem_of_getElem? hti)
        have HTI := hid hti
        have HTI1 := hid hti1
        have HTZ := hid htz
        clear hti hti1 htz
        go_wp2_with fail
        go_loopg [6] n (fun g s6 wr' => ∃ (k : Nat), k ≤ n ∧ n - k ≤ g ∧ s6 = .int .i64 k ∧ Ch No w4 wr')
        case atStart => exact ⟨0, Nat.zero_le _, by omega, rfl, HCR.out⟩
        case round =>
          obtain ⟨k, hk, hgk, rfl, hck⟩ := hrel
          have HCK := hid hck
          clear hck
          cases hdk : decide (k < n) with
          | false =>
            have hkl : ¬ k < n := by simpa using hdk
            go_wp2_with fail
            go_roundg (n - i - 1)
            case rel => exact ⟨i + 1, by omega, by omega, by go_num, HCK.out⟩
            case measure => omega
          | true =>
            have hkl : k < n := by simpa using hdk
            obtain ⟨tk, htk⟩ : ∃ tk, (allT cs 8)[k]? = some tk := ⟨_, List.getElem?_eq_getElem (by have := HN.out; omega)⟩
            have htk1 := allTis HRI.out.2.1 (List.mem_of_getElem? htk)
            have htkz := allTsz HZB.out tk (List.mem_of_getElem? htk)
            have hne : ti = tk → i = k := fun e => nodupAt (allTnodup HRI.out.2.1 HRI.out.2.2 8) HTI.out (by rw [e]; exact htk)
            obtain ⟨hn1, b, off, e1, hqi⟩ := (HV.out.no HCK.out).cell HTI.out
            subst e1
            obtain ⟨hn2, b2, off2, e2, hqk⟩ := (HV.out.no HCK.out).cell htk
            cases e2
            have HTK := hid htk
            have HTK1 := hid htk1
            have HTKZ := hid htkz
            have HNE := hid hne
            have HXK := hid (HX4.out.no HCK.out)
            have hbe1 := xbelow (HXK.out.no ((Ch.refl No wr).drew)) HTZ.out HTKZ.out
            have hel1 := xelem HXK.out HTZ.out
            have hel2 := xelem HXK.out HTKZ.out
            clear hn1 hn2 htk htk1 htkz hne
            go_wp2_with fail
            refine hel1.mono ?_
            rintro e w5 ⟨⟨ea, hea, rfl⟩ | ⟨hea, rfl⟩, rfl⟩
            · have HA := hid hea
              clear hel1 hea
              go_wp2_with fail
              refine hel2.mono ?_
              rintro e w5 ⟨⟨eb, heb, rfl⟩ | ⟨heb, rfl⟩, rfl⟩
              · have HB := hid heb
                clear hel2 heb
                have key := bel_arr HRI.out.2.2 HTI1.out HTK1.out (.inl ⟨_, HA.out⟩)
                have KEY := hid key
                clear key
                cases hik : decide (i = k) with
                | true =>
                  obtain rfl : i = k := by simpa using hik
                  clear hik
                  obtain rfl : tk = ti := Option.some.inj (HTK.out.symm.trans HTI.out)
                  have HB1 := hid (belT.refl HTI1.out)
                  have hnn := elem_class HRI.out.2.2 HA.out
                  have e2 := litn tk [110, 117, 108, 108] hnn.2.2
                  have hr0 := 0
                  clear hnn
                  clear hr0
                  go_wp2_with fail
                  refine wp_region_held_drew (S := (fun w' => w'.cell? ⟨b, off + i, none⟩ = some (.string tk) ∧ w'.cell? ⟨b, off + i, none⟩ = some (.string tk))) (by kernel_rfl) ⟨hqi, hqk⟩ (fun hHeld => ?_)
                  (refine wpAnyH_take (i := 0) (v := ?_) rfl (by kernel_rfl) (by kernel_rfl) (by kernel_rfl) (fun _ _ _ h => h) (Or.inl ⟨by rfl, ?_⟩) (by assumption) ?_; rotate_left 1; · (intro wz hSw; (try dsimp only at hSw); go_simp; try rfl)); (try simp only [Act.put, List.getElem_toArray, List.getElem_cons_succ, List.getElem_cons_zero, List.setIfInBounds_toArray, List.set_cons_zero, List.set_cons_succ])
                  (refine wpAnyH_take (i := 1) (v := ?_) rfl (by kernel_rfl) (by kernel_rfl) (by kernel_rfl) (fun _ _ _ h => h) (Or.inl ⟨by rfl, ?_⟩) (by assumption) ?_; rotate_left 1; · (intro wz hSw; (try dsimp only at hSw); go_simp; try rfl)); (try simp only [Act.put, List.getElem_toArray, List.getElem_cons_succ, List.getElem_cons_zero, List.setIfInBounds_toArray, List.set_cons_zero, List.set_cons_succ])
                  (refine wpAnyH_take (i := 2) (v := undef) rfl (by kernel_rfl) (by kernel_rfl) (by kernel_rfl) (fun _ _ _ h => h) (Or.inr ⟨by rfl, rfl⟩) (by assumption) ?_); (try simp only [Act.put, List.getElem_toArray, List.getElem_cons_succ, List.getElem_cons_zero, List.setIfInBounds_toArray, List.set_cons_zero, List.set_cons_succ])
                  (refine wpAnyH_take (i := 3) (v := ?_) rfl (by kernel_rfl) (by kernel_rfl) (by kernel_rfl) (fun _ _ _ h => h) (Or.inl ⟨by rfl, ?_⟩) (by assumption) ?_; rotate_left 1; · (intro wz hSw; (try dsimp only at hSw); go_simp; try rfl)); (try simp only [Act.put, List.getElem_toArray, List.getElem_cons_succ, List.getElem_cons_zero, List.setIfInBounds_toArray, List.set_cons_zero, List.set_cons_succ])
                  (refine wpAnyH_take (i := 4) (v := ?_) rfl (by kernel_rfl) (by kernel_rfl) (by kernel_rfl) (fun _ _ _ h => h) (Or.inl ⟨by rfl, ?_⟩) (by assumption) ?_; rotate_left 1; · (intro wz hSw; (try dsimp only at hSw); go_simp; try rfl)); (try simp only [Act.put, List.getElem_toArray, List.getElem_cons_succ, List.getElem_cons_zero, List.setIfInBounds_toArray, List.set_cons_zero, List.set_cons_succ])
                  (refine wpAnyH_take (i := 5) (v := ?_) rfl (by kernel_rfl) (by kernel_rfl) (by kernel_rfl) (fun _ _ _ h => h) (Or.inl ⟨by rfl, ?_⟩) (by assumption) ?_; rotate_left 1; · (intro wz hSw; (try dsimp only at hSw); go_simp; try rfl)); (try simp only [Act.put, List.getElem_toArray, List.getElem_cons_succ, List.getElem_cons_zero, List.setIfInBounds_toArray, List.set_cons_zero, List.set_cons_succ])
                  (refine wpAnyH_take (i := 6) (v := ?_) rfl (by kernel_rfl) (by kernel_rfl) (by kernel_rfl) (fun _ _ _ h => h) (Or.inl ⟨by rfl, ?_⟩) (by assumption) ?_; rotate_left 1; · (intro wz hSw; (try dsimp only at hSw); go_simp; try rfl)); (try simp only [Act.put, List.getElem_toArray, List.getElem_cons_succ, List.getElem_cons_zero, List.setIfInBounds_toArray, List.set_cons_zero, List.set_cons_succ])
                  (refine wpAnyH_take (i := 7) (v := ?_) rfl (by kernel_rfl) (by kernel_rfl) (by kernel_rfl) (fun _ _ _ h => h) (Or.inl ⟨by rfl, ?_⟩) (by assumption) ?_; rotate_left 1; · (intro wz hSw; (try dsimp only at hSw); go_simp; try rfl)); (try simp only [Act.put, List.getElem_toArray, List.getElem_cons_succ, List.getElem_cons_zero, List.setIfInBounds_toArray, List.set_cons_zero, List.set_cons_succ])
                  (refine wpAnyH_take (i := 8) (v := ?_) rfl (by kernel_rfl) (by kernel_rfl) (by kernel_rfl) (fun _ _ _ h => h) (Or.inl ⟨by rfl, ?_⟩) (by assumption) ?_; rotate_left 1; · (intro wz hSw; (try dsimp only at hSw); go_simp; try rfl)); (try simp only [Act.put, List.getElem_toArray, List.getElem_cons_succ, List.getElem_cons_zero, List.setIfInBounds_toArray, List.set_cons_zero, List.set_cons_succ])
                  (refine wpAnyH_take (i := 9) (v := ?_) rfl (by kernel_rfl) (by kernel_rfl) (by kernel_rfl) (fun _ _ _ h => h) (Or.inl ⟨by rfl, ?_⟩) (by assumption) ?_; rotate_left 1; · (intro wz hSw; (try dsimp only at hSw); go_simp; try rfl)); (try simp only [Act.put, List.getElem_toArray, List.getElem_cons_succ, List.getElem_cons_zero, List.setIfInBounds_toArray, List.set_cons_zero, List.set_cons_succ])
                  (refine wpAnyH_take (i := 10) (v := ?_) rfl (by kernel_rfl) (by kernel_rfl) (by kernel_rfl) (fun _ _ _ h => h) (Or.inl ⟨by rfl, ?_⟩) (by assumption) ?_; rotate_left 1; · (intro wz hSw; (try dsimp only at hSw); go_simp; try rfl)); (try simp only [Act.put, List.getElem_toArray, List.getElem_cons_succ, List.getElem_cons_zero, List.setIfInBounds_toArray, List.set_cons_zero, List.set_cons_succ])
                  (refine wpAnyH_take (i := 11) (v := ?_) rfl (by kernel_rfl) (by kernel_rfl) (by kernel_rfl) (fun _ _ _ h => h) (Or.inl ⟨by rfl, ?_⟩) (by assumption) ?_; rotate_left 1; · (intro wz hSw; (try dsimp only at hSw); go_simp; try rfl)); (try simp only [Act.put, List.getElem_toArray, List.getElem_cons_succ, List.getElem_cons_zero, List.setIfInBounds_toArray, List.set_cons_zero, List.set_cons_succ])
                  (refine wpAnyH_take (i := 12) (v := ?_) rfl (by kernel_rfl) (by kernel_rfl) (by kernel_rfl) (fun _ _ _ h => h) (Or.inl ⟨by rfl, ?_⟩) (by assumption) ?_; rotate_left 1; · (intro wz hSw; (try dsimp only at hSw); go_simp; try rfl)); (try simp only [Act.put, List.getElem_toArray, List.getElem_cons_succ, List.getElem_cons_zero, List.setIfInBounds_toArray, List.set_cons_zero, List.set_cons_succ])
                  (refine wpAnyH_take (i := 13) (v := ?_) rfl (by kernel_rfl) (by kernel_rfl) (by kernel_rfl) (fun _ _ _ h => h) (Or.inl ⟨by rfl, ?_⟩) (by assumption) ?_; rotate_left 1; · (intro wz hSw; (try dsimp only at hSw); go_simp; try rfl)); (try simp only [Act.put, List.getElem_toArray, List.getElem_cons_succ, List.getElem_cons_zero, List.setIfInBounds_toArray, List.set_cons_zero, List.set_cons_succ])
                  (refine wpAnyH_take (i := 15) (v := ?_) rfl (by kernel_rfl) (by kernel_rfl) (by kernel_rfl) (fun _ _ _ h => h) (Or.inl ⟨by rfl, ?_⟩) (by assumption) ?_; rotate_left 1; · (intro wz hSw; (try dsimp only at hSw); go_simp; try rfl)); (try simp only [Act.put, List.getElem_toArray, List.getElem_cons_succ, List.getElem_cons_zero, List.setIfInBounds_toArray, List.set_cons_zero, List.set_cons_succ])
                  (refine wpAnyH_take (i := 16) (v := ?_) rfl (by kernel_rfl) (by kernel_rfl) (by kernel_rfl) (fun _ _ _ h => h) (Or.inl ⟨by rfl, ?_⟩) (by assumption) ?_; rotate_left 1; · (intro wz hSw; (try dsimp only at hSw); go_simp; try rfl)); (try simp only [Act.put, List.getElem_toArray, List.getElem_cons_succ, List.getElem_cons_zero, List.setIfInBounds_toArray, List.set_cons_zero, List.set_cons_succ])
                  (refine wpAnyH_take (i := 17) (v := ?_) rfl (by kernel_rfl) (by kernel_rfl) (by kernel_rfl) (fun _ _ _ h => h) (Or.inl ⟨by rfl, ?_⟩) (by assumption) ?_; rotate_left 1; · (intro wz hSw; (try dsimp only at hSw); go_simp; try rfl)); (try simp only [Act.put, List.getElem_toArray, List.getElem_cons_succ, List.getElem_cons_zero, List.setIfInBounds_toArray, List.set_cons_zero, List.set_cons_succ])
                  refine wpAnyH_ready (rs := [14]) (by kernel_rfl) (by simp) (AllReadyH.cons rfl (fun K hK => ?_) AllReadyH.nil)
                  go_simp
                  go_at_call 35
                  refine (hbe1).mono ?_
                  rintro e w7 ⟨hr7, hc7⟩
                  obtain rfl := hr7.yes HB1.out
                  have hc7' := ((Ch.refl No wr).drew).trans hc7
                  have hq7i := cell_ch hqi hc7' (fun _ _ h => h)
                  have hq7k := cell_ch hqk hc7' (fun _ _ h => h)
                  have HC7 := hid hc7'
                  clear hr7 hc7 hc7' hbe1
                  go_simp
                  have HS7 := hid (And.intro hq7i hq7k)
                  refine hK.out _ _ HS7.out (fun hHeld7 => ?_)
                  clear hK
                  (refine wpAnyH_take (i := 18) (v := ?_) rfl (by kernel_rfl) (by kernel_rfl) (by kernel_rfl) (fun _ _ _ h => h) (Or.inl ⟨by rfl, ?_⟩) (by assumption) ?_; rotate_left 1; · (intro wz hSw; (try dsimp only at hSw); go_simp; try rfl)); (try simp only [Act.put, List.getElem_toArray, List.getElem_cons_succ, List.getElem_cons_zero, List.setIfInBounds_toArray, List.set_cons_zero, List.set_cons_succ])
                  (refine wpAnyH_take (i := 19) (v := undef) rfl (by kernel_rfl) (by kernel_rfl) (by kernel_rfl) (fun _ _ _ h => h) (Or.inr ⟨by rfl, rfl⟩) (by assumption) ?_); (try simp only [Act.put, List.getElem_toArray, List.getElem_cons_succ, List.getElem_cons_zero, List.setIfInBounds_toArray, List.set_cons_zero, List.set_cons_succ])
                  (refine wpAnyH_take (i := 20) (v := undef) rfl (by kernel_rfl) (by kernel_rfl) (by kernel_rfl) (fun _ _ _ h => h) (Or.inr ⟨by rfl, rfl⟩) (by assumption) ?_); (try simp only [Act.put, List.getElem_toArray, List.getElem_cons_succ, List.getElem_cons_zero, List.setIfInBounds_toArray, List.set_cons_zero, List.set_cons_succ])
                  (refine wpAnyH_take (i := 21) (v := undef) rfl (by kernel_rfl) (by kernel_rfl) (by kernel_rfl) (fun _ _ _ h => h) (Or.inr ⟨by rfl, rfl⟩) (by assumption) ?_); (try simp only [Act.put, List.getElem_toArray, List.getElem_cons_succ, List.getElem_cons_zero, List.setIfInBounds_toArray, List.set_cons_zero, List.set_cons_succ])
                  (refine wpAnyH_take (i := 22) (v := undef) rfl (by kernel_rfl) (by kernel_rfl) (by kernel_rfl) (fun _ _ _ h => h) (Or.inr ⟨by rfl, rfl⟩) (by assumption) ?_); (try simp only [Act.put, List.getElem_toArray, List.getElem_cons_succ, List.getElem_cons_zero, List.setIfInBounds_toArray, List.set_cons_zero, List.set_cons_succ])
                  (refine wpAnyH_take (i := 23) (v := undef) rfl (by kernel_rfl) (by kernel_rfl) (by kernel_rfl) (fun _ _ _ h => h) (Or.inr ⟨by rfl, rfl⟩) (by assumption) ?_); (try simp only [Act.put, List.getElem_toArray, List.getElem_cons_succ, List.getElem_cons_zero, List.setIfInBounds_toArray, List.set_cons_zero, List.set_cons_succ])
                  (refine wpAnyH_take (i := 24) (v := undef) rfl (by kernel_rfl) (by kernel_rfl) (by kernel_rfl) (fun _ _ _ h => h) (Or.inr ⟨by rfl, rfl⟩) (by assumption) ?_); (try simp only [Act.put, List.getElem_toArray, List.getElem_cons_succ, List.getElem_cons_zero, List.setIfInBounds_toArray, List.set_cons_zero, List.set_cons_succ])
                  (refine wpAnyH_take (i := 25) (v := undef) rfl (by kernel_rfl) (by kernel_rfl) (by kernel_rfl) (fun _ _ _ h => h) (Or.inr ⟨by rfl, rfl⟩) (by assumption) ?_); (try simp only [Act.put, List.getElem_toArray, List.getElem_cons_succ, List.getElem_cons_zero, List.setIfInBounds_toArray, List.set_cons_zero, List.set_cons_succ])
                  (refine wpAnyH_take (i := 26) (v := undef) rfl (by kernel_rfl) (by kernel_rfl) (by kernel_rfl) (fun _ _ _ h => h) (Or.inr ⟨by rfl, rfl⟩) (by assumption) ?_); (try simp only [Act.put, List.getElem_toArray, List.getElem_cons_succ, List.getElem_cons_zero, List.setIfInBounds_toArray, List.set_cons_zero, List.set_cons_succ])
                  (refine wpAnyH_take (i := 27) (v := ?_) rfl (by kernel_rfl) (by kernel_rfl) (by kernel_rfl) (fun _ _ _ h => h) (Or.inl ⟨by rfl, ?_⟩) (by assumption) ?_; rotate_left 1; · (intro wz hSw; (try dsimp only at hSw); go_simp; try rfl)); (try simp only [Act.put, List.getElem_toArray, List.getElem_cons_succ, List.getElem_cons_zero, List.setIfInBounds_toArray, List.set_cons_zero, List.set_cons_succ])
                  (refine wpAnyH_take (i := 28) (v := ?_) rfl (by kernel_rfl) (by kernel_rfl) (by kernel_rfl) (fun _ _ _ h => h) (Or.inl ⟨by rfl, ?_⟩) (by assumption) ?_; rotate_left 1; · (intro wz hSw; (try dsimp only at hSw); go_simp; try rfl)); (try simp only [Act.put, List.getElem_toArray, List.getElem_cons_succ, List.getElem_cons_zero, List.setIfInBounds_toArray, List.set_cons_zero, List.set_cons_succ])
                  (refine wpAnyH_take (i := 29) (v := ?_) rfl (by kernel_rfl) (by kernel_rfl) (by kernel_rfl) (fun _ _ _ h => h) (Or.inl ⟨by rfl, ?_⟩) (by assumption) ?_; rotate_left 1; · (intro wz hSw; (try dsimp only at hSw); go_simp; try rfl)); (try simp only [Act.put, List.getElem_toArray, List.getElem_cons_succ, List.getElem_cons_zero, List.setIfInBounds_toArray, List.set_cons_zero, List.set_cons_succ])
                  refine wpAnyH_done (by kernel_rfl) ?_ _
                  go_wp2_with fail
                  go_roundg (n - i - 1)
                  case rel => exact ⟨i + 1, by omega, by omega, by go_num, HCK.out.trans HC7.out⟩
                  case measure => omega
                | false =>
                  have hik' : ¬ i = k := by simpa using hik
                  have hik2 : ¬ (i : Int) = (k : Int) := by omega
                  have hik3 : decide ((i : Int) = (k : Int)) = false := by simp; omega
                  have hik4 : ((i : Int) != (k : Int)) = true := by simp; omega
                  have hik5 : ((i : Int) == (k : Int)) = false := by simp; omega
                  have hr0 := 0
                  have hnn := elem_class HRI.out.2.2 HA.out
                  have e2 := litn ti [110, 117, 108, 108] hnn.2.2
                  have HB1 := hid (show ¬ belT cs ti tk from fun h => (KEY.out.1 h).elim (fun e => hik' (HNE.out e)) (fun e => hnn.2.2 e.2))
                  clear hnn
                  clear hr0
                  go_wp2_with fail
                  refine wp_region_held_drew (S := (fun w' => w'.cell? ⟨b, off + i, none⟩ = some (.string ti) ∧ w'.cell? ⟨b, off + k, none⟩ = some (.string tk))) (by kernel_rfl) ⟨hqi, hqk⟩ (fun hHeld => ?_)
                  (refine wpAnyH_take (i := 0) (v := ?_) rfl (by kernel_rfl) (by kernel_rfl) (by kernel_rfl) (fun _ _ _ h => h) (Or.inl ⟨by rfl, ?_⟩) (by assumption) ?_; rotate_left 1; · (intro wz hSw; (try dsimp only at hSw); go_simp; try rfl)); (try simp only [Act.put, List.getElem_toArray, List.getElem_cons_succ, List.getElem_cons_zero, List.setIfInBounds_toArray, List.set_cons_zero, List.set_cons_succ])
                  (refine wpAnyH_take (i := 1) (v := ?_) rfl (by kernel_rfl) (by kernel_rfl) (by kernel_rfl) (fun _ _ _ h => h) (Or.inl ⟨by rfl, ?_⟩) (by assumption) ?_; rotate_left 1; · (intro wz hSw; (try dsimp only at hSw); go_simp; try rfl)); (try simp only [Act.put, List.getElem_toArray, List.getElem_cons_succ, List.getElem_cons_zero, List.setIfInBounds_toArray, List.set_cons_zero, List.set_cons_succ])
                  (refine wpAnyH_take (i := 2) (v := undef) rfl (by kernel_rfl) (by kernel_rfl) (by kernel_rfl) (fun _ _ _ h => h) (Or.inr ⟨by rfl, rfl⟩) (by assumption) ?_); (try simp only [Act.put, List.getElem_toArray, List.getElem_cons_succ, List.getElem_cons_zero, List.setIfInBounds_toArray, List.set_cons_zero, List.set_cons_succ])
                  (refine wpAnyH_take (i := 3) (v := ?_) rfl (by kernel_rfl) (by kernel_rfl) (by kernel_rfl) (fun _ _ _ h => h) (Or.inl ⟨by rfl, ?_⟩) (by assumption) ?_; rotate_left 1; · (intro wz hSw; (try dsimp only at hSw); go_simp; try rfl)); (try simp only [Act.put, List.getElem_toArray, List.getElem_cons_succ, List.getElem_cons_zero, List.setIfInBounds_toArray, List.set_cons_zero, List.set_cons_succ])
                  (refine wpAnyH_take (i := 4) (v := ?_) rfl (by kernel_rfl) (by kernel_rfl) (by kernel_rfl) (fun _ _ _ h => h) (Or.inl ⟨by rfl, ?_⟩) (by assumption) ?_; rotate_left 1; · (intro wz hSw; (try dsimp only at hSw); go_simp; try rfl)); (try simp only [Act.put, List.getElem_toArray, List.getElem_cons_succ, List.getElem_cons_zero, List.setIfInBounds_toArray, List.set_cons_zero, List.set_cons_succ])
                  (refine wpAnyH_take (i := 5) (v := ?_) rfl (by kernel_rfl) (by kernel_rfl) (by kernel_rfl) (fun _ _ _ h => h) (Or.inl ⟨by rfl, ?_⟩) (by assumption) ?_; rotate_left 1; · (intro wz hSw; (try dsimp only at hSw); go_simp; try rfl)); (try simp only [Act.put, List.getElem_toArray, List.getElem_cons_succ, List.getElem_cons_zero, List.setIfInBounds_toArray, List.set_cons_zero, List.set_cons_succ])
                  (refine wpAnyH_take (i := 6) (v := ?_) rfl (by kernel_rfl) (by kernel_rfl) (by kernel_rfl) (fun _ _ _ h => h) (Or.inl ⟨by rfl, ?_⟩) (by assumption) ?_; rotate_left 1; · (intro wz hSw; (try dsimp only at hSw); go_simp; try rfl)); (try simp only [Act.put, List.getElem_toArray, List.getElem_cons_succ, List.getElem_cons_zero, List.setIfInBounds_toArray, List.set_cons_zero, List.set_cons_succ])
                  (refine wpAnyH_take (i := 7) (v := ?_) rfl (by kernel_rfl) (by kernel_rfl) (by kernel_rfl) (fun _ _ _ h => h) (Or.inl ⟨by rfl, ?_⟩) (by assumption) ?_; rotate_left 1; · (intro wz hSw; (try dsimp only at hSw); go_simp; try rfl)); (try simp only [Act.put, List.getElem_toArray, List.getElem_cons_succ, List.getElem_cons_zero, List.setIfInBounds_toArray, List.set_cons_zero, List.set_cons_succ])
                  (refine wpAnyH_take (i := 8) (v := ?_) rfl (by kernel_rfl) (by kernel_rfl) (by kernel_rfl) (fun _ _ _ h => h) (Or.inl ⟨by rfl, ?_⟩) (by assumption) ?_; rotate_left 1; · (intro wz hSw; (try dsimp only at hSw); go_simp; try rfl)); (try simp only [Act.put, List.getElem_toArray, List.getElem_cons_succ, List.getElem_cons_zero, List.setIfInBounds_toArray, List.set_cons_zero, List.set_cons_succ])
                  (refine wpAnyH_take (i := 9) (v := ?_) rfl (by kernel_rfl) (by kernel_rfl) (by kernel_rfl) (fun _ _ _ h => h) (Or.inl ⟨by rfl, ?_⟩) (by assumption) ?_; rotate_left 1; · (intro wz hSw; (try dsimp only at hSw); go_simp; try rfl)); (try simp only [Act.put, List.getElem_toArray, List.getElem_cons_succ, List.getElem_cons_zero, List.setIfInBounds_toArray, List.set_cons_zero, List.set_cons_succ])
                  (refine wpAnyH_take (i := 10) (v := ?_) rfl (by kernel_rfl) (by kernel_rfl) (by kernel_rfl) (fun _ _ _ h => h) (Or.inl ⟨by rfl, ?_⟩) (by assumption) ?_; rotate_left 1; · (intro wz hSw; (try dsimp only at hSw); go_simp; try rfl)); (try simp only [Act.put, List.getElem_toArray, List.getElem_cons_succ, List.getElem_cons_zero, List.setIfInBounds_toArray, List.set_cons_zero, List.set_cons_succ])
                  (refine wpAnyH_take (i := 11) (v := ?_) rfl (by kernel_rfl) (by kernel_rfl) (by kernel_rfl) (fun _ _ _ h => h) (Or.inl ⟨by rfl, ?_⟩) (by assumption) ?_; rotate_left 1; · (intro wz hSw; (try dsimp only at hSw); go_simp; try rfl)); (try simp only [Act.put, List.getElem_toArray, List.getElem_cons_succ, List.getElem_cons_zero, List.setIfInBounds_toArray, List.set_cons_zero, List.set_cons_succ])
                  (refine wpAnyH_take (i := 12) (v := ?_) rfl (by kernel_rfl) (by kernel_rfl) (by kernel_rfl) (fun _ _ _ h => h) (Or.inl ⟨by rfl, ?_⟩) (by assumption) ?_; rotate_left 1; · (intro wz hSw; (try dsimp only at hSw); go_simp; try rfl)); (try simp only [Act.put, List.getElem_toArray, List.getElem_cons_succ, List.getElem_cons_zero, List.setIfInBounds_toArray, List.set_cons_zero, List.set_cons_succ])
                  (refine wpAnyH_take (i := 13) (v := ?_) rfl (by kernel_rfl) (by kernel_rfl) (by kernel_rfl) (fun _ _ _ h => h) (Or.inl ⟨by rfl, ?_⟩) (by assumption) ?_; rotate_left 1; · (intro wz hSw; (try dsimp only at hSw); go_simp; try rfl)); (try simp only [Act.put, List.getElem_toArray, List.getElem_cons_succ, List.getElem_cons_zero, List.setIfInBounds_toArray, List.set_cons_zero, List.set_cons_succ])
                  (refine wpAnyH_take (i := 15) (v := ?_) rfl (by kernel_rfl) (by kernel_rfl) (by kernel_rfl) (fun _ _ _ h => h) (Or.inl ⟨by rfl, ?_⟩) (by assumption) ?_; rotate_left 1; · (intro wz hSw; (try dsimp only at hSw); go_simp; try rfl)); (try simp only [Act.put, List.getElem_toArray, List.getElem_cons_succ, List.getElem_cons_zero, List.setIfInBounds_toArray, List.set_cons_zero, List.set_cons_succ])
                  (refine wpAnyH_take (i := 16) (v := ?_) rfl (by kernel_rfl) (by kernel_rfl) (by kernel_rfl) (fun _ _ _ h => h) (Or.inl ⟨by rfl, ?_⟩) (by assumption) ?_; rotate_left 1; · (intro wz hSw; (try dsimp only at hSw); go_simp; try rfl)); (try simp only [Act.put, List.getElem_toArray, List.getElem_cons_succ, List.getElem_cons_zero, List.setIfInBounds_toArray, List.set_cons_zero, List.set_cons_succ])
                  (refine wpAnyH_take (i := 17) (v := ?_) rfl (by kernel_rfl) (by kernel_rfl) (by kernel_rfl) (fun _ _ _ h => h) (Or.inl ⟨by rfl, ?_⟩) (by assumption) ?_; rotate_left 1; · (intro wz hSw; (try dsimp only at hSw); go_simp; try rfl)); (try simp only [Act.put, List.getElem_toArray, List.getElem_cons_succ, List.getElem_cons_zero, List.setIfInBounds_toArray, List.set_cons_zero, List.set_cons_succ])
                  refine wpAnyH_ready (rs := [14]) (by kernel_rfl) (by simp) (AllReadyH.cons rfl (fun K hK => ?_) AllReadyH.nil)
                  go_simp
                  go_at_call 35
                  refine (hbe1).mono ?_
                  rintro e w7 ⟨hr7, hc7⟩
                  obtain rfl := hr7.no HB1.out
                  have hc7' := ((Ch.refl No wr).drew).trans hc7
                  have hq7i := cell_ch hqi hc7' (fun _ _ h => h)
                  have hq7k := cell_ch hqk hc7' (fun _ _ h => h)
                  have HC7 := hid hc7'
                  clear hr7 hc7 hc7' hbe1
                  go_simp
                  have HS7 := hid (And.intro hq7i hq7k)
                  refine hK.out _ _ HS7.out (fun hHeld7 => ?_)
                  clear hK
                  (refine wpAnyH_take (i := 18) (v := ?_) rfl (by kernel_rfl) (by kernel_rfl) (by kernel_rfl) (fun _ _ _ h => h) (Or.inl ⟨by rfl, ?_⟩) (by assumption) ?_; rotate_left 1; · (intro wz hSw; (try dsimp only at hSw); go_simp; try rfl)); (try simp only [Act.put, List.getElem_toArray, List.getElem_cons_succ, List.getElem_cons_zero, List.setIfInBounds_toArray, List.set_cons_zero, List.set_cons_succ])
                  (refine wpAnyH_take (i := 19) (v := ?_) rfl (by kernel_rfl) (by kernel_rfl) (by kernel_rfl) (fun _ _ _ h => h) (Or.inl ⟨by rfl, ?_⟩) (by assumption) ?_; rotate_left 1; · (intro wz hSw; (try dsimp only at hSw); go_simp; try rfl)); (try simp only [Act.put, List.getElem_toArray, List.getElem_cons_succ, List.getElem_cons_zero, List.setIfInBounds_toArray, List.set_cons_zero, List.set_cons_succ])
                  (refine wpAnyH_take (i := 20) (v := ?_) rfl (by kernel_rfl) (by kernel_rfl) (by kernel_rfl) (fun _ _ _ h => h) (Or.inl ⟨by rfl, ?_⟩) (by assumption) ?_; rotate_left 1; · (intro wz hSw; (try dsimp only at hSw); go_simp; try rfl)); (try simp only [Act.put, List.getElem_toArray, List.getElem_cons_succ, List.getElem_cons_zero, List.setIfInBounds_toArray, List.set_cons_zero, List.set_cons_succ])
                  (refine wpAnyH_take (i := 21) (v := ?_) rfl (by kernel_rfl) (by kernel_rfl) (by kernel_rfl) (fun _ _ _ h => h) (Or.inl ⟨by rfl, ?_⟩) (by assumption) ?_; rotate_left 1; · (intro wz hSw; (try dsimp only at hSw); go_simp; try rfl)); (try simp only [Act.put, List.getElem_toArray, List.getElem_cons_succ, List.getElem_cons_zero, List.setIfInBounds_toArray, List.set_cons_zero, List.set_cons_succ])
                  (refine wpAnyH_take (i := 22) (v := ?_) rfl (by kernel_rfl) (by kernel_rfl) (by kernel_rfl) (fun _ _ _ h => h) (Or.inl ⟨by rfl, ?_⟩) (by assumption) ?_; rotate_left 1; · (intro wz hSw; (try dsimp only at hSw); go_simp; try rfl)); (try simp only [Act.put, List.getElem_toArray, List.getElem_cons_succ, List.getElem_cons_zero, List.setIfInBounds_toArray, List.set_cons_zero, List.set_cons_succ])
                  (refine wpAnyH_take (i := 23) (v := ?_) rfl (by kernel_rfl) (by kernel_rfl) (by kernel_rfl) (fun _ _ _ h => h) (Or.inl ⟨by rfl, ?_⟩) (by assumption) ?_; rotate_left 1; · (intro wz hSw; (try dsimp only at hSw); go_simp; try rfl)); (try simp only [Act.put, List.getElem_toArray, List.getElem_cons_succ, List.getElem_cons_zero, List.setIfInBounds_toArray, List.set_cons_zero, List.set_cons_succ])
                  (refine wpAnyH_take (i := 24) (v := ?_) rfl (by kernel_rfl) (by kernel_rfl) (by kernel_rfl) (fun _ _ _ h => h) (Or.inl ⟨by rfl, ?_⟩) (by assumption) ?_; rotate_left 1; · (intro wz hSw; (try dsimp only at hSw); go_simp; try rfl)); (try simp only [Act.put, List.getElem_toArray, List.getElem_cons_succ, List.getElem_cons_zero, List.setIfInBounds_toArray, List.set_cons_zero, List.set_cons_succ])
                  (refine wpAnyH_take (i := 25) (v := ?_) rfl (by kernel_rfl) (by kernel_rfl) (by kernel_rfl) (fun _ _ _ h => h) (Or.inl ⟨by rfl, ?_⟩) (by assumption) ?_; rotate_left 1; · (intro wz hSw; (try dsimp only at hSw); go_simp; try rfl)); (try simp only [Act.put, List.getElem_toArray, List.getElem_cons_succ, List.getElem_cons_zero, List.setIfInBounds_toArray, List.set_cons_zero, List.set_cons_succ])
                  (refine wpAnyH_take (i := 26) (v := ?_) rfl (by kernel_rfl) (by kernel_rfl) (by kernel_rfl) (fun _ _ _ h => h) (Or.inl ⟨by rfl, ?_⟩) (by assumption) ?_; rotate_left 1; · (intro wz hSw; (try dsimp only at hSw); go_simp; try rfl)); (try simp only [Act.put, List.getElem_toArray, List.getElem_cons_succ, List.getElem_cons_zero, List.setIfInBounds_toArray, List.set_cons_zero, List.set_cons_succ])
                  (refine wpAnyH_take (i := 27) (v := ?_) rfl (by kernel_rfl) (by kernel_rfl) (by kernel_rfl) (fun _ _ _ h => h) (Or.inl ⟨by rfl, ?_⟩) (by assumption) ?_; rotate_left 1; · (intro wz hSw; (try dsimp only at hSw); go_simp; try rfl)); (try simp only [Act.put, List.getElem_toArray, List.getElem_cons_succ, List.getElem_cons_zero, List.setIfInBounds_toArray, List.set_cons_zero, List.set_cons_succ])
                  (refine wpAnyH_take (i := 28) (v := ?_) rfl (by kernel_rfl) (by kernel_rfl) (by kernel_rfl) (fun _ _ _ h => h) (Or.inl ⟨by rfl, ?_⟩) (by assumption) ?_; rotate_left 1; · (intro wz hSw; (try dsimp only at hSw); go_simp; try rfl)); (try simp only [Act.put, List.getElem_toArray, List.getElem_cons_succ, List.getElem_cons_zero, List.setIfInBounds_toArray, List.set_cons_zero, List.set_cons_succ])
                  (refine wpAnyH_take (i := 29) (v := ?_) rfl (by kernel_rfl) (by kernel_rfl) (by kernel_rfl) (fun _ _ _ h => h) (Or.inl ⟨by rfl, ?_⟩) (by assumption) ?_; rotate_left 1; · (intro wz hSw; (try dsimp only at hSw); go_simp; try rfl)); (try simp only [Act.put, List.getElem_toArray, List.getElem_cons_succ, List.getElem_cons_zero, List.setIfInBounds_toArray, List.set_cons_zero, List.set_cons_succ])
                  refine wpAnyH_done (by kernel_rfl) ?_ _
                  go_wp2_with fail
                  go_roundg (n - k - 1)
                  case rel => exact ⟨k + 1, by omega, by omega, by go_num, HCK.out.trans HC7.out⟩
                  case measure => omega
              · have HB := hid heb
                clear hel2 heb
                have key := bel_arr HRI.out.2.2 HTI1.out HTK1.out (.inl ⟨_, HA.out⟩)
                have KEY := hid key
                clear key
                cases hik : decide (i = k) with
                | true =>
                  obtain rfl : i = k := by simpa using hik
                  clear hik
                  obtain rfl : tk = ti := Option.some.inj (HTK.out.symm.trans HTI.out)
                  exact absurd (HA.out.symm.trans HB.out) (fun h => by cases h)
                | false =>
                  have hik' : ¬ i = k := by simpa using hik
                  have hik2 : ¬ (i : Int) = (k : Int) := by omega
                  have hik3 : decide ((i : Int) = (k : Int)) = false := by simp; omega
                  have hik4 : ((i : Int) != (k : Int)) = true := by simp; omega
                  have hik5 : ((i : Int) == (k : Int)) = false := by simp; omega
                  have hr0 := 0
                  have hnn := elem_class HRI.out.2.2 HA.out
                  have e2 := litn ti [110, 117, 108, 108] hnn.2.2
                  have HB1 := hid (show ¬ belT cs ti tk from fun h => (KEY.out.1 h).elim (fun e => hik' (HNE.out e)) (fun e => hnn.2.2 e.2))
                  clear hnn
                  clear hr0
                  go_wp2_with fail
                  refine wp_region_held_drew (S := (fun w' => w'.cell? ⟨b, off + i, none⟩ = some (.string ti) ∧ w'.cell? ⟨b, off + k, none⟩ = some (.string tk))) (by kernel_rfl) ⟨hqi, hqk⟩ (fun hHeld => ?_)
                  (refine wpAnyH_take (i := 0) (v := ?_) rfl (by kernel_rfl) (by kernel_rfl) (by kernel_rfl) (fun _ _ _ h => h) (Or.inl ⟨by rfl, ?_⟩) (by assumption) ?_; rotate_left 1; · (intro wz hSw; (try dsimp only at hSw); go_simp; try rfl)); (try simp only [Act.put, List.getElem_toArray, List.getElem_cons_succ, List.getElem_cons_zero, List.setIfInBounds_toArray, List.set_cons_zero, List.set_cons_succ])
                  (refine wpAnyH_take (i := 1) (v := ?_) rfl (by kernel_rfl) (by kernel_rfl) (by kernel_rfl) (fun _ _ _ h => h) (Or.inl ⟨by rfl, ?_⟩) (by assumption) ?_; rotate_left 1; · (intro wz hSw; (try dsimp only at hSw); go_simp; try rfl)); (try simp only [Act.put, List.getElem_toArray, List.getElem_cons_succ, List.getElem_cons_zero, List.setIfInBounds_toArray, List.set_cons_zero, List.set_cons_succ])
                  (refine wpAnyH_take (i := 2) (v := undef) rfl (by kernel_rfl) (by kernel_rfl) (by kernel_rfl) (fun _ _ _ h => h) (Or.inr ⟨by rfl, rfl⟩) (by assumption) ?_); (try simp only [Act.put, List.getElem_toArray, List.getElem_cons_succ, List.getElem_cons_zero, List.setIfInBounds_toArray, List.set_cons_zero, List.set_cons_succ])
                  (refine wpAnyH_take (i := 3) (v := ?_) rfl (by kernel_rfl) (by kernel_rfl) (by kernel_rfl) (fun _ _ _ h => h) (Or.inl ⟨by rfl, ?_⟩) (by assumption) ?_; rotate_left 1; · (intro wz hSw; (try dsimp only at hSw); go_simp; try rfl)); (try simp only [Act.put, List.getElem_toArray, List.getElem_cons_succ, List.getElem_cons_zero, List.setIfInBounds_toArray, List.set_cons_zero, List.set_cons_succ])
                  (refine wpAnyH_take (i := 4) (v := ?_) rfl (by kernel_rfl) (by kernel_rfl) (by kernel_rfl) (fun _ _ _ h => h) (Or.inl ⟨by rfl, ?_⟩) (by assumption) ?_; rotate_left 1; · (intro wz hSw; (try dsimp only at hSw); go_simp; try rfl)); (try simp only [Act.put, List.getElem_toArray, List.getElem_cons_succ, List.getElem_cons_zero, List.setIfInBounds_toArray, List.set_cons_zero, List.set_cons_succ])
                  (refine wpAnyH_take (i := 5) (v := ?_) rfl (by kernel_rfl) (by kernel_rfl) (by kernel_rfl) (fun _ _ _ h => h) (Or.inl ⟨by rfl, ?_⟩) (by assumption) ?_; rotate_left 1; · (intro wz hSw; (try dsimp only at hSw); go_simp; try rfl)); (try simp only [Act.put, List.getElem_toArray, List.getElem_cons_succ, List.getElem_cons_zero, List.setIfInBounds_toArray, List.set_cons_zero, List.set_cons_succ])
                  (refine wpAnyH_take (i := 6) (v := ?_) rfl (by kernel_rfl) (by kernel_rfl) (by kernel_rfl) (fun _ _ _ h => h) (Or.inl ⟨by rfl, ?_⟩) (by assumption) ?_; rotate_left 1; · (intro wz hSw; (try dsimp only at hSw); go_simp; try rfl)); (try simp only [Act.put, List.getElem_toArray, List.getElem_cons_succ, List.getElem_cons_zero, List.setIfInBounds_toArray, List.set_cons_zero, List.set_cons_succ])
                  (refine wpAnyH_take (i := 7) (v := ?_) rfl (by kernel_rfl) (by kernel_rfl) (by kernel_rfl) (fun _ _ _ h => h) (Or.inl ⟨by rfl, ?_⟩) (by assumption) ?_; rotate_left 1; · (intro wz hSw; (try dsimp only at hSw); go_simp; try rfl)); (try simp only [Act.put, List.getElem_toArray, List.getElem_cons_succ, List.getElem_cons_zero, List.setIfInBounds_toArray, List.set_cons_zero, List.set_cons_succ])
                  (refine wpAnyH_take (i := 8) (v := ?_) rfl (by kernel_rfl) (by kernel_rfl) (by kernel_rfl) (fun _ _ _ h => h) (Or.inl ⟨by rfl, ?_⟩) (by assumption) ?_; rotate_left 1; · (intro wz hSw; (try dsimp only at hSw); go_simp; try rfl)); (try simp only [Act.put, List.getElem_toArray, List.getElem_cons_succ, List.getElem_cons_zero, List.setIfInBounds_toArray, List.set_cons_zero, List.set_cons_succ])
                  (refine wpAnyH_take (i := 9) (v := ?_) rfl (by kernel_rfl) (by kernel_rfl) (by kernel_rfl) (fun _ _ _ h => h) (Or.inl ⟨by rfl, ?_⟩) (by assumption) ?_; rotate_left 1; · (intro wz hSw; (try dsimp only at hSw); go_simp; try rfl)); (try simp only [Act.put, List.getElem_toArray, List.getElem_cons_succ, List.getElem_cons_zero, List.setIfInBounds_toArray, List.set_cons_zero, List.set_cons_succ])
                  (refine wpAnyH_take (i := 10) (v := ?_) rfl (by kernel_rfl) (by kernel_rfl) (by kernel_rfl) (fun _ _ _ h => h) (Or.inl ⟨by rfl, ?_⟩) (by assumption) ?_; rotate_left 1; · (intro wz hSw; (try dsimp only at hSw); go_simp; try rfl)); (try simp only [Act.put, List.getElem_toArray, List.getElem_cons_succ, List.getElem_cons_zero, List.setIfInBounds_toArray, List.set_cons_zero, List.set_cons_succ])
                  (refine wpAnyH_take (i := 11) (v := ?_) rfl (by kernel_rfl) (by kernel_rfl) (by kernel_rfl) (fun _ _ _ h => h) (Or.inl ⟨by rfl, ?_⟩) (by assumption) ?_; rotate_left 1; · (intro wz hSw; (try dsimp only at hSw); go_simp; try rfl)); (try simp only [Act.put, List.getElem_toArray, List.getElem_cons_succ, List.getElem_cons_zero, List.setIfInBounds_toArray, List.set_cons_zero, List.set_cons_succ])
                  (refine wpAnyH_take (i := 12) (v := ?_) rfl (by kernel_rfl) (by kernel_rfl) (by kernel_rfl) (fun _ _ _ h => h) (Or.inl ⟨by rfl, ?_⟩) (by assumption) ?_; rotate_left 1; · (intro wz hSw; (try dsimp only at hSw); go_simp; try rfl)); (try simp only [Act.put, List.getElem_toArray, List.getElem_cons_succ, List.getElem_cons_zero, List.setIfInBounds_toArray, List.set_cons_zero, List.set_cons_succ])
                  (refine wpAnyH_take (i := 13) (v := ?_) rfl (by kernel_rfl) (by kernel_rfl) (by kernel_rfl) (fun _ _ _ h => h) (Or.inl ⟨by rfl, ?_⟩) (by assumption) ?_; rotate_left 1; · (intro wz hSw; (try dsimp only at hSw); go_simp; try rfl)); (try simp only [Act.put, List.getElem_toArray, List.getElem_cons_succ, List.getElem_cons_zero, List.setIfInBounds_toArray, List.set_cons_zero, List.set_cons_succ])
                  (refine wpAnyH_take (i := 15) (v := ?_) rfl (by kernel_rfl) (by kernel_rfl) (by kernel_rfl) (fun _ _ _ h => h) (Or.inl ⟨by rfl, ?_⟩) (by assumption) ?_; rotate_left 1; · (intro wz hSw; (try dsimp only at hSw); go_simp; try rfl)); (try simp only [Act.put, List.getElem_toArray, List.getElem_cons_succ, List.getElem_cons_zero, List.setIfInBounds_toArray, List.set_cons_zero, List.set_cons_succ])
                  (refine wpAnyH_take (i := 16) (v := ?_) rfl (by kernel_rfl) (by kernel_rfl) (by kernel_rfl) (fun _ _ _ h => h) (Or.inl ⟨by rfl, ?_⟩) (by assumption) ?_; rotate_left 1; · (intro wz hSw; (try dsimp only at hSw); go_simp; try rfl)); (try simp only [Act.put, List.getElem_toArray, List.getElem_cons_succ, List.getElem_cons_zero, List.setIfInBounds_toArray, List.set_cons_zero, List.set_cons_succ])
                  (refine wpAnyH_take (i := 17) (v := ?_) rfl (by kernel_rfl) (by kernel_rfl) (by kernel_rfl) (fun _ _ _ h => h) (Or.inl ⟨by rfl, ?_⟩) (by assumption) ?_; rotate_left 1; · (intro wz hSw; (try dsimp only at hSw); go_simp; try rfl)); (try simp only [Act.put, List.getElem_toArray, List.getElem_cons_succ, List.getElem_cons_zero, List.setIfInBounds_toArray, List.set_cons_zero, List.set_cons_succ])
                  refine wpAnyH_ready (rs := [14]) (by kernel_rfl) (by simp) (AllReadyH.cons rfl (fun K hK => ?_) AllReadyH.nil)
                  go_simp
                  go_at_call 35
                  refine (hbe1).mono ?_
                  rintro e w7 ⟨hr7, hc7⟩
                  obtain rfl := hr7.no HB1.out
                  have hc7' := ((Ch.refl No wr).drew).trans hc7
                  have hq7i := cell_ch hqi hc7' (fun _ _ h => h)
                  have hq7k := cell_ch hqk hc7' (fun _ _ h => h)
                  have HC7 := hid hc7'
                  clear hr7 hc7 hc7' hbe1
                  go_simp
                  have HS7 := hid (And.intro hq7i hq7k)
                  refine hK.out _ _ HS7.out (fun hHeld7 => ?_)
                  clear hK
                  (refine wpAnyH_take (i := 18) (v := ?_) rfl (by kernel_rfl) (by kernel_rfl) (by kernel_rfl) (fun _ _ _ h => h) (Or.inl ⟨by rfl, ?_⟩) (by assumption) ?_; rotate_left 1; · (intro wz hSw; (try dsimp only at hSw); go_simp; try rfl)); (try simp only [Act.put, List.getElem_toArray, List.getElem_cons_succ, List.getElem_cons_zero, List.setIfInBounds_toArray, List.set_cons_zero, List.set_cons_succ])
                  (refine wpAnyH_take (i := 19) (v := ?_) rfl (by kernel_rfl) (by kernel_rfl) (by kernel_rfl) (fun _ _ _ h => h) (Or.inl ⟨by rfl, ?_⟩) (by assumption) ?_; rotate_left 1; · (intro wz hSw; (try dsimp only at hSw); go_simp; try rfl)); (try simp only [Act.put, List.getElem_toArray, List.getElem_cons_succ, List.getElem_cons_zero, List.setIfInBounds_toArray, List.set_cons_zero, List.set_cons_succ])
                  (refine wpAnyH_take (i := 20) (v := ?_) rfl (by kernel_rfl) (by kernel_rfl) (by kernel_rfl) (fun _ _ _ h => h) (Or.inl ⟨by rfl, ?_⟩) (by assumption) ?_; rotate_left 1; · (intro wz hSw; (try dsimp only at hSw); go_simp; try rfl)); (try simp only [Act.put, List.getElem_toArray, List.getElem_cons_succ, List.getElem_cons_zero, List.setIfInBounds_toArray, List.set_cons_zero, List.set_cons_succ])
                  (refine wpAnyH_take (i := 21) (v := undef) rfl (by kernel_rfl) (by kernel_rfl) (by kernel_rfl) (fun _ _ _ h => h) (Or.inr ⟨by rfl, rfl⟩) (by assumption) ?_); (try simp only [Act.put, List.getElem_toArray, List.getElem_cons_succ, List.getElem_cons_zero, List.setIfInBounds_toArray, List.set_cons_zero, List.set_cons_succ])
                  (refine wpAnyH_take (i := 22) (v := undef) rfl (by kernel_rfl) (by kernel_rfl) (by kernel_rfl) (fun _ _ _ h => h) (Or.inr ⟨by rfl, rfl⟩) (by assumption) ?_); (try simp only [Act.put, List.getElem_toArray, List.getElem_cons_succ, List.getElem_cons_zero, List.setIfInBounds_toArray, List.set_cons_zero, List.set_cons_succ])
                  (refine wpAnyH_take (i := 23) (v := undef) rfl (by kernel_rfl) (by kernel_rfl) (by kernel_rfl) (fun _ _ _ h => h) (Or.inr ⟨by rfl, rfl⟩) (by assumption) ?_); (try simp only [Act.put, List.getElem_toArray, List.getElem_cons_succ, List.getElem_cons_zero, List.setIfInBounds_toArray, List.set_cons_zero, List.set_cons_succ])
                  (refine wpAnyH_take (i := 24) (v := undef) rfl (by kernel_rfl) (by kernel_rfl) (by kernel_rfl) (fun _ _ _ h => h) (Or.inr ⟨by rfl, rfl⟩) (by assumption) ?_); (try simp only [Act.put, List.getElem_toArray, List.getElem_cons_succ, List.getElem_cons_zero, List.setIfInBounds_toArray, List.set_cons_zero, List.set_cons_succ])
                  (refine wpAnyH_take (i := 25) (v := undef) rfl (by kernel_rfl) (by kernel_rfl) (by kernel_rfl) (fun _ _ _ h => h) (Or.inr ⟨by rfl, rfl⟩) (by assumption) ?_); (try simp only [Act.put, List.getElem_toArray, List.getElem_cons_succ, List.getElem_cons_zero, List.setIfInBounds_toArray, List.set_cons_zero, List.set_cons_succ])
                  (refine wpAnyH_take (i := 26) (v := ?_) rfl (by kernel_rfl) (by kernel_rfl) (by kernel_rfl) (fun _ _ _ h => h) (Or.inl ⟨by rfl, ?_⟩) (by assumption) ?_; rotate_left 1; · (intro wz hSw; (try dsimp only at hSw); go_simp; try rfl)); (try simp only [Act.put, List.getElem_toArray, List.getElem_cons_succ, List.getElem_cons_zero, List.setIfInBounds_toArray, List.set_cons_zero, List.set_cons_succ])
                  (refine wpAnyH_take (i := 27) (v := ?_) rfl (by kernel_rfl) (by kernel_rfl) (by kernel_rfl) (fun _ _ _ h => h) (Or.inl ⟨by rfl, ?_⟩) (by assumption) ?_; rotate_left 1; · (intro wz hSw; (try dsimp only at hSw); go_simp; try rfl)); (try simp only [Act.put, List.getElem_toArray, List.getElem_cons_succ, List.getElem_cons_zero, List.setIfInBounds_toArray, List.set_cons_zero, List.set_cons_succ])
                  (refine wpAnyH_take (i := 28) (v := ?_) rfl (by kernel_rfl) (by kernel_rfl) (by kernel_rfl) (fun _ _ _ h => h) (Or.inl ⟨by rfl, ?_⟩) (by assumption) ?_; rotate_left 1; · (intro wz hSw; (try dsimp only at hSw); go_simp; try rfl)); (try simp only [Act.put, List.getElem_toArray, List.getElem_cons_succ, List.getElem_cons_zero, List.setIfInBounds_toArray, List.set_cons_zero, List.set_cons_succ])
                  (refine wpAnyH_take (i := 29) (v := ?_) rfl (by kernel_rfl) (by kernel_rfl) (by kernel_rfl) (fun _ _ _ h => h) (Or.inl ⟨by rfl, ?_⟩) (by assumption) ?_; rotate_left 1; · (intro wz hSw; (try dsimp only at hSw); go_simp; try rfl)); (try simp only [Act.put, List.getElem_toArray, List.getElem_cons_succ, List.getElem_cons_zero, List.setIfInBounds_toArray, List.set_cons_zero, List.set_cons_succ])
                  refine wpAnyH_done (by kernel_rfl) ?_ _
                  go_wp2_with fail
                  go_roundg (n - k - 1)
                  case rel => exact ⟨k + 1, by omega, by omega, by go_num, HCK.out.trans HC7.out⟩
                  case measure => omega
            · have HA := hid hea
              clear hel1 hea
              go_wp2_with fail
              refine hel2.mono ?_
              rintro e w5 ⟨⟨eb, heb, rfl⟩ | ⟨heb, rfl⟩, rfl⟩
              · have HB := hid heb
                clear hel2 heb
                have key := bel_arr HRI.out.2.2 HTI1.out HTK1.out (.inr ⟨_, HB.out⟩)
                have KEY := hid key
                clear key
                cases hik : decide (i = k) with
                | true =>
                  obtain rfl : i = k := by simpa using hik
                  clear hik
                  obtain rfl : tk = ti := Option.some.inj (HTK.out.symm.trans HTI.out)
                  exact absurd (HA.out.symm.trans HB.out) (fun h => by cases h)
                | false =>
                  have hik' : ¬ i = k := by simpa using hik
                  have hik2 : ¬ (i : Int) = (k : Int) := by omega
                  have hik3 : decide ((i : Int) = (k : Int)) = false := by simp; omega
                  have hik4 : ((i : Int) != (k : Int)) = true := by simp; omega
                  have hik5 : ((i : Int) == (k : Int)) = false := by simp; omega
                  have hr0 := 0
                  by_cases hnl : ti = sNull
                  · have e2 := lit ti [110, 117, 108, 108] hnl
                    have HB1 := hid (show belT cs ti tk from KEY.out.2 (.inr ⟨⟨_, HB.out⟩, hnl⟩))
                    clear hnl
                    clear hr0
                    go_wp2_with fail
                    go_region_held3 (fun w' => w'.cell? ⟨b, off + i, none⟩ = some (.string ti) ∧ w'.cell? ⟨b, off + k, none⟩ = some (.string tk)) (first | exact ⟨hqi, hqk⟩ | exact ⟨hq7i, hq7k⟩ | go_keep) (first | (go_at_call 35; refine hbe1.mono ?_; rintro e w7 ⟨hr7, hc7⟩; obtain rfl := hr7.yes HB1.out; have hc7' := ((Ch.refl No wr).drew).trans hc7; have hq7i := cell_ch hqi hc7' (fun _ _ h => h); have hq7k := cell_ch hqk hc7' (fun _ _ h => h); have HC7 := hid hc7'; clear hr7 hc7 hc7' hbe1))
                    go_wp2_with fail
                    go_roundg (n - k - 1)
                    case rel => exact ⟨k + 1, by omega, by omega, by go_num, HCK.out.trans HC7.out⟩
                    case measure => omega
                  · have e2 := litn ti [110, 117, 108, 108] hnl
                    have HB1 := hid (show ¬ belT cs ti tk from fun h => (KEY.out.1 h).elim (fun e => hik' (HNE.out e)) (fun e => hnl e.2))
                    clear hnl
                    clear hr0
                    go_wp2_with fail
                    go_region_held3 (fun w' => w'.cell? ⟨b, off + i, none⟩ = some (.string ti) ∧ w'.cell? ⟨b, off + k, none⟩ = some (.string tk)) (first | exact ⟨hqi, hqk⟩ | exact ⟨hq7i, hq7k⟩ | go_keep) (first | (go_at_call 35; refine hbe1.mono ?_; rintro e w7 ⟨hr7, hc7⟩; obtain rfl := hr7.no HB1.out; have hc7' := ((Ch.refl No wr).drew).trans hc7; have hq7i := cell_ch hqi hc7' (fun _ _ h => h); have hq7k := cell_ch hqk hc7' (fun _ _ h => h); have HC7 := hid hc7'; clear hr7 hc7 hc7' hbe1))
                    go_wp2_with fail
                    go_roundg (n - k - 1)
                    case rel => exact ⟨k + 1, by omega, by omega, by go_num, HCK.out.trans HC7.out⟩
                    case measure => omega
              · have HB := hid heb
                have hr0 := 0
                clear hel2 heb
                clear hr0
                go_wp2_with fail
                go_quiet (fail)
                go_wp2_with fail
                go_roundg (n - k - 1)
                case rel => exact ⟨k + 1, by omega, by omega, by go_num, HCK.out.trans (by first | exact (Ch.refl No wr).drew | exact (Ch.refl No wr).drewN _)⟩
                case measure => omega
end Go.Proofs.YtkffejgjpnnkmaaDoor
