/- SubOrder: the law. -/
import Derived.Test.YtkffejgjpnnkmaaDoorPe
import Derived.Deep.RegionHeld3
import Derived.Deep.CutRange
import Derived.BigQuiet
set_option linter.unusedVariables false
set_option linter.unusedSimpArgs false
namespace Go.Proofs.YtkffejgjpnnkmaaDoor
open Go.RowKit Go.W

set_option maxRecDepth 100000 in
set_option maxHeartbeats 16000000 in
theorem law_sorder {w : World} {pv : Value} {cs : List Cls} (hT : Tab w) (h : ProgAt w pv cs) (hsz : SzP cs) (hzb : SzB cs) :
    Calls Tryd.prog 8 #[pv] w fun e w' => e = .returned (.bool true) ∧ Ch No w w' := by
  have HT0 := hid hT
  have HSZ := hid hsz
  have HZB := hid hzb
  clear hT hsz hzb
  have hp := h
  obtain ⟨cv, m0, m1, m2, m3, m4, m5, m6, m7, m8, rfl, h⟩ := h
  obtain ⟨ao, cap, rfl, hcap, hmax, _, _⟩ := h.row
  rw [List.length_map] at hcap h hp ⊢
  obtain ⟨len, hlen⟩ : ∃ len, cs.length = len := ⟨_, rfl⟩
  rw [hlen] at hcap h hp ⊢
  unfold maxLen at hmax
  obtain ⟨wa, hwa⟩ : ∃ wa, w.alloc (.cells #[.slice ao len cap, m0, m1, m2, m3, m4, m5, m6, m7, m8] 30) = wa := ⟨_, rfl⟩
  have hpb := heap_alloc_new w (.cells #[.slice ao len cap, m0, m1, m2, m3, m4, m5, m6, m7, m8] 30)
  have hch := (Ch.refl No w).alloc (.cells #[.slice ao len cap, m0, m1, m2, m3, m4, m5, m6, m7, m8] 30)
  rw [hwa] at hch hpb
  have HL := hid hlen
  have HP := hid (hp.no hch)
  have HC := hid (h.no hch)
  have HPB := hid hpb
  have HCH := hid hch
  have p0 := cellAt hpb 0
  have p1 := cellAt hpb 1
  have p2 := cellAt hpb 2
  have p3 := cellAt hpb 3
  have p4 := cellAt hpb 4
  have p5 := cellAt hpb 5
  have p6 := cellAt hpb 6
  have p7 := cellAt hpb 7
  have p8 := cellAt hpb 8
  have p9 := cellAt hpb 9
  have hz := lt_size hpb
  clear hlen h hp hpb hch
  have HT := hid (HT0.out.no HCH.out)
  have haw := awake09 HT.out
  go_enter Tryd.func8, Tryd.ntmps8
  go_wp2_with fail
  clear hwa
  refine haw.mono ?_
  rintro e w1 ⟨rfl, hc1⟩
  have hp1 := hc1.keep _ _ HPB.out (fun h => h)
  have hri := lright (HP.out.no hc1) HSZ.out
  have HP1 := hid hp1
  have HC1 := hid hc1
  clear p0 p1 p2 p3 p4 p5 p6 p7 p8 p9 haw hc1
  have p0 := cellAt hp1 0
  have p1 := cellAt hp1 1
  have p2 := cellAt hp1 2
  have p3 := cellAt hp1 3
  have p4 := cellAt hp1 4
  have p5 := cellAt hp1 5
  have p6 := cellAt hp1 6
  have p7 := cellAt hp1 7
  have p8 := cellAt hp1 8
  have p9 := cellAt hp1 9
  clear hp1
  go_wp2_with fail
  refine hri.mono ?_
  rintro e w2 ⟨⟨r, rfl, hr⟩, hc2⟩
  have hp2 := hc2.keep _ _ HP1.out (fun h => h)
  have HC2 := hid (HC1.out.trans hc2)
  have HP2 := hid hp2
  have HR := hid hr
  clear p0 p1 p2 p3 p4 p5 p6 p7 p8 p9 hri hc2 hr
  have p0 := cellAt hp2 0
  have p1 := cellAt hp2 1
  have p2 := cellAt hp2 2
  have p3 := cellAt hp2 3
  have p4 := cellAt hp2 4
  have p5 := cellAt hp2 5
  have p6 := cellAt hp2 6
  have p7 := cellAt hp2 7
  have p8 := cellAt hp2 8
  have p9 := cellAt hp2 9
  clear hp2
  cases r with
  | false =>
    clear HR
    have haw := awake09 (HT.out.no HC2.out)
    go_wp2_with fail
    refine haw.mono ?_
    rintro e w3 ⟨rfl, hc3⟩
    go_wp2_with fail
    go_ret
    exact ⟨rfl, HCH.out.trans (HC2.out.trans hc3)⟩
  | true =>
    have HRI := hid (HR.out.1 rfl)
    clear HR
    have hmk := lmade (HT.out.no HC2.out) (HP.out.no HC2.out) HSZ.out HRI.out.1 HRI.out.2.1
    go_wp2_with fail
    refine hmk.mono ?_
    rintro e w3 ⟨xv, rfl, hx, hc3⟩
    have HX := hid hx
    have HC3 := hid (HC2.out.trans hc3)
    have hp3 := hc3.keep _ _ HP2.out (fun h => h)
    have hal := lall (HP.out.no HC3.out) HZB.out
    obtain ⟨xb, tb, abv, ss, rfl, _⟩ := hx
    clear p0 p1 p2 p3 p4 p5 p6 p7 p8 p9 hmk hc3
    have p0 := cellAt hp3 0
    have p1 := cellAt hp3 1
    have p2 := cellAt hp3 2
    have p3 := cellAt hp3 3
    have p4 := cellAt hp3 4
    have p5 := cellAt hp3 5
    have p6 := cellAt hp3 6
    have p7 := cellAt hp3 7
    have p8 := cellAt hp3 8
    have p9 := cellAt hp3 9
    clear hp3
    go_wp2_with fail
    refine hal.mono ?_
    rintro e w4 ⟨v, rfl, hv, hc4⟩
    have HX4 := hid (HX.out.no hc4)
    have HC4 := hid (HC3.out.trans hc4)
    have HV := hid hv
    obtain ⟨ao, cap, rfl, hcp, hmx, _⟩ := hv
    obtain ⟨n, hn⟩ : ∃ n, (allT cs 8).length = n := ⟨_, rfl⟩
    rw [hn] at HV hcp ⊢
    unfold maxLen at hmx
    have hn20 : n ≤ 18 := by rw [← hn, allTlen]; have := Nat.min_le_left 8 cs.length; omega
    have HN := hid hn
    clear hn hal hc4 p0 p1 p2 p3 p4 p5 p6 p7 p8 p9
    go_wp2_with fail
    go_loopg [5] n (fun g s5 wr => ∃ (i : Nat), i ≤ n ∧ n - i ≤ g ∧ s5 = .int .i64 i ∧ Ch No w4 wr)
    case atStart => exact ⟨0, Nat.zero_le _, by omega, rfl, Ch.refl _ _⟩
    case round =>
      obtain ⟨i, hi, hg, rfl, hc⟩ := hrel
      have HCR := hid hc
      clear hc
      cases hd : decide (i < n) with
      | false =>
        have hil : ¬ i < n := by simpa using hd
        go_wp2_with fail
        go_ret
        exact ⟨rfl, HCH.out.trans (HC4.out.trans HCR.out)⟩
      | true =>
        have hil : i < n := by simpa using hd
        obtain ⟨ti, hti⟩ : ∃ ti, (allT cs 8)[i]? = some ti := ⟨_, List.getElem?_eq_getElem (by have := HN.out; omega)⟩
        obtain ⟨hnn, b, off, hao, hqi⟩ := (HV.out.no HCR.out).cell hti
        subst hao
        clear hnn
        have hti1 := allTis HRI.out.2.1 (List.mem_of_getElem? hti)
        have htz := allTsz HZB.out ti (List.mem_of_getElem? hti)
        have hca : Ch No wr _ := ((Ch.refl No wr).alloc (.cells #[.string ti] 9)).drew
        have hqa := cell_ch hqi hca (fun _ _ h => h)
        have hisx := xis ((HX4.out.no HCR.out).no hca) ((StrsAt.one [ti] (Nat.le_of_ble_eq_true rfl)).no ((Ch.refl No _).drew)) (fun x hx => by
          have : x = ti := by simpa using hx
          subst this; exact htz)
        have hbel := xbelow ((HX4.out.no HCR.out).no hca) htz htz
        have HTI := hid hti
        have HT1 := hid hti1
        have HTZ := hid htz
        have HCA := hid hca
        have hall1 : ∀ x ∈ [ti], isT cs x := fun x hx => by
          have : x = ti := by simpa using hx
          subst this; exact hti1
        have HALL := hid hall1
        clear hti hti1 htz hca hall1
        go_wp2_with fail
        go_region_held3 (fun w' => w'.cell? ⟨b, off + i, none⟩ = some (.string ti)) (first | exact hqi | exact hqa | exact hqb | go_keep) (first | (go_at_call 34; refine hisx.mono ?_; rintro e w5 ⟨hr5, rfl⟩; obtain rfl := hr5.yes HALL.out; clear hr5 hisx) | (go_at_call 35; refine hbel.mono ?_; rintro e w6 ⟨hr6, hc6⟩; obtain rfl := hr6.yes (belT.refl HT1.out); have hqb := cell_ch hqa hc6 (fun _ _ h => h); have HC6 := hid (HCA.out.trans hc6); clear hr6 hc6))
        have HX6 := hid (HX4.out.no (HCR.out.trans HC6.out))
        have HV6 := hid (HV.out.no (HCR.out.trans HC6.out))
        have HC6' := hid (HCR.out.trans HC6.out)
        clear hqi hqa hqb hbel HCA HALL HC6
        go_wp2_with fail
        go_loopg [6] n (fun g s6 wr' => ∃ (k : Nat), k ≤ n ∧ n - k ≤ g ∧ s6 = .int .i64 k ∧ Ch No w6 wr')
        case atStart => exact ⟨0, Nat.zero_le _, by omega, rfl, Ch.refl _ _⟩
        case round =>
          obtain ⟨k, hk, hgk, rfl, hck⟩ := hrel
          have HCK := hid hck
          clear hck
          cases hdk : decide (k < n) with
          | false =>
            have hkl : ¬ k < n := by simpa using hdk
            go_wp2_with fail
            go_roundg (n - i - 1)
            case rel => exact ⟨i + 1, by omega, by omega, by go_num, HC6'.out.trans HCK.out⟩
            case measure => omega
          | true =>
            have hkl : k < n := by simpa using hdk
            obtain ⟨tk, htk⟩ : ∃ tk, (allT cs 8)[k]? = some tk := ⟨_, List.getElem?_eq_getElem (by have := HN.out; omega)⟩
            have htk1 := allTis HRI.out.2.1 (List.mem_of_getElem? htk)
            have htkz := allTsz HZB.out tk (List.mem_of_getElem? htk)
            have hne : ti = tk → i = k := fun e => nodupAt (allTnodup HRI.out.2.1 HRI.out.2.2 8) HTI.out (by rw [e]; exact htk)
            obtain ⟨hn1, b1, off1, e1, hqi⟩ := (HV6.out.no HCK.out).cell HTI.out
            cases e1
            obtain ⟨hn2, b2, off2, e2, hqk⟩ := (HV6.out.no HCK.out).cell htk
            cases e2
            have HTK := hid htk
            have HTK1 := hid htk1
            have HTKZ := hid htkz
            have HNE := hid hne
            have HXK := hid (HX6.out.no HCK.out)
            clear hn1 hn2 htk htk1 htkz hne
            go_upto_region 15 with fail
            go_cut [81] from 49 to 122 (fun s81 wx => s81 = .bool false ∧ Ch No wr wx)
            case first =>
              cases hik : decide (i = k) with
              | true =>
                obtain rfl : i = k := by simpa using hik
                clear hik
                go_wp2_with fail
                go_quiet (fail)
                go_wp2_with fail
                go_meet
                exact ⟨rfl, by first | exact (Ch.refl No wr).drew | exact (Ch.refl No wr).drewN _⟩
              | false =>
                have hik' : ¬ i = k := by simpa using hik
                have hik2 : ¬ (i : Int) = (k : Int) := by omega
                have hik3 : decide ((i : Int) = (k : Int)) = false := by simp; omega
                have hik4 : ((i : Int) != (k : Int)) = true := by simp; omega
                have hik5 : ((i : Int) == (k : Int)) = false := by simp; omega
                have hbe1 := xbelow (HXK.out.no ((Ch.refl No wr).drew)) HTZ.out HTKZ.out
                by_cases hb1 : belT cs ti tk
                · have HB1 := hid hb1
                  have HB2 := hid (show ¬ belT cs tk ti from fun h => hik' (HNE.out (hb1.anti HRI.out.2.1 HRI.out.2.2 h)))
                  clear hb1
                  go_wp2_with fail
                  go_region_held3 (fun w' => w'.cell? ⟨b, off + i, none⟩ = some (.string ti) ∧ w'.cell? ⟨b, off + k, none⟩ = some (.string tk)) (first | exact ⟨hqi, hqk⟩ | exact ⟨hq7i, hq7k⟩ | exact ⟨hq8i, hq8k⟩ | go_keep) (first | (go_at_call 35; refine hbe1.mono ?_; rintro e w7 ⟨hr7, hc7⟩; obtain rfl := hr7.yes HB1.out; have hc7' := ((Ch.refl No wr).drew).trans hc7; have hq7i := cell_ch hqi hc7' (fun _ _ h => h); have hq7k := cell_ch hqk hc7' (fun _ _ h => h); have HC7 := hid hc7'; clear hr7 hc7 hc7' hbe1) | (go_at_call 35; refine (xbelow (HXK.out.no HC7.out) HTKZ.out HTZ.out).mono ?_; rintro e w8 ⟨hr8, hc8⟩; obtain rfl := hr8.no HB2.out; have hq8i := cell_ch hq7i hc8 (fun _ _ h => h); have hq8k := cell_ch hq7k hc8 (fun _ _ h => h); have HC8 := hid (HC7.out.trans hc8); clear hr8 hc8 HC7))
                  go_wp2_with fail
                  go_meet
                  exact ⟨rfl, HC8.out⟩
                · have HB1 := hid hb1
                  clear hb1
                  go_wp2_with fail
                  refine wp_region_held_drew (S := (fun w' => w'.cell? ⟨b, off + i, none⟩ = some (.string ti) ∧ w'.cell? ⟨b, off + k, none⟩ = some (.string tk))) (by kernel_rfl) ⟨hqi, hqk⟩ (fun hHeld => ?_)
                  (refine wpAnyH_take (i := 0) (v := ?_) rfl (by kernel_rfl) (by kernel_rfl) (by kernel_rfl) (fun _ _ _ h => h) (Or.inl ⟨by rfl, ?_⟩) (by assumption) ?_; rotate_left 1; · (intro wz hSw; (try dsimp only at hSw); go_simp; try rfl)); (try simp only [Act.put, List.getElem_toArray, List.getElem_cons_succ, List.getElem_cons_zero, List.setIfInBounds_toArray, List.set_cons_zero, List.set_cons_succ])
                  (refine wpAnyH_take (i := 1) (v := ?_) rfl (by kernel_rfl) (by kernel_rfl) (by kernel_rfl) (fun _ _ _ h => h) (Or.inl ⟨by rfl, ?_⟩) (by assumption) ?_; rotate_left 1; · (intro wz hSw; (try dsimp only at hSw); go_simp; try rfl)); (try simp only [Act.put, List.getElem_toArray, List.getElem_cons_succ, List.getElem_cons_zero, List.setIfInBounds_toArray, List.set_cons_zero, List.set_cons_succ])
                  (refine wpAnyH_take (i := 2) (v := ?_) rfl (by kernel_rfl) (by kernel_rfl) (by kernel_rfl) (fun _ _ _ h => h) (Or.inl ⟨by rfl, ?_⟩) (by assumption) ?_; rotate_left 1; · (intro wz hSw; (try dsimp only at hSw); go_simp; try rfl)); (try simp only [Act.put, List.getElem_toArray, List.getElem_cons_succ, List.getElem_cons_zero, List.setIfInBounds_toArray, List.set_cons_zero, List.set_cons_succ])
                  (refine wpAnyH_take (i := 3) (v := ?_) rfl (by kernel_rfl) (by kernel_rfl) (by kernel_rfl) (fun _ _ _ h => h) (Or.inl ⟨by rfl, ?_⟩) (by assumption) ?_; rotate_left 1; · (intro wz hSw; (try dsimp only at hSw); go_simp; try rfl)); (try simp only [Act.put, List.getElem_toArray, List.getElem_cons_succ, List.getElem_cons_zero, List.setIfInBounds_toArray, List.set_cons_zero, List.set_cons_succ])
                  (refine wpAnyH_take (i := 4) (v := ?_) rfl (by kernel_rfl) (by kernel_rfl) (by kernel_rfl) (fun _ _ _ h => h) (Or.inl ⟨by rfl, ?_⟩) (by assumption) ?_; rotate_left 1; · (intro wz hSw; (try dsimp only at hSw); go_simp; try rfl)); (try simp only [Act.put, List.getElem_toArray, List.getElem_cons_succ, List.getElem_cons_zero, List.setIfInBounds_toArray, List.set_cons_zero, List.set_cons_succ])
                  (refine wpAnyH_take (i := 5) (v := ?_) rfl (by kernel_rfl) (by kernel_rfl) (by kernel_rfl) (fun _ _ _ h => h) (Or.inl ⟨by rfl, ?_⟩) (by assumption) ?_; rotate_left 1; · (intro wz hSw; (try dsimp only at hSw); go_simp; try rfl)); (try simp only [Act.put, List.getElem_toArray, List.getElem_cons_succ, List.getElem_cons_zero, List.setIfInBounds_toArray, List.set_cons_zero, List.set_cons_succ])
                  (refine wpAnyH_take (i := 6) (v := ?_) rfl (by kernel_rfl) (by kernel_rfl) (by kernel_rfl) (fun _ _ _ h => h) (Or.inl ⟨by rfl, ?_⟩) (by assumption) ?_; rotate_left 1; · (intro wz hSw; (try dsimp only at hSw); go_simp; try rfl)); (try simp only [Act.put, List.getElem_toArray, List.getElem_cons_succ, List.getElem_cons_zero, List.setIfInBounds_toArray, List.set_cons_zero, List.set_cons_succ])
                  (refine wpAnyH_take (i := 7) (v := ?_) rfl (by kernel_rfl) (by kernel_rfl) (by kernel_rfl) (fun _ _ _ h => h) (Or.inl ⟨by rfl, ?_⟩) (by assumption) ?_; rotate_left 1; · (intro wz hSw; (try dsimp only at hSw); go_simp; try rfl)); (try simp only [Act.put, List.getElem_toArray, List.getElem_cons_succ, List.getElem_cons_zero, List.setIfInBounds_toArray, List.set_cons_zero, List.set_cons_succ])
                  (refine wpAnyH_take (i := 8) (v := ?_) rfl (by kernel_rfl) (by kernel_rfl) (by kernel_rfl) (fun _ _ _ h => h) (Or.inl ⟨by rfl, ?_⟩) (by assumption) ?_; rotate_left 1; · (intro wz hSw; (try dsimp only at hSw); go_simp; try rfl)); (try simp only [Act.put, List.getElem_toArray, List.getElem_cons_succ, List.getElem_cons_zero, List.setIfInBounds_toArray, List.set_cons_zero, List.set_cons_succ])
                  (refine wpAnyH_take (i := 9) (v := ?_) rfl (by kernel_rfl) (by kernel_rfl) (by kernel_rfl) (fun _ _ _ h => h) (Or.inl ⟨by rfl, ?_⟩) (by assumption) ?_; rotate_left 1; · (intro wz hSw; (try dsimp only at hSw); go_simp; try rfl)); (try simp only [Act.put, List.getElem_toArray, List.getElem_cons_succ, List.getElem_cons_zero, List.setIfInBounds_toArray, List.set_cons_zero, List.set_cons_succ])
                  (refine wpAnyH_take (i := 10) (v := ?_) rfl (by kernel_rfl) (by kernel_rfl) (by kernel_rfl) (fun _ _ _ h => h) (Or.inl ⟨by rfl, ?_⟩) (by assumption) ?_; rotate_left 1; · (intro wz hSw; (try dsimp only at hSw); go_simp; try rfl)); (try simp only [Act.put, List.getElem_toArray, List.getElem_cons_succ, List.getElem_cons_zero, List.setIfInBounds_toArray, List.set_cons_zero, List.set_cons_succ])
                  (refine wpAnyH_take (i := 11) (v := ?_) rfl (by kernel_rfl) (by kernel_rfl) (by kernel_rfl) (fun _ _ _ h => h) (Or.inl ⟨by rfl, ?_⟩) (by assumption) ?_; rotate_left 1; · (intro wz hSw; (try dsimp only at hSw); go_simp; try rfl)); (try simp only [Act.put, List.getElem_toArray, List.getElem_cons_succ, List.getElem_cons_zero, List.setIfInBounds_toArray, List.set_cons_zero, List.set_cons_succ])
                  (refine wpAnyH_take (i := 12) (v := ?_) rfl (by kernel_rfl) (by kernel_rfl) (by kernel_rfl) (fun _ _ _ h => h) (Or.inl ⟨by rfl, ?_⟩) (by assumption) ?_; rotate_left 1; · (intro wz hSw; (try dsimp only at hSw); go_simp; try rfl)); (try simp only [Act.put, List.getElem_toArray, List.getElem_cons_succ, List.getElem_cons_zero, List.setIfInBounds_toArray, List.set_cons_zero, List.set_cons_succ])
                  refine wpAnyH_ready (rs := [13]) (by kernel_rfl) (by simp) (AllReadyH.cons rfl (fun K hK => ?_) AllReadyH.nil)
                  go_simp
                  go_at_call 35
                  refine (hbe1).mono ?_
                  rintro e w7 ⟨hr7, hc7⟩
                  obtain rfl := hr7.no HB1.out
                  have hc7' := ((Ch.refl No wr).drew).trans hc7
                  have hq7i := cell_ch hqi hc7' (fun _ _ h => h)
                  have hq7k := cell_ch hqk hc7' (fun _ _ h => h)
                  have HC7 := hid hc7'
                  clear hr7 hc7 hc7' hbe1
                  go_simp
                  have HS7 := hid (And.intro hq7i hq7k)
                  refine hK.out _ _ HS7.out (fun hHeld7 => ?_)
                  clear hK
                  (refine wpAnyH_take (i := 14) (v := ?_) rfl (by kernel_rfl) (by kernel_rfl) (by kernel_rfl) (fun _ _ _ h => h) (Or.inl ⟨by rfl, ?_⟩) (by assumption) ?_; rotate_left 1; · (intro wz hSw; (try dsimp only at hSw); go_simp; try rfl)); (try simp only [Act.put, List.getElem_toArray, List.getElem_cons_succ, List.getElem_cons_zero, List.setIfInBounds_toArray, List.set_cons_zero, List.set_cons_succ])
                  (refine wpAnyH_take (i := 15) (v := ?_) rfl (by kernel_rfl) (by kernel_rfl) (by kernel_rfl) (fun _ _ _ h => h) (Or.inl ⟨by rfl, ?_⟩) (by assumption) ?_; rotate_left 1; · (intro wz hSw; (try dsimp only at hSw); go_simp; try rfl)); (try simp only [Act.put, List.getElem_toArray, List.getElem_cons_succ, List.getElem_cons_zero, List.setIfInBounds_toArray, List.set_cons_zero, List.set_cons_succ])
                  (refine wpAnyH_take (i := 16) (v := undef) rfl (by kernel_rfl) (by kernel_rfl) (by kernel_rfl) (fun _ _ _ h => h) (Or.inr ⟨by rfl, rfl⟩) (by assumption) ?_); (try simp only [Act.put, List.getElem_toArray, List.getElem_cons_succ, List.getElem_cons_zero, List.setIfInBounds_toArray, List.set_cons_zero, List.set_cons_succ])
                  (refine wpAnyH_take (i := 17) (v := undef) rfl (by kernel_rfl) (by kernel_rfl) (by kernel_rfl) (fun _ _ _ h => h) (Or.inr ⟨by rfl, rfl⟩) (by assumption) ?_); (try simp only [Act.put, List.getElem_toArray, List.getElem_cons_succ, List.getElem_cons_zero, List.setIfInBounds_toArray, List.set_cons_zero, List.set_cons_succ])
                  (refine wpAnyH_take (i := 18) (v := undef) rfl (by kernel_rfl) (by kernel_rfl) (by kernel_rfl) (fun _ _ _ h => h) (Or.inr ⟨by rfl, rfl⟩) (by assumption) ?_); (try simp only [Act.put, List.getElem_toArray, List.getElem_cons_succ, List.getElem_cons_zero, List.setIfInBounds_toArray, List.set_cons_zero, List.set_cons_succ])
                  (refine wpAnyH_take (i := 19) (v := undef) rfl (by kernel_rfl) (by kernel_rfl) (by kernel_rfl) (fun _ _ _ h => h) (Or.inr ⟨by rfl, rfl⟩) (by assumption) ?_); (try simp only [Act.put, List.getElem_toArray, List.getElem_cons_succ, List.getElem_cons_zero, List.setIfInBounds_toArray, List.set_cons_zero, List.set_cons_succ])
                  (refine wpAnyH_take (i := 20) (v := undef) rfl (by kernel_rfl) (by kernel_rfl) (by kernel_rfl) (fun _ _ _ h => h) (Or.inr ⟨by rfl, rfl⟩) (by assumption) ?_); (try simp only [Act.put, List.getElem_toArray, List.getElem_cons_succ, List.getElem_cons_zero, List.setIfInBounds_toArray, List.set_cons_zero, List.set_cons_succ])
                  (refine wpAnyH_take (i := 21) (v := undef) rfl (by kernel_rfl) (by kernel_rfl) (by kernel_rfl) (fun _ _ _ h => h) (Or.inr ⟨by rfl, rfl⟩) (by assumption) ?_); (try simp only [Act.put, List.getElem_toArray, List.getElem_cons_succ, List.getElem_cons_zero, List.setIfInBounds_toArray, List.set_cons_zero, List.set_cons_succ])
                  (refine wpAnyH_take (i := 22) (v := undef) rfl (by kernel_rfl) (by kernel_rfl) (by kernel_rfl) (fun _ _ _ h => h) (Or.inr ⟨by rfl, rfl⟩) (by assumption) ?_); (try simp only [Act.put, List.getElem_toArray, List.getElem_cons_succ, List.getElem_cons_zero, List.setIfInBounds_toArray, List.set_cons_zero, List.set_cons_succ])
                  (refine wpAnyH_take (i := 23) (v := undef) rfl (by kernel_rfl) (by kernel_rfl) (by kernel_rfl) (fun _ _ _ h => h) (Or.inr ⟨by rfl, rfl⟩) (by assumption) ?_); (try simp only [Act.put, List.getElem_toArray, List.getElem_cons_succ, List.getElem_cons_zero, List.setIfInBounds_toArray, List.set_cons_zero, List.set_cons_succ])
                  (refine wpAnyH_take (i := 24) (v := undef) rfl (by kernel_rfl) (by kernel_rfl) (by kernel_rfl) (fun _ _ _ h => h) (Or.inr ⟨by rfl, rfl⟩) (by assumption) ?_); (try simp only [Act.put, List.getElem_toArray, List.getElem_cons_succ, List.getElem_cons_zero, List.setIfInBounds_toArray, List.set_cons_zero, List.set_cons_succ])
                  (refine wpAnyH_take (i := 25) (v := undef) rfl (by kernel_rfl) (by kernel_rfl) (by kernel_rfl) (fun _ _ _ h => h) (Or.inr ⟨by rfl, rfl⟩) (by assumption) ?_); (try simp only [Act.put, List.getElem_toArray, List.getElem_cons_succ, List.getElem_cons_zero, List.setIfInBounds_toArray, List.set_cons_zero, List.set_cons_succ])
                  (refine wpAnyH_take (i := 26) (v := ?_) rfl (by kernel_rfl) (by kernel_rfl) (by kernel_rfl) (fun _ _ _ h => h) (Or.inl ⟨by rfl, ?_⟩) (by assumption) ?_; rotate_left 1; · (intro wz hSw; (try dsimp only at hSw); go_simp; try rfl)); (try simp only [Act.put, List.getElem_toArray, List.getElem_cons_succ, List.getElem_cons_zero, List.setIfInBounds_toArray, List.set_cons_zero, List.set_cons_succ])
                  refine wpAnyH_done (by kernel_rfl) ?_ _
                  go_wp2_with fail
                  go_meet
                  exact ⟨rfl, HC7.out⟩
            case rest =>
              obtain ⟨rfl, hcm⟩ := hcut
              have HXC := hid (HXK.out.no hcm)
              have HVC := hid (HV6.out.no (HCK.out.trans hcm))
              have HCC := hid (HCK.out.trans hcm)
              clear hcm hqi hqk
              go_wp2_with fail
              go_loopg [7] n (fun g s7 wr' => ∃ (q : Nat), q ≤ n ∧ n - q ≤ g ∧ s7 = .int .i64 q ∧ Ch No wc wr')
              case atStart => exact ⟨0, Nat.zero_le _, by omega, rfl, Ch.refl _ _⟩
              case round =>
                obtain ⟨q, hq, hgq, rfl, hcq⟩ := hrel
                have HCQ := hid hcq
                clear hcq
                cases hdq : decide (q < n) with
                | false =>
                  have hql : ¬ q < n := by simpa using hdq
                  go_wp2_with fail
                  go_roundg (n - k - 1)
                  case rel => exact ⟨k + 1, by omega, by omega, by go_num, HCC.out.trans HCQ.out⟩
                  case measure => omega
                | true =>
                  have hql : q < n := by simpa using hdq
                  obtain ⟨tq, htq⟩ : ∃ tq, (allT cs 8)[q]? = some tq := ⟨_, List.getElem?_eq_getElem (by have := HN.out; omega)⟩
                  have htqz := allTsz HZB.out tq (List.mem_of_getElem? htq)
                  obtain ⟨hn1, b1, off1, e1, hqi⟩ := (HVC.out.no HCQ.out).cell HTI.out
                  cases e1
                  obtain ⟨hn2, b2, off2, e2, hqk⟩ := (HVC.out.no HCQ.out).cell HTK.out
                  cases e2
                  obtain ⟨hn3, b3, off3, e3, hqq⟩ := (HVC.out.no HCQ.out).cell htq
                  cases e3
                  have HTQZ := hid htqz
                  have HXQ := hid (HXC.out.no HCQ.out)
                  have hbe1 := xbelow (HXQ.out.no ((Ch.refl No wr).drew)) HTZ.out HTKZ.out
                  clear hn1 hn2 hn3 htq htqz
                  by_cases hb1 : belT cs ti tk
                  · by_cases hb2 : belT cs tk tq
                    · have HB1 := hid hb1
                      have HB2 := hid hb2
                      have HB3 := hid (hb1.trans HRI.out.2.2 hb2)
                      clear hb1 hb2
                      go_wp2_with fail
                      go_region_held3 (fun w' => w'.cell? ⟨b, off + i, none⟩ = some (.string ti) ∧ w'.cell? ⟨b, off + k, none⟩ = some (.string tk) ∧ w'.cell? ⟨b, off + q, none⟩ = some (.string tq)) (first | exact ⟨hqi, hqk, hqq⟩ | exact ⟨hq7i, hq7k, hq7q⟩ | exact ⟨hq8i, hq8k, hq8q⟩ | exact ⟨hq9i, hq9k, hq9q⟩ | go_keep) (first | (go_at_call 35; refine hbe1.mono ?_; rintro e w7 ⟨hr7, hc7⟩; obtain rfl := hr7.yes HB1.out; have hc7' := ((Ch.refl No wr).drew).trans hc7; have hq7i := cell_ch hqi hc7' (fun _ _ h => h); have hq7k := cell_ch hqk hc7' (fun _ _ h => h); have hq7q := cell_ch hqq hc7' (fun _ _ h => h); have HC7 := hid hc7'; clear hr7 hc7 hc7' hbe1) | (go_at_call 35; refine (xbelow (HXQ.out.no HC7.out) HTKZ.out HTQZ.out).mono ?_; rintro e w8 ⟨hr8, hc8⟩; obtain rfl := hr8.yes HB2.out; have hq8i := cell_ch hq7i hc8 (fun _ _ h => h); have hq8k := cell_ch hq7k hc8 (fun _ _ h => h); have hq8q := cell_ch hq7q hc8 (fun _ _ h => h); have HC8 := hid (HC7.out.trans hc8); clear hr8 hc8 HC7) | (go_at_call 35; refine (xbelow (HXQ.out.no HC8.out) HTZ.out HTQZ.out).mono ?_; rintro e w9 ⟨hr9, hc9⟩; obtain rfl := hr9.yes HB3.out; have hq9i := cell_ch hq8i hc9 (fun _ _ h => h); have hq9k := cell_ch hq8k hc9 (fun _ _ h => h); have hq9q := cell_ch hq8q hc9 (fun _ _ h => h); have HC9 := hid (HC8.out.trans hc9); clear hr9 hc9))
                      go_wp2_with fail
                      go_roundg (n - q - 1)
                      case rel => exact ⟨q + 1, by omega, by omega, by go_num, HCQ.out.trans HC9.out⟩
                      case measure => omega
                    · have HB1 := hid hb1
                      have HB2 := hid hb2
                      clear hb1 hb2
                      go_wp2_with fail
                      refine wp_region_held_drew (S := (fun w' => w'.cell? ⟨b, off + i, none⟩ = some (.string ti) ∧ w'.cell? ⟨b, off + k, none⟩ = some (.string tk) ∧ w'.cell? ⟨b, off + q, none⟩ = some (.string tq))) (by kernel_rfl) ⟨hqi, hqk, hqq⟩ (fun hHeld => ?_)
                      (refine wpAnyH_take (i := 0) (v := ?_) rfl (by kernel_rfl) (by kernel_rfl) (by kernel_rfl) (fun _ _ _ h => h) (Or.inl ⟨by rfl, ?_⟩) (by assumption) ?_; rotate_left 1; · (intro wz hSw; (try dsimp only at hSw); go_simp; try rfl)); (try simp only [Act.put, List.getElem_toArray, List.getElem_cons_succ, List.getElem_cons_zero, List.setIfInBounds_toArray, List.set_cons_zero, List.set_cons_succ])
                      (refine wpAnyH_take (i := 1) (v := ?_) rfl (by kernel_rfl) (by kernel_rfl) (by kernel_rfl) (fun _ _ _ h => h) (Or.inl ⟨by rfl, ?_⟩) (by assumption) ?_; rotate_left 1; · (intro wz hSw; (try dsimp only at hSw); go_simp; try rfl)); (try simp only [Act.put, List.getElem_toArray, List.getElem_cons_succ, List.getElem_cons_zero, List.setIfInBounds_toArray, List.set_cons_zero, List.set_cons_succ])
                      (refine wpAnyH_take (i := 2) (v := ?_) rfl (by kernel_rfl) (by kernel_rfl) (by kernel_rfl) (fun _ _ _ h => h) (Or.inl ⟨by rfl, ?_⟩) (by assumption) ?_; rotate_left 1; · (intro wz hSw; (try dsimp only at hSw); go_simp; try rfl)); (try simp only [Act.put, List.getElem_toArray, List.getElem_cons_succ, List.getElem_cons_zero, List.setIfInBounds_toArray, List.set_cons_zero, List.set_cons_succ])
                      (refine wpAnyH_take (i := 3) (v := ?_) rfl (by kernel_rfl) (by kernel_rfl) (by kernel_rfl) (fun _ _ _ h => h) (Or.inl ⟨by rfl, ?_⟩) (by assumption) ?_; rotate_left 1; · (intro wz hSw; (try dsimp only at hSw); go_simp; try rfl)); (try simp only [Act.put, List.getElem_toArray, List.getElem_cons_succ, List.getElem_cons_zero, List.setIfInBounds_toArray, List.set_cons_zero, List.set_cons_succ])
                      (refine wpAnyH_take (i := 4) (v := ?_) rfl (by kernel_rfl) (by kernel_rfl) (by kernel_rfl) (fun _ _ _ h => h) (Or.inl ⟨by rfl, ?_⟩) (by assumption) ?_; rotate_left 1; · (intro wz hSw; (try dsimp only at hSw); go_simp; try rfl)); (try simp only [Act.put, List.getElem_toArray, List.getElem_cons_succ, List.getElem_cons_zero, List.setIfInBounds_toArray, List.set_cons_zero, List.set_cons_succ])
                      (refine wpAnyH_take (i := 5) (v := ?_) rfl (by kernel_rfl) (by kernel_rfl) (by kernel_rfl) (fun _ _ _ h => h) (Or.inl ⟨by rfl, ?_⟩) (by assumption) ?_; rotate_left 1; · (intro wz hSw; (try dsimp only at hSw); go_simp; try rfl)); (try simp only [Act.put, List.getElem_toArray, List.getElem_cons_succ, List.getElem_cons_zero, List.setIfInBounds_toArray, List.set_cons_zero, List.set_cons_succ])
                      (refine wpAnyH_take (i := 6) (v := ?_) rfl (by kernel_rfl) (by kernel_rfl) (by kernel_rfl) (fun _ _ _ h => h) (Or.inl ⟨by rfl, ?_⟩) (by assumption) ?_; rotate_left 1; · (intro wz hSw; (try dsimp only at hSw); go_simp; try rfl)); (try simp only [Act.put, List.getElem_toArray, List.getElem_cons_succ, List.getElem_cons_zero, List.setIfInBounds_toArray, List.set_cons_zero, List.set_cons_succ])
                      (refine wpAnyH_take (i := 7) (v := ?_) rfl (by kernel_rfl) (by kernel_rfl) (by kernel_rfl) (fun _ _ _ h => h) (Or.inl ⟨by rfl, ?_⟩) (by assumption) ?_; rotate_left 1; · (intro wz hSw; (try dsimp only at hSw); go_simp; try rfl)); (try simp only [Act.put, List.getElem_toArray, List.getElem_cons_succ, List.getElem_cons_zero, List.setIfInBounds_toArray, List.set_cons_zero, List.set_cons_succ])
                      (refine wpAnyH_take (i := 8) (v := ?_) rfl (by kernel_rfl) (by kernel_rfl) (by kernel_rfl) (fun _ _ _ h => h) (Or.inl ⟨by rfl, ?_⟩) (by assumption) ?_; rotate_left 1; · (intro wz hSw; (try dsimp only at hSw); go_simp; try rfl)); (try simp only [Act.put, List.getElem_toArray, List.getElem_cons_succ, List.getElem_cons_zero, List.setIfInBounds_toArray, List.set_cons_zero, List.set_cons_succ])
                      refine wpAnyH_ready (rs := [9]) (by kernel_rfl) (by simp) (AllReadyH.cons rfl (fun K hK => ?_) AllReadyH.nil)
                      go_simp
                      go_at_call 35
                      refine (hbe1).mono ?_
                      rintro e w7 ⟨hr7, hc7⟩
                      obtain rfl := hr7.yes HB1.out
                      have hc7' := ((Ch.refl No wr).drew).trans hc7
                      have hq7i := cell_ch hqi hc7' (fun _ _ h => h)
                      have hq7k := cell_ch hqk hc7' (fun _ _ h => h)
                      have hq7q := cell_ch hqq hc7' (fun _ _ h => h)
                      have HC7 := hid hc7'
                      clear hr7 hc7 hc7' hbe1
                      go_simp
                      have HS7 := hid (And.intro hq7i (And.intro hq7k hq7q))
                      refine hK.out _ _ HS7.out (fun hHeld7 => ?_)
                      clear hK
                      (refine wpAnyH_take (i := 10) (v := ?_) rfl (by kernel_rfl) (by kernel_rfl) (by kernel_rfl) (fun _ _ _ h => h) (Or.inl ⟨by rfl, ?_⟩) (by assumption) ?_; rotate_left 1; · (intro wz hSw; (try dsimp only at hSw); go_simp; try rfl)); (try simp only [Act.put, List.getElem_toArray, List.getElem_cons_succ, List.getElem_cons_zero, List.setIfInBounds_toArray, List.set_cons_zero, List.set_cons_succ])
                      (refine wpAnyH_take (i := 11) (v := ?_) rfl (by kernel_rfl) (by kernel_rfl) (by kernel_rfl) (fun _ _ _ h => h) (Or.inl ⟨by rfl, ?_⟩) (by assumption) ?_; rotate_left 1; · (intro wz hSw; (try dsimp only at hSw); go_simp; try rfl)); (try simp only [Act.put, List.getElem_toArray, List.getElem_cons_succ, List.getElem_cons_zero, List.setIfInBounds_toArray, List.set_cons_zero, List.set_cons_succ])
                      (refine wpAnyH_take (i := 12) (v := ?_) rfl (by kernel_rfl) (by kernel_rfl) (by kernel_rfl) (fun _ _ _ h => h) (Or.inl ⟨by rfl, ?_⟩) (by assumption) ?_; rotate_left 1; · (intro wz hSw; (try dsimp only at hSw); go_simp; try rfl)); (try simp only [Act.put, List.getElem_toArray, List.getElem_cons_succ, List.getElem_cons_zero, List.setIfInBounds_toArray, List.set_cons_zero, List.set_cons_succ])
                      (refine wpAnyH_take (i := 13) (v := ?_) rfl (by kernel_rfl) (by kernel_rfl) (by kernel_rfl) (fun _ _ _ h => h) (Or.inl ⟨by rfl, ?_⟩) (by assumption) ?_; rotate_left 1; · (intro wz hSw; (try dsimp only at hSw); go_simp; try rfl)); (try simp only [Act.put, List.getElem_toArray, List.getElem_cons_succ, List.getElem_cons_zero, List.setIfInBounds_toArray, List.set_cons_zero, List.set_cons_succ])
                      (refine wpAnyH_take (i := 14) (v := ?_) rfl (by kernel_rfl) (by kernel_rfl) (by kernel_rfl) (fun _ _ _ h => h) (Or.inl ⟨by rfl, ?_⟩) (by assumption) ?_; rotate_left 1; · (intro wz hSw; (try dsimp only at hSw); go_simp; try rfl)); (try simp only [Act.put, List.getElem_toArray, List.getElem_cons_succ, List.getElem_cons_zero, List.setIfInBounds_toArray, List.set_cons_zero, List.set_cons_succ])
                      (refine wpAnyH_take (i := 15) (v := ?_) rfl (by kernel_rfl) (by kernel_rfl) (by kernel_rfl) (fun _ _ _ h => h) (Or.inl ⟨by rfl, ?_⟩) (by assumption) ?_; rotate_left 1; · (intro wz hSw; (try dsimp only at hSw); go_simp; try rfl)); (try simp only [Act.put, List.getElem_toArray, List.getElem_cons_succ, List.getElem_cons_zero, List.setIfInBounds_toArray, List.set_cons_zero, List.set_cons_succ])
                      (refine wpAnyH_take (i := 16) (v := ?_) rfl (by kernel_rfl) (by kernel_rfl) (by kernel_rfl) (fun _ _ _ h => h) (Or.inl ⟨by rfl, ?_⟩) (by assumption) ?_; rotate_left 1; · (intro wz hSw; (try dsimp only at hSw); go_simp; try rfl)); (try simp only [Act.put, List.getElem_toArray, List.getElem_cons_succ, List.getElem_cons_zero, List.setIfInBounds_toArray, List.set_cons_zero, List.set_cons_succ])
                      (refine wpAnyH_take (i := 17) (v := ?_) rfl (by kernel_rfl) (by kernel_rfl) (by kernel_rfl) (fun _ _ _ h => h) (Or.inl ⟨by rfl, ?_⟩) (by assumption) ?_; rotate_left 1; · (intro wz hSw; (try dsimp only at hSw); go_simp; try rfl)); (try simp only [Act.put, List.getElem_toArray, List.getElem_cons_succ, List.getElem_cons_zero, List.setIfInBounds_toArray, List.set_cons_zero, List.set_cons_succ])
                      (refine wpAnyH_take (i := 18) (v := ?_) rfl (by kernel_rfl) (by kernel_rfl) (by kernel_rfl) (fun _ _ _ h => h) (Or.inl ⟨by rfl, ?_⟩) (by assumption) ?_; rotate_left 1; · (intro wz hSw; (try dsimp only at hSw); go_simp; try rfl)); (try simp only [Act.put, List.getElem_toArray, List.getElem_cons_succ, List.getElem_cons_zero, List.setIfInBounds_toArray, List.set_cons_zero, List.set_cons_succ])
                      (refine wpAnyH_take (i := 19) (v := ?_) rfl (by kernel_rfl) (by kernel_rfl) (by kernel_rfl) (fun _ _ _ h => h) (Or.inl ⟨by rfl, ?_⟩) (by assumption) ?_; rotate_left 1; · (intro wz hSw; (try dsimp only at hSw); go_simp; try rfl)); (try simp only [Act.put, List.getElem_toArray, List.getElem_cons_succ, List.getElem_cons_zero, List.setIfInBounds_toArray, List.set_cons_zero, List.set_cons_succ])
                      refine wpAnyH_ready (rs := [20]) (by kernel_rfl) (by simp) (AllReadyH.cons rfl (fun K hK => ?_) AllReadyH.nil)
                      go_simp
                      go_at_call 35
                      refine (xbelow (HXQ.out.no HC7.out) HTKZ.out HTQZ.out).mono ?_
                      rintro e w8 ⟨hr8, hc8⟩
                      obtain rfl := hr8.no HB2.out
                      have hq8i := cell_ch hq7i hc8 (fun _ _ h => h)
                      have hq8k := cell_ch hq7k hc8 (fun _ _ h => h)
                      have hq8q := cell_ch hq7q hc8 (fun _ _ h => h)
                      have HC8 := hid (HC7.out.trans hc8)
                      clear hr8 hc8
                      go_simp
                      have HS8 := hid (And.intro hq8i (And.intro hq8k hq8q))
                      refine hK.out _ _ HS8.out (fun hHeld8 => ?_)
                      clear hK
                      (refine wpAnyH_take (i := 21) (v := ?_) rfl (by kernel_rfl) (by kernel_rfl) (by kernel_rfl) (fun _ _ _ h => h) (Or.inl ⟨by rfl, ?_⟩) (by assumption) ?_; rotate_left 1; · (intro wz hSw; (try dsimp only at hSw); go_simp; try rfl)); (try simp only [Act.put, List.getElem_toArray, List.getElem_cons_succ, List.getElem_cons_zero, List.setIfInBounds_toArray, List.set_cons_zero, List.set_cons_succ])
                      (refine wpAnyH_take (i := 22) (v := ?_) rfl (by kernel_rfl) (by kernel_rfl) (by kernel_rfl) (fun _ _ _ h => h) (Or.inl ⟨by rfl, ?_⟩) (by assumption) ?_; rotate_left 1; · (intro wz hSw; (try dsimp only at hSw); go_simp; try rfl)); (try simp only [Act.put, List.getElem_toArray, List.getElem_cons_succ, List.getElem_cons_zero, List.setIfInBounds_toArray, List.set_cons_zero, List.set_cons_succ])
                      (refine wpAnyH_take (i := 23) (v := undef) rfl (by kernel_rfl) (by kernel_rfl) (by kernel_rfl) (fun _ _ _ h => h) (Or.inr ⟨by rfl, rfl⟩) (by assumption) ?_); (try simp only [Act.put, List.getElem_toArray, List.getElem_cons_succ, List.getElem_cons_zero, List.setIfInBounds_toArray, List.set_cons_zero, List.set_cons_succ])
                      (refine wpAnyH_take (i := 24) (v := undef) rfl (by kernel_rfl) (by kernel_rfl) (by kernel_rfl) (fun _ _ _ h => h) (Or.inr ⟨by rfl, rfl⟩) (by assumption) ?_); (try simp only [Act.put, List.getElem_toArray, List.getElem_cons_succ, List.getElem_cons_zero, List.setIfInBounds_toArray, List.set_cons_zero, List.set_cons_succ])
                      (refine wpAnyH_take (i := 25) (v := undef) rfl (by kernel_rfl) (by kernel_rfl) (by kernel_rfl) (fun _ _ _ h => h) (Or.inr ⟨by rfl, rfl⟩) (by assumption) ?_); (try simp only [Act.put, List.getElem_toArray, List.getElem_cons_succ, List.getElem_cons_zero, List.setIfInBounds_toArray, List.set_cons_zero, List.set_cons_succ])
                      (refine wpAnyH_take (i := 26) (v := undef) rfl (by kernel_rfl) (by kernel_rfl) (by kernel_rfl) (fun _ _ _ h => h) (Or.inr ⟨by rfl, rfl⟩) (by assumption) ?_); (try simp only [Act.put, List.getElem_toArray, List.getElem_cons_succ, List.getElem_cons_zero, List.setIfInBounds_toArray, List.set_cons_zero, List.set_cons_succ])
                      (refine wpAnyH_take (i := 27) (v := undef) rfl (by kernel_rfl) (by kernel_rfl) (by kernel_rfl) (fun _ _ _ h => h) (Or.inr ⟨by rfl, rfl⟩) (by assumption) ?_); (try simp only [Act.put, List.getElem_toArray, List.getElem_cons_succ, List.getElem_cons_zero, List.setIfInBounds_toArray, List.set_cons_zero, List.set_cons_succ])
                      (refine wpAnyH_take (i := 28) (v := undef) rfl (by kernel_rfl) (by kernel_rfl) (by kernel_rfl) (fun _ _ _ h => h) (Or.inr ⟨by rfl, rfl⟩) (by assumption) ?_); (try simp only [Act.put, List.getElem_toArray, List.getElem_cons_succ, List.getElem_cons_zero, List.setIfInBounds_toArray, List.set_cons_zero, List.set_cons_succ])
                      (refine wpAnyH_take (i := 29) (v := undef) rfl (by kernel_rfl) (by kernel_rfl) (by kernel_rfl) (fun _ _ _ h => h) (Or.inr ⟨by rfl, rfl⟩) (by assumption) ?_); (try simp only [Act.put, List.getElem_toArray, List.getElem_cons_succ, List.getElem_cons_zero, List.setIfInBounds_toArray, List.set_cons_zero, List.set_cons_succ])
                      (refine wpAnyH_take (i := 30) (v := undef) rfl (by kernel_rfl) (by kernel_rfl) (by kernel_rfl) (fun _ _ _ h => h) (Or.inr ⟨by rfl, rfl⟩) (by assumption) ?_); (try simp only [Act.put, List.getElem_toArray, List.getElem_cons_succ, List.getElem_cons_zero, List.setIfInBounds_toArray, List.set_cons_zero, List.set_cons_succ])
                      (refine wpAnyH_take (i := 31) (v := undef) rfl (by kernel_rfl) (by kernel_rfl) (by kernel_rfl) (fun _ _ _ h => h) (Or.inr ⟨by rfl, rfl⟩) (by assumption) ?_); (try simp only [Act.put, List.getElem_toArray, List.getElem_cons_succ, List.getElem_cons_zero, List.setIfInBounds_toArray, List.set_cons_zero, List.set_cons_succ])
                      (refine wpAnyH_take (i := 32) (v := undef) rfl (by kernel_rfl) (by kernel_rfl) (by kernel_rfl) (fun _ _ _ h => h) (Or.inr ⟨by rfl, rfl⟩) (by assumption) ?_); (try simp only [Act.put, List.getElem_toArray, List.getElem_cons_succ, List.getElem_cons_zero, List.setIfInBounds_toArray, List.set_cons_zero, List.set_cons_succ])
                      (refine wpAnyH_take (i := 33) (v := undef) rfl (by kernel_rfl) (by kernel_rfl) (by kernel_rfl) (fun _ _ _ h => h) (Or.inr ⟨by rfl, rfl⟩) (by assumption) ?_); (try simp only [Act.put, List.getElem_toArray, List.getElem_cons_succ, List.getElem_cons_zero, List.setIfInBounds_toArray, List.set_cons_zero, List.set_cons_succ])
                      (refine wpAnyH_take (i := 34) (v := ?_) rfl (by kernel_rfl) (by kernel_rfl) (by kernel_rfl) (fun _ _ _ h => h) (Or.inl ⟨by rfl, ?_⟩) (by assumption) ?_; rotate_left 1; · (intro wz hSw; (try dsimp only at hSw); go_simp; try rfl)); (try simp only [Act.put, List.getElem_toArray, List.getElem_cons_succ, List.getElem_cons_zero, List.setIfInBounds_toArray, List.set_cons_zero, List.set_cons_succ])
                      refine wpAnyH_done (by kernel_rfl) ?_ _
                      go_wp2_with fail
                      go_roundg (n - q - 1)
                      case rel => exact ⟨q + 1, by omega, by omega, by go_num, HCQ.out.trans HC8.out⟩
                      case measure => omega
                  · have HB1 := hid hb1
                    clear hb1
                    go_wp2_with fail
                    refine wp_region_held_drew (S := (fun w' => w'.cell? ⟨b, off + i, none⟩ = some (.string ti) ∧ w'.cell? ⟨b, off + k, none⟩ = some (.string tk) ∧ w'.cell? ⟨b, off + q, none⟩ = some (.string tq))) (by kernel_rfl) ⟨hqi, hqk, hqq⟩ (fun hHeld => ?_)
                    (refine wpAnyH_take (i := 0) (v := ?_) rfl (by kernel_rfl) (by kernel_rfl) (by kernel_rfl) (fun _ _ _ h => h) (Or.inl ⟨by rfl, ?_⟩) (by assumption) ?_; rotate_left 1; · (intro wz hSw; (try dsimp only at hSw); go_simp; try rfl)); (try simp only [Act.put, List.getElem_toArray, List.getElem_cons_succ, List.getElem_cons_zero, List.setIfInBounds_toArray, List.set_cons_zero, List.set_cons_succ])
                    (refine wpAnyH_take (i := 1) (v := ?_) rfl (by kernel_rfl) (by kernel_rfl) (by kernel_rfl) (fun _ _ _ h => h) (Or.inl ⟨by rfl, ?_⟩) (by assumption) ?_; rotate_left 1; · (intro wz hSw; (try dsimp only at hSw); go_simp; try rfl)); (try simp only [Act.put, List.getElem_toArray, List.getElem_cons_succ, List.getElem_cons_zero, List.setIfInBounds_toArray, List.set_cons_zero, List.set_cons_succ])
                    (refine wpAnyH_take (i := 2) (v := ?_) rfl (by kernel_rfl) (by kernel_rfl) (by kernel_rfl) (fun _ _ _ h => h) (Or.inl ⟨by rfl, ?_⟩) (by assumption) ?_; rotate_left 1; · (intro wz hSw; (try dsimp only at hSw); go_simp; try rfl)); (try simp only [Act.put, List.getElem_toArray, List.getElem_cons_succ, List.getElem_cons_zero, List.setIfInBounds_toArray, List.set_cons_zero, List.set_cons_succ])
                    (refine wpAnyH_take (i := 3) (v := ?_) rfl (by kernel_rfl) (by kernel_rfl) (by kernel_rfl) (fun _ _ _ h => h) (Or.inl ⟨by rfl, ?_⟩) (by assumption) ?_; rotate_left 1; · (intro wz hSw; (try dsimp only at hSw); go_simp; try rfl)); (try simp only [Act.put, List.getElem_toArray, List.getElem_cons_succ, List.getElem_cons_zero, List.setIfInBounds_toArray, List.set_cons_zero, List.set_cons_succ])
                    (refine wpAnyH_take (i := 4) (v := ?_) rfl (by kernel_rfl) (by kernel_rfl) (by kernel_rfl) (fun _ _ _ h => h) (Or.inl ⟨by rfl, ?_⟩) (by assumption) ?_; rotate_left 1; · (intro wz hSw; (try dsimp only at hSw); go_simp; try rfl)); (try simp only [Act.put, List.getElem_toArray, List.getElem_cons_succ, List.getElem_cons_zero, List.setIfInBounds_toArray, List.set_cons_zero, List.set_cons_succ])
                    (refine wpAnyH_take (i := 5) (v := ?_) rfl (by kernel_rfl) (by kernel_rfl) (by kernel_rfl) (fun _ _ _ h => h) (Or.inl ⟨by rfl, ?_⟩) (by assumption) ?_; rotate_left 1; · (intro wz hSw; (try dsimp only at hSw); go_simp; try rfl)); (try simp only [Act.put, List.getElem_toArray, List.getElem_cons_succ, List.getElem_cons_zero, List.setIfInBounds_toArray, List.set_cons_zero, List.set_cons_succ])
                    (refine wpAnyH_take (i := 6) (v := ?_) rfl (by kernel_rfl) (by kernel_rfl) (by kernel_rfl) (fun _ _ _ h => h) (Or.inl ⟨by rfl, ?_⟩) (by assumption) ?_; rotate_left 1; · (intro wz hSw; (try dsimp only at hSw); go_simp; try rfl)); (try simp only [Act.put, List.getElem_toArray, List.getElem_cons_succ, List.getElem_cons_zero, List.setIfInBounds_toArray, List.set_cons_zero, List.set_cons_succ])
                    (refine wpAnyH_take (i := 7) (v := ?_) rfl (by kernel_rfl) (by kernel_rfl) (by kernel_rfl) (fun _ _ _ h => h) (Or.inl ⟨by rfl, ?_⟩) (by assumption) ?_; rotate_left 1; · (intro wz hSw; (try dsimp only at hSw); go_simp; try rfl)); (try simp only [Act.put, List.getElem_toArray, List.getElem_cons_succ, List.getElem_cons_zero, List.setIfInBounds_toArray, List.set_cons_zero, List.set_cons_succ])
                    (refine wpAnyH_take (i := 8) (v := ?_) rfl (by kernel_rfl) (by kernel_rfl) (by kernel_rfl) (fun _ _ _ h => h) (Or.inl ⟨by rfl, ?_⟩) (by assumption) ?_; rotate_left 1; · (intro wz hSw; (try dsimp only at hSw); go_simp; try rfl)); (try simp only [Act.put, List.getElem_toArray, List.getElem_cons_succ, List.getElem_cons_zero, List.setIfInBounds_toArray, List.set_cons_zero, List.set_cons_succ])
                    refine wpAnyH_ready (rs := [9]) (by kernel_rfl) (by simp) (AllReadyH.cons rfl (fun K hK => ?_) AllReadyH.nil)
                    go_simp
                    go_at_call 35
                    refine (hbe1).mono ?_
                    rintro e w7 ⟨hr7, hc7⟩
                    obtain rfl := hr7.no HB1.out
                    have hc7' := ((Ch.refl No wr).drew).trans hc7
                    have hq7i := cell_ch hqi hc7' (fun _ _ h => h)
                    have hq7k := cell_ch hqk hc7' (fun _ _ h => h)
                    have hq7q := cell_ch hqq hc7' (fun _ _ h => h)
                    have HC7 := hid hc7'
                    clear hr7 hc7 hc7' hbe1
                    go_simp
                    have HS7 := hid (And.intro hq7i (And.intro hq7k hq7q))
                    refine hK.out _ _ HS7.out (fun hHeld7 => ?_)
                    clear hK
                    (refine wpAnyH_take (i := 10) (v := ?_) rfl (by kernel_rfl) (by kernel_rfl) (by kernel_rfl) (fun _ _ _ h => h) (Or.inl ⟨by rfl, ?_⟩) (by assumption) ?_; rotate_left 1; · (intro wz hSw; (try dsimp only at hSw); go_simp; try rfl)); (try simp only [Act.put, List.getElem_toArray, List.getElem_cons_succ, List.getElem_cons_zero, List.setIfInBounds_toArray, List.set_cons_zero, List.set_cons_succ])
                    (refine wpAnyH_take (i := 11) (v := undef) rfl (by kernel_rfl) (by kernel_rfl) (by kernel_rfl) (fun _ _ _ h => h) (Or.inr ⟨by rfl, rfl⟩) (by assumption) ?_); (try simp only [Act.put, List.getElem_toArray, List.getElem_cons_succ, List.getElem_cons_zero, List.setIfInBounds_toArray, List.set_cons_zero, List.set_cons_succ])
                    (refine wpAnyH_take (i := 12) (v := undef) rfl (by kernel_rfl) (by kernel_rfl) (by kernel_rfl) (fun _ _ _ h => h) (Or.inr ⟨by rfl, rfl⟩) (by assumption) ?_); (try simp only [Act.put, List.getElem_toArray, List.getElem_cons_succ, List.getElem_cons_zero, List.setIfInBounds_toArray, List.set_cons_zero, List.set_cons_succ])
                    (refine wpAnyH_take (i := 13) (v := undef) rfl (by kernel_rfl) (by kernel_rfl) (by kernel_rfl) (fun _ _ _ h => h) (Or.inr ⟨by rfl, rfl⟩) (by assumption) ?_); (try simp only [Act.put, List.getElem_toArray, List.getElem_cons_succ, List.getElem_cons_zero, List.setIfInBounds_toArray, List.set_cons_zero, List.set_cons_succ])
                    (refine wpAnyH_take (i := 14) (v := undef) rfl (by kernel_rfl) (by kernel_rfl) (by kernel_rfl) (fun _ _ _ h => h) (Or.inr ⟨by rfl, rfl⟩) (by assumption) ?_); (try simp only [Act.put, List.getElem_toArray, List.getElem_cons_succ, List.getElem_cons_zero, List.setIfInBounds_toArray, List.set_cons_zero, List.set_cons_succ])
                    (refine wpAnyH_take (i := 15) (v := undef) rfl (by kernel_rfl) (by kernel_rfl) (by kernel_rfl) (fun _ _ _ h => h) (Or.inr ⟨by rfl, rfl⟩) (by assumption) ?_); (try simp only [Act.put, List.getElem_toArray, List.getElem_cons_succ, List.getElem_cons_zero, List.setIfInBounds_toArray, List.set_cons_zero, List.set_cons_succ])
                    (refine wpAnyH_take (i := 16) (v := undef) rfl (by kernel_rfl) (by kernel_rfl) (by kernel_rfl) (fun _ _ _ h => h) (Or.inr ⟨by rfl, rfl⟩) (by assumption) ?_); (try simp only [Act.put, List.getElem_toArray, List.getElem_cons_succ, List.getElem_cons_zero, List.setIfInBounds_toArray, List.set_cons_zero, List.set_cons_succ])
                    (refine wpAnyH_take (i := 17) (v := undef) rfl (by kernel_rfl) (by kernel_rfl) (by kernel_rfl) (fun _ _ _ h => h) (Or.inr ⟨by rfl, rfl⟩) (by assumption) ?_); (try simp only [Act.put, List.getElem_toArray, List.getElem_cons_succ, List.getElem_cons_zero, List.setIfInBounds_toArray, List.set_cons_zero, List.set_cons_succ])
                    (refine wpAnyH_take (i := 18) (v := undef) rfl (by kernel_rfl) (by kernel_rfl) (by kernel_rfl) (fun _ _ _ h => h) (Or.inr ⟨by rfl, rfl⟩) (by assumption) ?_); (try simp only [Act.put, List.getElem_toArray, List.getElem_cons_succ, List.getElem_cons_zero, List.setIfInBounds_toArray, List.set_cons_zero, List.set_cons_succ])
                    (refine wpAnyH_take (i := 19) (v := undef) rfl (by kernel_rfl) (by kernel_rfl) (by kernel_rfl) (fun _ _ _ h => h) (Or.inr ⟨by rfl, rfl⟩) (by assumption) ?_); (try simp only [Act.put, List.getElem_toArray, List.getElem_cons_succ, List.getElem_cons_zero, List.setIfInBounds_toArray, List.set_cons_zero, List.set_cons_succ])
                    (refine wpAnyH_take (i := 20) (v := undef) rfl (by kernel_rfl) (by kernel_rfl) (by kernel_rfl) (fun _ _ _ h => h) (Or.inr ⟨by rfl, rfl⟩) (by assumption) ?_); (try simp only [Act.put, List.getElem_toArray, List.getElem_cons_succ, List.getElem_cons_zero, List.setIfInBounds_toArray, List.set_cons_zero, List.set_cons_succ])
                    (refine wpAnyH_take (i := 21) (v := ?_) rfl (by kernel_rfl) (by kernel_rfl) (by kernel_rfl) (fun _ _ _ h => h) (Or.inl ⟨by rfl, ?_⟩) (by assumption) ?_; rotate_left 1; · (intro wz hSw; (try dsimp only at hSw); go_simp; try rfl)); (try simp only [Act.put, List.getElem_toArray, List.getElem_cons_succ, List.getElem_cons_zero, List.setIfInBounds_toArray, List.set_cons_zero, List.set_cons_succ])
                    (refine wpAnyH_take (i := 22) (v := ?_) rfl (by kernel_rfl) (by kernel_rfl) (by kernel_rfl) (fun _ _ _ h => h) (Or.inl ⟨by rfl, ?_⟩) (by assumption) ?_; rotate_left 1; · (intro wz hSw; (try dsimp only at hSw); go_simp; try rfl)); (try simp only [Act.put, List.getElem_toArray, List.getElem_cons_succ, List.getElem_cons_zero, List.setIfInBounds_toArray, List.set_cons_zero, List.set_cons_succ])
                    (refine wpAnyH_take (i := 23) (v := undef) rfl (by kernel_rfl) (by kernel_rfl) (by kernel_rfl) (fun _ _ _ h => h) (Or.inr ⟨by rfl, rfl⟩) (by assumption) ?_); (try simp only [Act.put, List.getElem_toArray, List.getElem_cons_succ, List.getElem_cons_zero, List.setIfInBounds_toArray, List.set_cons_zero, List.set_cons_succ])
                    (refine wpAnyH_take (i := 24) (v := undef) rfl (by kernel_rfl) (by kernel_rfl) (by kernel_rfl) (fun _ _ _ h => h) (Or.inr ⟨by rfl, rfl⟩) (by assumption) ?_); (try simp only [Act.put, List.getElem_toArray, List.getElem_cons_succ, List.getElem_cons_zero, List.setIfInBounds_toArray, List.set_cons_zero, List.set_cons_succ])
                    (refine wpAnyH_take (i := 25) (v := undef) rfl (by kernel_rfl) (by kernel_rfl) (by kernel_rfl) (fun _ _ _ h => h) (Or.inr ⟨by rfl, rfl⟩) (by assumption) ?_); (try simp only [Act.put, List.getElem_toArray, List.getElem_cons_succ, List.getElem_cons_zero, List.setIfInBounds_toArray, List.set_cons_zero, List.set_cons_succ])
                    (refine wpAnyH_take (i := 26) (v := undef) rfl (by kernel_rfl) (by kernel_rfl) (by kernel_rfl) (fun _ _ _ h => h) (Or.inr ⟨by rfl, rfl⟩) (by assumption) ?_); (try simp only [Act.put, List.getElem_toArray, List.getElem_cons_succ, List.getElem_cons_zero, List.setIfInBounds_toArray, List.set_cons_zero, List.set_cons_succ])
                    (refine wpAnyH_take (i := 27) (v := undef) rfl (by kernel_rfl) (by kernel_rfl) (by kernel_rfl) (fun _ _ _ h => h) (Or.inr ⟨by rfl, rfl⟩) (by assumption) ?_); (try simp only [Act.put, List.getElem_toArray, List.getElem_cons_succ, List.getElem_cons_zero, List.setIfInBounds_toArray, List.set_cons_zero, List.set_cons_succ])
                    (refine wpAnyH_take (i := 28) (v := undef) rfl (by kernel_rfl) (by kernel_rfl) (by kernel_rfl) (fun _ _ _ h => h) (Or.inr ⟨by rfl, rfl⟩) (by assumption) ?_); (try simp only [Act.put, List.getElem_toArray, List.getElem_cons_succ, List.getElem_cons_zero, List.setIfInBounds_toArray, List.set_cons_zero, List.set_cons_succ])
                    (refine wpAnyH_take (i := 29) (v := undef) rfl (by kernel_rfl) (by kernel_rfl) (by kernel_rfl) (fun _ _ _ h => h) (Or.inr ⟨by rfl, rfl⟩) (by assumption) ?_); (try simp only [Act.put, List.getElem_toArray, List.getElem_cons_succ, List.getElem_cons_zero, List.setIfInBounds_toArray, List.set_cons_zero, List.set_cons_succ])
                    (refine wpAnyH_take (i := 30) (v := undef) rfl (by kernel_rfl) (by kernel_rfl) (by kernel_rfl) (fun _ _ _ h => h) (Or.inr ⟨by rfl, rfl⟩) (by assumption) ?_); (try simp only [Act.put, List.getElem_toArray, List.getElem_cons_succ, List.getElem_cons_zero, List.setIfInBounds_toArray, List.set_cons_zero, List.set_cons_succ])
                    (refine wpAnyH_take (i := 31) (v := undef) rfl (by kernel_rfl) (by kernel_rfl) (by kernel_rfl) (fun _ _ _ h => h) (Or.inr ⟨by rfl, rfl⟩) (by assumption) ?_); (try simp only [Act.put, List.getElem_toArray, List.getElem_cons_succ, List.getElem_cons_zero, List.setIfInBounds_toArray, List.set_cons_zero, List.set_cons_succ])
                    (refine wpAnyH_take (i := 32) (v := undef) rfl (by kernel_rfl) (by kernel_rfl) (by kernel_rfl) (fun _ _ _ h => h) (Or.inr ⟨by rfl, rfl⟩) (by assumption) ?_); (try simp only [Act.put, List.getElem_toArray, List.getElem_cons_succ, List.getElem_cons_zero, List.setIfInBounds_toArray, List.set_cons_zero, List.set_cons_succ])
                    (refine wpAnyH_take (i := 33) (v := undef) rfl (by kernel_rfl) (by kernel_rfl) (by kernel_rfl) (fun _ _ _ h => h) (Or.inr ⟨by rfl, rfl⟩) (by assumption) ?_); (try simp only [Act.put, List.getElem_toArray, List.getElem_cons_succ, List.getElem_cons_zero, List.setIfInBounds_toArray, List.set_cons_zero, List.set_cons_succ])
                    (refine wpAnyH_take (i := 34) (v := ?_) rfl (by kernel_rfl) (by kernel_rfl) (by kernel_rfl) (fun _ _ _ h => h) (Or.inl ⟨by rfl, ?_⟩) (by assumption) ?_; rotate_left 1; · (intro wz hSw; (try dsimp only at hSw); go_simp; try rfl)); (try simp only [Act.put, List.getElem_toArray, List.getElem_cons_succ, List.getElem_cons_zero, List.setIfInBounds_toArray, List.set_cons_zero, List.set_cons_succ])
                    refine wpAnyH_done (by kernel_rfl) ?_ _
                    go_wp2_with fail
                    go_roundg (n - q - 1)
                    case rel => exact ⟨q + 1, by omega, by omega, by go_num, HCQ.out.trans HC7.out⟩
                    case measure => omega
end Go.Proofs.YtkffejgjpnnkmaaDoor
