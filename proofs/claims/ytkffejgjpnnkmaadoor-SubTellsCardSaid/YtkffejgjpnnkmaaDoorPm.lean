/- SubTells: the law. -/
import Derived.Test.YtkffejgjpnnkmaaDoorPl
import Derived.Deep.CutRange
set_option linter.unusedVariables false
set_option linter.unusedSimpArgs false
namespace Go.Proofs.YtkffejgjpnnkmaaDoor
open Go.RowKit Go.W

noncomputable def decT (P : Prop) : Bool := @decide P (Classical.propDecidable P)
theorem decTiff {P Q : Prop} (h : P ↔ Q) : decT P = decT Q := by
  have e : P = Q := propext h
  rw [e]
theorem BoolIs.dec {P : Prop} {e : Ending} (h : BoolIs P e) : e = .returned (.bool (decT P)) := by
  by_cases hp : P
  · rw [h.yes hp]
    have : decT P = true := by unfold decT; exact @decide_eq_true P (Classical.propDecidable P) hp
    rw [this]
  · rw [h.no hp]
    have : decT P = false := by unfold decT; exact @decide_eq_false P (Classical.propDecidable P) hp
    rw [this]
theorem ElemOut.split {cs : List Cls} {t : ByteArray} {E : Ending} (h : ElemOut cs t E) : ∃ e ok, E = .returned (.tuple #[.string e, .bool ok]) ∧ ((∃ el, elemO cs t = some el ∧ e = el ∧ ok = true) ∨ (elemO cs t = none ∧ e = ⟨#[]⟩ ∧ ok = false)) := by
  rcases h with ⟨el, h1, h2⟩ | ⟨h1, h2⟩
  · exact ⟨el, true, h2, .inl ⟨el, h1, rfl, rfl⟩⟩
  · exact ⟨_, false, h2, .inr ⟨h1, rfl, rfl⟩⟩

set_option maxRecDepth 100000 in
set_option maxHeartbeats 16000000 in
theorem law_stells {w : World} {pv : Value} {cs : List Cls} (hT : Tab w) (h : ProgAt w pv cs) (hsz : SzP cs) {t u : ByteArray} :
    Calls Tryd.prog 10 #[pv, .string t, .string u] w fun e w' => e = .returned (.bool true) ∧ Ch No w w' := by
  have HT0 := hid hT
  have HSZ := hid hsz
  clear hT hsz
  have hp := h
  obtain ⟨cv, m0, m1, m2, m3, m4, m5, m6, m7, m8, rfl, h⟩ := h
  obtain ⟨ao, cap, rfl, hcap, hmax, _, _⟩ := h.row
  rw [List.length_map] at hcap h hp ⊢
  obtain ⟨len, hlen⟩ : ∃ len, cs.length = len := ⟨_, rfl⟩
  rw [hlen] at hcap h hp ⊢
  unfold maxLen at hmax
  obtain ⟨wa, hwa⟩ : ∃ wa, w.alloc (.cells #[.slice ao len cap, m0, m1, m2, m3, m4, m5, m6, m7, m8] 30) = wa := ⟨_, rfl⟩
  have hpb := heap_alloc_new w (.cells #[.slice ao len cap, m0, m1, m2, m3, m4, m5, m6, m7, m8] 30)
  have hch := (Ch.refl No w).alloc (.cells #[.slice ao len cap, m0, m1, m2, m3, m4, m5, m6, m7, m8] 30)
  rw [hwa] at hch hpb
  have HL := hid hlen
  have HP := hid (hp.no hch)
  have HC := hid (h.no hch)
  have HPB := hid hpb
  have HCH := hid hch
  have p0 := cellAt hpb 0
  have p1 := cellAt hpb 1
  have p2 := cellAt hpb 2
  have p3 := cellAt hpb 3
  have p4 := cellAt hpb 4
  have p5 := cellAt hpb 5
  have p6 := cellAt hpb 6
  have p7 := cellAt hpb 7
  have p8 := cellAt hpb 8
  have p9 := cellAt hpb 9
  have hz := lt_size hpb
  clear hlen h hp hpb hch
  have HT := hid (HT0.out.no HCH.out)
  have haw := awake09 HT.out
  go_enter Tryd.func10, Tryd.ntmps10
  go_wp2_with fail
  clear hwa
  refine haw.mono ?_
  rintro e w1 ⟨rfl, hc1⟩
  have hp1 := hc1.keep _ _ HPB.out (fun h => h)
  have hri := lright (HP.out.no hc1) HSZ.out
  have HP1 := hid hp1
  have HC1 := hid hc1
  clear p0 p1 p2 p3 p4 p5 p6 p7 p8 p9 haw hc1
  have p0 := cellAt hp1 0
  have p1 := cellAt hp1 1
  have p2 := cellAt hp1 2
  have p3 := cellAt hp1 3
  have p4 := cellAt hp1 4
  have p5 := cellAt hp1 5
  have p6 := cellAt hp1 6
  have p7 := cellAt hp1 7
  have p8 := cellAt hp1 8
  have p9 := cellAt hp1 9
  clear hp1
  go_wp2_with fail
  refine hri.mono ?_
  rintro e w2 ⟨⟨r, rfl, hr⟩, hc2⟩
  have hp2 := hc2.keep _ _ HP1.out (fun h => h)
  have HC2 := hid (HC1.out.trans hc2)
  have HP2 := hid hp2
  have HR := hid hr
  clear p0 p1 p2 p3 p4 p5 p6 p7 p8 p9 hri hc2 hr
  have p0 := cellAt hp2 0
  have p1 := cellAt hp2 1
  have p2 := cellAt hp2 2
  have p3 := cellAt hp2 3
  have p4 := cellAt hp2 4
  have p5 := cellAt hp2 5
  have p6 := cellAt hp2 6
  have p7 := cellAt hp2 7
  have p8 := cellAt hp2 8
  have p9 := cellAt hp2 9
  clear hp2
  cases r with
  | false =>
    clear HR
    have haw := awake09 (HT.out.no HC2.out)
    go_wp2_with fail
    refine haw.mono ?_
    rintro e w3 ⟨rfl, hc3⟩
    go_wp2_with fail
    go_ret
    exact ⟨rfl, HCH.out.trans (HC2.out.trans hc3)⟩
  | true =>
    have HRI := hid (HR.out.1 rfl)
    clear HR
    cases ht60 : decide ((60 : Int) < t.size) with
    | true =>
      have ht60' : (60 : Int) < t.size := by simpa using ht60
      have haw := awake09 (HT.out.no HC2.out)
      go_wp2_with fail
      refine haw.mono ?_
      rintro e w3 ⟨rfl, hc3⟩
      go_wp2_with fail
      go_ret
      exact ⟨rfl, HCH.out.trans (HC2.out.trans hc3)⟩
    | false =>
    have ht60' : ¬ (60 : Int) < t.size := by simpa using ht60
    cases hu60 : decide ((60 : Int) < u.size) with
    | true =>
      have hu60' : (60 : Int) < u.size := by simpa using hu60
      have haw := awake09 (HT.out.no HC2.out)
      go_wp2_with fail
      refine haw.mono ?_
      rintro e w3 ⟨rfl, hc3⟩
      go_wp2_with fail
      go_ret
      exact ⟨rfl, HCH.out.trans (HC2.out.trans hc3)⟩
    | false =>
    have hu60' : ¬ (60 : Int) < u.size := by simpa using hu60
    have HTM := hid (show t.size ≤ maxLen by unfold maxLen; omega)
    have HUM := hid (show u.size ≤ maxLen by unfold maxLen; omega)
    have hmk := lmade (HT.out.no HC2.out) (HP.out.no HC2.out) HSZ.out HRI.out.1 HRI.out.2.1
    go_wp2_with fail
    refine hmk.mono ?_
    rintro e w3 ⟨xv, rfl, hx, hc3⟩
    have HX := hid hx
    have HC3 := hid (HC2.out.trans hc3)
    have hp3 := hc3.keep _ _ HP2.out (fun h => h)
    have HB3 := hid hp3
    clear p0 p1 p2 p3 p4 p5 p6 p7 p8 p9 hmk hc3
    obtain ⟨xb, tb, abv, ss, rfl, _⟩ := hx
    have hpr3 := HP.out.no HC3.out
    have HP3' := hid hpr3
    have hel := xelem HX.out HTM.out
    have hcl := xclass HX.out HTM.out
    have hfi := rfind HP3'.out t
    have p0 := cellAt hp3 0
    have p1 := cellAt hp3 1
    have p2 := cellAt hp3 2
    have p3 := cellAt hp3 3
    have p4 := cellAt hp3 4
    have p5 := cellAt hp3 5
    have p6 := cellAt hp3 6
    have p7 := cellAt hp3 7
    have p8 := cellAt hp3 8
    have p9 := cellAt hp3 9
    clear hp3 hpr3
    obtain ⟨vi, hvi⟩ : ∃ vi, getI (find cs) t = vi := ⟨_, rfl⟩
    obtain ⟨vb, hvb⟩ : ∃ vb, getB (find cs) t = vb := ⟨_, rfl⟩
    obtain ⟨vz, hvz⟩ : ∃ vz, findZ cs t = vz := ⟨_, rfl⟩
    rw [hvi, hvb] at hcl
    rw [hvz] at hfi
    have HVI := hid hvi
    have HVB := hid hvb
    have HVZ := hid hvz
    clear hvi hvb hvz
    go_wp2_with fail
    refine hel.mono ?_
    rintro e w5 ⟨he, rfl⟩
    obtain ⟨ev, ok, rfl, hev⟩ := he.split
    have HEV := hid hev
    clear hel he hev
    go_wp2_with fail
    refine hcl.mono ?_
    rintro e w5 ⟨rfl, rfl⟩
    clear hcl
    go_wp2_with fail
    refine hfi.mono ?_
    rintro e w5 ⟨rfl, hc5⟩
    have hb5 := hc5.keep _ _ HB3.out (fun h => h)
    have HB5 := hid hb5
    have HC5 := hid hc5
    have HP5 := hid (HP3'.out.no hc5)
    have HPL := hid HRI.out.2.2
    clear hfi hc5 p0 p1 p2 p3 p4 p5 p6 p7 p8 p9
    have p0 := cellAt hb5 0
    have p1 := cellAt hb5 1
    have p2 := cellAt hb5 2
    have p3 := cellAt hb5 3
    have p4 := cellAt hb5 4
    have p5 := cellAt hb5 5
    have p6 := cellAt hb5 6
    have p7 := cellAt hb5 7
    have p8 := cellAt hb5 8
    have p9 := cellAt hb5 9
    clear hb5
    go_upto_region 9 with fail
    go_cut [82] from 50 to 82 (fun s82 wx => s82 = .bool false ∧ Ch No w3 wx)
    case first =>
      have hge := gelem HP5.out HPL.out HTM.out
      rcases HEV.out with ⟨el, he, rfl, rfl⟩ | ⟨he, rfl, rfl⟩
      · have hfn := (elem_class HPL.out he).1
        have h1 : vi = 0 := by rw [← HVI.out]; exact getI_none hfn
        have h2 : vb = false := by rw [← HVB.out]; unfold getB; rw [hfn]; rfl
        have h3 : vz = -1 := by rw [← HVZ.out]; exact findZ_none hfn
        subst h1; subst h2; subst h3
        have hes : elemS cs t = ev := by unfold elemS; rw [he]; rfl
        have e3 := elemS_some HPL.out he
        rw [hes] at hge e3
        have e4 := toL ev ev rfl
        clear he hfn hes
        go_wp2_with fail
        refine hge.mono ?_
        rintro e w6 ⟨rfl, hc6⟩
        clear hge
        go_wp2_with fail
        go_meet
        exact ⟨rfl, HC5.out.trans hc6⟩
      · have hes : elemS cs t = ⟨#[]⟩ := by unfold elemS; rw [he]; rfl
        rw [hes] at hge
        clear he hes
        cases hfn : find cs t with
        | none =>
          have h1 : vi = 0 := by rw [← HVI.out]; exact getI_none hfn
          have h2 : vb = false := by rw [← HVB.out]; unfold getB; rw [hfn]; rfl
          have h3 : vz = -1 := by rw [← HVZ.out]; exact findZ_none hfn
          subst h1; subst h2; subst h3
          clear hfn
          go_wp2_with fail
          refine hge.mono ?_
          rintro e w6 ⟨rfl, hc6⟩
          clear hge
          go_wp2_with fail
          go_meet
          exact ⟨rfl, HC5.out.trans hc6⟩
        | some i =>
          have h1 : vi = (i : Int) := by rw [← HVI.out]; exact getI_some hfn
          have h2 : vb = true := by rw [← HVB.out]; unfold getB; rw [hfn]; rfl
          have h3 : vz = (i : Int) := by rw [← HVZ.out]; exact findZ_some hfn
          subst h1; subst h2; subst h3
          clear hfn
          go_wp2_with fail
          refine hge.mono ?_
          rintro e w6 ⟨rfl, hc6⟩
          clear hge
          go_wp2_with fail
          go_meet
          exact ⟨rfl, HC5.out.trans hc6⟩
    case rest =>
      obtain ⟨rfl, hcc⟩ := hcut
      have HCC := hid hcc
      have HBC := hid (hcc.keep _ _ HB3.out (fun h => h))
      have HPC := hid (HP3'.out.no hcc)
      have HXC := hid (HX.out.no hcc)
      have hn1000 : cs.length ≤ 1000 := by have := HRI.out.1.1; omega
      have HSd := hid (progCells9 (((Ch.refl No wc).drew).keep _ _ HBC.out (fun h => h)))
      have HSZ1 : Hid (∀ x ∈ [t], x.size ≤ maxLen) := hid (fun x hx => by
        have : x = t := by simpa using hx
        subst this; exact HTM.out)
      have HSZ2 : Hid (∀ x ∈ [t, u], x.size ≤ maxLen) := hid (fun x hx => by
        have : x = t ∨ x = u := by simpa using hx
        rcases this with rfl | rfl
        · exact HTM.out
        · exact HUM.out)
      clear hcc p0 p1 p2 p3 p4 p5 p6 p7 p8 p9
      by_cases hit : isT cs t
      · have HIT := hid hit
        have HALL1 : Hid (∀ x ∈ [t], isT cs x) := hid (fun x hx => by
          have : x = t := by simpa using hx
          subst this; exact hit)
        have HALL2 : Hid (decT (∀ x ∈ [t, u], isT cs x) = decT (isT cs u)) := hid (decTiff ⟨fun h => h u (by simp), fun h x hx => by
          have : x = t ∨ x = u := by simpa using hx
          rcases this with rfl | rfl
          · exact hit
          · exact h⟩)
        clear hit
        go_upto_region 11 with fail
        refine wp_region_held_drew (S := (fun w' => w'.cell? ⟨w.heap.size, 0, none⟩ = some (.slice ao len cap) ∧ w'.cell? ⟨w.heap.size, 1, none⟩ = some m0 ∧ w'.cell? ⟨w.heap.size, 2, none⟩ = some m1 ∧ w'.cell? ⟨w.heap.size, 3, none⟩ = some m2 ∧ w'.cell? ⟨w.heap.size, 4, none⟩ = some m3 ∧ w'.cell? ⟨w.heap.size, 5, none⟩ = some m4 ∧ w'.cell? ⟨w.heap.size, 6, none⟩ = some m5 ∧ w'.cell? ⟨w.heap.size, 7, none⟩ = some m6 ∧ w'.cell? ⟨w.heap.size, 8, none⟩ = some m7 ∧ w'.cell? ⟨w.heap.size, 9, none⟩ = some m8)) (by kernel_rfl) HSd.out (fun hHeld => ?_)
        (refine wpAnyH_take (i := 0) (v := ?_) rfl (by kernel_rfl) (by kernel_rfl) (by kernel_rfl) (fun _ _ _ h => h) (Or.inl ⟨by rfl, ?_⟩) (by assumption) ?_; rotate_left 1; · (intro wz hSw; (try dsimp only at hSw); go_simp; try rfl)); (try simp only [Act.put, List.getElem_toArray, List.getElem_cons_succ, List.getElem_cons_zero, List.setIfInBounds_toArray, List.set_cons_zero, List.set_cons_succ])
        (refine wpAnyH_take (i := 1) (v := ?_) rfl (by kernel_rfl) (by kernel_rfl) (by kernel_rfl) (fun _ _ _ h => h) (Or.inl ⟨by rfl, ?_⟩) (by assumption) ?_; rotate_left 1; · (intro wz hSw; (try dsimp only at hSw); go_simp; try rfl)); (try simp only [Act.put, List.getElem_toArray, List.getElem_cons_succ, List.getElem_cons_zero, List.setIfInBounds_toArray, List.set_cons_zero, List.set_cons_succ])
        (refine wpAnyH_take (i := 4) (v := ?_) rfl (by kernel_rfl) (by kernel_rfl) (by kernel_rfl) (fun _ _ _ h => h) (Or.inl ⟨by rfl, ?_⟩) (by assumption) ?_; rotate_left 1; · (intro wz hSw; (try dsimp only at hSw); go_simp; try rfl)); (try simp only [Act.put, List.getElem_toArray, List.getElem_cons_succ, List.getElem_cons_zero, List.setIfInBounds_toArray, List.set_cons_zero, List.set_cons_succ])
        (refine wpAnyH_take (i := 5) (v := ?_) rfl (by kernel_rfl) (by kernel_rfl) (by kernel_rfl) (fun _ _ _ h => h) (Or.inl ⟨by rfl, ?_⟩) (by assumption) ?_; rotate_left 1; · (intro wz hSw; (try dsimp only at hSw); go_simp; try rfl)); (try simp only [Act.put, List.getElem_toArray, List.getElem_cons_succ, List.getElem_cons_zero, List.setIfInBounds_toArray, List.set_cons_zero, List.set_cons_succ])
        have K1 := hid (((Ch.refl No wc).drew).alloc (.cells #[.string t] 9))
        refine wpAnyH_ready (rs := [2]) (by kernel_rfl) (by simp) (AllReadyH.cons rfl (fun K hK => ?_) AllReadyH.nil)
        go_simp
        have HS1a := hid (progCells9 (K1.out.keep _ _ HBC.out (fun h => h)))
        refine hK.out _ _ HS1a.out (fun hHeld1a => ?_)
        clear hK
        have hq3 := xis (HXC.out.no K1.out) (StrsAt.one (w := wc.drew) [t] (Nat.le_of_ble_eq_true rfl)) HSZ1.out
        refine wpAnyH_ready (rs := [3]) (by kernel_rfl) (by simp) (AllReadyH.cons rfl (fun K hK => ?_) AllReadyH.nil)
        go_simp
        go_at_call 34
        refine (hq3).mono ?_
        rintro e w' ⟨hr3, rfl⟩
        obtain rfl := hr3.yes HALL1.out
        clear hr3 hq3
        go_simp
        have HS3 := hid (progCells9 (K1.out.keep _ _ HBC.out (fun h => h)))
        refine hK.out _ _ HS3.out (fun hHeld3 => ?_)
        clear hK
        refine wpAnyH_ready (rs := [6]) (by kernel_rfl) (by simp) (AllReadyH.cons rfl (fun K hK => ?_) AllReadyH.nil)
        go_simp
        go_at_call 39
        refine (gis (HPC.out.no K1.out) HPL.out HTM.out).mono ?_
        rintro e w6 ⟨hr6, hc6⟩
        have K6 := hid (K1.out.trans hc6)
        obtain rfl := hr6.yes HIT.out
        clear hr6 hc6
        go_simp
        have HS6 := hid (progCells9 (K6.out.keep _ _ HBC.out (fun h => h)))
        refine hK.out _ _ HS6.out (fun hHeld6 => ?_)
        clear hK
        (refine wpAnyH_take (i := 7) (v := ?_) rfl (by kernel_rfl) (by kernel_rfl) (by kernel_rfl) (fun _ _ _ h => h) (Or.inl ⟨by rfl, ?_⟩) (by assumption) ?_; rotate_left 1; · (intro wz hSw; (try dsimp only at hSw); go_simp; try rfl)); (try simp only [Act.put, List.getElem_toArray, List.getElem_cons_succ, List.getElem_cons_zero, List.setIfInBounds_toArray, List.set_cons_zero, List.set_cons_succ])
        (refine wpAnyH_take (i := 8) (v := ?_) rfl (by kernel_rfl) (by kernel_rfl) (by kernel_rfl) (fun _ _ _ h => h) (Or.inl ⟨by rfl, ?_⟩) (by assumption) ?_; rotate_left 1; · (intro wz hSw; (try dsimp only at hSw); go_simp; try rfl)); (try simp only [Act.put, List.getElem_toArray, List.getElem_cons_succ, List.getElem_cons_zero, List.setIfInBounds_toArray, List.set_cons_zero, List.set_cons_succ])
        (refine wpAnyH_take (i := 9) (v := ?_) rfl (by kernel_rfl) (by kernel_rfl) (by kernel_rfl) (fun _ _ _ h => h) (Or.inl ⟨by rfl, ?_⟩) (by assumption) ?_; rotate_left 1; · (intro wz hSw; (try dsimp only at hSw); go_simp; try rfl)); (try simp only [Act.put, List.getElem_toArray, List.getElem_cons_succ, List.getElem_cons_zero, List.setIfInBounds_toArray, List.set_cons_zero, List.set_cons_succ])
        (refine wpAnyH_take (i := 10) (v := ?_) rfl (by kernel_rfl) (by kernel_rfl) (by kernel_rfl) (fun _ _ _ h => h) (Or.inl ⟨by rfl, ?_⟩) (by assumption) ?_; rotate_left 1; · (intro wz hSw; (try dsimp only at hSw); go_simp; try rfl)); (try simp only [Act.put, List.getElem_toArray, List.getElem_cons_succ, List.getElem_cons_zero, List.setIfInBounds_toArray, List.set_cons_zero, List.set_cons_succ])
        (refine wpAnyH_take (i := 11) (v := ?_) rfl (by kernel_rfl) (by kernel_rfl) (by kernel_rfl) (fun _ _ _ h => h) (Or.inl ⟨by rfl, ?_⟩) (by assumption) ?_; rotate_left 1; · (intro wz hSw; (try dsimp only at hSw); go_simp; try rfl)); (try simp only [Act.put, List.getElem_toArray, List.getElem_cons_succ, List.getElem_cons_zero, List.setIfInBounds_toArray, List.set_cons_zero, List.set_cons_succ])
        (refine wpAnyH_take (i := 14) (v := ?_) rfl (by kernel_rfl) (by kernel_rfl) (by kernel_rfl) (fun _ _ _ h => h) (Or.inl ⟨by rfl, ?_⟩) (by assumption) ?_; rotate_left 1; · (intro wz hSw; (try dsimp only at hSw); go_simp; try rfl)); (try simp only [Act.put, List.getElem_toArray, List.getElem_cons_succ, List.getElem_cons_zero, List.setIfInBounds_toArray, List.set_cons_zero, List.set_cons_succ])
        (refine wpAnyH_take (i := 15) (v := ?_) rfl (by kernel_rfl) (by kernel_rfl) (by kernel_rfl) (fun _ _ _ h => h) (Or.inl ⟨by rfl, ?_⟩) (by assumption) ?_; rotate_left 1; · (intro wz hSw; (try dsimp only at hSw); go_simp; try rfl)); (try simp only [Act.put, List.getElem_toArray, List.getElem_cons_succ, List.getElem_cons_zero, List.setIfInBounds_toArray, List.set_cons_zero, List.set_cons_succ])
        have K12 := hid (K6.out.alloc (.cells #[.string t, .string u] 9))
        refine wpAnyH_ready (rs := [12]) (by kernel_rfl) (by simp) (AllReadyH.cons rfl (fun K hK => ?_) AllReadyH.nil)
        go_simp
        have HS12a := hid (progCells9 (K12.out.keep _ _ HBC.out (fun h => h)))
        refine hK.out _ _ HS12a.out (fun hHeld12a => ?_)
        clear hK
        have hq13 := xis (HXC.out.no K12.out) (StrsAt.one (w := w6) [t, u] (Nat.le_of_ble_eq_true rfl)) HSZ2.out
        refine wpAnyH_ready (rs := [13]) (by kernel_rfl) (by simp) (AllReadyH.cons rfl (fun K hK => ?_) AllReadyH.nil)
        go_simp
        go_at_call 34
        refine (hq13).mono ?_
        rintro e w' ⟨hr13, rfl⟩
        obtain rfl := hr13.dec
        rw [HALL2.out]
        clear hr13 hq13
        go_simp
        have HS13 := hid (progCells9 (K12.out.keep _ _ HBC.out (fun h => h)))
        refine hK.out _ _ HS13.out (fun hHeld13 => ?_)
        clear hK
        refine wpAnyH_ready (rs := [16]) (by kernel_rfl) (by simp) (AllReadyH.cons rfl (fun K hK => ?_) AllReadyH.nil)
        go_simp
        go_at_call 39
        refine (gis (HPC.out.no K12.out) HPL.out HTM.out).mono ?_
        rintro e w16 ⟨hr16, hc16⟩
        have K16 := hid (K12.out.trans hc16)
        obtain rfl := hr16.yes HIT.out
        clear hr16 hc16
        go_simp
        have HS16 := hid (progCells9 (K16.out.keep _ _ HBC.out (fun h => h)))
        refine hK.out _ _ HS16.out (fun hHeld16 => ?_)
        clear hK
        (refine wpAnyH_take (i := 17) (v := ?_) rfl (by kernel_rfl) (by kernel_rfl) (by kernel_rfl) (fun _ _ _ h => h) (Or.inl ⟨by rfl, ?_⟩) (by assumption) ?_; rotate_left 1; · (intro wz hSw; (try dsimp only at hSw); go_simp; try rfl)); (try simp only [Act.put, List.getElem_toArray, List.getElem_cons_succ, List.getElem_cons_zero, List.setIfInBounds_toArray, List.set_cons_zero, List.set_cons_succ])
        (refine wpAnyH_take (i := 18) (v := ?_) rfl (by kernel_rfl) (by kernel_rfl) (by kernel_rfl) (fun _ _ _ h => h) (Or.inl ⟨by rfl, ?_⟩) (by assumption) ?_; rotate_left 1; · (intro wz hSw; (try dsimp only at hSw); go_simp; try rfl)); (try simp only [Act.put, List.getElem_toArray, List.getElem_cons_succ, List.getElem_cons_zero, List.setIfInBounds_toArray, List.set_cons_zero, List.set_cons_succ])
        (refine wpAnyH_take (i := 19) (v := ?_) rfl (by kernel_rfl) (by kernel_rfl) (by kernel_rfl) (fun _ _ _ h => h) (Or.inl ⟨by rfl, ?_⟩) (by assumption) ?_; rotate_left 1; · (intro wz hSw; (try dsimp only at hSw); go_simp; try rfl)); (try simp only [Act.put, List.getElem_toArray, List.getElem_cons_succ, List.getElem_cons_zero, List.setIfInBounds_toArray, List.set_cons_zero, List.set_cons_succ])
        refine wpAnyH_ready (rs := [20]) (by kernel_rfl) (by simp) (AllReadyH.cons rfl (fun K hK => ?_) AllReadyH.nil)
        go_simp
        go_at_call 39
        refine (gis (HPC.out.no K16.out) HPL.out HUM.out).mono ?_
        rintro e w20 ⟨hr20, hc20⟩
        have K20 := hid (K16.out.trans hc20)
        obtain rfl := hr20.dec
        clear hr20 hc20
        go_simp
        have HS20 := hid (progCells9 (K20.out.keep _ _ HBC.out (fun h => h)))
        refine hK.out _ _ HS20.out (fun hHeld20 => ?_)
        clear hK
        (refine wpAnyH_take (i := 21) (v := ?_) rfl (by kernel_rfl) (by kernel_rfl) (by kernel_rfl) (fun _ _ _ h => h) (Or.inl ⟨by rfl, ?_⟩) (by assumption) ?_; rotate_left 1; · (intro wz hSw; (try dsimp only at hSw); go_simp; try rfl)); (try simp only [Act.put, List.getElem_toArray, List.getElem_cons_succ, List.getElem_cons_zero, List.setIfInBounds_toArray, List.set_cons_zero, List.set_cons_succ])
        (refine wpAnyH_take (i := 22) (v := ?_) rfl (by kernel_rfl) (by kernel_rfl) (by kernel_rfl) (fun _ _ _ h => h) (Or.inl ⟨by rfl, ?_⟩) (by assumption) ?_; rotate_left 1; · (intro wz hSw; (try dsimp only at hSw); go_simp; try rfl)); (try simp only [Act.put, List.getElem_toArray, List.getElem_cons_succ, List.getElem_cons_zero, List.setIfInBounds_toArray, List.set_cons_zero, List.set_cons_succ])
        (refine wpAnyH_take (i := 23) (v := ?_) rfl (by kernel_rfl) (by kernel_rfl) (by kernel_rfl) (fun _ _ _ h => h) (Or.inl ⟨by rfl, ?_⟩) (by assumption) ?_; rotate_left 1; · (intro wz hSw; (try dsimp only at hSw); go_simp; try rfl)); (try simp only [Act.put, List.getElem_toArray, List.getElem_cons_succ, List.getElem_cons_zero, List.setIfInBounds_toArray, List.set_cons_zero, List.set_cons_succ])
        (refine wpAnyH_take (i := 24) (v := ?_) rfl (by kernel_rfl) (by kernel_rfl) (by kernel_rfl) (fun _ _ _ h => h) (Or.inl ⟨by rfl, ?_⟩) (by assumption) ?_; rotate_left 1; · (intro wz hSw; (try dsimp only at hSw); go_simp; try rfl)); (try simp only [Act.put, List.getElem_toArray, List.getElem_cons_succ, List.getElem_cons_zero, List.setIfInBounds_toArray, List.set_cons_zero, List.set_cons_succ])
        (refine wpAnyH_take (i := 25) (v := ?_) rfl (by kernel_rfl) (by kernel_rfl) (by kernel_rfl) (fun _ _ _ h => h) (Or.inl ⟨by rfl, ?_⟩) (by assumption) ?_; rotate_left 1; · (intro wz hSw; (try dsimp only at hSw); go_simp; try rfl)); (try simp only [Act.put, List.getElem_toArray, List.getElem_cons_succ, List.getElem_cons_zero, List.setIfInBounds_toArray, List.set_cons_zero, List.set_cons_succ])
        (refine wpAnyH_take (i := 26) (v := ?_) rfl (by kernel_rfl) (by kernel_rfl) (by kernel_rfl) (fun _ _ _ h => h) (Or.inl ⟨by rfl, ?_⟩) (by assumption) ?_; rotate_left 1; · (intro wz hSw; (try dsimp only at hSw); go_simp; try rfl)); (try simp only [Act.put, List.getElem_toArray, List.getElem_cons_succ, List.getElem_cons_zero, List.setIfInBounds_toArray, List.set_cons_zero, List.set_cons_succ])
        (refine wpAnyH_take (i := 28) (v := ?_) rfl (by kernel_rfl) (by kernel_rfl) (by kernel_rfl) (fun _ _ _ h => h) (Or.inl ⟨by rfl, ?_⟩) (by assumption) ?_; rotate_left 1; · (intro wz hSw; (try dsimp only at hSw); go_simp; try rfl)); (try simp only [Act.put, List.getElem_toArray, List.getElem_cons_succ, List.getElem_cons_zero, List.setIfInBounds_toArray, List.set_cons_zero, List.set_cons_succ])
        (refine wpAnyH_take (i := 29) (v := ?_) rfl (by kernel_rfl) (by kernel_rfl) (by kernel_rfl) (fun _ _ _ h => h) (Or.inl ⟨by rfl, ?_⟩) (by assumption) ?_; rotate_left 1; · (intro wz hSw; (try dsimp only at hSw); go_simp; try rfl)); (try simp only [Act.put, List.getElem_toArray, List.getElem_cons_succ, List.getElem_cons_zero, List.setIfInBounds_toArray, List.set_cons_zero, List.set_cons_succ])
        refine wpAnyH_ready (rs := [27]) (by kernel_rfl) (by simp) (AllReadyH.cons rfl (fun K hK => ?_) AllReadyH.nil)
        go_simp
        go_at_call 40
        refine (xref (HXC.out.no K20.out) HTM.out).mono ?_
        rintro e w' ⟨hr27, rfl⟩
        obtain rfl := hr27.dec
        clear hr27
        go_simp
        have HS27 := hid (progCells9 (K20.out.keep _ _ HBC.out (fun h => h)))
        refine hK.out _ _ HS27.out (fun hHeld27 => ?_)
        clear hK
        refine wpAnyH_ready (rs := [30]) (by kernel_rfl) (by simp) (AllReadyH.cons rfl (fun K hK => ?_) AllReadyH.nil)
        go_simp
        go_at_call 41
        refine (gref (HPC.out.no K20.out) HPL.out HTM.out).mono ?_
        rintro e w30 ⟨hr30, hc30⟩
        have K30 := hid (K20.out.trans hc30)
        obtain rfl := hr30.dec
        clear hr30 hc30
        go_simp
        have HS30 := hid (progCells9 (K30.out.keep _ _ HBC.out (fun h => h)))
        refine hK.out _ _ HS30.out (fun hHeld30 => ?_)
        clear hK
        (refine wpAnyH_take (i := 31) (v := ?_) rfl (by kernel_rfl) (by kernel_rfl) (by kernel_rfl) (fun _ _ _ h => h) (Or.inl ⟨by rfl, ?_⟩) (by assumption) ?_; rotate_left 1; · (intro wz hSw; (try dsimp only at hSw); go_simp; try rfl)); (try simp only [Act.put, List.getElem_toArray, List.getElem_cons_succ, List.getElem_cons_zero, List.setIfInBounds_toArray, List.set_cons_zero, List.set_cons_succ])
        (refine wpAnyH_take (i := 32) (v := ?_) rfl (by kernel_rfl) (by kernel_rfl) (by kernel_rfl) (fun _ _ _ h => h) (Or.inl ⟨by rfl, ?_⟩) (by assumption) ?_; rotate_left 1; · (intro wz hSw; (try dsimp only at hSw); go_simp; try rfl)); (try simp only [Act.put, List.getElem_toArray, List.getElem_cons_succ, List.getElem_cons_zero, List.setIfInBounds_toArray, List.set_cons_zero, List.set_cons_succ])
        (refine wpAnyH_take (i := 33) (v := ?_) rfl (by kernel_rfl) (by kernel_rfl) (by kernel_rfl) (fun _ _ _ h => h) (Or.inl ⟨by rfl, ?_⟩) (by assumption) ?_; rotate_left 1; · (intro wz hSw; (try dsimp only at hSw); go_simp; try rfl)); (try simp only [Act.put, List.getElem_toArray, List.getElem_cons_succ, List.getElem_cons_zero, List.setIfInBounds_toArray, List.set_cons_zero, List.set_cons_succ])
        (refine wpAnyH_take (i := 34) (v := ?_) rfl (by kernel_rfl) (by kernel_rfl) (by kernel_rfl) (fun _ _ _ h => h) (Or.inl ⟨by rfl, ?_⟩) (by assumption) ?_; rotate_left 1; · (intro wz hSw; (try dsimp only at hSw); go_simp; try rfl)); (try simp only [Act.put, List.getElem_toArray, List.getElem_cons_succ, List.getElem_cons_zero, List.setIfInBounds_toArray, List.set_cons_zero, List.set_cons_succ])
        (refine wpAnyH_take (i := 35) (v := ?_) rfl (by kernel_rfl) (by kernel_rfl) (by kernel_rfl) (fun _ _ _ h => h) (Or.inl ⟨by rfl, ?_⟩) (by assumption) ?_; rotate_left 1; · (intro wz hSw; (try dsimp only at hSw); go_simp; try rfl)); (try simp only [Act.put, List.getElem_toArray, List.getElem_cons_succ, List.getElem_cons_zero, List.setIfInBounds_toArray, List.set_cons_zero, List.set_cons_succ])
        (refine wpAnyH_take (i := 36) (v := ?_) rfl (by kernel_rfl) (by kernel_rfl) (by kernel_rfl) (fun _ _ _ h => h) (Or.inl ⟨by rfl, ?_⟩) (by assumption) ?_; rotate_left 1; · (intro wz hSw; (try dsimp only at hSw); go_simp; try rfl)); (try simp only [Act.put, List.getElem_toArray, List.getElem_cons_succ, List.getElem_cons_zero, List.setIfInBounds_toArray, List.set_cons_zero, List.set_cons_succ])
        (refine wpAnyH_take (i := 38) (v := ?_) rfl (by kernel_rfl) (by kernel_rfl) (by kernel_rfl) (fun _ _ _ h => h) (Or.inl ⟨by rfl, ?_⟩) (by assumption) ?_; rotate_left 1; · (intro wz hSw; (try dsimp only at hSw); go_simp; try rfl)); (try simp only [Act.put, List.getElem_toArray, List.getElem_cons_succ, List.getElem_cons_zero, List.setIfInBounds_toArray, List.set_cons_zero, List.set_cons_succ])
        (refine wpAnyH_take (i := 39) (v := ?_) rfl (by kernel_rfl) (by kernel_rfl) (by kernel_rfl) (fun _ _ _ h => h) (Or.inl ⟨by rfl, ?_⟩) (by assumption) ?_; rotate_left 1; · (intro wz hSw; (try dsimp only at hSw); go_simp; try rfl)); (try simp only [Act.put, List.getElem_toArray, List.getElem_cons_succ, List.getElem_cons_zero, List.setIfInBounds_toArray, List.set_cons_zero, List.set_cons_succ])
        (refine wpAnyH_take (i := 40) (v := ?_) rfl (by kernel_rfl) (by kernel_rfl) (by kernel_rfl) (fun _ _ _ h => h) (Or.inl ⟨by rfl, ?_⟩) (by assumption) ?_; rotate_left 1; · (intro wz hSw; (try dsimp only at hSw); go_simp; try rfl)); (try simp only [Act.put, List.getElem_toArray, List.getElem_cons_succ, List.getElem_cons_zero, List.setIfInBounds_toArray, List.set_cons_zero, List.set_cons_succ])
        refine wpAnyH_ready (rs := [37]) (by kernel_rfl) (by simp) (AllReadyH.cons rfl (fun K hK => ?_) AllReadyH.nil)
        go_simp
        go_at_call 35
        refine (xbelow (HXC.out.no K30.out) HTM.out HUM.out).mono ?_
        rintro e w37 ⟨hr37, hc37⟩
        have K37 := hid (K30.out.trans hc37)
        obtain rfl := hr37.dec
        clear hr37 hc37
        go_simp
        have HS37 := hid (progCells9 (K37.out.keep _ _ HBC.out (fun h => h)))
        refine hK.out _ _ HS37.out (fun hHeld37 => ?_)
        clear hK
        refine wpAnyH_ready (rs := [41]) (by kernel_rfl) (by simp) (AllReadyH.cons rfl (fun K hK => ?_) AllReadyH.nil)
        go_simp
        go_at_call 42
        refine (gbelow (HPC.out.no K37.out) HRI.out.2.1.1 HRI.out.1 HPL.out HTM.out HUM.out).mono ?_
        rintro e w41 ⟨hr41, hc41⟩
        have K41 := hid (K37.out.trans hc41)
        obtain rfl := hr41.dec
        clear hr41 hc41
        go_simp
        have HS41 := hid (progCells9 (K41.out.keep _ _ HBC.out (fun h => h)))
        refine hK.out _ _ HS41.out (fun hHeld41 => ?_)
        clear hK
        (refine wpAnyH_take (i := 42) (v := ?_) rfl (by kernel_rfl) (by kernel_rfl) (by kernel_rfl) (fun _ _ _ h => h) (Or.inl ⟨by rfl, ?_⟩) (by assumption) ?_; rotate_left 1; · (intro wz hSw; (try dsimp only at hSw); go_simp; try rfl)); (try simp only [Act.put, List.getElem_toArray, List.getElem_cons_succ, List.getElem_cons_zero, List.setIfInBounds_toArray, List.set_cons_zero, List.set_cons_succ])
        (refine wpAnyH_take (i := 43) (v := ?_) rfl (by kernel_rfl) (by kernel_rfl) (by kernel_rfl) (fun _ _ _ h => h) (Or.inl ⟨by rfl, ?_⟩) (by assumption) ?_; rotate_left 1; · (intro wz hSw; (try dsimp only at hSw); go_simp; try rfl)); (try simp only [Act.put, List.getElem_toArray, List.getElem_cons_succ, List.getElem_cons_zero, List.setIfInBounds_toArray, List.set_cons_zero, List.set_cons_succ])
        (refine wpAnyH_take (i := 44) (v := ?_) rfl (by kernel_rfl) (by kernel_rfl) (by kernel_rfl) (fun _ _ _ h => h) (Or.inl ⟨by rfl, ?_⟩) (by assumption) ?_; rotate_left 1; · (intro wz hSw; (try dsimp only at hSw); go_simp; try rfl)); (try simp only [Act.put, List.getElem_toArray, List.getElem_cons_succ, List.getElem_cons_zero, List.setIfInBounds_toArray, List.set_cons_zero, List.set_cons_succ])
        (refine wpAnyH_take (i := 45) (v := ?_) rfl (by kernel_rfl) (by kernel_rfl) (by kernel_rfl) (fun _ _ _ h => h) (Or.inl ⟨by rfl, ?_⟩) (by assumption) ?_; rotate_left 1; · (intro wz hSw; (try dsimp only at hSw); go_simp; try rfl)); (try simp only [Act.put, List.getElem_toArray, List.getElem_cons_succ, List.getElem_cons_zero, List.setIfInBounds_toArray, List.set_cons_zero, List.set_cons_succ])
        (refine wpAnyH_take (i := 46) (v := ?_) rfl (by kernel_rfl) (by kernel_rfl) (by kernel_rfl) (fun _ _ _ h => h) (Or.inl ⟨by rfl, ?_⟩) (by assumption) ?_; rotate_left 1; · (intro wz hSw; (try dsimp only at hSw); go_simp; try rfl)); (try simp only [Act.put, List.getElem_toArray, List.getElem_cons_succ, List.getElem_cons_zero, List.setIfInBounds_toArray, List.set_cons_zero, List.set_cons_succ])
        (refine wpAnyH_take (i := 48) (v := ?_) rfl (by kernel_rfl) (by kernel_rfl) (by kernel_rfl) (fun _ _ _ h => h) (Or.inl ⟨by rfl, ?_⟩) (by assumption) ?_; rotate_left 1; · (intro wz hSw; (try dsimp only at hSw); go_simp; try rfl)); (try simp only [Act.put, List.getElem_toArray, List.getElem_cons_succ, List.getElem_cons_zero, List.setIfInBounds_toArray, List.set_cons_zero, List.set_cons_succ])
        (refine wpAnyH_take (i := 49) (v := ?_) rfl (by kernel_rfl) (by kernel_rfl) (by kernel_rfl) (fun _ _ _ h => h) (Or.inl ⟨by rfl, ?_⟩) (by assumption) ?_; rotate_left 1; · (intro wz hSw; (try dsimp only at hSw); go_simp; try rfl)); (try simp only [Act.put, List.getElem_toArray, List.getElem_cons_succ, List.getElem_cons_zero, List.setIfInBounds_toArray, List.set_cons_zero, List.set_cons_succ])
        refine wpAnyH_ready (rs := [47]) (by kernel_rfl) (by simp) (AllReadyH.cons rfl (fun K hK => ?_) AllReadyH.nil)
        go_simp
        go_at_call 44
        refine (xunder (HXC.out.no K41.out) HTM.out hn1000).mono ?_
        rintro e w47 ⟨v47, rfl, hv47, hc47⟩
        have K47 := hid (K41.out.trans hc47)
        have V47 := hid hv47
        clear hv47 hc47
        go_simp
        have HS47 := hid (progCells9 (K47.out.keep _ _ HBC.out (fun h => h)))
        refine hK.out _ _ HS47.out (fun hHeld47 => ?_)
        clear hK
        refine wpAnyH_ready (rs := [50]) (by kernel_rfl) (by simp) (AllReadyH.cons rfl (fun K hK => ?_) AllReadyH.nil)
        go_simp
        go_at_call 45
        refine (gunder (HPC.out.no K47.out) HRI.out HSZ.out HTM.out).mono ?_
        rintro e w50 ⟨v50, rfl, hv50, hc50⟩
        have K50 := hid (K47.out.trans hc50)
        have V50 := hid hv50
        have V475 := hid (V47.out.no hc50)
        clear hv50 hc50
        go_simp
        have HS50 := hid (progCells9 (K50.out.keep _ _ HBC.out (fun h => h)))
        refine hK.out _ _ HS50.out (fun hHeld50 => ?_)
        clear hK
        refine wpAnyH_ready (rs := [51]) (by kernel_rfl) (by simp) (AllReadyH.cons rfl (fun K hK => ?_) AllReadyH.nil)
        go_simp
        go_at_call 43
        refine (rtexts' V475.out V50.out).mono ?_
        rintro e w51 ⟨rfl, hc51⟩
        have K51 := hid (K50.out.trans hc51)
        clear hc51
        go_simp
        have HS51 := hid (progCells9 (K51.out.keep _ _ HBC.out (fun h => h)))
        refine hK.out _ _ HS51.out (fun hHeld51 => ?_)
        clear hK
        (refine wpAnyH_take (i := 52) (v := ?_) rfl (by kernel_rfl) (by kernel_rfl) (by kernel_rfl) (fun _ _ _ h => h) (Or.inl ⟨by rfl, ?_⟩) (by assumption) ?_; rotate_left 1; · (intro wz hSw; (try dsimp only at hSw); go_simp; try rfl)); (try simp only [Act.put, List.getElem_toArray, List.getElem_cons_succ, List.getElem_cons_zero, List.setIfInBounds_toArray, List.set_cons_zero, List.set_cons_succ])
        refine wpAnyH_ready (rs := [53]) (by kernel_rfl) (by simp) (AllReadyH.cons rfl (fun K hK => ?_) AllReadyH.nil)
        go_simp
        refine hK.out _ _ HS51.out (fun hHeld53 => ?_)
        clear hK
        refine wpAnyH_done (by kernel_rfl) ?_ _
        go_wp2_with fail
        go_ret
        exact ⟨rfl, HCH.out.trans (HC3.out.trans (HCC.out.trans K51.out))⟩
      · have HIT := hid hit
        have HALL1 : Hid (¬ ∀ x ∈ [t], isT cs x) := hid (fun h => hit (h t (by simp)))
        have HALL2 : Hid (¬ ∀ x ∈ [t, u], isT cs x) := hid (fun h => hit (h t (by simp)))
        clear hit
        go_upto_region 11 with fail
        refine wp_region_held_drew (S := (fun w' => w'.cell? ⟨w.heap.size, 0, none⟩ = some (.slice ao len cap) ∧ w'.cell? ⟨w.heap.size, 1, none⟩ = some m0 ∧ w'.cell? ⟨w.heap.size, 2, none⟩ = some m1 ∧ w'.cell? ⟨w.heap.size, 3, none⟩ = some m2 ∧ w'.cell? ⟨w.heap.size, 4, none⟩ = some m3 ∧ w'.cell? ⟨w.heap.size, 5, none⟩ = some m4 ∧ w'.cell? ⟨w.heap.size, 6, none⟩ = some m5 ∧ w'.cell? ⟨w.heap.size, 7, none⟩ = some m6 ∧ w'.cell? ⟨w.heap.size, 8, none⟩ = some m7 ∧ w'.cell? ⟨w.heap.size, 9, none⟩ = some m8)) (by kernel_rfl) HSd.out (fun hHeld => ?_)
        (refine wpAnyH_take (i := 0) (v := ?_) rfl (by kernel_rfl) (by kernel_rfl) (by kernel_rfl) (fun _ _ _ h => h) (Or.inl ⟨by rfl, ?_⟩) (by assumption) ?_; rotate_left 1; · (intro wz hSw; (try dsimp only at hSw); go_simp; try rfl)); (try simp only [Act.put, List.getElem_toArray, List.getElem_cons_succ, List.getElem_cons_zero, List.setIfInBounds_toArray, List.set_cons_zero, List.set_cons_succ])
        (refine wpAnyH_take (i := 1) (v := ?_) rfl (by kernel_rfl) (by kernel_rfl) (by kernel_rfl) (fun _ _ _ h => h) (Or.inl ⟨by rfl, ?_⟩) (by assumption) ?_; rotate_left 1; · (intro wz hSw; (try dsimp only at hSw); go_simp; try rfl)); (try simp only [Act.put, List.getElem_toArray, List.getElem_cons_succ, List.getElem_cons_zero, List.setIfInBounds_toArray, List.set_cons_zero, List.set_cons_succ])
        (refine wpAnyH_take (i := 4) (v := ?_) rfl (by kernel_rfl) (by kernel_rfl) (by kernel_rfl) (fun _ _ _ h => h) (Or.inl ⟨by rfl, ?_⟩) (by assumption) ?_; rotate_left 1; · (intro wz hSw; (try dsimp only at hSw); go_simp; try rfl)); (try simp only [Act.put, List.getElem_toArray, List.getElem_cons_succ, List.getElem_cons_zero, List.setIfInBounds_toArray, List.set_cons_zero, List.set_cons_succ])
        (refine wpAnyH_take (i := 5) (v := ?_) rfl (by kernel_rfl) (by kernel_rfl) (by kernel_rfl) (fun _ _ _ h => h) (Or.inl ⟨by rfl, ?_⟩) (by assumption) ?_; rotate_left 1; · (intro wz hSw; (try dsimp only at hSw); go_simp; try rfl)); (try simp only [Act.put, List.getElem_toArray, List.getElem_cons_succ, List.getElem_cons_zero, List.setIfInBounds_toArray, List.set_cons_zero, List.set_cons_succ])
        have K1 := hid (((Ch.refl No wc).drew).alloc (.cells #[.string t] 9))
        refine wpAnyH_ready (rs := [2]) (by kernel_rfl) (by simp) (AllReadyH.cons rfl (fun K hK => ?_) AllReadyH.nil)
        go_simp
        have HS1a := hid (progCells9 (K1.out.keep _ _ HBC.out (fun h => h)))
        refine hK.out _ _ HS1a.out (fun hHeld1a => ?_)
        clear hK
        have hq3 := xis (HXC.out.no K1.out) (StrsAt.one (w := wc.drew) [t] (Nat.le_of_ble_eq_true rfl)) HSZ1.out
        refine wpAnyH_ready (rs := [3]) (by kernel_rfl) (by simp) (AllReadyH.cons rfl (fun K hK => ?_) AllReadyH.nil)
        go_simp
        go_at_call 34
        refine (hq3).mono ?_
        rintro e w' ⟨hr3, rfl⟩
        obtain rfl := hr3.no HALL1.out
        clear hr3 hq3
        go_simp
        have HS3 := hid (progCells9 (K1.out.keep _ _ HBC.out (fun h => h)))
        refine hK.out _ _ HS3.out (fun hHeld3 => ?_)
        clear hK
        refine wpAnyH_ready (rs := [6]) (by kernel_rfl) (by simp) (AllReadyH.cons rfl (fun K hK => ?_) AllReadyH.nil)
        go_simp
        go_at_call 39
        refine (gis (HPC.out.no K1.out) HPL.out HTM.out).mono ?_
        rintro e w6 ⟨hr6, hc6⟩
        have K6 := hid (K1.out.trans hc6)
        obtain rfl := hr6.no HIT.out
        clear hr6 hc6
        go_simp
        have HS6 := hid (progCells9 (K6.out.keep _ _ HBC.out (fun h => h)))
        refine hK.out _ _ HS6.out (fun hHeld6 => ?_)
        clear hK
        (refine wpAnyH_take (i := 7) (v := ?_) rfl (by kernel_rfl) (by kernel_rfl) (by kernel_rfl) (fun _ _ _ h => h) (Or.inl ⟨by rfl, ?_⟩) (by assumption) ?_; rotate_left 1; · (intro wz hSw; (try dsimp only at hSw); go_simp; try rfl)); (try simp only [Act.put, List.getElem_toArray, List.getElem_cons_succ, List.getElem_cons_zero, List.setIfInBounds_toArray, List.set_cons_zero, List.set_cons_succ])
        (refine wpAnyH_take (i := 8) (v := ?_) rfl (by kernel_rfl) (by kernel_rfl) (by kernel_rfl) (fun _ _ _ h => h) (Or.inl ⟨by rfl, ?_⟩) (by assumption) ?_; rotate_left 1; · (intro wz hSw; (try dsimp only at hSw); go_simp; try rfl)); (try simp only [Act.put, List.getElem_toArray, List.getElem_cons_succ, List.getElem_cons_zero, List.setIfInBounds_toArray, List.set_cons_zero, List.set_cons_succ])
        (refine wpAnyH_take (i := 9) (v := ?_) rfl (by kernel_rfl) (by kernel_rfl) (by kernel_rfl) (fun _ _ _ h => h) (Or.inl ⟨by rfl, ?_⟩) (by assumption) ?_; rotate_left 1; · (intro wz hSw; (try dsimp only at hSw); go_simp; try rfl)); (try simp only [Act.put, List.getElem_toArray, List.getElem_cons_succ, List.getElem_cons_zero, List.setIfInBounds_toArray, List.set_cons_zero, List.set_cons_succ])
        (refine wpAnyH_take (i := 10) (v := ?_) rfl (by kernel_rfl) (by kernel_rfl) (by kernel_rfl) (fun _ _ _ h => h) (Or.inl ⟨by rfl, ?_⟩) (by assumption) ?_; rotate_left 1; · (intro wz hSw; (try dsimp only at hSw); go_simp; try rfl)); (try simp only [Act.put, List.getElem_toArray, List.getElem_cons_succ, List.getElem_cons_zero, List.setIfInBounds_toArray, List.set_cons_zero, List.set_cons_succ])
        (refine wpAnyH_take (i := 11) (v := ?_) rfl (by kernel_rfl) (by kernel_rfl) (by kernel_rfl) (fun _ _ _ h => h) (Or.inl ⟨by rfl, ?_⟩) (by assumption) ?_; rotate_left 1; · (intro wz hSw; (try dsimp only at hSw); go_simp; try rfl)); (try simp only [Act.put, List.getElem_toArray, List.getElem_cons_succ, List.getElem_cons_zero, List.setIfInBounds_toArray, List.set_cons_zero, List.set_cons_succ])
        (refine wpAnyH_take (i := 14) (v := ?_) rfl (by kernel_rfl) (by kernel_rfl) (by kernel_rfl) (fun _ _ _ h => h) (Or.inl ⟨by rfl, ?_⟩) (by assumption) ?_; rotate_left 1; · (intro wz hSw; (try dsimp only at hSw); go_simp; try rfl)); (try simp only [Act.put, List.getElem_toArray, List.getElem_cons_succ, List.getElem_cons_zero, List.setIfInBounds_toArray, List.set_cons_zero, List.set_cons_succ])
        (refine wpAnyH_take (i := 15) (v := ?_) rfl (by kernel_rfl) (by kernel_rfl) (by kernel_rfl) (fun _ _ _ h => h) (Or.inl ⟨by rfl, ?_⟩) (by assumption) ?_; rotate_left 1; · (intro wz hSw; (try dsimp only at hSw); go_simp; try rfl)); (try simp only [Act.put, List.getElem_toArray, List.getElem_cons_succ, List.getElem_cons_zero, List.setIfInBounds_toArray, List.set_cons_zero, List.set_cons_succ])
        have K12 := hid (K6.out.alloc (.cells #[.string t, .string u] 9))
        refine wpAnyH_ready (rs := [12]) (by kernel_rfl) (by simp) (AllReadyH.cons rfl (fun K hK => ?_) AllReadyH.nil)
        go_simp
        have HS12a := hid (progCells9 (K12.out.keep _ _ HBC.out (fun h => h)))
        refine hK.out _ _ HS12a.out (fun hHeld12a => ?_)
        clear hK
        have hq13 := xis (HXC.out.no K12.out) (StrsAt.one (w := w6) [t, u] (Nat.le_of_ble_eq_true rfl)) HSZ2.out
        refine wpAnyH_ready (rs := [13]) (by kernel_rfl) (by simp) (AllReadyH.cons rfl (fun K hK => ?_) AllReadyH.nil)
        go_simp
        go_at_call 34
        refine (hq13).mono ?_
        rintro e w' ⟨hr13, rfl⟩
        obtain rfl := hr13.no HALL2.out
        clear hr13 hq13
        go_simp
        have HS13 := hid (progCells9 (K12.out.keep _ _ HBC.out (fun h => h)))
        refine hK.out _ _ HS13.out (fun hHeld13 => ?_)
        clear hK
        refine wpAnyH_ready (rs := [16]) (by kernel_rfl) (by simp) (AllReadyH.cons rfl (fun K hK => ?_) AllReadyH.nil)
        go_simp
        go_at_call 39
        refine (gis (HPC.out.no K12.out) HPL.out HTM.out).mono ?_
        rintro e w16 ⟨hr16, hc16⟩
        have K16 := hid (K12.out.trans hc16)
        obtain rfl := hr16.no HIT.out
        clear hr16 hc16
        go_simp
        have HS16 := hid (progCells9 (K16.out.keep _ _ HBC.out (fun h => h)))
        refine hK.out _ _ HS16.out (fun hHeld16 => ?_)
        clear hK
        (refine wpAnyH_take (i := 17) (v := ?_) rfl (by kernel_rfl) (by kernel_rfl) (by kernel_rfl) (fun _ _ _ h => h) (Or.inl ⟨by rfl, ?_⟩) (by assumption) ?_; rotate_left 1; · (intro wz hSw; (try dsimp only at hSw); go_simp; try rfl)); (try simp only [Act.put, List.getElem_toArray, List.getElem_cons_succ, List.getElem_cons_zero, List.setIfInBounds_toArray, List.set_cons_zero, List.set_cons_succ])
        (refine wpAnyH_take (i := 18) (v := undef) rfl (by kernel_rfl) (by kernel_rfl) (by kernel_rfl) (fun _ _ _ h => h) (Or.inr ⟨by rfl, rfl⟩) (by assumption) ?_); (try simp only [Act.put, List.getElem_toArray, List.getElem_cons_succ, List.getElem_cons_zero, List.setIfInBounds_toArray, List.set_cons_zero, List.set_cons_succ])
        (refine wpAnyH_take (i := 19) (v := undef) rfl (by kernel_rfl) (by kernel_rfl) (by kernel_rfl) (fun _ _ _ h => h) (Or.inr ⟨by rfl, rfl⟩) (by assumption) ?_); (try simp only [Act.put, List.getElem_toArray, List.getElem_cons_succ, List.getElem_cons_zero, List.setIfInBounds_toArray, List.set_cons_zero, List.set_cons_succ])
        (refine wpAnyH_take (i := 20) (v := undef) rfl (by kernel_rfl) (by kernel_rfl) (by kernel_rfl) (fun _ _ _ h => h) (Or.inr ⟨by rfl, rfl⟩) (by assumption) ?_); (try simp only [Act.put, List.getElem_toArray, List.getElem_cons_succ, List.getElem_cons_zero, List.setIfInBounds_toArray, List.set_cons_zero, List.set_cons_succ])
        (refine wpAnyH_take (i := 21) (v := ?_) rfl (by kernel_rfl) (by kernel_rfl) (by kernel_rfl) (fun _ _ _ h => h) (Or.inl ⟨by rfl, ?_⟩) (by assumption) ?_; rotate_left 1; · (intro wz hSw; (try dsimp only at hSw); go_simp; try rfl)); (try simp only [Act.put, List.getElem_toArray, List.getElem_cons_succ, List.getElem_cons_zero, List.setIfInBounds_toArray, List.set_cons_zero, List.set_cons_succ])
        (refine wpAnyH_take (i := 22) (v := ?_) rfl (by kernel_rfl) (by kernel_rfl) (by kernel_rfl) (fun _ _ _ h => h) (Or.inl ⟨by rfl, ?_⟩) (by assumption) ?_; rotate_left 1; · (intro wz hSw; (try dsimp only at hSw); go_simp; try rfl)); (try simp only [Act.put, List.getElem_toArray, List.getElem_cons_succ, List.getElem_cons_zero, List.setIfInBounds_toArray, List.set_cons_zero, List.set_cons_succ])
        (refine wpAnyH_take (i := 23) (v := ?_) rfl (by kernel_rfl) (by kernel_rfl) (by kernel_rfl) (fun _ _ _ h => h) (Or.inl ⟨by rfl, ?_⟩) (by assumption) ?_; rotate_left 1; · (intro wz hSw; (try dsimp only at hSw); go_simp; try rfl)); (try simp only [Act.put, List.getElem_toArray, List.getElem_cons_succ, List.getElem_cons_zero, List.setIfInBounds_toArray, List.set_cons_zero, List.set_cons_succ])
        (refine wpAnyH_take (i := 24) (v := ?_) rfl (by kernel_rfl) (by kernel_rfl) (by kernel_rfl) (fun _ _ _ h => h) (Or.inl ⟨by rfl, ?_⟩) (by assumption) ?_; rotate_left 1; · (intro wz hSw; (try dsimp only at hSw); go_simp; try rfl)); (try simp only [Act.put, List.getElem_toArray, List.getElem_cons_succ, List.getElem_cons_zero, List.setIfInBounds_toArray, List.set_cons_zero, List.set_cons_succ])
        (refine wpAnyH_take (i := 25) (v := ?_) rfl (by kernel_rfl) (by kernel_rfl) (by kernel_rfl) (fun _ _ _ h => h) (Or.inl ⟨by rfl, ?_⟩) (by assumption) ?_; rotate_left 1; · (intro wz hSw; (try dsimp only at hSw); go_simp; try rfl)); (try simp only [Act.put, List.getElem_toArray, List.getElem_cons_succ, List.getElem_cons_zero, List.setIfInBounds_toArray, List.set_cons_zero, List.set_cons_succ])
        (refine wpAnyH_take (i := 26) (v := ?_) rfl (by kernel_rfl) (by kernel_rfl) (by kernel_rfl) (fun _ _ _ h => h) (Or.inl ⟨by rfl, ?_⟩) (by assumption) ?_; rotate_left 1; · (intro wz hSw; (try dsimp only at hSw); go_simp; try rfl)); (try simp only [Act.put, List.getElem_toArray, List.getElem_cons_succ, List.getElem_cons_zero, List.setIfInBounds_toArray, List.set_cons_zero, List.set_cons_succ])
        (refine wpAnyH_take (i := 28) (v := ?_) rfl (by kernel_rfl) (by kernel_rfl) (by kernel_rfl) (fun _ _ _ h => h) (Or.inl ⟨by rfl, ?_⟩) (by assumption) ?_; rotate_left 1; · (intro wz hSw; (try dsimp only at hSw); go_simp; try rfl)); (try simp only [Act.put, List.getElem_toArray, List.getElem_cons_succ, List.getElem_cons_zero, List.setIfInBounds_toArray, List.set_cons_zero, List.set_cons_succ])
        (refine wpAnyH_take (i := 29) (v := ?_) rfl (by kernel_rfl) (by kernel_rfl) (by kernel_rfl) (fun _ _ _ h => h) (Or.inl ⟨by rfl, ?_⟩) (by assumption) ?_; rotate_left 1; · (intro wz hSw; (try dsimp only at hSw); go_simp; try rfl)); (try simp only [Act.put, List.getElem_toArray, List.getElem_cons_succ, List.getElem_cons_zero, List.setIfInBounds_toArray, List.set_cons_zero, List.set_cons_succ])
        refine wpAnyH_ready (rs := [27]) (by kernel_rfl) (by simp) (AllReadyH.cons rfl (fun K hK => ?_) AllReadyH.nil)
        go_simp
        go_at_call 40
        refine (xref (HXC.out.no K16.out) HTM.out).mono ?_
        rintro e w' ⟨hr27, rfl⟩
        obtain rfl := hr27.dec
        clear hr27
        go_simp
        have HS27 := hid (progCells9 (K16.out.keep _ _ HBC.out (fun h => h)))
        refine hK.out _ _ HS27.out (fun hHeld27 => ?_)
        clear hK
        refine wpAnyH_ready (rs := [30]) (by kernel_rfl) (by simp) (AllReadyH.cons rfl (fun K hK => ?_) AllReadyH.nil)
        go_simp
        go_at_call 41
        refine (gref (HPC.out.no K16.out) HPL.out HTM.out).mono ?_
        rintro e w30 ⟨hr30, hc30⟩
        have K30 := hid (K16.out.trans hc30)
        obtain rfl := hr30.dec
        clear hr30 hc30
        go_simp
        have HS30 := hid (progCells9 (K30.out.keep _ _ HBC.out (fun h => h)))
        refine hK.out _ _ HS30.out (fun hHeld30 => ?_)
        clear hK
        (refine wpAnyH_take (i := 31) (v := ?_) rfl (by kernel_rfl) (by kernel_rfl) (by kernel_rfl) (fun _ _ _ h => h) (Or.inl ⟨by rfl, ?_⟩) (by assumption) ?_; rotate_left 1; · (intro wz hSw; (try dsimp only at hSw); go_simp; try rfl)); (try simp only [Act.put, List.getElem_toArray, List.getElem_cons_succ, List.getElem_cons_zero, List.setIfInBounds_toArray, List.set_cons_zero, List.set_cons_succ])
        (refine wpAnyH_take (i := 32) (v := ?_) rfl (by kernel_rfl) (by kernel_rfl) (by kernel_rfl) (fun _ _ _ h => h) (Or.inl ⟨by rfl, ?_⟩) (by assumption) ?_; rotate_left 1; · (intro wz hSw; (try dsimp only at hSw); go_simp; try rfl)); (try simp only [Act.put, List.getElem_toArray, List.getElem_cons_succ, List.getElem_cons_zero, List.setIfInBounds_toArray, List.set_cons_zero, List.set_cons_succ])
        (refine wpAnyH_take (i := 33) (v := ?_) rfl (by kernel_rfl) (by kernel_rfl) (by kernel_rfl) (fun _ _ _ h => h) (Or.inl ⟨by rfl, ?_⟩) (by assumption) ?_; rotate_left 1; · (intro wz hSw; (try dsimp only at hSw); go_simp; try rfl)); (try simp only [Act.put, List.getElem_toArray, List.getElem_cons_succ, List.getElem_cons_zero, List.setIfInBounds_toArray, List.set_cons_zero, List.set_cons_succ])
        (refine wpAnyH_take (i := 34) (v := ?_) rfl (by kernel_rfl) (by kernel_rfl) (by kernel_rfl) (fun _ _ _ h => h) (Or.inl ⟨by rfl, ?_⟩) (by assumption) ?_; rotate_left 1; · (intro wz hSw; (try dsimp only at hSw); go_simp; try rfl)); (try simp only [Act.put, List.getElem_toArray, List.getElem_cons_succ, List.getElem_cons_zero, List.setIfInBounds_toArray, List.set_cons_zero, List.set_cons_succ])
        (refine wpAnyH_take (i := 35) (v := ?_) rfl (by kernel_rfl) (by kernel_rfl) (by kernel_rfl) (fun _ _ _ h => h) (Or.inl ⟨by rfl, ?_⟩) (by assumption) ?_; rotate_left 1; · (intro wz hSw; (try dsimp only at hSw); go_simp; try rfl)); (try simp only [Act.put, List.getElem_toArray, List.getElem_cons_succ, List.getElem_cons_zero, List.setIfInBounds_toArray, List.set_cons_zero, List.set_cons_succ])
        (refine wpAnyH_take (i := 36) (v := ?_) rfl (by kernel_rfl) (by kernel_rfl) (by kernel_rfl) (fun _ _ _ h => h) (Or.inl ⟨by rfl, ?_⟩) (by assumption) ?_; rotate_left 1; · (intro wz hSw; (try dsimp only at hSw); go_simp; try rfl)); (try simp only [Act.put, List.getElem_toArray, List.getElem_cons_succ, List.getElem_cons_zero, List.setIfInBounds_toArray, List.set_cons_zero, List.set_cons_succ])
        (refine wpAnyH_take (i := 38) (v := ?_) rfl (by kernel_rfl) (by kernel_rfl) (by kernel_rfl) (fun _ _ _ h => h) (Or.inl ⟨by rfl, ?_⟩) (by assumption) ?_; rotate_left 1; · (intro wz hSw; (try dsimp only at hSw); go_simp; try rfl)); (try simp only [Act.put, List.getElem_toArray, List.getElem_cons_succ, List.getElem_cons_zero, List.setIfInBounds_toArray, List.set_cons_zero, List.set_cons_succ])
        (refine wpAnyH_take (i := 39) (v := ?_) rfl (by kernel_rfl) (by kernel_rfl) (by kernel_rfl) (fun _ _ _ h => h) (Or.inl ⟨by rfl, ?_⟩) (by assumption) ?_; rotate_left 1; · (intro wz hSw; (try dsimp only at hSw); go_simp; try rfl)); (try simp only [Act.put, List.getElem_toArray, List.getElem_cons_succ, List.getElem_cons_zero, List.setIfInBounds_toArray, List.set_cons_zero, List.set_cons_succ])
        (refine wpAnyH_take (i := 40) (v := ?_) rfl (by kernel_rfl) (by kernel_rfl) (by kernel_rfl) (fun _ _ _ h => h) (Or.inl ⟨by rfl, ?_⟩) (by assumption) ?_; rotate_left 1; · (intro wz hSw; (try dsimp only at hSw); go_simp; try rfl)); (try simp only [Act.put, List.getElem_toArray, List.getElem_cons_succ, List.getElem_cons_zero, List.setIfInBounds_toArray, List.set_cons_zero, List.set_cons_succ])
        refine wpAnyH_ready (rs := [37]) (by kernel_rfl) (by simp) (AllReadyH.cons rfl (fun K hK => ?_) AllReadyH.nil)
        go_simp
        go_at_call 35
        refine (xbelow (HXC.out.no K30.out) HTM.out HUM.out).mono ?_
        rintro e w37 ⟨hr37, hc37⟩
        have K37 := hid (K30.out.trans hc37)
        obtain rfl := hr37.dec
        clear hr37 hc37
        go_simp
        have HS37 := hid (progCells9 (K37.out.keep _ _ HBC.out (fun h => h)))
        refine hK.out _ _ HS37.out (fun hHeld37 => ?_)
        clear hK
        refine wpAnyH_ready (rs := [41]) (by kernel_rfl) (by simp) (AllReadyH.cons rfl (fun K hK => ?_) AllReadyH.nil)
        go_simp
        go_at_call 42
        refine (gbelow (HPC.out.no K37.out) HRI.out.2.1.1 HRI.out.1 HPL.out HTM.out HUM.out).mono ?_
        rintro e w41 ⟨hr41, hc41⟩
        have K41 := hid (K37.out.trans hc41)
        obtain rfl := hr41.dec
        clear hr41 hc41
        go_simp
        have HS41 := hid (progCells9 (K41.out.keep _ _ HBC.out (fun h => h)))
        refine hK.out _ _ HS41.out (fun hHeld41 => ?_)
        clear hK
        (refine wpAnyH_take (i := 42) (v := ?_) rfl (by kernel_rfl) (by kernel_rfl) (by kernel_rfl) (fun _ _ _ h => h) (Or.inl ⟨by rfl, ?_⟩) (by assumption) ?_; rotate_left 1; · (intro wz hSw; (try dsimp only at hSw); go_simp; try rfl)); (try simp only [Act.put, List.getElem_toArray, List.getElem_cons_succ, List.getElem_cons_zero, List.setIfInBounds_toArray, List.set_cons_zero, List.set_cons_succ])
        (refine wpAnyH_take (i := 43) (v := ?_) rfl (by kernel_rfl) (by kernel_rfl) (by kernel_rfl) (fun _ _ _ h => h) (Or.inl ⟨by rfl, ?_⟩) (by assumption) ?_; rotate_left 1; · (intro wz hSw; (try dsimp only at hSw); go_simp; try rfl)); (try simp only [Act.put, List.getElem_toArray, List.getElem_cons_succ, List.getElem_cons_zero, List.setIfInBounds_toArray, List.set_cons_zero, List.set_cons_succ])
        (refine wpAnyH_take (i := 44) (v := ?_) rfl (by kernel_rfl) (by kernel_rfl) (by kernel_rfl) (fun _ _ _ h => h) (Or.inl ⟨by rfl, ?_⟩) (by assumption) ?_; rotate_left 1; · (intro wz hSw; (try dsimp only at hSw); go_simp; try rfl)); (try simp only [Act.put, List.getElem_toArray, List.getElem_cons_succ, List.getElem_cons_zero, List.setIfInBounds_toArray, List.set_cons_zero, List.set_cons_succ])
        (refine wpAnyH_take (i := 45) (v := ?_) rfl (by kernel_rfl) (by kernel_rfl) (by kernel_rfl) (fun _ _ _ h => h) (Or.inl ⟨by rfl, ?_⟩) (by assumption) ?_; rotate_left 1; · (intro wz hSw; (try dsimp only at hSw); go_simp; try rfl)); (try simp only [Act.put, List.getElem_toArray, List.getElem_cons_succ, List.getElem_cons_zero, List.setIfInBounds_toArray, List.set_cons_zero, List.set_cons_succ])
        (refine wpAnyH_take (i := 46) (v := ?_) rfl (by kernel_rfl) (by kernel_rfl) (by kernel_rfl) (fun _ _ _ h => h) (Or.inl ⟨by rfl, ?_⟩) (by assumption) ?_; rotate_left 1; · (intro wz hSw; (try dsimp only at hSw); go_simp; try rfl)); (try simp only [Act.put, List.getElem_toArray, List.getElem_cons_succ, List.getElem_cons_zero, List.setIfInBounds_toArray, List.set_cons_zero, List.set_cons_succ])
        (refine wpAnyH_take (i := 48) (v := ?_) rfl (by kernel_rfl) (by kernel_rfl) (by kernel_rfl) (fun _ _ _ h => h) (Or.inl ⟨by rfl, ?_⟩) (by assumption) ?_; rotate_left 1; · (intro wz hSw; (try dsimp only at hSw); go_simp; try rfl)); (try simp only [Act.put, List.getElem_toArray, List.getElem_cons_succ, List.getElem_cons_zero, List.setIfInBounds_toArray, List.set_cons_zero, List.set_cons_succ])
        (refine wpAnyH_take (i := 49) (v := ?_) rfl (by kernel_rfl) (by kernel_rfl) (by kernel_rfl) (fun _ _ _ h => h) (Or.inl ⟨by rfl, ?_⟩) (by assumption) ?_; rotate_left 1; · (intro wz hSw; (try dsimp only at hSw); go_simp; try rfl)); (try simp only [Act.put, List.getElem_toArray, List.getElem_cons_succ, List.getElem_cons_zero, List.setIfInBounds_toArray, List.set_cons_zero, List.set_cons_succ])
        refine wpAnyH_ready (rs := [47]) (by kernel_rfl) (by simp) (AllReadyH.cons rfl (fun K hK => ?_) AllReadyH.nil)
        go_simp
        go_at_call 44
        refine (xunder (HXC.out.no K41.out) HTM.out hn1000).mono ?_
        rintro e w47 ⟨v47, rfl, hv47, hc47⟩
        have K47 := hid (K41.out.trans hc47)
        have V47 := hid hv47
        clear hv47 hc47
        go_simp
        have HS47 := hid (progCells9 (K47.out.keep _ _ HBC.out (fun h => h)))
        refine hK.out _ _ HS47.out (fun hHeld47 => ?_)
        clear hK
        refine wpAnyH_ready (rs := [50]) (by kernel_rfl) (by simp) (AllReadyH.cons rfl (fun K hK => ?_) AllReadyH.nil)
        go_simp
        go_at_call 45
        refine (gunder (HPC.out.no K47.out) HRI.out HSZ.out HTM.out).mono ?_
        rintro e w50 ⟨v50, rfl, hv50, hc50⟩
        have K50 := hid (K47.out.trans hc50)
        have V50 := hid hv50
        have V475 := hid (V47.out.no hc50)
        clear hv50 hc50
        go_simp
        have HS50 := hid (progCells9 (K50.out.keep _ _ HBC.out (fun h => h)))
        refine hK.out _ _ HS50.out (fun hHeld50 => ?_)
        clear hK
        refine wpAnyH_ready (rs := [51]) (by kernel_rfl) (by simp) (AllReadyH.cons rfl (fun K hK => ?_) AllReadyH.nil)
        go_simp
        go_at_call 43
        refine (rtexts' V475.out V50.out).mono ?_
        rintro e w51 ⟨rfl, hc51⟩
        have K51 := hid (K50.out.trans hc51)
        clear hc51
        go_simp
        have HS51 := hid (progCells9 (K51.out.keep _ _ HBC.out (fun h => h)))
        refine hK.out _ _ HS51.out (fun hHeld51 => ?_)
        clear hK
        (refine wpAnyH_take (i := 52) (v := ?_) rfl (by kernel_rfl) (by kernel_rfl) (by kernel_rfl) (fun _ _ _ h => h) (Or.inl ⟨by rfl, ?_⟩) (by assumption) ?_; rotate_left 1; · (intro wz hSw; (try dsimp only at hSw); go_simp; try rfl)); (try simp only [Act.put, List.getElem_toArray, List.getElem_cons_succ, List.getElem_cons_zero, List.setIfInBounds_toArray, List.set_cons_zero, List.set_cons_succ])
        refine wpAnyH_ready (rs := [53]) (by kernel_rfl) (by simp) (AllReadyH.cons rfl (fun K hK => ?_) AllReadyH.nil)
        go_simp
        refine hK.out _ _ HS51.out (fun hHeld53 => ?_)
        clear hK
        refine wpAnyH_done (by kernel_rfl) ?_ _
        go_wp2_with fail
        go_ret
        exact ⟨rfl, HCH.out.trans (HC3.out.trans (HCC.out.trans K51.out))⟩
end Go.Proofs.YtkffejgjpnnkmaaDoor
