/- HierTells: the law. -/
import Derived.Test.YtkffejgjpnnkmaaDoorHt
import Derived.Test.YtkffejgjpnnkmaaDoorHzg
import Derived.Deep.RegionHeld3
import Derived.Deep.CutRange
import Derived.Test.YtkffejgjpnnkmaaDoorPt
set_option linter.unusedVariables false
set_option linter.unusedSimpArgs false
namespace Go.Proofs.YtkffejgjpnnkmaaDoor
open Go.RowKit Go.W

theorem faultFld (w : World) (a b c : Int) : (Instr.field 36 (.agg #[.int .i64 a, .int .i64 b, .int .i64 c]) 0).run Tryd.prog w = .ok (.int .i64 a) w := by kernel_rfl
theorem progCells {w : World} {b : Nat} {x0 x1 x2 x3 x4 x5 x6 x7 x8 x9 : Value} {t : TypeId} (h : w.heap[b]? = some (.cells #[x0, x1, x2, x3, x4, x5, x6, x7, x8, x9] t (0, 0))) :
    w.cell? ⟨b, 0, none⟩ = some x0 ∧ w.cell? ⟨b, 1, none⟩ = some x1 ∧ w.cell? ⟨b, 2, none⟩ = some x2 ∧ w.cell? ⟨b, 3, none⟩ = some x3 ∧ w.cell? ⟨b, 4, none⟩ = some x4 ∧ w.cell? ⟨b, 5, none⟩ = some x5 ∧ w.cell? ⟨b, 6, none⟩ = some x6 ∧ w.cell? ⟨b, 7, none⟩ = some x7 ∧ w.cell? ⟨b, 8, none⟩ = some x8 ∧ w.cell? ⟨b, 9, none⟩ = some x9 :=
  ⟨cellAt h 0, cellAt h 1, cellAt h 2, cellAt h 3, cellAt h 4, cellAt h 5, cellAt h 6, cellAt h 7, cellAt h 8, cellAt h 9⟩
theorem tellCells {w : World} {b cb : Nat} {x0 x1 x2 x3 x4 x5 x6 x7 x8 x9 y0 y1 y2 y3 y4 y5 y6 y7 y8 y9 : Value} {t t' : TypeId} (hb : w.heap[cb]? = some (.cells #[y0, y1, y2, y3, y4, y5, y6, y7, y8, y9] t' (0, 0))) (h : w.heap[b]? = some (.cells #[x0, x1, x2, x3, x4, x5, x6, x7, x8, x9] t (0, 0))) :
    w.cell? ⟨cb, 0, none⟩ = some y0 ∧ w.cell? ⟨cb, 2, none⟩ = some y2 ∧ w.cell? ⟨b, 0, none⟩ = some x0 ∧ w.cell? ⟨b, 1, none⟩ = some x1 ∧ w.cell? ⟨b, 2, none⟩ = some x2 ∧ w.cell? ⟨b, 3, none⟩ = some x3 ∧ w.cell? ⟨b, 4, none⟩ = some x4 ∧ w.cell? ⟨b, 5, none⟩ = some x5 ∧ w.cell? ⟨b, 6, none⟩ = some x6 ∧ w.cell? ⟨b, 7, none⟩ = some x7 ∧ w.cell? ⟨b, 8, none⟩ = some x8 ∧ w.cell? ⟨b, 9, none⟩ = some x9 :=
  ⟨cellAt hb 0, cellAt hb 2, progCells h⟩
theorem rsameT {w : World} {v v' : Value} {l : List Int} (h : IntsAt w v l) (h' : IntsAt w v' l) :
    Calls Tryd.prog 19 #[v, v'] w fun e w' => e = .returned (.bool true) ∧ Ch No w w' :=
  (rsame' h h').mono fun e w' ⟨he, hc⟩ => ⟨he.trans (ret_bool (by simp)), hc⟩
theorem noFault {cs : List Cls} (h : FaultAt cs none) : NoRing cs := h.2

set_option maxRecDepth 100000 in
set_option maxHeartbeats 16000000 in
theorem law_htells {w : World} {pv vi : Value} {cs : List Cls} {is : List Int} {nm : ByteArray} (hT : Tab w) (h : ProgAt w pv cs) (hsz : SzP cs) (hi : IntsAt w vi is) (hnm : nm.size ≤ maxLen) :
    Calls Tryd.prog 7 #[pv, vi, .string nm] w fun e w' => e = .returned (.bool true) ∧ Ch No w w' := by
  have HT0 := hid hT
  have HSZ := hid hsz
  have HI0 := hid hi
  have HNM := hid hnm
  obtain ⟨ai, capi, rfl, hcapi, hmaxi, _, _⟩ := hi
  obtain ⟨ni, hni⟩ : ∃ ni, is.length = ni := ⟨_, rfl⟩
  rw [hni] at hcapi HI0 ⊢
  unfold maxLen at hmaxi
  have HNI := hid hni
  clear hT hsz hni hnm
  have hp := h
  obtain ⟨cv, m0, m1, m2, m3, m4, m5, m6, m7, m8, rfl, h⟩ := h
  obtain ⟨ao, cap, rfl, hcap, hmax, _, _⟩ := h.row
  rw [List.length_map] at hcap h hp ⊢
  obtain ⟨len, hlen⟩ : ∃ len, cs.length = len := ⟨_, rfl⟩
  rw [hlen] at hcap h hp ⊢
  unfold maxLen at hmax
  obtain ⟨wa, hwa⟩ : ∃ wa, w.alloc (.cells #[.slice ao len cap, m0, m1, m2, m3, m4, m5, m6, m7, m8] 30) = wa := ⟨_, rfl⟩
  have hpb := heap_alloc_new w (.cells #[.slice ao len cap, m0, m1, m2, m3, m4, m5, m6, m7, m8] 30)
  have hch := (Ch.refl No w).alloc (.cells #[.slice ao len cap, m0, m1, m2, m3, m4, m5, m6, m7, m8] 30)
  rw [hwa] at hch hpb
  have HL := hid hlen
  have HP := hid (hp.no hch)
  have HC := hid (h.no hch)
  have HPB := hid hpb
  have HCH := hid hch
  have p0 := cellAt hpb 0
  have p1 := cellAt hpb 1
  have p2 := cellAt hpb 2
  have p3 := cellAt hpb 3
  have p4 := cellAt hpb 4
  have p5 := cellAt hpb 5
  have p6 := cellAt hpb 6
  have p7 := cellAt hpb 7
  have p8 := cellAt hpb 8
  have p9 := cellAt hpb 9
  have hz := lt_size hpb
  clear hlen h hp hpb hch
  have HT := hid (HT0.out.no HCH.out)
  have HI := hid (HI0.out.no HCH.out)
  have haw := awake08 HT.out
  go_enter Tryd.func7, Tryd.ntmps7
  go_wp2_with fail
  clear hwa
  refine haw.mono ?_
  rintro e w1 ⟨rfl, hc1⟩
  have hp1 := hc1.keep _ _ HPB.out (fun h => h)
  clear p0 p1 p2 p3 p4 p5 p6 p7 p8 p9 haw
  have p0 := cellAt hp1 0
  have p1 := cellAt hp1 1
  have p2 := cellAt hp1 2
  have p3 := cellAt hp1 3
  have p4 := cellAt hp1 4
  have p5 := cellAt hp1 5
  have p6 := cellAt hp1 6
  have p7 := cellAt hp1 7
  have p8 := cellAt hp1 8
  have p9 := cellAt hp1 9
  have hsm := rsmall (HP.out.no hc1)
  have HP1 := hid hp1
  have HC1 := hid hc1
  clear hp1 hc1
  go_wp2_with fail
  refine hsm.mono ?_
  rintro e w2 ⟨⟨r, rfl, hr⟩, hc2⟩
  have hp2 := hc2.keep _ _ HP1.out (fun h => h)
  clear p0 p1 p2 p3 p4 p5 p6 p7 p8 p9 hsm
  have p0 := cellAt hp2 0
  have p1 := cellAt hp2 1
  have p2 := cellAt hp2 2
  have p3 := cellAt hp2 3
  have p4 := cellAt hp2 4
  have p5 := cellAt hp2 5
  have p6 := cellAt hp2 6
  have p7 := cellAt hp2 7
  have p8 := cellAt hp2 8
  have p9 := cellAt hp2 9
  have HP2 := hid hp2
  have HC2 := hid (HC1.out.trans hc2)
  have HR := hid hr
  clear hp2 hc2 hr
  cases r with
  | false =>
    clear HR
    have haw := awake08 (HT.out.no HC2.out)
    go_wp2_with fail
    refine haw.mono ?_
    rintro e w3 ⟨rfl, hc3⟩
    go_wp2_with fail
    go_ret
    exact ⟨rfl, HCH.out.trans (HC2.out.trans hc3)⟩
  | true =>
  have HSM := hid (HR.out.1 rfl)
  clear HR
  cases h10 : decide (10 < ni) with
  | true =>
    have h10' : 10 < ni := by simpa using h10
    have haw := awake08 (HT.out.no HC2.out)
    go_wp2_with fail
    refine haw.mono ?_
    rintro e w3 ⟨rfl, hc3⟩
    go_wp2_with fail
    go_ret
    exact ⟨rfl, HCH.out.trans (HC2.out.trans hc3)⟩
  | false =>
    have h10' : ¬ 10 < ni := by simpa using h10
    have hfa := rfault (HP.out.no HC2.out) HSM.out
    go_wp2_with fail
    refine hfa.mono ?_
    rintro e w3 ⟨o, ho, rfl, hc3⟩
    have HO := hid ho
    have hp3 := hc3.keep _ _ HP2.out (fun h => h)
    have HC3 := hid (HC2.out.trans hc3)
    have HP3 := hid hp3
    clear hfa ho hc3 p0 p1 p2 p3 p4 p5 p6 p7 p8 p9
    have p0 := cellAt hp3 0
    have p1 := cellAt hp3 1
    have p2 := cellAt hp3 2
    have p3 := cellAt hp3 3
    have p4 := cellAt hp3 4
    have p5 := cellAt hp3 5
    have p6 := cellAt hp3 6
    have p7 := cellAt hp3 7
    have p8 := cellAt hp3 8
    have p9 := cellAt hp3 9
    clear hp3
    rcases faultIs HO.out with ⟨rfl, hfc⟩ | ⟨i, l, c, rfl, hfc⟩
    · rw [hfc]
      have hfd := faultFld w3 0 0 0
      have hnw := hnew (HP.out.no HC3.out) (HT.out.no HC3.out) HSZ.out HSM.out
      clear hfc
      unfold faultV
      go_wp2_with fail
      clear hfd
      refine hnw.mono ?_
      rintro e w4 ⟨o, ho, hc4, hout⟩
      obtain rfl := ho.uniq HO.out
      obtain ⟨tv, rfl, htv⟩ := hout
      have hca := hc4.alloc (.cells #[.int .i64 0, .int .i64 0, .int .i64 0] 36)
      have HCA := hid (HC3.out.trans hca)
      have HTV := hid (htv.no ((Ch.refl No w4).alloc (.cells #[.int .i64 0, .int .i64 0, .int .i64 0] 36)))
      have HPA := hid (hca.keep _ _ HP3.out (fun h => h))
      obtain ⟨tb, T, rfl, hTT⟩ := htv
      clear hnw ho hc4 hca hTT p0 p1 p2 p3 p4 p5 p6 p7 p8 p9
      unfold faultV
      go_upto_region 4 with fail
      obtain ⟨wf, hwf⟩ : ∃ wf, w4.alloc (.cells #[.int .i64 0, .int .i64 0, .int .i64 0] 36) = wf := ⟨_, rfl⟩
      rw [hwf] at HCA HTV HPA
      rw [hwf]
      clear hwf
      have hl20 : len ≤ 20 := by have := HSM.out.1; have := HL.out; omega
      have hcl : cs.length = len := HL.out
      have hpd := (Ch.refl No wf).drew
      have hlen : Calls Tryd.prog 20 #[.pointer (some ⟨tb, 0, none⟩)] wf.drew fun e w' => e = .returned (.int .i64 len) ∧ wf.drew = w' := by
        have := tLen (HTV.out.no hpd)
        rw [hcl] at this
        exact this
      have hor := tOrder (HTV.out.no hpd) (by omega)
      have hPw := HP.out.no HCA.out
      have HPW := hid hPw
      have hn20 : cs.length ≤ 20 := by omega
      have hno := noFault HO.out
      have HNO := hid hno
      have HIF := hid (HI.out.no HCA.out)
      have HTF := hid (HT.out.no HCA.out)
      have hsd := progCells (hpd.keep _ _ HPA.out (fun h => h))
      have HSd := hid hsd
      clear hPw hpd hcl hno hsd
      refine wp_region_held_drew (S := (fun w' => w'.cell? ⟨w.heap.size, 0, none⟩ = some (.slice ao len cap) ∧ w'.cell? ⟨w.heap.size, 1, none⟩ = some m0 ∧ w'.cell? ⟨w.heap.size, 2, none⟩ = some m1 ∧ w'.cell? ⟨w.heap.size, 3, none⟩ = some m2 ∧ w'.cell? ⟨w.heap.size, 4, none⟩ = some m3 ∧ w'.cell? ⟨w.heap.size, 5, none⟩ = some m4 ∧ w'.cell? ⟨w.heap.size, 6, none⟩ = some m5 ∧ w'.cell? ⟨w.heap.size, 7, none⟩ = some m6 ∧ w'.cell? ⟨w.heap.size, 8, none⟩ = some m7 ∧ w'.cell? ⟨w.heap.size, 9, none⟩ = some m8)) (by kernel_rfl) HSd.out (fun hHeld => ?_)
      (refine wpAnyH_take (i := 0) (v := ?_) rfl (by kernel_rfl) (by kernel_rfl) (by kernel_rfl) (fun _ _ _ h => h) (Or.inl ⟨by rfl, ?_⟩) (by assumption) ?_; rotate_left 1; · (intro wz hSw; (try dsimp only at hSw); go_simp; try rfl)); (try simp only [Act.put, List.getElem_toArray, List.getElem_cons_succ, List.getElem_cons_zero, List.setIfInBounds_toArray, List.set_cons_zero, List.set_cons_succ])
      (refine wpAnyH_take (i := 1) (v := ?_) rfl (by kernel_rfl) (by kernel_rfl) (by kernel_rfl) (fun _ _ _ h => h) (Or.inl ⟨by rfl, ?_⟩) (by assumption) ?_; rotate_left 1; · (intro wz hSw; (try dsimp only at hSw); go_simp; try rfl)); (try simp only [Act.put, List.getElem_toArray, List.getElem_cons_succ, List.getElem_cons_zero, List.setIfInBounds_toArray, List.set_cons_zero, List.set_cons_succ])
      (refine wpAnyH_take (i := 2) (v := ?_) rfl (by kernel_rfl) (by kernel_rfl) (by kernel_rfl) (fun _ _ _ h => h) (Or.inl ⟨by rfl, ?_⟩) (by assumption) ?_; rotate_left 1; · (intro wz hSw; (try dsimp only at hSw); go_simp; try rfl)); (try simp only [Act.put, List.getElem_toArray, List.getElem_cons_succ, List.getElem_cons_zero, List.setIfInBounds_toArray, List.set_cons_zero, List.set_cons_succ])
      (refine wpAnyH_take (i := 3) (v := ?_) rfl (by kernel_rfl) (by kernel_rfl) (by kernel_rfl) (fun _ _ _ h => h) (Or.inl ⟨by rfl, ?_⟩) (by assumption) ?_; rotate_left 1; · (intro wz hSw; (try dsimp only at hSw); go_simp; try rfl)); (try simp only [Act.put, List.getElem_toArray, List.getElem_cons_succ, List.getElem_cons_zero, List.setIfInBounds_toArray, List.set_cons_zero, List.set_cons_succ])
      (refine wpAnyH_take (i := 5) (v := ?_) rfl (by kernel_rfl) (by kernel_rfl) (by kernel_rfl) (fun _ _ _ h => h) (Or.inl ⟨by rfl, ?_⟩) (by assumption) ?_; rotate_left 1; · (intro wz hSw; (try dsimp only at hSw); go_simp; try rfl)); (try simp only [Act.put, List.getElem_toArray, List.getElem_cons_succ, List.getElem_cons_zero, List.setIfInBounds_toArray, List.set_cons_zero, List.set_cons_succ])
      (refine wpAnyH_take (i := 6) (v := ?_) rfl (by kernel_rfl) (by kernel_rfl) (by kernel_rfl) (fun _ _ _ h => h) (Or.inl ⟨by rfl, ?_⟩) (by assumption) ?_; rotate_left 1; · (intro wz hSw; (try dsimp only at hSw); go_simp; try rfl)); (try simp only [Act.put, List.getElem_toArray, List.getElem_cons_succ, List.getElem_cons_zero, List.setIfInBounds_toArray, List.set_cons_zero, List.set_cons_succ])
      (refine wpAnyH_take (i := 7) (v := ?_) rfl (by kernel_rfl) (by kernel_rfl) (by kernel_rfl) (fun _ _ _ h => h) (Or.inl ⟨by rfl, ?_⟩) (by assumption) ?_; rotate_left 1; · (intro wz hSw; (try dsimp only at hSw); go_simp; try rfl)); (try simp only [Act.put, List.getElem_toArray, List.getElem_cons_succ, List.getElem_cons_zero, List.setIfInBounds_toArray, List.set_cons_zero, List.set_cons_succ])
      refine wpAnyH_ready (rs := [4]) (by kernel_rfl) (by simp) (AllReadyH.cons rfl (fun K hK => ?_) AllReadyH.nil)
      go_simp
      go_at_call 20
      refine hlen.mono ?_
      rintro e w4' ⟨rfl, rfl⟩
      go_simp
      refine hK.out _ _ HSd.out (fun hHeld4 => ?_)
      clear hK hlen
      (refine wpAnyH_take (i := 8) (v := ?_) rfl (by kernel_rfl) (by kernel_rfl) (by kernel_rfl) (fun _ _ _ h => h) (Or.inl ⟨by rfl, ?_⟩) (by assumption) ?_; rotate_left 1; · (intro wz hSw; (try dsimp only at hSw); go_simp; try rfl)); (try simp only [Act.put, List.getElem_toArray, List.getElem_cons_succ, List.getElem_cons_zero, List.setIfInBounds_toArray, List.set_cons_zero, List.set_cons_succ])
      (refine wpAnyH_take (i := 9) (v := ?_) rfl (by kernel_rfl) (by kernel_rfl) (by kernel_rfl) (fun _ _ _ h => h) (Or.inl ⟨by rfl, ?_⟩) (by assumption) ?_; rotate_left 1; · (intro wz hSw; (try dsimp only at hSw); go_simp; try rfl)); (try simp only [Act.put, List.getElem_toArray, List.getElem_cons_succ, List.getElem_cons_zero, List.setIfInBounds_toArray, List.set_cons_zero, List.set_cons_succ])
      (refine wpAnyH_take (i := 10) (v := ?_) rfl (by kernel_rfl) (by kernel_rfl) (by kernel_rfl) (fun _ _ _ h => h) (Or.inl ⟨by rfl, ?_⟩) (by assumption) ?_; rotate_left 1; · (intro wz hSw; (try dsimp only at hSw); go_simp; try rfl)); (try simp only [Act.put, List.getElem_toArray, List.getElem_cons_succ, List.getElem_cons_zero, List.setIfInBounds_toArray, List.set_cons_zero, List.set_cons_succ])
      (refine wpAnyH_take (i := 11) (v := ?_) rfl (by kernel_rfl) (by kernel_rfl) (by kernel_rfl) (fun _ _ _ h => h) (Or.inl ⟨by rfl, ?_⟩) (by assumption) ?_; rotate_left 1; · (intro wz hSw; (try dsimp only at hSw); go_simp; try rfl)); (try simp only [Act.put, List.getElem_toArray, List.getElem_cons_succ, List.getElem_cons_zero, List.setIfInBounds_toArray, List.set_cons_zero, List.set_cons_succ])
      (refine wpAnyH_take (i := 13) (v := ?_) rfl (by kernel_rfl) (by kernel_rfl) (by kernel_rfl) (fun _ _ _ h => h) (Or.inl ⟨by rfl, ?_⟩) (by assumption) ?_; rotate_left 1; · (intro wz hSw; (try dsimp only at hSw); go_simp; try rfl)); (try simp only [Act.put, List.getElem_toArray, List.getElem_cons_succ, List.getElem_cons_zero, List.setIfInBounds_toArray, List.set_cons_zero, List.set_cons_succ])
      refine wpAnyH_ready (rs := [12]) (by kernel_rfl) (by simp) (AllReadyH.cons rfl (fun K hK => ?_) AllReadyH.nil)
      go_simp
      go_at_call 16
      refine (hor).mono ?_
      rintro e w5 ⟨r5, rfl, hu5, hc5⟩
      have HC5 := hid (((Ch.refl No wf).drew).trans hc5)
      have HU5 := hid hu5.at_
      clear hu5 hc5 hor
      go_simp
      have HS5 := hid (progCells (HC5.out.keep _ _ HPA.out (fun h => h)))
      refine hK.out _ _ HS5.out (fun hHeld5 => ?_)
      clear hK
      refine wpAnyH_ready (rs := [14]) (by kernel_rfl) (by simp) (AllReadyH.cons rfl (fun K hK => ?_) AllReadyH.nil)
      go_simp
      go_at_call 21
      refine (rorder (HPW.out.no HC5.out) HO.out.1 HNO.out HSM.out).mono ?_
      rintro e w6 ⟨r6, rfl, hu6, hc6⟩
      have HC6 := hid (HC5.out.trans hc6)
      have HU6 := hid hu6.at_
      have HU56 := hid (HU5.out.no hc6)
      clear hu6 hc6
      go_simp
      have HS6 := hid (progCells (HC6.out.keep _ _ HPA.out (fun h => h)))
      refine hK.out _ _ HS6.out (fun hHeld6 => ?_)
      clear hK
      refine wpAnyH_ready (rs := [15]) (by kernel_rfl) (by simp) (AllReadyH.cons rfl (fun K hK => ?_) AllReadyH.nil)
      go_simp
      go_at_call 19
      refine (rsameT HU56.out HU6.out).mono ?_
      rintro e w7 ⟨rfl, hc7⟩
      have HC7 := hid (HC6.out.trans hc7)
      clear hc7
      go_simp
      have HS7 := hid (progCells (HC7.out.keep _ _ HPA.out (fun h => h)))
      refine hK.out _ _ HS7.out (fun hHeld7 => ?_)
      clear hK
      (refine wpAnyH_take (i := 16) (v := ?_) rfl (by kernel_rfl) (by kernel_rfl) (by kernel_rfl) (fun _ _ _ h => h) (Or.inl ⟨by rfl, ?_⟩) (by assumption) ?_; rotate_left 1; · (intro wz hSw; (try dsimp only at hSw); go_simp; try rfl)); (try simp only [Act.put, List.getElem_toArray, List.getElem_cons_succ, List.getElem_cons_zero, List.setIfInBounds_toArray, List.set_cons_zero, List.set_cons_succ])
      (refine wpAnyH_take (i := 17) (v := ?_) rfl (by kernel_rfl) (by kernel_rfl) (by kernel_rfl) (fun _ _ _ h => h) (Or.inl ⟨by rfl, ?_⟩) (by assumption) ?_; rotate_left 1; · (intro wz hSw; (try dsimp only at hSw); go_simp; try rfl)); (try simp only [Act.put, List.getElem_toArray, List.getElem_cons_succ, List.getElem_cons_zero, List.setIfInBounds_toArray, List.set_cons_zero, List.set_cons_succ])
      (refine wpAnyH_take (i := 18) (v := ?_) rfl (by kernel_rfl) (by kernel_rfl) (by kernel_rfl) (fun _ _ _ h => h) (Or.inl ⟨by rfl, ?_⟩) (by assumption) ?_; rotate_left 1; · (intro wz hSw; (try dsimp only at hSw); go_simp; try rfl)); (try simp only [Act.put, List.getElem_toArray, List.getElem_cons_succ, List.getElem_cons_zero, List.setIfInBounds_toArray, List.set_cons_zero, List.set_cons_succ])
      (refine wpAnyH_take (i := 19) (v := ?_) rfl (by kernel_rfl) (by kernel_rfl) (by kernel_rfl) (fun _ _ _ h => h) (Or.inl ⟨by rfl, ?_⟩) (by assumption) ?_; rotate_left 1; · (intro wz hSw; (try dsimp only at hSw); go_simp; try rfl)); (try simp only [Act.put, List.getElem_toArray, List.getElem_cons_succ, List.getElem_cons_zero, List.setIfInBounds_toArray, List.set_cons_zero, List.set_cons_succ])
      (refine wpAnyH_take (i := 20) (v := ?_) rfl (by kernel_rfl) (by kernel_rfl) (by kernel_rfl) (fun _ _ _ h => h) (Or.inl ⟨by rfl, ?_⟩) (by assumption) ?_; rotate_left 1; · (intro wz hSw; (try dsimp only at hSw); go_simp; try rfl)); (try simp only [Act.put, List.getElem_toArray, List.getElem_cons_succ, List.getElem_cons_zero, List.setIfInBounds_toArray, List.set_cons_zero, List.set_cons_succ])
      (refine wpAnyH_take (i := 22) (v := ?_) rfl (by kernel_rfl) (by kernel_rfl) (by kernel_rfl) (fun _ _ _ h => h) (Or.inl ⟨by rfl, ?_⟩) (by assumption) ?_; rotate_left 1; · (intro wz hSw; (try dsimp only at hSw); go_simp; try rfl)); (try simp only [Act.put, List.getElem_toArray, List.getElem_cons_succ, List.getElem_cons_zero, List.setIfInBounds_toArray, List.set_cons_zero, List.set_cons_succ])
      (refine wpAnyH_take (i := 23) (v := ?_) rfl (by kernel_rfl) (by kernel_rfl) (by kernel_rfl) (fun _ _ _ h => h) (Or.inl ⟨by rfl, ?_⟩) (by assumption) ?_; rotate_left 1; · (intro wz hSw; (try dsimp only at hSw); go_simp; try rfl)); (try simp only [Act.put, List.getElem_toArray, List.getElem_cons_succ, List.getElem_cons_zero, List.setIfInBounds_toArray, List.set_cons_zero, List.set_cons_succ])
      refine wpAnyH_ready (rs := [21]) (by kernel_rfl) (by simp) (AllReadyH.cons rfl (fun K hK => ?_) AllReadyH.nil)
      go_simp
      go_at_call 17
      refine (tAbove (HTF.out.no HC7.out) (HTV.out.no HC7.out) HO.out hn20 (HIF.out.no HC7.out)).mono ?_
      rintro e w8 ⟨r8, rfl, hu8, hc8⟩
      have HC8 := hid (HC7.out.trans hc8)
      have HU8 := hid hu8.at_
      clear hu8 hc8
      go_simp
      have HS8 := hid (progCells (HC8.out.keep _ _ HPA.out (fun h => h)))
      refine hK.out _ _ HS8.out (fun hHeld8 => ?_)
      clear hK
      refine wpAnyH_ready (rs := [24]) (by kernel_rfl) (by simp) (AllReadyH.cons rfl (fun K hK => ?_) AllReadyH.nil)
      go_simp
      go_at_call 22
      refine (rabove (HPW.out.no HC8.out) HO.out.1 HSM.out (HIF.out.no HC8.out)).mono ?_
      rintro e w9 ⟨r9, rfl, hu9, hc9⟩
      have HC9 := hid (HC8.out.trans hc9)
      have HU9 := hid hu9.at_
      have HU89 := hid (HU8.out.no hc9)
      clear hu9 hc9
      go_simp
      have HS9 := hid (progCells (HC9.out.keep _ _ HPA.out (fun h => h)))
      refine hK.out _ _ HS9.out (fun hHeld9 => ?_)
      clear hK
      refine wpAnyH_ready (rs := [25]) (by kernel_rfl) (by simp) (AllReadyH.cons rfl (fun K hK => ?_) AllReadyH.nil)
      go_simp
      go_at_call 19
      refine (rsameT HU89.out HU9.out).mono ?_
      rintro e w10 ⟨rfl, hc10⟩
      have HC10 := hid (HC9.out.trans hc10)
      have HB10 := hid (HC10.out.keep _ _ HPA.out (fun h => h))
      clear hc10
      go_simp
      have HS10 := hid (progCells (HC10.out.keep _ _ HPA.out (fun h => h)))
      refine hK.out _ _ HS10.out (fun hHeld10 => ?_)
      clear hK
      (refine wpAnyH_take (i := 26) (v := ?_) rfl (by kernel_rfl) (by kernel_rfl) (by kernel_rfl) (fun _ _ _ h => h) (Or.inl ⟨by rfl, ?_⟩) (by assumption) ?_; rotate_left 1; · (intro wz hSw; (try dsimp only at hSw); go_simp; try rfl)); (try simp only [Act.put, List.getElem_toArray, List.getElem_cons_succ, List.getElem_cons_zero, List.setIfInBounds_toArray, List.set_cons_zero, List.set_cons_succ])
      (refine wpAnyH_take (i := 27) (v := ?_) rfl (by kernel_rfl) (by kernel_rfl) (by kernel_rfl) (fun _ _ _ h => h) (Or.inl ⟨by rfl, ?_⟩) (by assumption) ?_; rotate_left 1; · (intro wz hSw; (try dsimp only at hSw); go_simp; try rfl)); (try simp only [Act.put, List.getElem_toArray, List.getElem_cons_succ, List.getElem_cons_zero, List.setIfInBounds_toArray, List.set_cons_zero, List.set_cons_succ])
      refine wpAnyH_done (by kernel_rfl) ?_ _
      have HTX := hid (HTV.out.no HC10.out)
      have HPX := hid (HPW.out.no HC10.out)
      have HCX := hid (HCA.out.trans HC10.out)
      go_wp2_with fail
      go_loopg [9] len (fun g s9 wr => ∃ (i : Nat), i ≤ len ∧ len - i ≤ g ∧ s9 = .int .i64 i ∧ Ch No w10 wr)
      case atStart => exact ⟨0, Nat.zero_le _, by omega, rfl, Ch.refl _ _⟩
      case round =>
        obtain ⟨i, hi, hg, rfl, hc⟩ := hrel
        have HBR := hid (hc.keep _ _ HB10.out (fun h => h))
        have HTR := hid (HTX.out.no hc)
        have HPR := hid (HPX.out.no hc)
        have HCR := hid hc
        have p0 := cellAt HBR.out 0
        have p1 := cellAt HBR.out 1
        have p2 := cellAt HBR.out 2
        have p3 := cellAt HBR.out 3
        have p4 := cellAt HBR.out 4
        have p5 := cellAt HBR.out 5
        have p6 := cellAt HBR.out 6
        have p7 := cellAt HBR.out 7
        have p8 := cellAt HBR.out 8
        have p9 := cellAt HBR.out 9
        clear hc
        cases hd : decide (i < len) with
        | true =>
          have hil : i < len := by simpa using hd
          obtain ⟨c, hc⟩ : ∃ c, cs[i]? = some c := ⟨_, List.getElem?_eq_getElem (by have := HL.out; omega)⟩
          obtain ⟨cb, co, cc, ecs, hcell, _, _⟩ := (HC.out.no (HCX.out.trans HCR.out)).cell hc
          rw [HL.out] at ecs
          cases ecs
          obtain ⟨q0, q1, q2, q3, q4, q5, q6, q7, q8, q9⟩ := hcell
          have ho := HO.out.1 i c hc
          have HOWN := hid ho.own
          have HCZ := hid (HSZ.out c (List.mem_of_getElem? hc)).1
          have hf10 : c.faces.length ≤ 1000 := by have := HSM.out.2 c (List.mem_of_getElem? hc); omega
          have HX := hid hc
          have hbc := heap_alloc_new wr (.cells #[.string c.name, .string c.sup, .bool c.face, .slice c.fa c.faces.length c.fc, .slice c.s4.1 c.s4.2.1 c.s4.2.2, .slice c.s5.1 c.s5.2.1 c.s5.2.2, .slice c.s6.1 c.s6.2.1 c.s6.2.2, .pointer c.p7, .int .i64 c.line, .int .i64 c.col] 49)
          have hca := (Ch.refl No wr).alloc (.cells #[.string c.name, .string c.sup, .bool c.face, .slice c.fa c.faces.length c.fc, .slice c.s4.1 c.s4.2.1 c.s4.2.2, .slice c.s5.1 c.s5.2.1 c.s5.2.2, .slice c.s6.1 c.s6.2.1 c.s6.2.2, .pointer c.p7, .int .i64 c.line, .int .i64 c.col] 49)
          obtain ⟨wx, hwx⟩ : ∃ wx, wr.alloc (.cells #[.string c.name, .string c.sup, .bool c.face, .slice c.fa c.faces.length c.fc, .slice c.s4.1 c.s4.2.1 c.s4.2.2, .slice c.s5.1 c.s5.2.1 c.s5.2.2, .slice c.s6.1 c.s6.2.1 c.s6.2.2, .pointer c.p7, .int .i64 c.line, .int .i64 c.col] 49) = wx := ⟨_, rfl⟩
          rw [hwx] at hbc hca
          have hbp := hca.keep _ _ HBR.out (fun h => h)
          have d0 := cellAt hbc 0
          have d1 := cellAt hbc 1
          have d2 := cellAt hbc 2
          have d3 := cellAt hbc 3
          have d4 := cellAt hbc 4
          have d5 := cellAt hbc 5
          have d6 := cellAt hbc 6
          have d7 := cellAt hbc 7
          have d8 := cellAt hbc 8
          have d9 := cellAt hbc 9
          have s0 := cellAt hbp 0
          have s1 := cellAt hbp 1
          have s2 := cellAt hbp 2
          have s3 := cellAt hbp 3
          have s4 := cellAt hbp 4
          have s5 := cellAt hbp 5
          have s6 := cellAt hbp 6
          have s7 := cellAt hbp 7
          have s8 := cellAt hbp 8
          have s9 := cellAt hbp 9
          have HBC := hid hbc
          have HCA2 := hid hca
          have hfi := rfind (HPR.out.no hca) c.sup
          clear hc ho hbc hca hbp
          go_upto_if 83 with fail
          go_cut [11] from 69 to 146 (fun s11 wz => s11 = .int .i64 (supZ cs c) ∧ wz.heap[wr.heap.size]? = some (.cells #[.string c.name, .string c.sup, .bool c.face, .slice c.fa c.faces.length c.fc, .slice c.s4.1 c.s4.2.1 c.s4.2.2, .slice c.s5.1 c.s5.2.1 c.s5.2.2, .slice c.s6.1 c.s6.2.1 c.s6.2.2, .pointer c.p7, .int .i64 c.line, .int .i64 c.col] 49 (0, 0)) ∧ Ch No wr wz)
          case first =>
            cases hs : c.sup.toList.isEmpty with
            | true =>
              go_wp2_with fail
              go_meet
              exact ⟨by rw [supZ_no hs], HBC.out, HCA2.out⟩
            | false =>
              go_wp2_with fail
              refine hfi.mono ?_
              rintro e w5 ⟨rfl, hc5⟩
              have HB5 := hid (hc5.keep _ _ HBC.out (fun h => h))
              have HC5' := hid (HCA2.out.trans hc5)
              clear hfi hc5
              go_wp2_with fail
              go_meet
              exact ⟨by rw [supZ_yes hs], HB5.out, HC5'.out⟩
          case rest =>
            obtain ⟨rfl, hbc, hcc⟩ := hcut
            clear d0 d1 d2 d3 d4 d5 d6 d7 d8 d9 s0 s1 s2 s3 s4 s5 s6 s7 s8 s9 p0 p1 p2 p3 p4 p5 p6 p7 p8 p9 q0 q1 q2 q3 q4 q5 q6 q7 q8 q9 hfi
            have hbp := hcc.keep _ _ HBR.out (fun h => h)
            have HCC := hid hcc
            have HBX := hid hbc
            have HBP := hid hbp
            have HTY := hid (HTR.out.no hcc)
            have HPY := hid (HPR.out.no hcc)
            have HTF2 := hid (HTF.out.no (HC10.out.trans (HCR.out.trans hcc)))
            have hsd := tellCells (((Ch.refl No wc).drew).keep _ _ hbc (fun h => h)) (((Ch.refl No wc).drew).keep _ _ hbp (fun h => h))
            have HSd := hid hsd
            have hna := tName (HTY.out.no ((Ch.refl No wc).drew)) HX.out
            have hfa := tFace (HTY.out.no ((Ch.refl No wc).drew)) HX.out
            have hri := tRight (HTY.out.no ((Ch.refl No wc).drew)) HO.out.1 HSM.out HX.out
            have hsu := tSuper (HTY.out.no ((Ch.refl No wc).drew)) HX.out
            have hix : Calls Tryd.prog 24 #[.pointer (some ⟨tb, 0, none⟩), .string c.name] wc fun e w' => e = .returned (.tuple #[.int .i64 (i : Int), .bool true]) ∧ wc = w' := by
              have h1 := tIndex HTY.out HCZ.out
              rw [show getI (find cs) c.name = (i : Int) by unfold getI; rw [HOWN.out], show getB (find cs) c.name = true by unfold getB; rw [HOWN.out]; rfl] at h1
              exact h1
            have d0 := cellAt hbc 0
            clear hsd hbp hbc hcc
            go_wp2_with fail
            refine hix.mono ?_
            rintro e w5' ⟨rfl, rfl⟩
            clear hix d0
            go_upto_region 14 with fail
            refine wp_region_held_drew (S := (fun w' => w'.cell? ⟨wr.heap.size, 0, none⟩ = some (.string c.name) ∧ w'.cell? ⟨wr.heap.size, 2, none⟩ = some (.bool c.face) ∧ w'.cell? ⟨w.heap.size, 0, none⟩ = some (.slice (some ⟨cb, co, none⟩) len cap) ∧ w'.cell? ⟨w.heap.size, 1, none⟩ = some m0 ∧ w'.cell? ⟨w.heap.size, 2, none⟩ = some m1 ∧ w'.cell? ⟨w.heap.size, 3, none⟩ = some m2 ∧ w'.cell? ⟨w.heap.size, 4, none⟩ = some m3 ∧ w'.cell? ⟨w.heap.size, 5, none⟩ = some m4 ∧ w'.cell? ⟨w.heap.size, 6, none⟩ = some m5 ∧ w'.cell? ⟨w.heap.size, 7, none⟩ = some m6 ∧ w'.cell? ⟨w.heap.size, 8, none⟩ = some m7 ∧ w'.cell? ⟨w.heap.size, 9, none⟩ = some m8)) (by kernel_rfl) HSd.out (fun hHeld => ?_)
            (refine wpAnyH_take (i := 0) (v := ?_) rfl (by kernel_rfl) (by kernel_rfl) (by kernel_rfl) (fun _ _ _ h => h) (Or.inl ⟨by rfl, ?_⟩) (by assumption) ?_; rotate_left 1; · (intro wz hSw; (try dsimp only at hSw); go_simp; try rfl)); (try simp only [Act.put, List.getElem_toArray, List.getElem_cons_succ, List.getElem_cons_zero, List.setIfInBounds_toArray, List.set_cons_zero, List.set_cons_succ])
            (refine wpAnyH_take (i := 1) (v := ?_) rfl (by kernel_rfl) (by kernel_rfl) (by kernel_rfl) (fun _ _ _ h => h) (Or.inl ⟨by rfl, ?_⟩) (by assumption) ?_; rotate_left 1; · (intro wz hSw; (try dsimp only at hSw); go_simp; try rfl)); (try simp only [Act.put, List.getElem_toArray, List.getElem_cons_succ, List.getElem_cons_zero, List.setIfInBounds_toArray, List.set_cons_zero, List.set_cons_succ])
            (refine wpAnyH_take (i := 2) (v := ?_) rfl (by kernel_rfl) (by kernel_rfl) (by kernel_rfl) (fun _ _ _ h => h) (Or.inl ⟨by rfl, ?_⟩) (by assumption) ?_; rotate_left 1; · (intro wz hSw; (try dsimp only at hSw); go_simp; try rfl)); (try simp only [Act.put, List.getElem_toArray, List.getElem_cons_succ, List.getElem_cons_zero, List.setIfInBounds_toArray, List.set_cons_zero, List.set_cons_succ])
            (refine wpAnyH_take (i := 3) (v := ?_) rfl (by kernel_rfl) (by kernel_rfl) (by kernel_rfl) (fun _ _ _ h => h) (Or.inl ⟨by rfl, ?_⟩) (by assumption) ?_; rotate_left 1; · (intro wz hSw; (try dsimp only at hSw); go_simp; try rfl)); (try simp only [Act.put, List.getElem_toArray, List.getElem_cons_succ, List.getElem_cons_zero, List.setIfInBounds_toArray, List.set_cons_zero, List.set_cons_succ])
            (refine wpAnyH_take (i := 4) (v := ?_) rfl (by kernel_rfl) (by kernel_rfl) (by kernel_rfl) (fun _ _ _ h => h) (Or.inl ⟨by rfl, ?_⟩) (by assumption) ?_; rotate_left 1; · (intro wz hSw; (try dsimp only at hSw); go_simp; try rfl)); (try simp only [Act.put, List.getElem_toArray, List.getElem_cons_succ, List.getElem_cons_zero, List.setIfInBounds_toArray, List.set_cons_zero, List.set_cons_succ])
            (refine wpAnyH_take (i := 5) (v := ?_) rfl (by kernel_rfl) (by kernel_rfl) (by kernel_rfl) (fun _ _ _ h => h) (Or.inl ⟨by rfl, ?_⟩) (by assumption) ?_; rotate_left 1; · (intro wz hSw; (try dsimp only at hSw); go_simp; try rfl)); (try simp only [Act.put, List.getElem_toArray, List.getElem_cons_succ, List.getElem_cons_zero, List.setIfInBounds_toArray, List.set_cons_zero, List.set_cons_succ])
            (refine wpAnyH_take (i := 6) (v := ?_) rfl (by kernel_rfl) (by kernel_rfl) (by kernel_rfl) (fun _ _ _ h => h) (Or.inl ⟨by rfl, ?_⟩) (by assumption) ?_; rotate_left 1; · (intro wz hSw; (try dsimp only at hSw); go_simp; try rfl)); (try simp only [Act.put, List.getElem_toArray, List.getElem_cons_succ, List.getElem_cons_zero, List.setIfInBounds_toArray, List.set_cons_zero, List.set_cons_succ])
            (refine wpAnyH_take (i := 7) (v := ?_) rfl (by kernel_rfl) (by kernel_rfl) (by kernel_rfl) (fun _ _ _ h => h) (Or.inl ⟨by rfl, ?_⟩) (by assumption) ?_; rotate_left 1; · (intro wz hSw; (try dsimp only at hSw); go_simp; try rfl)); (try simp only [Act.put, List.getElem_toArray, List.getElem_cons_succ, List.getElem_cons_zero, List.setIfInBounds_toArray, List.set_cons_zero, List.set_cons_succ])
            (refine wpAnyH_take (i := 8) (v := ?_) rfl (by kernel_rfl) (by kernel_rfl) (by kernel_rfl) (fun _ _ _ h => h) (Or.inl ⟨by rfl, ?_⟩) (by assumption) ?_; rotate_left 1; · (intro wz hSw; (try dsimp only at hSw); go_simp; try rfl)); (try simp only [Act.put, List.getElem_toArray, List.getElem_cons_succ, List.getElem_cons_zero, List.setIfInBounds_toArray, List.set_cons_zero, List.set_cons_succ])
            (refine wpAnyH_take (i := 9) (v := ?_) rfl (by kernel_rfl) (by kernel_rfl) (by kernel_rfl) (fun _ _ _ h => h) (Or.inl ⟨by rfl, ?_⟩) (by assumption) ?_; rotate_left 1; · (intro wz hSw; (try dsimp only at hSw); go_simp; try rfl)); (try simp only [Act.put, List.getElem_toArray, List.getElem_cons_succ, List.getElem_cons_zero, List.setIfInBounds_toArray, List.set_cons_zero, List.set_cons_succ])
            (refine wpAnyH_take (i := 11) (v := ?_) rfl (by kernel_rfl) (by kernel_rfl) (by kernel_rfl) (fun _ _ _ h => h) (Or.inl ⟨by rfl, ?_⟩) (by assumption) ?_; rotate_left 1; · (intro wz hSw; (try dsimp only at hSw); go_simp; try rfl)); (try simp only [Act.put, List.getElem_toArray, List.getElem_cons_succ, List.getElem_cons_zero, List.setIfInBounds_toArray, List.set_cons_zero, List.set_cons_succ])
            (refine wpAnyH_take (i := 12) (v := ?_) rfl (by kernel_rfl) (by kernel_rfl) (by kernel_rfl) (fun _ _ _ h => h) (Or.inl ⟨by rfl, ?_⟩) (by assumption) ?_; rotate_left 1; · (intro wz hSw; (try dsimp only at hSw); go_simp; try rfl)); (try simp only [Act.put, List.getElem_toArray, List.getElem_cons_succ, List.getElem_cons_zero, List.setIfInBounds_toArray, List.set_cons_zero, List.set_cons_succ])
            refine wpAnyH_ready (rs := [10]) (by kernel_rfl) (by simp) (AllReadyH.cons rfl (fun K hK => ?_) AllReadyH.nil)
            go_simp
            go_at_call 25
            refine hna.mono ?_
            rintro e w5' ⟨rfl, rfl⟩
            go_simp
            refine hK.out _ _ HSd.out (fun hHeldq10 => ?_)
            clear hK hna
            (refine wpAnyH_take (i := 13) (v := ?_) rfl (by kernel_rfl) (by kernel_rfl) (by kernel_rfl) (fun _ _ _ h => h) (Or.inl ⟨by rfl, ?_⟩) (by assumption) ?_; rotate_left 1; · (intro wz hSw; (try dsimp only at hSw); go_simp; try rfl)); (try simp only [Act.put, List.getElem_toArray, List.getElem_cons_succ, List.getElem_cons_zero, List.setIfInBounds_toArray, List.set_cons_zero, List.set_cons_succ])
            (refine wpAnyH_take (i := 14) (v := ?_) rfl (by kernel_rfl) (by kernel_rfl) (by kernel_rfl) (fun _ _ _ h => h) (Or.inl ⟨by rfl, ?_⟩) (by assumption) ?_; rotate_left 1; · (intro wz hSw; (try dsimp only at hSw); go_simp; try rfl)); (try simp only [Act.put, List.getElem_toArray, List.getElem_cons_succ, List.getElem_cons_zero, List.setIfInBounds_toArray, List.set_cons_zero, List.set_cons_succ])
            (refine wpAnyH_take (i := 15) (v := ?_) rfl (by kernel_rfl) (by kernel_rfl) (by kernel_rfl) (fun _ _ _ h => h) (Or.inl ⟨by rfl, ?_⟩) (by assumption) ?_; rotate_left 1; · (intro wz hSw; (try dsimp only at hSw); go_simp; try rfl)); (try simp only [Act.put, List.getElem_toArray, List.getElem_cons_succ, List.getElem_cons_zero, List.setIfInBounds_toArray, List.set_cons_zero, List.set_cons_succ])
            (refine wpAnyH_take (i := 16) (v := ?_) rfl (by kernel_rfl) (by kernel_rfl) (by kernel_rfl) (fun _ _ _ h => h) (Or.inl ⟨by rfl, ?_⟩) (by assumption) ?_; rotate_left 1; · (intro wz hSw; (try dsimp only at hSw); go_simp; try rfl)); (try simp only [Act.put, List.getElem_toArray, List.getElem_cons_succ, List.getElem_cons_zero, List.setIfInBounds_toArray, List.set_cons_zero, List.set_cons_succ])
            (refine wpAnyH_take (i := 17) (v := ?_) rfl (by kernel_rfl) (by kernel_rfl) (by kernel_rfl) (fun _ _ _ h => h) (Or.inl ⟨by rfl, ?_⟩) (by assumption) ?_; rotate_left 1; · (intro wz hSw; (try dsimp only at hSw); go_simp; try rfl)); (try simp only [Act.put, List.getElem_toArray, List.getElem_cons_succ, List.getElem_cons_zero, List.setIfInBounds_toArray, List.set_cons_zero, List.set_cons_succ])
            (refine wpAnyH_take (i := 19) (v := ?_) rfl (by kernel_rfl) (by kernel_rfl) (by kernel_rfl) (fun _ _ _ h => h) (Or.inl ⟨by rfl, ?_⟩) (by assumption) ?_; rotate_left 1; · (intro wz hSw; (try dsimp only at hSw); go_simp; try rfl)); (try simp only [Act.put, List.getElem_toArray, List.getElem_cons_succ, List.getElem_cons_zero, List.setIfInBounds_toArray, List.set_cons_zero, List.set_cons_succ])
            (refine wpAnyH_take (i := 20) (v := ?_) rfl (by kernel_rfl) (by kernel_rfl) (by kernel_rfl) (fun _ _ _ h => h) (Or.inl ⟨by rfl, ?_⟩) (by assumption) ?_; rotate_left 1; · (intro wz hSw; (try dsimp only at hSw); go_simp; try rfl)); (try simp only [Act.put, List.getElem_toArray, List.getElem_cons_succ, List.getElem_cons_zero, List.setIfInBounds_toArray, List.set_cons_zero, List.set_cons_succ])
            refine wpAnyH_ready (rs := [18]) (by kernel_rfl) (by simp) (AllReadyH.cons rfl (fun K hK => ?_) AllReadyH.nil)
            go_simp
            go_at_call 26
            refine hfa.mono ?_
            rintro e w5' ⟨rfl, rfl⟩
            go_simp
            refine hK.out _ _ HSd.out (fun hHeldq18 => ?_)
            clear hK hfa
            (refine wpAnyH_take (i := 21) (v := ?_) rfl (by kernel_rfl) (by kernel_rfl) (by kernel_rfl) (fun _ _ _ h => h) (Or.inl ⟨by rfl, ?_⟩) (by assumption) ?_; rotate_left 1; · (intro wz hSw; (try dsimp only at hSw); go_simp; try rfl)); (try simp only [Act.put, List.getElem_toArray, List.getElem_cons_succ, List.getElem_cons_zero, List.setIfInBounds_toArray, List.set_cons_zero, List.set_cons_succ])
            (refine wpAnyH_take (i := 22) (v := ?_) rfl (by kernel_rfl) (by kernel_rfl) (by kernel_rfl) (fun _ _ _ h => h) (Or.inl ⟨by rfl, ?_⟩) (by assumption) ?_; rotate_left 1; · (intro wz hSw; (try dsimp only at hSw); go_simp; try rfl)); (try simp only [Act.put, List.getElem_toArray, List.getElem_cons_succ, List.getElem_cons_zero, List.setIfInBounds_toArray, List.set_cons_zero, List.set_cons_succ])
            (refine wpAnyH_take (i := 23) (v := ?_) rfl (by kernel_rfl) (by kernel_rfl) (by kernel_rfl) (fun _ _ _ h => h) (Or.inl ⟨by rfl, ?_⟩) (by assumption) ?_; rotate_left 1; · (intro wz hSw; (try dsimp only at hSw); go_simp; try rfl)); (try simp only [Act.put, List.getElem_toArray, List.getElem_cons_succ, List.getElem_cons_zero, List.setIfInBounds_toArray, List.set_cons_zero, List.set_cons_succ])
            (refine wpAnyH_take (i := 24) (v := ?_) rfl (by kernel_rfl) (by kernel_rfl) (by kernel_rfl) (fun _ _ _ h => h) (Or.inl ⟨by rfl, ?_⟩) (by assumption) ?_; rotate_left 1; · (intro wz hSw; (try dsimp only at hSw); go_simp; try rfl)); (try simp only [Act.put, List.getElem_toArray, List.getElem_cons_succ, List.getElem_cons_zero, List.setIfInBounds_toArray, List.set_cons_zero, List.set_cons_succ])
            (refine wpAnyH_take (i := 25) (v := ?_) rfl (by kernel_rfl) (by kernel_rfl) (by kernel_rfl) (fun _ _ _ h => h) (Or.inl ⟨by rfl, ?_⟩) (by assumption) ?_; rotate_left 1; · (intro wz hSw; (try dsimp only at hSw); go_simp; try rfl)); (try simp only [Act.put, List.getElem_toArray, List.getElem_cons_succ, List.getElem_cons_zero, List.setIfInBounds_toArray, List.set_cons_zero, List.set_cons_succ])
            (refine wpAnyH_take (i := 27) (v := ?_) rfl (by kernel_rfl) (by kernel_rfl) (by kernel_rfl) (fun _ _ _ h => h) (Or.inl ⟨by rfl, ?_⟩) (by assumption) ?_; rotate_left 1; · (intro wz hSw; (try dsimp only at hSw); go_simp; try rfl)); (try simp only [Act.put, List.getElem_toArray, List.getElem_cons_succ, List.getElem_cons_zero, List.setIfInBounds_toArray, List.set_cons_zero, List.set_cons_succ])
            refine wpAnyH_ready (rs := [26]) (by kernel_rfl) (by simp) (AllReadyH.cons rfl (fun K hK => ?_) AllReadyH.nil)
            go_simp
            go_at_call 27
            refine hsu.mono ?_
            rintro e w5' ⟨rfl, rfl⟩
            go_simp
            refine hK.out _ _ HSd.out (fun hHeldq26 => ?_)
            clear hK hsu
            (refine wpAnyH_take (i := 28) (v := ?_) rfl (by kernel_rfl) (by kernel_rfl) (by kernel_rfl) (fun _ _ _ h => h) (Or.inl ⟨by rfl, ?_⟩) (by assumption) ?_; rotate_left 1; · (intro wz hSw; (try dsimp only at hSw); go_simp; try rfl)); (try simp only [Act.put, List.getElem_toArray, List.getElem_cons_succ, List.getElem_cons_zero, List.setIfInBounds_toArray, List.set_cons_zero, List.set_cons_succ])
            (refine wpAnyH_take (i := 29) (v := ?_) rfl (by kernel_rfl) (by kernel_rfl) (by kernel_rfl) (fun _ _ _ h => h) (Or.inl ⟨by rfl, ?_⟩) (by assumption) ?_; rotate_left 1; · (intro wz hSw; (try dsimp only at hSw); go_simp; try rfl)); (try simp only [Act.put, List.getElem_toArray, List.getElem_cons_succ, List.getElem_cons_zero, List.setIfInBounds_toArray, List.set_cons_zero, List.set_cons_succ])
            (refine wpAnyH_take (i := 30) (v := ?_) rfl (by kernel_rfl) (by kernel_rfl) (by kernel_rfl) (fun _ _ _ h => h) (Or.inl ⟨by rfl, ?_⟩) (by assumption) ?_; rotate_left 1; · (intro wz hSw; (try dsimp only at hSw); go_simp; try rfl)); (try simp only [Act.put, List.getElem_toArray, List.getElem_cons_succ, List.getElem_cons_zero, List.setIfInBounds_toArray, List.set_cons_zero, List.set_cons_succ])
            (refine wpAnyH_take (i := 31) (v := ?_) rfl (by kernel_rfl) (by kernel_rfl) (by kernel_rfl) (fun _ _ _ h => h) (Or.inl ⟨by rfl, ?_⟩) (by assumption) ?_; rotate_left 1; · (intro wz hSw; (try dsimp only at hSw); go_simp; try rfl)); (try simp only [Act.put, List.getElem_toArray, List.getElem_cons_succ, List.getElem_cons_zero, List.setIfInBounds_toArray, List.set_cons_zero, List.set_cons_succ])
            (refine wpAnyH_take (i := 32) (v := ?_) rfl (by kernel_rfl) (by kernel_rfl) (by kernel_rfl) (fun _ _ _ h => h) (Or.inl ⟨by rfl, ?_⟩) (by assumption) ?_; rotate_left 1; · (intro wz hSw; (try dsimp only at hSw); go_simp; try rfl)); (try simp only [Act.put, List.getElem_toArray, List.getElem_cons_succ, List.getElem_cons_zero, List.setIfInBounds_toArray, List.set_cons_zero, List.set_cons_succ])
            (refine wpAnyH_take (i := 34) (v := ?_) rfl (by kernel_rfl) (by kernel_rfl) (by kernel_rfl) (fun _ _ _ h => h) (Or.inl ⟨by rfl, ?_⟩) (by assumption) ?_; rotate_left 1; · (intro wz hSw; (try dsimp only at hSw); go_simp; try rfl)); (try simp only [Act.put, List.getElem_toArray, List.getElem_cons_succ, List.getElem_cons_zero, List.setIfInBounds_toArray, List.set_cons_zero, List.set_cons_succ])
            (refine wpAnyH_take (i := 35) (v := ?_) rfl (by kernel_rfl) (by kernel_rfl) (by kernel_rfl) (fun _ _ _ h => h) (Or.inl ⟨by rfl, ?_⟩) (by assumption) ?_; rotate_left 1; · (intro wz hSw; (try dsimp only at hSw); go_simp; try rfl)); (try simp only [Act.put, List.getElem_toArray, List.getElem_cons_succ, List.getElem_cons_zero, List.setIfInBounds_toArray, List.set_cons_zero, List.set_cons_succ])
            refine wpAnyH_ready (rs := [33]) (by kernel_rfl) (by simp) (AllReadyH.cons rfl (fun K hK => ?_) AllReadyH.nil)
            go_simp
            go_at_call 28
            refine (hri).mono ?_
            rintro e w15 ⟨r15, rfl, hu15, hc15⟩
            have K15 := hid (((Ch.refl No wc).drew).trans hc15)
            have U15 := hid hu15.at_
            clear hu15 hc15 hri
            go_simp
            have HS15 := hid (tellCells (K15.out.keep _ _ HBX.out (fun h => h)) (K15.out.keep _ _ HBP.out (fun h => h)))
            refine hK.out _ _ HS15.out (fun hHeld15 => ?_)
            clear hK
            refine wpAnyH_ready (rs := [36]) (by kernel_rfl) (by simp) (AllReadyH.cons rfl (fun K hK => ?_) AllReadyH.nil)
            go_simp
            go_at_call 29
            refine (rright (HPY.out.no K15.out) HX.out hf10).mono ?_
            rintro e w16 ⟨r16, rfl, hu16, hc16⟩
            have K16 := hid (K15.out.trans hc16)
            have U16 := hid hu16.at_
            have U156 := hid (U15.out.no hc16)
            clear hu16 hc16
            go_simp
            have HS16 := hid (tellCells (K16.out.keep _ _ HBX.out (fun h => h)) (K16.out.keep _ _ HBP.out (fun h => h)))
            refine hK.out _ _ HS16.out (fun hHeld16 => ?_)
            clear hK
            refine wpAnyH_ready (rs := [37]) (by kernel_rfl) (by simp) (AllReadyH.cons rfl (fun K hK => ?_) AllReadyH.nil)
            go_simp
            go_at_call 19
            refine (rsameT U156.out U16.out).mono ?_
            rintro e w17 ⟨rfl, hc17⟩
            have K17 := hid (K16.out.trans hc17)
            clear hc17
            go_simp
            have HS17 := hid (tellCells (K17.out.keep _ _ HBX.out (fun h => h)) (K17.out.keep _ _ HBP.out (fun h => h)))
            refine hK.out _ _ HS17.out (fun hHeld17 => ?_)
            clear hK
            (refine wpAnyH_take (i := 38) (v := ?_) rfl (by kernel_rfl) (by kernel_rfl) (by kernel_rfl) (fun _ _ _ h => h) (Or.inl ⟨by rfl, ?_⟩) (by assumption) ?_; rotate_left 1; · (intro wz hSw; (try dsimp only at hSw); go_simp; try rfl)); (try simp only [Act.put, List.getElem_toArray, List.getElem_cons_succ, List.getElem_cons_zero, List.setIfInBounds_toArray, List.set_cons_zero, List.set_cons_succ])
            (refine wpAnyH_take (i := 39) (v := ?_) rfl (by kernel_rfl) (by kernel_rfl) (by kernel_rfl) (fun _ _ _ h => h) (Or.inl ⟨by rfl, ?_⟩) (by assumption) ?_; rotate_left 1; · (intro wz hSw; (try dsimp only at hSw); go_simp; try rfl)); (try simp only [Act.put, List.getElem_toArray, List.getElem_cons_succ, List.getElem_cons_zero, List.setIfInBounds_toArray, List.set_cons_zero, List.set_cons_succ])
            (refine wpAnyH_take (i := 40) (v := ?_) rfl (by kernel_rfl) (by kernel_rfl) (by kernel_rfl) (fun _ _ _ h => h) (Or.inl ⟨by rfl, ?_⟩) (by assumption) ?_; rotate_left 1; · (intro wz hSw; (try dsimp only at hSw); go_simp; try rfl)); (try simp only [Act.put, List.getElem_toArray, List.getElem_cons_succ, List.getElem_cons_zero, List.setIfInBounds_toArray, List.set_cons_zero, List.set_cons_succ])
            (refine wpAnyH_take (i := 41) (v := ?_) rfl (by kernel_rfl) (by kernel_rfl) (by kernel_rfl) (fun _ _ _ h => h) (Or.inl ⟨by rfl, ?_⟩) (by assumption) ?_; rotate_left 1; · (intro wz hSw; (try dsimp only at hSw); go_simp; try rfl)); (try simp only [Act.put, List.getElem_toArray, List.getElem_cons_succ, List.getElem_cons_zero, List.setIfInBounds_toArray, List.set_cons_zero, List.set_cons_succ])
            (refine wpAnyH_take (i := 42) (v := ?_) rfl (by kernel_rfl) (by kernel_rfl) (by kernel_rfl) (fun _ _ _ h => h) (Or.inl ⟨by rfl, ?_⟩) (by assumption) ?_; rotate_left 1; · (intro wz hSw; (try dsimp only at hSw); go_simp; try rfl)); (try simp only [Act.put, List.getElem_toArray, List.getElem_cons_succ, List.getElem_cons_zero, List.setIfInBounds_toArray, List.set_cons_zero, List.set_cons_succ])
            (refine wpAnyH_take (i := 45) (v := ?_) rfl (by kernel_rfl) (by kernel_rfl) (by kernel_rfl) (fun _ _ _ h => h) (Or.inl ⟨by rfl, ?_⟩) (by assumption) ?_; rotate_left 1; · (intro wz hSw; (try dsimp only at hSw); go_simp; try rfl)); (try simp only [Act.put, List.getElem_toArray, List.getElem_cons_succ, List.getElem_cons_zero, List.setIfInBounds_toArray, List.set_cons_zero, List.set_cons_succ])
            (refine wpAnyH_take (i := 46) (v := ?_) rfl (by kernel_rfl) (by kernel_rfl) (by kernel_rfl) (fun _ _ _ h => h) (Or.inl ⟨by rfl, ?_⟩) (by assumption) ?_; rotate_left 1; · (intro wz hSw; (try dsimp only at hSw); go_simp; try rfl)); (try simp only [Act.put, List.getElem_toArray, List.getElem_cons_succ, List.getElem_cons_zero, List.setIfInBounds_toArray, List.set_cons_zero, List.set_cons_succ])
            refine wpAnyH_ready (rs := [43, 47]) (by kernel_rfl) (by simp) (AllReadyH.cons rfl (fun K hK => ?_) (AllReadyH.cons rfl (fun K hK => ?_) AllReadyH.nil))
            · go_simp
              have HS17a := hid (tellCells ((K17.out.alloc (.cells #[.int .i64 i] 3)).keep _ _ HBX.out (fun h => h)) ((K17.out.alloc (.cells #[.int .i64 i] 3)).keep _ _ HBP.out (fun h => h)))
              refine hK.out _ _ HS17a.out (fun hHeld17a => ?_)
              clear hK
              refine wpAnyH_ready (rs := [44, 47]) (by kernel_rfl) (by simp) (AllReadyH.cons rfl (fun K hK => ?_) (AllReadyH.cons rfl (fun K hK => ?_) AllReadyH.nil))
              · go_simp
                go_at_call 17
                refine (tAbove (HTF2.out.no (K17.out.alloc (.cells #[.int .i64 i] 3))) (HTY.out.no (K17.out.alloc (.cells #[.int .i64 i] 3))) HO.out hn20 (one_at w17 (i : Int))).mono ?_
                rintro e w18 ⟨r18, rfl, hu18, hc18⟩
                have K18 := hid ((K17.out.alloc (.cells #[.int .i64 i] 3)).trans hc18)
                have U18 := hid hu18.at_
                clear hu18
                go_simp
                have HS18 := hid (tellCells (K18.out.keep _ _ HBX.out (fun h => h)) (K18.out.keep _ _ HBP.out (fun h => h)))
                refine hK.out _ _ HS18.out (fun hHeld18 => ?_)
                clear hK
                have K18a := hid (K18.out.alloc (.cells #[.int .i64 i] 3))
                have U18x := hid (U18.out.alloc (.cells #[.int .i64 i] 3))
                refine wpAnyH_ready (rs := [47]) (by kernel_rfl) (by simp) (AllReadyH.cons rfl (fun K hK => ?_) AllReadyH.nil)
                go_simp
                have HS18a := hid (tellCells (K18a.out.keep _ _ HBX.out (fun h => h)) (K18a.out.keep _ _ HBP.out (fun h => h)))
                refine hK.out _ _ HS18a.out (fun hHeld18a => ?_)
                clear hK
                refine wpAnyH_ready (rs := [48]) (by kernel_rfl) (by simp) (AllReadyH.cons rfl (fun K hK => ?_) AllReadyH.nil)
                go_simp
                go_at_call 22
                refine (rabove (HPY.out.no K18a.out) HO.out.1 HSM.out (one_at w18 (i : Int))).mono ?_
                rintro e w19 ⟨r19, rfl, hu19, hc19⟩
                have K19 := hid (K18a.out.trans hc19)
                have U19 := hid hu19.at_
                have U189 := hid (U18x.out.no hc19)
                clear hu19 hc19
                go_simp
                have HS19 := hid (tellCells (K19.out.keep _ _ HBX.out (fun h => h)) (K19.out.keep _ _ HBP.out (fun h => h)))
                refine hK.out _ _ HS19.out (fun hHeld19 => ?_)
                clear hK
                refine wpAnyH_ready (rs := [49]) (by kernel_rfl) (by simp) (AllReadyH.cons rfl (fun K hK => ?_) AllReadyH.nil)
                go_simp
                go_at_call 19
                refine (rsameT U189.out U19.out).mono ?_
                rintro e w20 ⟨rfl, hc20⟩
                have K20 := hid (K19.out.trans hc20)
                clear hc20
                go_simp
                have HS20 := hid (tellCells (K20.out.keep _ _ HBX.out (fun h => h)) (K20.out.keep _ _ HBP.out (fun h => h)))
                refine hK.out _ _ HS20.out (fun hHeld20 => ?_)
                clear hK
                (refine wpAnyH_take (i := 50) (v := ?_) rfl (by kernel_rfl) (by kernel_rfl) (by kernel_rfl) (fun _ _ _ h => h) (Or.inl ⟨by rfl, ?_⟩) (by assumption) ?_; rotate_left 1; · (intro wz hSw; (try dsimp only at hSw); go_simp; try rfl)); (try simp only [Act.put, List.getElem_toArray, List.getElem_cons_succ, List.getElem_cons_zero, List.setIfInBounds_toArray, List.set_cons_zero, List.set_cons_succ])
                (refine wpAnyH_take (i := 51) (v := ?_) rfl (by kernel_rfl) (by kernel_rfl) (by kernel_rfl) (fun _ _ _ h => h) (Or.inl ⟨by rfl, ?_⟩) (by assumption) ?_; rotate_left 1; · (intro wz hSw; (try dsimp only at hSw); go_simp; try rfl)); (try simp only [Act.put, List.getElem_toArray, List.getElem_cons_succ, List.getElem_cons_zero, List.setIfInBounds_toArray, List.set_cons_zero, List.set_cons_succ])
                refine wpAnyH_done (by kernel_rfl) ?_ _
                go_wp2_with fail
                go_roundg (len - i - 1)
                case rel => exact ⟨i + 1, by omega, by omega, by go_num, HCR.out.trans (HCC.out.trans K20.out)⟩
                case measure => omega
              · go_simp
                have HS17b := hid (tellCells (((K17.out.alloc (.cells #[.int .i64 i] 3)).alloc (.cells #[.int .i64 i] 3)).keep _ _ HBX.out (fun h => h)) (((K17.out.alloc (.cells #[.int .i64 i] 3)).alloc (.cells #[.int .i64 i] 3)).keep _ _ HBP.out (fun h => h)))
                refine hK.out _ _ HS17b.out (fun hHeld17b => ?_)
                clear hK
                have HO2 : Hid (IntsAt ((w17.alloc (.cells #[.int .i64 i] 3)).alloc (.cells #[.int .i64 i] 3)) (.slice (some ⟨w17.heap.size + 1, 0, none⟩) 1 1) [(i : Int)]) := hid (by have := one_at (w17.alloc (.cells #[.int .i64 i] 3)) (i : Int); rwa [show (w17.alloc (.cells #[.int .i64 i] 3)).heap.size = w17.heap.size + 1 by simp] at this)
                refine wpAnyH_ready (rs := [44]) (by kernel_rfl) (by simp) (AllReadyH.cons rfl (fun K hK => ?_) AllReadyH.nil)
                go_simp
                go_at_call 17
                refine (tAbove (HTF2.out.no ((K17.out.alloc (.cells #[.int .i64 i] 3)).alloc (.cells #[.int .i64 i] 3))) (HTY.out.no ((K17.out.alloc (.cells #[.int .i64 i] 3)).alloc (.cells #[.int .i64 i] 3))) HO.out hn20 ((one_at w17 (i : Int)).alloc (.cells #[.int .i64 i] 3))).mono ?_
                rintro e w18 ⟨r18, rfl, hu18, hc18⟩
                have K18 := hid (((K17.out.alloc (.cells #[.int .i64 i] 3)).alloc (.cells #[.int .i64 i] 3)).trans hc18)
                have U18 := hid hu18.at_
                have O18 := hid (HO2.out.no hc18)
                have U18x := U18
                clear hu18
                go_simp
                have HS18 := hid (tellCells (K18.out.keep _ _ HBX.out (fun h => h)) (K18.out.keep _ _ HBP.out (fun h => h)))
                refine hK.out _ _ HS18.out (fun hHeld18 => ?_)
                clear hK
                refine wpAnyH_ready (rs := [48]) (by kernel_rfl) (by simp) (AllReadyH.cons rfl (fun K hK => ?_) AllReadyH.nil)
                go_simp
                go_at_call 22
                refine (rabove (HPY.out.no K18.out) HO.out.1 HSM.out O18.out).mono ?_
                rintro e w19 ⟨r19, rfl, hu19, hc19⟩
                have K19 := hid (K18.out.trans hc19)
                have U19 := hid hu19.at_
                have U189 := hid (U18x.out.no hc19)
                clear hu19 hc19
                go_simp
                have HS19 := hid (tellCells (K19.out.keep _ _ HBX.out (fun h => h)) (K19.out.keep _ _ HBP.out (fun h => h)))
                refine hK.out _ _ HS19.out (fun hHeld19 => ?_)
                clear hK
                refine wpAnyH_ready (rs := [49]) (by kernel_rfl) (by simp) (AllReadyH.cons rfl (fun K hK => ?_) AllReadyH.nil)
                go_simp
                go_at_call 19
                refine (rsameT U189.out U19.out).mono ?_
                rintro e w20 ⟨rfl, hc20⟩
                have K20 := hid (K19.out.trans hc20)
                clear hc20
                go_simp
                have HS20 := hid (tellCells (K20.out.keep _ _ HBX.out (fun h => h)) (K20.out.keep _ _ HBP.out (fun h => h)))
                refine hK.out _ _ HS20.out (fun hHeld20 => ?_)
                clear hK
                (refine wpAnyH_take (i := 50) (v := ?_) rfl (by kernel_rfl) (by kernel_rfl) (by kernel_rfl) (fun _ _ _ h => h) (Or.inl ⟨by rfl, ?_⟩) (by assumption) ?_; rotate_left 1; · (intro wz hSw; (try dsimp only at hSw); go_simp; try rfl)); (try simp only [Act.put, List.getElem_toArray, List.getElem_cons_succ, List.getElem_cons_zero, List.setIfInBounds_toArray, List.set_cons_zero, List.set_cons_succ])
                (refine wpAnyH_take (i := 51) (v := ?_) rfl (by kernel_rfl) (by kernel_rfl) (by kernel_rfl) (fun _ _ _ h => h) (Or.inl ⟨by rfl, ?_⟩) (by assumption) ?_; rotate_left 1; · (intro wz hSw; (try dsimp only at hSw); go_simp; try rfl)); (try simp only [Act.put, List.getElem_toArray, List.getElem_cons_succ, List.getElem_cons_zero, List.setIfInBounds_toArray, List.set_cons_zero, List.set_cons_succ])
                refine wpAnyH_done (by kernel_rfl) ?_ _
                go_wp2_with fail
                go_roundg (len - i - 1)
                case rel => exact ⟨i + 1, by omega, by omega, by go_num, HCR.out.trans (HCC.out.trans K20.out)⟩
                case measure => omega
            · go_simp
              have HS17c := hid (tellCells ((K17.out.alloc (.cells #[.int .i64 i] 3)).keep _ _ HBX.out (fun h => h)) ((K17.out.alloc (.cells #[.int .i64 i] 3)).keep _ _ HBP.out (fun h => h)))
              refine hK.out _ _ HS17c.out (fun hHeld17c => ?_)
              clear hK
              refine wpAnyH_ready (rs := [43]) (by kernel_rfl) (by simp) (AllReadyH.cons rfl (fun K hK => ?_) AllReadyH.nil)
              go_simp
              have HS17d := hid (tellCells (((K17.out.alloc (.cells #[.int .i64 i] 3)).alloc (.cells #[.int .i64 i] 3)).keep _ _ HBX.out (fun h => h)) (((K17.out.alloc (.cells #[.int .i64 i] 3)).alloc (.cells #[.int .i64 i] 3)).keep _ _ HBP.out (fun h => h)))
              refine hK.out _ _ HS17d.out (fun hHeld17d => ?_)
              clear hK
              have HO2 : Hid (IntsAt ((w17.alloc (.cells #[.int .i64 i] 3)).alloc (.cells #[.int .i64 i] 3)) (.slice (some ⟨w17.heap.size + 1, 0, none⟩) 1 1) [(i : Int)]) := hid (by have := one_at (w17.alloc (.cells #[.int .i64 i] 3)) (i : Int); rwa [show (w17.alloc (.cells #[.int .i64 i] 3)).heap.size = w17.heap.size + 1 by simp] at this)
              refine wpAnyH_ready (rs := [44]) (by kernel_rfl) (by simp) (AllReadyH.cons rfl (fun K hK => ?_) AllReadyH.nil)
              go_simp
              go_at_call 17
              refine (tAbove (HTF2.out.no ((K17.out.alloc (.cells #[.int .i64 i] 3)).alloc (.cells #[.int .i64 i] 3))) (HTY.out.no ((K17.out.alloc (.cells #[.int .i64 i] 3)).alloc (.cells #[.int .i64 i] 3))) HO.out hn20 HO2.out).mono ?_
              rintro e w18 ⟨r18, rfl, hu18, hc18⟩
              have K18 := hid (((K17.out.alloc (.cells #[.int .i64 i] 3)).alloc (.cells #[.int .i64 i] 3)).trans hc18)
              have U18 := hid hu18.at_
              have O18 := hid (((one_at w17 (i : Int)).alloc (.cells #[.int .i64 i] 3)).no hc18)
              have U18x := U18
              clear hu18
              go_simp
              have HS18 := hid (tellCells (K18.out.keep _ _ HBX.out (fun h => h)) (K18.out.keep _ _ HBP.out (fun h => h)))
              refine hK.out _ _ HS18.out (fun hHeld18 => ?_)
              clear hK
              refine wpAnyH_ready (rs := [48]) (by kernel_rfl) (by simp) (AllReadyH.cons rfl (fun K hK => ?_) AllReadyH.nil)
              go_simp
              go_at_call 22
              refine (rabove (HPY.out.no K18.out) HO.out.1 HSM.out O18.out).mono ?_
              rintro e w19 ⟨r19, rfl, hu19, hc19⟩
              have K19 := hid (K18.out.trans hc19)
              have U19 := hid hu19.at_
              have U189 := hid (U18x.out.no hc19)
              clear hu19 hc19
              go_simp
              have HS19 := hid (tellCells (K19.out.keep _ _ HBX.out (fun h => h)) (K19.out.keep _ _ HBP.out (fun h => h)))
              refine hK.out _ _ HS19.out (fun hHeld19 => ?_)
              clear hK
              refine wpAnyH_ready (rs := [49]) (by kernel_rfl) (by simp) (AllReadyH.cons rfl (fun K hK => ?_) AllReadyH.nil)
              go_simp
              go_at_call 19
              refine (rsameT U189.out U19.out).mono ?_
              rintro e w20 ⟨rfl, hc20⟩
              have K20 := hid (K19.out.trans hc20)
              clear hc20
              go_simp
              have HS20 := hid (tellCells (K20.out.keep _ _ HBX.out (fun h => h)) (K20.out.keep _ _ HBP.out (fun h => h)))
              refine hK.out _ _ HS20.out (fun hHeld20 => ?_)
              clear hK
              (refine wpAnyH_take (i := 50) (v := ?_) rfl (by kernel_rfl) (by kernel_rfl) (by kernel_rfl) (fun _ _ _ h => h) (Or.inl ⟨by rfl, ?_⟩) (by assumption) ?_; rotate_left 1; · (intro wz hSw; (try dsimp only at hSw); go_simp; try rfl)); (try simp only [Act.put, List.getElem_toArray, List.getElem_cons_succ, List.getElem_cons_zero, List.setIfInBounds_toArray, List.set_cons_zero, List.set_cons_succ])
              (refine wpAnyH_take (i := 51) (v := ?_) rfl (by kernel_rfl) (by kernel_rfl) (by kernel_rfl) (fun _ _ _ h => h) (Or.inl ⟨by rfl, ?_⟩) (by assumption) ?_; rotate_left 1; · (intro wz hSw; (try dsimp only at hSw); go_simp; try rfl)); (try simp only [Act.put, List.getElem_toArray, List.getElem_cons_succ, List.getElem_cons_zero, List.setIfInBounds_toArray, List.set_cons_zero, List.set_cons_succ])
              refine wpAnyH_done (by kernel_rfl) ?_ _
              go_wp2_with fail
              go_roundg (len - i - 1)
              case rel => exact ⟨i + 1, by omega, by omega, by go_num, HCR.out.trans (HCC.out.trans K20.out)⟩
              case measure => omega
        | false =>
          have hil : ¬ i < len := by simpa using hd
          have hfi := rfind HPR.out nm
          cases hfn : find cs nm with
          | none =>
            have hgi : getI (find cs) nm = 0 := by unfold getI; rw [hfn]
            have hgb : getB (find cs) nm = false := by unfold getB; rw [hfn]; rfl
            rw [findZ_none hfn] at hfi
            clear hfn
            go_wp2_with fail
            refine hfi.mono ?_
            rintro e w5 ⟨rfl, hc5⟩
            have hb5 := hc5.keep _ _ HBR.out (fun h => h)
            have hix := tIndex (HTR.out.no hc5) HNM.out
            rw [hgi, hgb] at hix
            have HT5 := hid (HTR.out.no hc5)
            have HC5 := hid (HCR.out.trans hc5)
            have hna : Calls Tryd.prog 25 #[.pointer (some ⟨tb, 0, none⟩), .int .i64 (-1)] w5 fun e w' => e = .returned (.string { data := #[] }) ∧ w5 = w' := tNameNo HT5.out (by omega)
            have hsu := tSuperNo HT5.out (i := (len : Int)) (by have := HL.out; omega)
            have hfa := tFaceNo HT5.out (i := (len : Int)) (by have := HL.out; omega)
            have hri := tRightNo HT5.out (i := (-1 : Int)) (by omega)
            have s0 := cellAt hb5 0
            have s1 := cellAt hb5 1
            have s2 := cellAt hb5 2
            have s3 := cellAt hb5 3
            have s4 := cellAt hb5 4
            have s5 := cellAt hb5 5
            have s6 := cellAt hb5 6
            have s7 := cellAt hb5 7
            have s8 := cellAt hb5 8
            have s9 := cellAt hb5 9
            clear hc5 hb5 hfi
            go_wp2_with fail
            refine hix.mono ?_
            rintro e w6 ⟨rfl, rfl⟩
            clear hix
            go_wp2_with fail
            refine hna.mono ?_
            rintro e w6 ⟨rfl, rfl⟩
            clear hna
            go_wp2_with fail
            refine hsu.mono ?_
            rintro e w6 ⟨rfl, rfl⟩
            clear hsu
            go_wp2_with fail
            refine hfa.mono ?_
            rintro e w6 ⟨rfl, rfl⟩
            clear hfa
            go_wp2_with fail
            refine hri.mono ?_
            rintro e w6 ⟨rfl, rfl⟩
            clear hri
            go_wp2_with fail
            go_ret
            exact ⟨rfl, HCH.out.trans (HCX.out.trans HC5.out)⟩
          | some j =>
            have hgi : getI (find cs) nm = (j : Int) := by unfold getI; rw [hfn]
            have hgb : getB (find cs) nm = true := by unfold getB; rw [hfn]; rfl
            rw [findZ_some hfn] at hfi
            clear hfn
            go_wp2_with fail
            refine hfi.mono ?_
            rintro e w5 ⟨rfl, hc5⟩
            have hb5 := hc5.keep _ _ HBR.out (fun h => h)
            have hix := tIndex (HTR.out.no hc5) HNM.out
            rw [hgi, hgb] at hix
            have HT5 := hid (HTR.out.no hc5)
            have HC5 := hid (HCR.out.trans hc5)
            have hna : Calls Tryd.prog 25 #[.pointer (some ⟨tb, 0, none⟩), .int .i64 (-1)] w5 fun e w' => e = .returned (.string { data := #[] }) ∧ w5 = w' := tNameNo HT5.out (by omega)
            have hsu := tSuperNo HT5.out (i := (len : Int)) (by have := HL.out; omega)
            have hfa := tFaceNo HT5.out (i := (len : Int)) (by have := HL.out; omega)
            have hri := tRightNo HT5.out (i := (-1 : Int)) (by omega)
            have s0 := cellAt hb5 0
            have s1 := cellAt hb5 1
            have s2 := cellAt hb5 2
            have s3 := cellAt hb5 3
            have s4 := cellAt hb5 4
            have s5 := cellAt hb5 5
            have s6 := cellAt hb5 6
            have s7 := cellAt hb5 7
            have s8 := cellAt hb5 8
            have s9 := cellAt hb5 9
            clear hc5 hb5 hfi
            go_wp2_with fail
            refine hix.mono ?_
            rintro e w6 ⟨rfl, rfl⟩
            clear hix
            go_wp2_with fail
            refine hna.mono ?_
            rintro e w6 ⟨rfl, rfl⟩
            clear hna
            go_wp2_with fail
            refine hsu.mono ?_
            rintro e w6 ⟨rfl, rfl⟩
            clear hsu
            go_wp2_with fail
            refine hfa.mono ?_
            rintro e w6 ⟨rfl, rfl⟩
            clear hfa
            go_wp2_with fail
            refine hri.mono ?_
            rintro e w6 ⟨rfl, rfl⟩
            clear hri
            go_wp2_with fail
            go_ret
            exact ⟨rfl, HCH.out.trans (HCX.out.trans HC5.out)⟩
    · rw [hfc]
      have hfd := faultFld w3 11 l c
      have haw := awake08 (HT.out.no HC3.out)
      clear hfc
      unfold faultV
      go_wp2_with fail
      refine haw.mono ?_
      rintro e w4 ⟨rfl, hc4⟩
      go_wp2_with fail
      go_ret
      exact ⟨rfl, HCH.out.trans (HC3.out.trans hc4)⟩
end Go.Proofs.YtkffejgjpnnkmaaDoor
