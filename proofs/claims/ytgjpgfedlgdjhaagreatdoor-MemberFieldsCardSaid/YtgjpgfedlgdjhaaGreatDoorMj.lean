/- Members: whole of the reference 10. -/
import Derived.Test.YtgjpgfedlgdjhaaGreatDoorMi
import Derived.Test.YtgjpgfedlgdjhaaGreatDoorMy
set_option linter.unusedVariables false
set_option linter.unusedSimpArgs false
set_option maxRecDepth 8192
namespace Go.Proofs.YtgjpgfedlgdjhaaGreatDoor
open Go.RowKit Go.W

/-- class u asks nothing that class i has not -/
def WholeT (cs : List Cls) (ms : List Mem) (i u : Nat) : Prop := ∀ m, ms[u]? = some m → ∀ (k : Nat) (y : Mt), m.ms[k]? = some y → y.ba = true → mtK m.ms y.nm = some k → AskP cs ms i y
def WholeK (cs : List Cls) (ms : List Mem) (i : Nat) (l : List Mt) (k : Nat) : Prop := ∀ y, l[k]? = some y → y.ba = true → mtK l y.nm = some k → AskP cs ms i y

theorem mtRow_ch {w w' : World} {mb mo q : Nat} {y : Mt} (h : w.cell? ⟨mb, mo + q * 9, none⟩ = some (.string y.ret) ∧ w.cell? ⟨mb, mo + q * 9 + 1, none⟩ = some (.string y.nm) ∧ w.cell? ⟨mb, mo + q * 9 + 2, none⟩ = some (.bool y.st) ∧ w.cell? ⟨mb, mo + q * 9 + 3, none⟩ = some (.bool y.ba) ∧ w.cell? ⟨mb, mo + q * 9 + 4, none⟩ = some (.slice y.pa y.ps.length y.pc) ∧ w.cell? ⟨mb, mo + q * 9 + 5, none⟩ = some (.slice y.s5.1 y.s5.2.1 y.s5.2.2) ∧ w.cell? ⟨mb, mo + q * 9 + 6, none⟩ = some (.slice y.s6.1 y.s6.2.1 y.s6.2.2) ∧ w.cell? ⟨mb, mo + q * 9 + 7, none⟩ = some (.int .i64 y.line) ∧ w.cell? ⟨mb, mo + q * 9 + 8, none⟩ = some (.int .i64 y.col)) (hc : Ch No w w') : w'.cell? ⟨mb, mo + q * 9, none⟩ = some (.string y.ret) ∧ w'.cell? ⟨mb, mo + q * 9 + 1, none⟩ = some (.string y.nm) ∧ w'.cell? ⟨mb, mo + q * 9 + 2, none⟩ = some (.bool y.st) ∧ w'.cell? ⟨mb, mo + q * 9 + 3, none⟩ = some (.bool y.ba) ∧ w'.cell? ⟨mb, mo + q * 9 + 4, none⟩ = some (.slice y.pa y.ps.length y.pc) ∧ w'.cell? ⟨mb, mo + q * 9 + 5, none⟩ = some (.slice y.s5.1 y.s5.2.1 y.s5.2.2) ∧ w'.cell? ⟨mb, mo + q * 9 + 6, none⟩ = some (.slice y.s6.1 y.s6.2.1 y.s6.2.2) ∧ w'.cell? ⟨mb, mo + q * 9 + 7, none⟩ = some (.int .i64 y.line) ∧ w'.cell? ⟨mb, mo + q * 9 + 8, none⟩ = some (.int .i64 y.col) := by
  obtain ⟨h0, h1, h2, h3, h4, h5, h6, h7, h8⟩ := h
  have k : ∀ {a : Nat} {v : Value}, w.cell? ⟨mb, a, none⟩ = some v → w'.cell? ⟨mb, a, none⟩ = some v := fun h => cell_ch h hc (fun _ _ h => h)
  exact ⟨k h0, k h1, k h2, k h3, k h4, k h5, k h6, k h7, k h8⟩

set_option maxRecDepth 100000 in
set_option maxHeartbeats 64000000 in
theorem rwhole {w : World} {pv : Value} {cs : List Cls} {ms : List Mem} (h : ProgAt w pv cs) (hm : MemsAt w cs ms) (hS : SoundP cs) (hno : NoRing cs) (hsm : SmallP cs) (hfp : FewPs ms) {i : Nat} (hi : i < cs.length) :
    Calls Tryz.prog 41 #[pv, .int .i64 i] w fun e w' => BoolIf (WholeP cs ms i) e ∧ Ch No w w' := by
  have HM0 := hid hm
  have HS := hid hS
  have HNO := hid hno
  have HSM := hid hsm
  have HFP := hid hfp
  have HLN := hid hm.len
  have HI := hid hi
  have HUM := hid (fun j => (upsAll_mem (j := j) hi))
  have HUL := hid (upsAll_len cs i)
  clear hm hS hno hsm hfp
  have hp := h
  obtain ⟨cv, m0, m1, m2, m3, m4, m5, m6, m7, m8, rfl, h⟩ := h
  obtain ⟨ao, cap, rfl, hcap, hmax, _, _⟩ := h.row
  rw [List.length_map] at hcap h hp ⊢
  obtain ⟨len, hlen⟩ : ∃ len, cs.length = len := ⟨_, rfl⟩
  rw [hlen] at hcap h hp ⊢
  unfold maxLen at hmax
  obtain ⟨wa, hwa⟩ : ∃ wa, w.alloc (.cells #[.slice ao len cap, m0, m1, m2, m3, m4, m5, m6, m7, m8] 31) = wa := ⟨_, rfl⟩
  have hpb := heap_alloc_new w (.cells #[.slice ao len cap, m0, m1, m2, m3, m4, m5, m6, m7, m8] 31)
  have hch := (Ch.refl No w).alloc (.cells #[.slice ao len cap, m0, m1, m2, m3, m4, m5, m6, m7, m8] 31)
  rw [hwa] at hch hpb
  have HL := hid hlen
  have HP := hid (hp.no hch)
  have HC := hid (h.no hch)
  have HPB := hid hpb
  have HCH := hid hch
  have p0 := cellAt hpb 0
  have p1 := cellAt hpb 1
  have p2 := cellAt hpb 2
  have p3 := cellAt hpb 3
  have p4 := cellAt hpb 4
  have p5 := cellAt hpb 5
  have p6 := cellAt hpb 6
  have p7 := cellAt hpb 7
  have p8 := cellAt hpb 8
  have p9 := cellAt hpb 9
  have hz := lt_size hpb
  clear hlen h hp hpb hch
  have HM := hid (HM0.out.no HCH.out)
  have hl20 : len ≤ 20 := by have := HSM.out.1; have := HL.out; omega
  have hab := rabove (is := [(i : Int)]) (HP.out.no ((Ch.refl No wa).alloc (.cells #[.int .i64 i] 3))) HS.out HSM.out (one_at wa (i : Int))
  rw [upsAll_map] at hab
  go_enter Tryz.func41, Tryz.ntmps41
  go_wp2_with fail
  refine hab.mono ?_
  rintro e w1 ⟨u, rfl, hu, hc1⟩
  have HU := hid hu.at_
  obtain ⟨ua, ucap, rfl, hucap, humax, _, _⟩ := hu.at_
  obtain ⟨n, hn⟩ : ∃ n, (upsAll cs i).length = n := ⟨_, rfl⟩
  have hul := HU.out
  rw [List.length_map, hn] at hucap hul
  rw [List.length_map, hn]
  unfold maxLen at humax
  have HUS := hid hul
  have HN := hid hn
  have HC1 := hid (((Ch.refl No wa).alloc (.cells #[.int .i64 i] 3)).trans hc1)
  have hno : n ≤ 9223372036854775807 := by omega
  clear hwa hab hu hc1 hn hul HU
  go_wp2_with fail
  clear p0 p1 p2 p3 p4 p5 p6 p7 p8 p9
  go_loopg [6, 7, 8, 9, 10, 11] n (fun g s6 s7 s8 s9 s10 s11 wr => ∃ k : Nat, k ≤ n ∧ n - k ≤ g ∧ s6 = .int .i64 k ∧ Hid (∀ u ∈ (upsAll cs i).take k, WholeT cs ms i u) ∧ Ch No w1 wr)
  case atStart => exact ⟨0, Nat.zero_le _, by omega, rfl, hid (by simp), Ch.refl _ _⟩
  case round =>
    obtain ⟨k, hk, hg, rfl, HA, hcr⟩ := hrel
    obtain ⟨w2, hw2⟩ : ∃ w2, w2 = wr := ⟨_, rfl⟩
    subst hw2
    have HCR := hid hcr
    have HCW := hid (HC1.out.trans hcr)
    have HB2 := hid (HCW.out.keep _ _ HPB.out (fun h => h))
    clear hcr
    cases hd : decide (k < n) with
    | false =>
      have hkl : ¬ k < n := by simpa using hd
      go_wp2_with fail
      go_ret
      have ha := HA.out
      rw [List.take_of_length_le (by have := HN.out; omega)] at ha
      refine ⟨BoolIf.t (fun u hu m hm kk y h1 h2 h3 => ha u ((HUM.out u).2 ⟨?_, hu⟩) m hm kk y h1 h2 h3), HCH.out.trans HCW.out⟩
      have := (List.getElem?_eq_some_iff.1 hm).1
      have := HLN.out
      omega
    | true =>
      have hkl : k < n := by simpa using hd
      obtain ⟨j, hj⟩ : ∃ j, (upsAll cs i)[k]? = some j := ⟨_, List.getElem?_eq_getElem (by have := HN.out; omega)⟩
      obtain ⟨ub, uo, eua, hucell⟩ := (HUS.out.no HCR.out).cellI (k := k) (by rw [List.getElem?_map, hj]; rfl)
      subst eua
      have hjl := ((HUM.out j).1 (List.mem_of_getElem? hj)).1
      have hjn : j < len := by have := HL.out; omega
      obtain ⟨cj, hcj⟩ : ∃ c, cs[j]? = some c := ⟨_, List.getElem?_eq_getElem hjl⟩
      obtain ⟨mj, hmj, hmaj⟩ := (HM.out.no HCW.out).get hcj
      obtain ⟨b, off, cap', e, hcell, _, _⟩ := (HC.out.no HCW.out).cell hcj
      rw [HL.out] at e
      cases e
      have q6 := hcell.q6
      have p0 := cellAt HB2.out 0
      obtain ⟨a6, mn, mc, hs6⟩ : ∃ ma mn mc, cj.s6 = (ma, mn, mc) := ⟨_, _, _, rfl⟩
      have hmts := hmaj.ms
      rw [hs6] at q6 hmts
      dsimp only at hmts q6
      obtain ⟨hmn, hmc, hmm⟩ := hmts.shape
      unfold maxLen at hmm
      have hmx : mn ≤ mc := by have h1 : mn = mj.ms.length := hmn; have h2 : mj.ms.length ≤ mc := hmc; omega
      have HMN := hid (show mn = mj.ms.length from hmn)
      have HMT := hid hmts
      have HJ := hid hj
      have HCJ := hid hcj
      have HMJ := hid hmj
      have HUC := hid hucell
      clear hj hjl hcj hmj hmaj hcell hs6 hmn hmc hmts
      go_wp2_with fail
      go_quiet (fail)
      go_wp2_with fail
      clear p0 q6 hucell
      go_loopg [8, 9, 10, 11] mn (fun g s8 s9 s10 s11 wr => ∃ q : Nat, q ≤ mn ∧ mn - q ≤ g ∧ s8 = .int .i64 q ∧ Hid (∀ t, t < q → WholeK cs ms i mj.ms t) ∧ Ch No w2 wr)
      case atStart => exact ⟨0, Nat.zero_le _, by omega, rfl, hid (fun t ht => absurd ht (Nat.not_lt_zero t)), (by first | exact (Ch.refl No _).drew | exact (Ch.refl No _).drewN _ | exact Ch.refl No _)⟩
      case round =>
        obtain ⟨q, hq, hgq, rfl, HQ, hc3⟩ := hrel
        obtain ⟨w3, hw3⟩ : ∃ w3, w3 = wr := ⟨_, rfl⟩
        subst hw3
        have HC3 := hid hc3
        have HCW3 := hid (HCW.out.trans hc3)
        have HB3 := hid (HCW3.out.keep _ _ HPB.out (fun h => h))
        have HP3 := hid (HP.out.no HCW3.out)
        have HM3 := hid (HM.out.no HCW3.out)
        clear hc3
        cases hdq : decide (q < mn) with
        | false =>
          have hql : ¬ q < mn := by simpa using hdq
          go_wp2_with fail
          go_roundg (n - k - 1)
          case rel =>
            refine ⟨k + 1, by omega, by omega, by go_num, hid fun u hu => ?_, HCR.out.trans HC3.out⟩
            rw [List.take_add_one, HJ.out] at hu
            rcases List.mem_append.1 hu with hu | hu
            · exact HA.out u hu
            · simp at hu; subst hu
              intro m' hm' t y h1 h2 h3
              rw [HMJ.out] at hm'; cases hm'
              exact HQ.out t (by have := (List.getElem?_eq_some_iff.1 h1).1; have := HMN.out; omega) y h1 h2 h3
          case measure => omega
        | true =>
          have hql : q < mn := by simpa using hdq
          obtain ⟨y, hy⟩ : ∃ y, mj.ms[q]? = some y := ⟨_, List.getElem?_eq_getElem (by have := HMN.out; omega)⟩
          obtain ⟨mb, mo, hma, hyc⟩ := (HMT.out.no HC3.out).cell hy
          have hyc9 := hyc.all
          have HYC := hid hyc9
          have huc := cell_ch HUC.out HC3.out (fun _ _ h => h)
          have HUC3 := hid huc
          subst hma
          obtain ⟨yb, hyb⟩ : ∃ yb, y.ba = yb := ⟨_, rfl⟩
          have HYB := hid hyb
          have hyc3 := hyc.q3
          rw [hyb] at hyc3
          have HY := hid hy
          have hpl := HFP.out mj (List.mem_of_getElem? HMJ.out) y (List.mem_of_getElem? hy)
          clear hy hyc hyc9 hyb
          have hok : ∀ t, t < q → WholeK cs ms i mj.ms t := HQ.out
          cases yb with
          | false =>
            go_wp2_with fail
            go_quiet (fail)
            go_wp2_with fail
            go_roundg (mn - q - 1)
            case rel =>
              refine ⟨q + 1, by omega, by omega, by go_num, hid fun t ht => ?_, HC3.out.trans (by first | exact (Ch.refl No _).drew | exact (Ch.refl No _).drewN _ | exact Ch.refl No _)⟩
              by_cases h1 : t < q
              · exact HQ.out t h1
              · obtain rfl : t = q := by omega
                intro y' hy' hb
                rw [HY.out] at hy'; cases hy'
                rw [HYB.out] at hb; cases hb
            case measure => omega
          | true =>
            have hown := rown (HP3.out.no ((Ch.refl No w3).drew)) (HM3.out.no ((Ch.refl No w3).drew)) HCJ.out HMJ.out y.nm
            have HSx := hid (show w3.cell? ⟨ub, uo + k, none⟩ = some (.int .i64 j) ∧ w3.cell? ⟨mb, mo + q * 9 + 1, none⟩ = some (.string y.nm) ∧ w3.cell? ⟨mb, mo + q * 9 + 3, none⟩ = some (.bool true) ∧ w3.cell? ⟨w.heap.size, 0, none⟩ = some (.slice (some ⟨b, off, none⟩) len cap) ∧ w3.cell? ⟨w.heap.size, 1, none⟩ = some m0 ∧ w3.cell? ⟨w.heap.size, 2, none⟩ = some m1 ∧ w3.cell? ⟨w.heap.size, 3, none⟩ = some m2 ∧ w3.cell? ⟨w.heap.size, 4, none⟩ = some m3 ∧ w3.cell? ⟨w.heap.size, 5, none⟩ = some m4 ∧ w3.cell? ⟨w.heap.size, 6, none⟩ = some m5 ∧ w3.cell? ⟨w.heap.size, 7, none⟩ = some m6 ∧ w3.cell? ⟨w.heap.size, 8, none⟩ = some m7 ∧ w3.cell? ⟨w.heap.size, 9, none⟩ = some m8 from ⟨huc, HYC.out.2.1, hyc3, progCells9 HB3.out⟩)
            clear hok
            by_cases hf : mtK mj.ms y.nm = some q
            · rw [hf, show optZ (some q) = (q : Int) from rfl] at hown
              have HF := hid hf
              clear hf
              go_wp2_with fail
              refine wp_region_held_drew (S := fun w' => w'.cell? ⟨ub, uo + k, none⟩ = some (.int .i64 j) ∧ w'.cell? ⟨mb, mo + q * 9 + 1, none⟩ = some (.string y.nm) ∧ w'.cell? ⟨mb, mo + q * 9 + 3, none⟩ = some (.bool true) ∧ w'.cell? ⟨w.heap.size, 0, none⟩ = some (.slice (some ⟨b, off, none⟩) len cap) ∧ w'.cell? ⟨w.heap.size, 1, none⟩ = some m0 ∧ w'.cell? ⟨w.heap.size, 2, none⟩ = some m1 ∧ w'.cell? ⟨w.heap.size, 3, none⟩ = some m2 ∧ w'.cell? ⟨w.heap.size, 4, none⟩ = some m3 ∧ w'.cell? ⟨w.heap.size, 5, none⟩ = some m4 ∧ w'.cell? ⟨w.heap.size, 6, none⟩ = some m5 ∧ w'.cell? ⟨w.heap.size, 7, none⟩ = some m6 ∧ w'.cell? ⟨w.heap.size, 8, none⟩ = some m7 ∧ w'.cell? ⟨w.heap.size, 9, none⟩ = some m8) (by kernel_rfl) HSx.out (fun hHeld => ?_)
              (refine wpAnyH_take (i := 0) (v := ?_) rfl (by kernel_rfl) (by kernel_rfl) (by kernel_rfl) (fun _ _ _ h => h) (Or.inl ⟨by rfl, ?_⟩) (by assumption) ?_; rotate_left 1; · (intro wz hSw; (try dsimp only at hSw); go_simp; try rfl)); (try simp only [Act.put, List.getElem_toArray, List.getElem_cons_succ, List.getElem_cons_zero, List.setIfInBounds_toArray, List.set_cons_zero, List.set_cons_succ])
              (refine wpAnyH_take (i := 1) (v := ?_) rfl (by kernel_rfl) (by kernel_rfl) (by kernel_rfl) (fun _ _ _ h => h) (Or.inl ⟨by rfl, ?_⟩) (by assumption) ?_; rotate_left 1; · (intro wz hSw; (try dsimp only at hSw); go_simp; try rfl)); (try simp only [Act.put, List.getElem_toArray, List.getElem_cons_succ, List.getElem_cons_zero, List.setIfInBounds_toArray, List.set_cons_zero, List.set_cons_succ])
              (refine wpAnyH_take (i := 2) (v := ?_) rfl (by kernel_rfl) (by kernel_rfl) (by kernel_rfl) (fun _ _ _ h => h) (Or.inl ⟨by rfl, ?_⟩) (by assumption) ?_; rotate_left 1; · (intro wz hSw; (try dsimp only at hSw); go_simp; try rfl)); (try simp only [Act.put, List.getElem_toArray, List.getElem_cons_succ, List.getElem_cons_zero, List.setIfInBounds_toArray, List.set_cons_zero, List.set_cons_succ])
              (refine wpAnyH_take (i := 3) (v := ?_) rfl (by kernel_rfl) (by kernel_rfl) (by kernel_rfl) (fun _ _ _ h => h) (Or.inl ⟨by rfl, ?_⟩) (by assumption) ?_; rotate_left 1; · (intro wz hSw; (try dsimp only at hSw); go_simp; try rfl)); (try simp only [Act.put, List.getElem_toArray, List.getElem_cons_succ, List.getElem_cons_zero, List.setIfInBounds_toArray, List.set_cons_zero, List.set_cons_succ])
              (refine wpAnyH_take (i := 4) (v := ?_) rfl (by kernel_rfl) (by kernel_rfl) (by kernel_rfl) (fun _ _ _ h => h) (Or.inl ⟨by rfl, ?_⟩) (by assumption) ?_; rotate_left 1; · (intro wz hSw; (try dsimp only at hSw); go_simp; try rfl)); (try simp only [Act.put, List.getElem_toArray, List.getElem_cons_succ, List.getElem_cons_zero, List.setIfInBounds_toArray, List.set_cons_zero, List.set_cons_succ])
              (refine wpAnyH_take (i := 5) (v := ?_) rfl (by kernel_rfl) (by kernel_rfl) (by kernel_rfl) (fun _ _ _ h => h) (Or.inl ⟨by rfl, ?_⟩) (by assumption) ?_; rotate_left 1; · (intro wz hSw; (try dsimp only at hSw); go_simp; try rfl)); (try simp only [Act.put, List.getElem_toArray, List.getElem_cons_succ, List.getElem_cons_zero, List.setIfInBounds_toArray, List.set_cons_zero, List.set_cons_succ])
              (refine wpAnyH_take (i := 6) (v := ?_) rfl (by kernel_rfl) (by kernel_rfl) (by kernel_rfl) (fun _ _ _ h => h) (Or.inl ⟨by rfl, ?_⟩) (by assumption) ?_; rotate_left 1; · (intro wz hSw; (try dsimp only at hSw); go_simp; try rfl)); (try simp only [Act.put, List.getElem_toArray, List.getElem_cons_succ, List.getElem_cons_zero, List.setIfInBounds_toArray, List.set_cons_zero, List.set_cons_succ])
              (refine wpAnyH_take (i := 7) (v := ?_) rfl (by kernel_rfl) (by kernel_rfl) (by kernel_rfl) (fun _ _ _ h => h) (Or.inl ⟨by rfl, ?_⟩) (by assumption) ?_; rotate_left 1; · (intro wz hSw; (try dsimp only at hSw); go_simp; try rfl)); (try simp only [Act.put, List.getElem_toArray, List.getElem_cons_succ, List.getElem_cons_zero, List.setIfInBounds_toArray, List.set_cons_zero, List.set_cons_succ])
              (refine wpAnyH_take (i := 8) (v := ?_) rfl (by kernel_rfl) (by kernel_rfl) (by kernel_rfl) (fun _ _ _ h => h) (Or.inl ⟨by rfl, ?_⟩) (by assumption) ?_; rotate_left 1; · (intro wz hSw; (try dsimp only at hSw); go_simp; try rfl)); (try simp only [Act.put, List.getElem_toArray, List.getElem_cons_succ, List.getElem_cons_zero, List.setIfInBounds_toArray, List.set_cons_zero, List.set_cons_succ])
              (refine wpAnyH_take (i := 9) (v := ?_) rfl (by kernel_rfl) (by kernel_rfl) (by kernel_rfl) (fun _ _ _ h => h) (Or.inl ⟨by rfl, ?_⟩) (by assumption) ?_; rotate_left 1; · (intro wz hSw; (try dsimp only at hSw); go_simp; try rfl)); (try simp only [Act.put, List.getElem_toArray, List.getElem_cons_succ, List.getElem_cons_zero, List.setIfInBounds_toArray, List.set_cons_zero, List.set_cons_succ])
              (refine wpAnyH_take (i := 10) (v := ?_) rfl (by kernel_rfl) (by kernel_rfl) (by kernel_rfl) (fun _ _ _ h => h) (Or.inl ⟨by rfl, ?_⟩) (by assumption) ?_; rotate_left 1; · (intro wz hSw; (try dsimp only at hSw); go_simp; try rfl)); (try simp only [Act.put, List.getElem_toArray, List.getElem_cons_succ, List.getElem_cons_zero, List.setIfInBounds_toArray, List.set_cons_zero, List.set_cons_succ])
              (refine wpAnyH_take (i := 11) (v := ?_) rfl (by kernel_rfl) (by kernel_rfl) (by kernel_rfl) (fun _ _ _ h => h) (Or.inl ⟨by rfl, ?_⟩) (by assumption) ?_; rotate_left 1; · (intro wz hSw; (try dsimp only at hSw); go_simp; try rfl)); (try simp only [Act.put, List.getElem_toArray, List.getElem_cons_succ, List.getElem_cons_zero, List.setIfInBounds_toArray, List.set_cons_zero, List.set_cons_succ])
              (refine wpAnyH_take (i := 12) (v := ?_) rfl (by kernel_rfl) (by kernel_rfl) (by kernel_rfl) (fun _ _ _ h => h) (Or.inl ⟨by rfl, ?_⟩) (by assumption) ?_; rotate_left 1; · (intro wz hSw; (try dsimp only at hSw); go_simp; try rfl)); (try simp only [Act.put, List.getElem_toArray, List.getElem_cons_succ, List.getElem_cons_zero, List.setIfInBounds_toArray, List.set_cons_zero, List.set_cons_succ])
              (refine wpAnyH_take (i := 13) (v := ?_) rfl (by kernel_rfl) (by kernel_rfl) (by kernel_rfl) (fun _ _ _ h => h) (Or.inl ⟨by rfl, ?_⟩) (by assumption) ?_; rotate_left 1; · (intro wz hSw; (try dsimp only at hSw); go_simp; try rfl)); (try simp only [Act.put, List.getElem_toArray, List.getElem_cons_succ, List.getElem_cons_zero, List.setIfInBounds_toArray, List.set_cons_zero, List.set_cons_succ])
              (refine wpAnyH_take (i := 14) (v := ?_) rfl (by kernel_rfl) (by kernel_rfl) (by kernel_rfl) (fun _ _ _ h => h) (Or.inl ⟨by rfl, ?_⟩) (by assumption) ?_; rotate_left 1; · (intro wz hSw; (try dsimp only at hSw); go_simp; try rfl)); (try simp only [Act.put, List.getElem_toArray, List.getElem_cons_succ, List.getElem_cons_zero, List.setIfInBounds_toArray, List.set_cons_zero, List.set_cons_succ])
              (refine wpAnyH_take (i := 15) (v := ?_) rfl (by kernel_rfl) (by kernel_rfl) (by kernel_rfl) (fun _ _ _ h => h) (Or.inl ⟨by rfl, ?_⟩) (by assumption) ?_; rotate_left 1; · (intro wz hSw; (try dsimp only at hSw); go_simp; try rfl)); (try simp only [Act.put, List.getElem_toArray, List.getElem_cons_succ, List.getElem_cons_zero, List.setIfInBounds_toArray, List.set_cons_zero, List.set_cons_succ])
              (refine wpAnyH_take (i := 16) (v := ?_) rfl (by kernel_rfl) (by kernel_rfl) (by kernel_rfl) (fun _ _ _ h => h) (Or.inl ⟨by rfl, ?_⟩) (by assumption) ?_; rotate_left 1; · (intro wz hSw; (try dsimp only at hSw); go_simp; try rfl)); (try simp only [Act.put, List.getElem_toArray, List.getElem_cons_succ, List.getElem_cons_zero, List.setIfInBounds_toArray, List.set_cons_zero, List.set_cons_succ])
              (refine wpAnyH_take (i := 18) (v := ?_) rfl (by kernel_rfl) (by kernel_rfl) (by kernel_rfl) (fun _ _ _ h => h) (Or.inl ⟨by rfl, ?_⟩) (by assumption) ?_; rotate_left 1; · (intro wz hSw; (try dsimp only at hSw); go_simp; try rfl)); (try simp only [Act.put, List.getElem_toArray, List.getElem_cons_succ, List.getElem_cons_zero, List.setIfInBounds_toArray, List.set_cons_zero, List.set_cons_succ])
              refine wpAnyH_ready (rs := [17]) (by kernel_rfl) (by simp) (AllReadyH.cons rfl (fun K hK => ?_) AllReadyH.nil)
              go_simp
              go_at_call 67
              refine (hown).mono ?_
              rintro e w5 ⟨rfl, hc5⟩
              have K5 := hid (((Ch.refl No w3).drew).trans hc5)
              clear hc5
              go_simp
              have HS5 := hid (show w5.cell? ⟨ub, uo + k, none⟩ = some (.int .i64 j) ∧ w5.cell? ⟨mb, mo + q * 9 + 1, none⟩ = some (.string y.nm) ∧ w5.cell? ⟨mb, mo + q * 9 + 3, none⟩ = some (.bool true) ∧ w5.cell? ⟨w.heap.size, 0, none⟩ = some (.slice (some ⟨b, off, none⟩) len cap) ∧ w5.cell? ⟨w.heap.size, 1, none⟩ = some m0 ∧ w5.cell? ⟨w.heap.size, 2, none⟩ = some m1 ∧ w5.cell? ⟨w.heap.size, 3, none⟩ = some m2 ∧ w5.cell? ⟨w.heap.size, 4, none⟩ = some m3 ∧ w5.cell? ⟨w.heap.size, 5, none⟩ = some m4 ∧ w5.cell? ⟨w.heap.size, 6, none⟩ = some m5 ∧ w5.cell? ⟨w.heap.size, 7, none⟩ = some m6 ∧ w5.cell? ⟨w.heap.size, 8, none⟩ = some m7 ∧ w5.cell? ⟨w.heap.size, 9, none⟩ = some m8 from ⟨cell_ch HSx.out.1 K5.out (fun _ _ h => h), cell_ch HSx.out.2.1 K5.out (fun _ _ h => h), cell_ch HSx.out.2.2.1 K5.out (fun _ _ h => h), cell_ch HSx.out.2.2.2.1 K5.out (fun _ _ h => h), cell_ch HSx.out.2.2.2.2.1 K5.out (fun _ _ h => h), cell_ch HSx.out.2.2.2.2.2.1 K5.out (fun _ _ h => h), cell_ch HSx.out.2.2.2.2.2.2.1 K5.out (fun _ _ h => h), cell_ch HSx.out.2.2.2.2.2.2.2.1 K5.out (fun _ _ h => h), cell_ch HSx.out.2.2.2.2.2.2.2.2.1 K5.out (fun _ _ h => h), cell_ch HSx.out.2.2.2.2.2.2.2.2.2.1 K5.out (fun _ _ h => h), cell_ch HSx.out.2.2.2.2.2.2.2.2.2.2.1 K5.out (fun _ _ h => h), cell_ch HSx.out.2.2.2.2.2.2.2.2.2.2.2.1 K5.out (fun _ _ h => h), cell_ch HSx.out.2.2.2.2.2.2.2.2.2.2.2.2 K5.out (fun _ _ h => h)⟩)
              refine hK.out _ _ HS5.out (fun hHeld5 => ?_)
              clear hK
              (refine wpAnyH_take (i := 19) (v := ?_) rfl (by kernel_rfl) (by kernel_rfl) (by kernel_rfl) (fun _ _ _ h => h) (Or.inl ⟨by rfl, ?_⟩) (by assumption) ?_; rotate_left 1; · (intro wz hSw; (try dsimp only at hSw); go_simp; try rfl)); (try simp only [Act.put, List.getElem_toArray, List.getElem_cons_succ, List.getElem_cons_zero, List.setIfInBounds_toArray, List.set_cons_zero, List.set_cons_succ])
              (refine wpAnyH_take (i := 20) (v := ?_) rfl (by kernel_rfl) (by kernel_rfl) (by kernel_rfl) (fun _ _ _ h => h) (Or.inl ⟨by rfl, ?_⟩) (by assumption) ?_; rotate_left 1; · (intro wz hSw; (try dsimp only at hSw); go_simp; try rfl)); (try simp only [Act.put, List.getElem_toArray, List.getElem_cons_succ, List.getElem_cons_zero, List.setIfInBounds_toArray, List.set_cons_zero, List.set_cons_succ])
              refine wpAnyH_done (by kernel_rfl) ?_ _
              clear huc hyc3
              have HB5 := hid (K5.out.keep _ _ HB3.out (fun h => h))
              have HP5 := hid (HP3.out.no K5.out)
              have HM5 := hid (HM3.out.no K5.out)
              have ny5 := cell_ch HYC.out.2.1 K5.out (fun _ _ h => h)
              have HSy := hid (show w5.cell? ⟨mb, mo + q * 9 + 1, none⟩ = some (.string y.nm) ∧ w5.cell? ⟨w.heap.size, 0, none⟩ = some (.slice (some ⟨b, off, none⟩) len cap) ∧ w5.cell? ⟨w.heap.size, 1, none⟩ = some m0 ∧ w5.cell? ⟨w.heap.size, 2, none⟩ = some m1 ∧ w5.cell? ⟨w.heap.size, 3, none⟩ = some m2 ∧ w5.cell? ⟨w.heap.size, 4, none⟩ = some m3 ∧ w5.cell? ⟨w.heap.size, 5, none⟩ = some m4 ∧ w5.cell? ⟨w.heap.size, 6, none⟩ = some m5 ∧ w5.cell? ⟨w.heap.size, 7, none⟩ = some m6 ∧ w5.cell? ⟨w.heap.size, 8, none⟩ = some m7 ∧ w5.cell? ⟨w.heap.size, 9, none⟩ = some m8 from ⟨ny5, progCells9 HB5.out⟩)
              have hme := rmeth (cs := cs) (ms := ms) HS.out HNO.out y.nm (rankN cs i) (i : Int) (some i) (HP5.out.no ((Ch.refl No w5).drew)) (HM5.out.no ((Ch.refl No w5).drew)) (AtZ.some HI.out) (fun i' e => by cases e; exact Nat.le_refl _)
              rw [show methO cs ms y.nm (some i) = methN cs ms y.nm i from rfl] at hme
              cases hr : methN cs ms y.nm i with
              | none =>
                rw [hr, show methV none = .tuple #[.int .i64 (-1), .int .i64 (-1)] from rfl] at hme
                clear hr
                go_wp2_with fail
                have HSd := hid (show w5.drew.cell? ⟨mb, mo + q * 9 + 1, none⟩ = some (.string y.nm) ∧ w5.drew.cell? ⟨w.heap.size, 0, none⟩ = some (.slice (some ⟨b, off, none⟩) len cap) ∧ w5.drew.cell? ⟨w.heap.size, 1, none⟩ = some m0 ∧ w5.drew.cell? ⟨w.heap.size, 2, none⟩ = some m1 ∧ w5.drew.cell? ⟨w.heap.size, 3, none⟩ = some m2 ∧ w5.drew.cell? ⟨w.heap.size, 4, none⟩ = some m3 ∧ w5.drew.cell? ⟨w.heap.size, 5, none⟩ = some m4 ∧ w5.drew.cell? ⟨w.heap.size, 6, none⟩ = some m5 ∧ w5.drew.cell? ⟨w.heap.size, 7, none⟩ = some m6 ∧ w5.drew.cell? ⟨w.heap.size, 8, none⟩ = some m7 ∧ w5.drew.cell? ⟨w.heap.size, 9, none⟩ = some m8 from HSy.out)
                go_region_held3 (fun w' => w'.cell? ⟨mb, mo + q * 9 + 1, none⟩ = some (.string y.nm) ∧ w'.cell? ⟨w.heap.size, 0, none⟩ = some (.slice (some ⟨b, off, none⟩) len cap) ∧ w'.cell? ⟨w.heap.size, 1, none⟩ = some m0 ∧ w'.cell? ⟨w.heap.size, 2, none⟩ = some m1 ∧ w'.cell? ⟨w.heap.size, 3, none⟩ = some m2 ∧ w'.cell? ⟨w.heap.size, 4, none⟩ = some m3 ∧ w'.cell? ⟨w.heap.size, 5, none⟩ = some m4 ∧ w'.cell? ⟨w.heap.size, 6, none⟩ = some m5 ∧ w'.cell? ⟨w.heap.size, 7, none⟩ = some m6 ∧ w'.cell? ⟨w.heap.size, 8, none⟩ = some m7 ∧ w'.cell? ⟨w.heap.size, 9, none⟩ = some m8) (first | with_reducible exact HSy.out | with_reducible exact HSd.out | with_reducible exact HS6.out | go_keep) (first | (go_at_call 70; refine (hme).mono ?_; rintro e w6 ⟨rfl, hc6⟩; have K6 := hid (((Ch.refl No w5).drew).trans hc6); have HS6 := hid (show w6.cell? ⟨mb, mo + q * 9 + 1, none⟩ = some (.string y.nm) ∧ w6.cell? ⟨w.heap.size, 0, none⟩ = some (.slice (some ⟨b, off, none⟩) len cap) ∧ w6.cell? ⟨w.heap.size, 1, none⟩ = some m0 ∧ w6.cell? ⟨w.heap.size, 2, none⟩ = some m1 ∧ w6.cell? ⟨w.heap.size, 3, none⟩ = some m2 ∧ w6.cell? ⟨w.heap.size, 4, none⟩ = some m3 ∧ w6.cell? ⟨w.heap.size, 5, none⟩ = some m4 ∧ w6.cell? ⟨w.heap.size, 6, none⟩ = some m5 ∧ w6.cell? ⟨w.heap.size, 7, none⟩ = some m6 ∧ w6.cell? ⟨w.heap.size, 8, none⟩ = some m7 ∧ w6.cell? ⟨w.heap.size, 9, none⟩ = some m8 from ⟨cell_ch HSy.out.1 K6.out (fun _ _ h => h), cell_ch HSy.out.2.1 K6.out (fun _ _ h => h), cell_ch HSy.out.2.2.1 K6.out (fun _ _ h => h), cell_ch HSy.out.2.2.2.1 K6.out (fun _ _ h => h), cell_ch HSy.out.2.2.2.2.1 K6.out (fun _ _ h => h), cell_ch HSy.out.2.2.2.2.2.1 K6.out (fun _ _ h => h), cell_ch HSy.out.2.2.2.2.2.2.1 K6.out (fun _ _ h => h), cell_ch HSy.out.2.2.2.2.2.2.2.1 K6.out (fun _ _ h => h), cell_ch HSy.out.2.2.2.2.2.2.2.2.1 K6.out (fun _ _ h => h), cell_ch HSy.out.2.2.2.2.2.2.2.2.2.1 K6.out (fun _ _ h => h), cell_ch HSy.out.2.2.2.2.2.2.2.2.2.2 K6.out (fun _ _ h => h)⟩); clear hc6; clear hme))
                go_wp2_with fail
                go_ret
                exact ⟨BoolIf.f, HCH.out.trans (HCW3.out.trans (K5.out.trans K6.out))⟩
              | some r =>
                obtain ⟨c', q'⟩ := r
                rw [hr, show methV (some (c', q')) = .tuple #[.int .i64 (c' : Int), .int .i64 (q' : Int)] from rfl] at hme
                obtain ⟨xm, hxm⟩ := methM_mem (cs := cs) (ms := ms) HNO.out (nm := y.nm) (rankN cs i) i (Nat.le_refl _) (c', q') hr
                have HR := hid hr
                obtain ⟨m', hm', x, hx⟩ : ∃ m', ms[c']? = some m' ∧ ∃ x, m'.ms[q']? = some x := by
                  unfold mbOf at hxm
                  cases h1 : ms[c']? with
                  | none => simp [h1] at hxm
                  | some m' =>
                    cases h2 : m'.ms[q']? with
                    | none => simp [h1, h2] at hxm
                    | some x => exact ⟨m', rfl, x, h2⟩
                have hcl : c' < cs.length := by have := (List.getElem?_eq_some_iff.1 hm').1; have := HLN.out; omega
                obtain ⟨cx, hcx⟩ : ∃ c, cs[c']? = some c := ⟨_, List.getElem?_eq_getElem hcl⟩
                have hcn : c' < len := by have := HL.out; omega
                have HX := hid hx
                have HM' := hid hm'
                have HCX := hid hcx
                clear hr hxm hm' hx hcx hcl
                go_wp2_with fail
                have HSd := hid (show w5.drew.cell? ⟨mb, mo + q * 9 + 1, none⟩ = some (.string y.nm) ∧ w5.drew.cell? ⟨w.heap.size, 0, none⟩ = some (.slice (some ⟨b, off, none⟩) len cap) ∧ w5.drew.cell? ⟨w.heap.size, 1, none⟩ = some m0 ∧ w5.drew.cell? ⟨w.heap.size, 2, none⟩ = some m1 ∧ w5.drew.cell? ⟨w.heap.size, 3, none⟩ = some m2 ∧ w5.drew.cell? ⟨w.heap.size, 4, none⟩ = some m3 ∧ w5.drew.cell? ⟨w.heap.size, 5, none⟩ = some m4 ∧ w5.drew.cell? ⟨w.heap.size, 6, none⟩ = some m5 ∧ w5.drew.cell? ⟨w.heap.size, 7, none⟩ = some m6 ∧ w5.drew.cell? ⟨w.heap.size, 8, none⟩ = some m7 ∧ w5.drew.cell? ⟨w.heap.size, 9, none⟩ = some m8 from HSy.out)
                go_region_held3 (fun w' => w'.cell? ⟨mb, mo + q * 9 + 1, none⟩ = some (.string y.nm) ∧ w'.cell? ⟨w.heap.size, 0, none⟩ = some (.slice (some ⟨b, off, none⟩) len cap) ∧ w'.cell? ⟨w.heap.size, 1, none⟩ = some m0 ∧ w'.cell? ⟨w.heap.size, 2, none⟩ = some m1 ∧ w'.cell? ⟨w.heap.size, 3, none⟩ = some m2 ∧ w'.cell? ⟨w.heap.size, 4, none⟩ = some m3 ∧ w'.cell? ⟨w.heap.size, 5, none⟩ = some m4 ∧ w'.cell? ⟨w.heap.size, 6, none⟩ = some m5 ∧ w'.cell? ⟨w.heap.size, 7, none⟩ = some m6 ∧ w'.cell? ⟨w.heap.size, 8, none⟩ = some m7 ∧ w'.cell? ⟨w.heap.size, 9, none⟩ = some m8) (first | with_reducible exact HSy.out | with_reducible exact HSd.out | with_reducible exact HS6.out | go_keep) (first | (go_at_call 70; refine (hme).mono ?_; rintro e w6 ⟨rfl, hc6⟩; have K6 := hid (((Ch.refl No w5).drew).trans hc6); have HS6 := hid (show w6.cell? ⟨mb, mo + q * 9 + 1, none⟩ = some (.string y.nm) ∧ w6.cell? ⟨w.heap.size, 0, none⟩ = some (.slice (some ⟨b, off, none⟩) len cap) ∧ w6.cell? ⟨w.heap.size, 1, none⟩ = some m0 ∧ w6.cell? ⟨w.heap.size, 2, none⟩ = some m1 ∧ w6.cell? ⟨w.heap.size, 3, none⟩ = some m2 ∧ w6.cell? ⟨w.heap.size, 4, none⟩ = some m3 ∧ w6.cell? ⟨w.heap.size, 5, none⟩ = some m4 ∧ w6.cell? ⟨w.heap.size, 6, none⟩ = some m5 ∧ w6.cell? ⟨w.heap.size, 7, none⟩ = some m6 ∧ w6.cell? ⟨w.heap.size, 8, none⟩ = some m7 ∧ w6.cell? ⟨w.heap.size, 9, none⟩ = some m8 from ⟨cell_ch HSy.out.1 K6.out (fun _ _ h => h), cell_ch HSy.out.2.1 K6.out (fun _ _ h => h), cell_ch HSy.out.2.2.1 K6.out (fun _ _ h => h), cell_ch HSy.out.2.2.2.1 K6.out (fun _ _ h => h), cell_ch HSy.out.2.2.2.2.1 K6.out (fun _ _ h => h), cell_ch HSy.out.2.2.2.2.2.1 K6.out (fun _ _ h => h), cell_ch HSy.out.2.2.2.2.2.2.1 K6.out (fun _ _ h => h), cell_ch HSy.out.2.2.2.2.2.2.2.1 K6.out (fun _ _ h => h), cell_ch HSy.out.2.2.2.2.2.2.2.2.1 K6.out (fun _ _ h => h), cell_ch HSy.out.2.2.2.2.2.2.2.2.2.1 K6.out (fun _ _ h => h), cell_ch HSy.out.2.2.2.2.2.2.2.2.2.2 K6.out (fun _ _ h => h)⟩); clear hc6; clear hme))
                clear ny5
                have K36 := hid (K5.out.trans K6.out)
                have HCW6 := hid (HCW3.out.trans K36.out)
                have p0 := cellAt (K36.out.keep _ _ HB3.out (fun h => h)) 0
                obtain ⟨b', off', cap'', e', hcell', _, _⟩ := (HC.out.no HCW6.out).cell HCX.out
                rw [HL.out] at e'
                cases e'
                have q6 := hcell'.q6
                have hmts := (((HM.out.no HCW6.out).at_ c' cx m' HCX.out HM'.out)).ms
                obtain ⟨ax, nx, capx, hsx⟩ : ∃ ma mn mc, cx.s6 = (ma, mn, mc) := ⟨_, _, _, rfl⟩
                rw [hsx] at q6 hmts
                dsimp only at hmts q6
                obtain ⟨hmn, hmc, hmm'⟩ := hmts.shape
                unfold maxLen at hmm'
                have hmx' : nx ≤ capx := by have h1 : nx = m'.ms.length := hmn; have h2 : m'.ms.length ≤ capx := hmc; omega
                have hq' : q' < nx := by have h1 : nx = m'.ms.length := hmn; have := (List.getElem?_eq_some_iff.1 HX.out).1; omega
                obtain ⟨mb2, mo2, hma2, hxc⟩ := hmts.cell HX.out
                subst hma2
                obtain ⟨r0, r1, r2, r3, r4, r5, r6, r7, r8⟩ := hxc
                have HPX := hid (hmts.ps x (List.mem_of_getElem? HX.out))
                have hplx := HFP.out m' (List.mem_of_getElem? HM'.out) x (List.mem_of_getElem? HX.out)
                obtain ⟨w7, hw7⟩ : ∃ w7, w6.alloc (.cells #[.string x.ret, .string x.nm, .bool x.st, .bool x.ba, .slice x.pa x.ps.length x.pc, .slice x.s5.1 x.s5.2.1 x.s5.2.2, .slice x.s6.1 x.s6.2.1 x.s6.2.2, .int .i64 x.line, .int .i64 x.col] 29) = w7 := ⟨_, rfl⟩
                have hb7 := heap_alloc_new w6 (.cells #[.string x.ret, .string x.nm, .bool x.st, .bool x.ba, .slice x.pa x.ps.length x.pc, .slice x.s5.1 x.s5.2.1 x.s5.2.2, .slice x.s6.1 x.s6.2.1 x.s6.2.2, .int .i64 x.line, .int .i64 x.col] 29)
                have hc7 := (Ch.refl No w6).alloc (.cells #[.string x.ret, .string x.nm, .bool x.st, .bool x.ba, .slice x.pa x.ps.length x.pc, .slice x.s5.1 x.s5.2.1 x.s5.2.2, .slice x.s6.1 x.s6.2.1 x.s6.2.2, .int .i64 x.line, .int .i64 x.col] 29)
                rw [hw7] at hb7 hc7
                have y7 := lt_size hb7
                have K37 := hid (K36.out.trans hc7)
                have hb7b := mtCellsB hb7
                have hyc7 : w7.cell? ⟨mb, mo + q * 9, none⟩ = some (.string y.ret) ∧ w7.cell? ⟨mb, mo + q * 9 + 1, none⟩ = some (.string y.nm) ∧ w7.cell? ⟨mb, mo + q * 9 + 2, none⟩ = some (.bool y.st) ∧ w7.cell? ⟨mb, mo + q * 9 + 3, none⟩ = some (.bool y.ba) ∧ w7.cell? ⟨mb, mo + q * 9 + 4, none⟩ = some (.slice y.pa y.ps.length y.pc) ∧ w7.cell? ⟨mb, mo + q * 9 + 5, none⟩ = some (.slice y.s5.1 y.s5.2.1 y.s5.2.2) ∧ w7.cell? ⟨mb, mo + q * 9 + 6, none⟩ = some (.slice y.s6.1 y.s6.2.1 y.s6.2.2) ∧ w7.cell? ⟨mb, mo + q * 9 + 7, none⟩ = some (.int .i64 y.line) ∧ w7.cell? ⟨mb, mo + q * 9 + 8, none⟩ = some (.int .i64 y.col) := mtRow_ch HYC.out K37.out
                obtain ⟨xs, hxs⟩ : ∃ s, x.st = s := ⟨_, rfl⟩
                obtain ⟨xb, hxb⟩ : ∃ s, x.ba = s := ⟨_, rfl⟩
                have hal := ralike ((HPX.out.no hc7).no ((Ch.refl No w7).drew)) (((HMT.out.ps y (List.mem_of_getElem? HY.out)).no (HC3.out.trans K37.out)).no ((Ch.refl No w7).drew)) hplx hpl
                rw [hxs, hxb] at hb7b hal
                rw [HYB.out] at hal hyc7
                have HXS := hid hxs
                have HXB := hid hxb
                have HSz := hid (show w7.cell? ⟨w6.heap.size, 0, none⟩ = some (.string x.ret) ∧ w7.cell? ⟨w6.heap.size, 1, none⟩ = some (.string x.nm) ∧ w7.cell? ⟨w6.heap.size, 2, none⟩ = some (.bool xs) ∧ w7.cell? ⟨w6.heap.size, 3, none⟩ = some (.bool xb) ∧ w7.cell? ⟨w6.heap.size, 4, none⟩ = some (.slice x.pa x.ps.length x.pc) ∧ w7.cell? ⟨w6.heap.size, 5, none⟩ = some (.slice x.s5.1 x.s5.2.1 x.s5.2.2) ∧ w7.cell? ⟨w6.heap.size, 6, none⟩ = some (.slice x.s6.1 x.s6.2.1 x.s6.2.2) ∧ w7.cell? ⟨w6.heap.size, 7, none⟩ = some (.int .i64 x.line) ∧ w7.cell? ⟨w6.heap.size, 8, none⟩ = some (.int .i64 x.col) ∧ w7.cell? ⟨mb, mo + q * 9, none⟩ = some (.string y.ret) ∧ w7.cell? ⟨mb, mo + q * 9 + 1, none⟩ = some (.string y.nm) ∧ w7.cell? ⟨mb, mo + q * 9 + 2, none⟩ = some (.bool y.st) ∧ w7.cell? ⟨mb, mo + q * 9 + 3, none⟩ = some (.bool true) ∧ w7.cell? ⟨mb, mo + q * 9 + 4, none⟩ = some (.slice y.pa y.ps.length y.pc) ∧ w7.cell? ⟨mb, mo + q * 9 + 5, none⟩ = some (.slice y.s5.1 y.s5.2.1 y.s5.2.2) ∧ w7.cell? ⟨mb, mo + q * 9 + 6, none⟩ = some (.slice y.s6.1 y.s6.2.1 y.s6.2.2) ∧ w7.cell? ⟨mb, mo + q * 9 + 7, none⟩ = some (.int .i64 y.line) ∧ w7.cell? ⟨mb, mo + q * 9 + 8, none⟩ = some (.int .i64 y.col) from ⟨hb7b.1, hb7b.2.1, hb7b.2.2.1, hb7b.2.2.2.1, hb7b.2.2.2.2.1, hb7b.2.2.2.2.2.1, hb7b.2.2.2.2.2.2.1, hb7b.2.2.2.2.2.2.2.1, hb7b.2.2.2.2.2.2.2.2, hyc7⟩)
                have g2 := hb7b.2.2.1
                have g3 := hb7b.2.2.2.1
                clear hxs hxb
                go_upto_region 14 with fail
                clear hw7 hcell' hmts hsx hmn hmc hb7 hc7 hb7b hyc7 p0 q6 r0 r1 r2 r3 r4 r5 r6 r7 r8
                cases xb with
                | true =>
                  go_wp2_with fail
                  go_quiet (fail)
                  go_wp2_with fail
                  go_ret
                  exact ⟨BoolIf.f, HCH.out.trans (HCW3.out.trans (K37.out.trans (by first | exact (Ch.refl No _).drew | exact (Ch.refl No _).drewN _ | exact Ch.refl No _)))⟩
                | false =>
                  cases xs with
                  | true =>
                    go_wp2_with fail
                    go_quiet (fail)
                    go_wp2_with fail
                    go_ret
                    exact ⟨BoolIf.f, HCH.out.trans (HCW3.out.trans (K37.out.trans (by first | exact (Ch.refl No _).drew | exact (Ch.refl No _).drewN _ | exact Ch.refl No _)))⟩
                  | false =>
                    clear g2 g3
                    by_cases hkd : x.kinds = y.kinds
                    · have HKD := hid hkd
                      clear hkd
                      go_wp2_with fail
                      refine wp_region_held_drew (S := fun w' => w'.cell? ⟨w6.heap.size, 0, none⟩ = some (.string x.ret) ∧ w'.cell? ⟨w6.heap.size, 1, none⟩ = some (.string x.nm) ∧ w'.cell? ⟨w6.heap.size, 2, none⟩ = some (.bool false) ∧ w'.cell? ⟨w6.heap.size, 3, none⟩ = some (.bool false) ∧ w'.cell? ⟨w6.heap.size, 4, none⟩ = some (.slice x.pa x.ps.length x.pc) ∧ w'.cell? ⟨w6.heap.size, 5, none⟩ = some (.slice x.s5.1 x.s5.2.1 x.s5.2.2) ∧ w'.cell? ⟨w6.heap.size, 6, none⟩ = some (.slice x.s6.1 x.s6.2.1 x.s6.2.2) ∧ w'.cell? ⟨w6.heap.size, 7, none⟩ = some (.int .i64 x.line) ∧ w'.cell? ⟨w6.heap.size, 8, none⟩ = some (.int .i64 x.col) ∧ w'.cell? ⟨mb, mo + q * 9, none⟩ = some (.string y.ret) ∧ w'.cell? ⟨mb, mo + q * 9 + 1, none⟩ = some (.string y.nm) ∧ w'.cell? ⟨mb, mo + q * 9 + 2, none⟩ = some (.bool y.st) ∧ w'.cell? ⟨mb, mo + q * 9 + 3, none⟩ = some (.bool true) ∧ w'.cell? ⟨mb, mo + q * 9 + 4, none⟩ = some (.slice y.pa y.ps.length y.pc) ∧ w'.cell? ⟨mb, mo + q * 9 + 5, none⟩ = some (.slice y.s5.1 y.s5.2.1 y.s5.2.2) ∧ w'.cell? ⟨mb, mo + q * 9 + 6, none⟩ = some (.slice y.s6.1 y.s6.2.1 y.s6.2.2) ∧ w'.cell? ⟨mb, mo + q * 9 + 7, none⟩ = some (.int .i64 y.line) ∧ w'.cell? ⟨mb, mo + q * 9 + 8, none⟩ = some (.int .i64 y.col)) (by kernel_rfl) HSz.out (fun hHeld => ?_)
                      (refine wpAnyH_take (i := 0) (v := ?_) rfl (by kernel_rfl) (by kernel_rfl) (by kernel_rfl) (fun _ _ _ h => h) (Or.inl ⟨by rfl, ?_⟩) (by assumption) ?_; rotate_left 1; · (intro wz hSw; (try dsimp only at hSw); go_simp; try rfl)); (try simp only [Act.put, List.getElem_toArray, List.getElem_cons_succ, List.getElem_cons_zero, List.setIfInBounds_toArray, List.set_cons_zero, List.set_cons_succ])
                      (refine wpAnyH_take (i := 1) (v := ?_) rfl (by kernel_rfl) (by kernel_rfl) (by kernel_rfl) (fun _ _ _ h => h) (Or.inl ⟨by rfl, ?_⟩) (by assumption) ?_; rotate_left 1; · (intro wz hSw; (try dsimp only at hSw); go_simp; try rfl)); (try simp only [Act.put, List.getElem_toArray, List.getElem_cons_succ, List.getElem_cons_zero, List.setIfInBounds_toArray, List.set_cons_zero, List.set_cons_succ])
                      (refine wpAnyH_take (i := 2) (v := ?_) rfl (by kernel_rfl) (by kernel_rfl) (by kernel_rfl) (fun _ _ _ h => h) (Or.inl ⟨by rfl, ?_⟩) (by assumption) ?_; rotate_left 1; · (intro wz hSw; (try dsimp only at hSw); go_simp; try rfl)); (try simp only [Act.put, List.getElem_toArray, List.getElem_cons_succ, List.getElem_cons_zero, List.setIfInBounds_toArray, List.set_cons_zero, List.set_cons_succ])
                      (refine wpAnyH_take (i := 3) (v := ?_) rfl (by kernel_rfl) (by kernel_rfl) (by kernel_rfl) (fun _ _ _ h => h) (Or.inl ⟨by rfl, ?_⟩) (by assumption) ?_; rotate_left 1; · (intro wz hSw; (try dsimp only at hSw); go_simp; try rfl)); (try simp only [Act.put, List.getElem_toArray, List.getElem_cons_succ, List.getElem_cons_zero, List.setIfInBounds_toArray, List.set_cons_zero, List.set_cons_succ])
                      (refine wpAnyH_take (i := 4) (v := ?_) rfl (by kernel_rfl) (by kernel_rfl) (by kernel_rfl) (fun _ _ _ h => h) (Or.inl ⟨by rfl, ?_⟩) (by assumption) ?_; rotate_left 1; · (intro wz hSw; (try dsimp only at hSw); go_simp; try rfl)); (try simp only [Act.put, List.getElem_toArray, List.getElem_cons_succ, List.getElem_cons_zero, List.setIfInBounds_toArray, List.set_cons_zero, List.set_cons_succ])
                      (refine wpAnyH_take (i := 5) (v := ?_) rfl (by kernel_rfl) (by kernel_rfl) (by kernel_rfl) (fun _ _ _ h => h) (Or.inl ⟨by rfl, ?_⟩) (by assumption) ?_; rotate_left 1; · (intro wz hSw; (try dsimp only at hSw); go_simp; try rfl)); (try simp only [Act.put, List.getElem_toArray, List.getElem_cons_succ, List.getElem_cons_zero, List.setIfInBounds_toArray, List.set_cons_zero, List.set_cons_succ])
                      (refine wpAnyH_take (i := 6) (v := ?_) rfl (by kernel_rfl) (by kernel_rfl) (by kernel_rfl) (fun _ _ _ h => h) (Or.inl ⟨by rfl, ?_⟩) (by assumption) ?_; rotate_left 1; · (intro wz hSw; (try dsimp only at hSw); go_simp; try rfl)); (try simp only [Act.put, List.getElem_toArray, List.getElem_cons_succ, List.getElem_cons_zero, List.setIfInBounds_toArray, List.set_cons_zero, List.set_cons_succ])
                      (refine wpAnyH_take (i := 7) (v := ?_) rfl (by kernel_rfl) (by kernel_rfl) (by kernel_rfl) (fun _ _ _ h => h) (Or.inl ⟨by rfl, ?_⟩) (by assumption) ?_; rotate_left 1; · (intro wz hSw; (try dsimp only at hSw); go_simp; try rfl)); (try simp only [Act.put, List.getElem_toArray, List.getElem_cons_succ, List.getElem_cons_zero, List.setIfInBounds_toArray, List.set_cons_zero, List.set_cons_succ])
                      (refine wpAnyH_take (i := 8) (v := ?_) rfl (by kernel_rfl) (by kernel_rfl) (by kernel_rfl) (fun _ _ _ h => h) (Or.inl ⟨by rfl, ?_⟩) (by assumption) ?_; rotate_left 1; · (intro wz hSw; (try dsimp only at hSw); go_simp; try rfl)); (try simp only [Act.put, List.getElem_toArray, List.getElem_cons_succ, List.getElem_cons_zero, List.setIfInBounds_toArray, List.set_cons_zero, List.set_cons_succ])
                      (refine wpAnyH_take (i := 9) (v := ?_) rfl (by kernel_rfl) (by kernel_rfl) (by kernel_rfl) (fun _ _ _ h => h) (Or.inl ⟨by rfl, ?_⟩) (by assumption) ?_; rotate_left 1; · (intro wz hSw; (try dsimp only at hSw); go_simp; try rfl)); (try simp only [Act.put, List.getElem_toArray, List.getElem_cons_succ, List.getElem_cons_zero, List.setIfInBounds_toArray, List.set_cons_zero, List.set_cons_succ])
                      (refine wpAnyH_take (i := 10) (v := ?_) rfl (by kernel_rfl) (by kernel_rfl) (by kernel_rfl) (fun _ _ _ h => h) (Or.inl ⟨by rfl, ?_⟩) (by assumption) ?_; rotate_left 1; · (intro wz hSw; (try dsimp only at hSw); go_simp; try rfl)); (try simp only [Act.put, List.getElem_toArray, List.getElem_cons_succ, List.getElem_cons_zero, List.setIfInBounds_toArray, List.set_cons_zero, List.set_cons_succ])
                      (refine wpAnyH_take (i := 11) (v := ?_) rfl (by kernel_rfl) (by kernel_rfl) (by kernel_rfl) (fun _ _ _ h => h) (Or.inl ⟨by rfl, ?_⟩) (by assumption) ?_; rotate_left 1; · (intro wz hSw; (try dsimp only at hSw); go_simp; try rfl)); (try simp only [Act.put, List.getElem_toArray, List.getElem_cons_succ, List.getElem_cons_zero, List.setIfInBounds_toArray, List.set_cons_zero, List.set_cons_succ])
                      refine wpAnyH_ready (rs := [12]) (by kernel_rfl) (by simp) (AllReadyH.cons rfl (fun K hK => ?_) AllReadyH.nil)
                      go_simp
                      go_at_call 68
                      refine (hal).mono ?_
                      rintro e w8 ⟨hr8, hc8⟩
                      have K8 := hid (((Ch.refl No w7).drew).trans hc8)
                      obtain rfl := hr8.yes HKD.out
                      clear hc8
                      go_simp
                      have HS8 := hid (show w8.cell? ⟨w6.heap.size, 0, none⟩ = some (.string x.ret) ∧ w8.cell? ⟨w6.heap.size, 1, none⟩ = some (.string x.nm) ∧ w8.cell? ⟨w6.heap.size, 2, none⟩ = some (.bool false) ∧ w8.cell? ⟨w6.heap.size, 3, none⟩ = some (.bool false) ∧ w8.cell? ⟨w6.heap.size, 4, none⟩ = some (.slice x.pa x.ps.length x.pc) ∧ w8.cell? ⟨w6.heap.size, 5, none⟩ = some (.slice x.s5.1 x.s5.2.1 x.s5.2.2) ∧ w8.cell? ⟨w6.heap.size, 6, none⟩ = some (.slice x.s6.1 x.s6.2.1 x.s6.2.2) ∧ w8.cell? ⟨w6.heap.size, 7, none⟩ = some (.int .i64 x.line) ∧ w8.cell? ⟨w6.heap.size, 8, none⟩ = some (.int .i64 x.col) ∧ w8.cell? ⟨mb, mo + q * 9, none⟩ = some (.string y.ret) ∧ w8.cell? ⟨mb, mo + q * 9 + 1, none⟩ = some (.string y.nm) ∧ w8.cell? ⟨mb, mo + q * 9 + 2, none⟩ = some (.bool y.st) ∧ w8.cell? ⟨mb, mo + q * 9 + 3, none⟩ = some (.bool true) ∧ w8.cell? ⟨mb, mo + q * 9 + 4, none⟩ = some (.slice y.pa y.ps.length y.pc) ∧ w8.cell? ⟨mb, mo + q * 9 + 5, none⟩ = some (.slice y.s5.1 y.s5.2.1 y.s5.2.2) ∧ w8.cell? ⟨mb, mo + q * 9 + 6, none⟩ = some (.slice y.s6.1 y.s6.2.1 y.s6.2.2) ∧ w8.cell? ⟨mb, mo + q * 9 + 7, none⟩ = some (.int .i64 y.line) ∧ w8.cell? ⟨mb, mo + q * 9 + 8, none⟩ = some (.int .i64 y.col) from ⟨cell_ch HSz.out.1 K8.out (fun _ _ h => h), cell_ch HSz.out.2.1 K8.out (fun _ _ h => h), cell_ch HSz.out.2.2.1 K8.out (fun _ _ h => h), cell_ch HSz.out.2.2.2.1 K8.out (fun _ _ h => h), cell_ch HSz.out.2.2.2.2.1 K8.out (fun _ _ h => h), cell_ch HSz.out.2.2.2.2.2.1 K8.out (fun _ _ h => h), cell_ch HSz.out.2.2.2.2.2.2.1 K8.out (fun _ _ h => h), cell_ch HSz.out.2.2.2.2.2.2.2.1 K8.out (fun _ _ h => h), cell_ch HSz.out.2.2.2.2.2.2.2.2.1 K8.out (fun _ _ h => h), cell_ch HSz.out.2.2.2.2.2.2.2.2.2.1 K8.out (fun _ _ h => h), cell_ch HSz.out.2.2.2.2.2.2.2.2.2.2.1 K8.out (fun _ _ h => h), cell_ch HSz.out.2.2.2.2.2.2.2.2.2.2.2.1 K8.out (fun _ _ h => h), cell_ch HSz.out.2.2.2.2.2.2.2.2.2.2.2.2.1 K8.out (fun _ _ h => h), cell_ch HSz.out.2.2.2.2.2.2.2.2.2.2.2.2.2.1 K8.out (fun _ _ h => h), cell_ch HSz.out.2.2.2.2.2.2.2.2.2.2.2.2.2.2.1 K8.out (fun _ _ h => h), cell_ch HSz.out.2.2.2.2.2.2.2.2.2.2.2.2.2.2.2.1 K8.out (fun _ _ h => h), cell_ch HSz.out.2.2.2.2.2.2.2.2.2.2.2.2.2.2.2.2.1 K8.out (fun _ _ h => h), cell_ch HSz.out.2.2.2.2.2.2.2.2.2.2.2.2.2.2.2.2.2 K8.out (fun _ _ h => h)⟩)
                      refine hK.out _ _ HS8.out (fun hHeld8 => ?_)
                      clear hK
                      (refine wpAnyH_take (i := 13) (v := ?_) rfl (by kernel_rfl) (by kernel_rfl) (by kernel_rfl) (fun _ _ _ h => h) (Or.inl ⟨by rfl, ?_⟩) (by assumption) ?_; rotate_left 1; · (intro wz hSw; (try dsimp only at hSw); go_simp; try rfl)); (try simp only [Act.put, List.getElem_toArray, List.getElem_cons_succ, List.getElem_cons_zero, List.setIfInBounds_toArray, List.set_cons_zero, List.set_cons_succ])
                      (refine wpAnyH_take (i := 14) (v := ?_) rfl (by kernel_rfl) (by kernel_rfl) (by kernel_rfl) (fun _ _ _ h => h) (Or.inl ⟨by rfl, ?_⟩) (by assumption) ?_; rotate_left 1; · (intro wz hSw; (try dsimp only at hSw); go_simp; try rfl)); (try simp only [Act.put, List.getElem_toArray, List.getElem_cons_succ, List.getElem_cons_zero, List.setIfInBounds_toArray, List.set_cons_zero, List.set_cons_succ])
                      refine wpAnyH_done (by kernel_rfl) ?_ _
                      go_wp2_with fail
                      go_roundg (mn - q - 1)
                      case rel =>
                        refine ⟨q + 1, by omega, by omega, by go_num, hid fun t ht => ?_, HC3.out.trans (K37.out.trans K8.out)⟩
                        by_cases h1 : t < q
                        · exact HQ.out t h1
                        · obtain rfl : t = q := by omega
                          intro y' hy' hb _
                          rw [HY.out] at hy'; cases hy'
                          exact ⟨c', q', x, HR.out, by rw [mtAt_get HM'.out]; exact HX.out, HXB.out, HXS.out, HKD.out⟩
                      case measure => omega
                    · have HKD := hid hkd
                      clear hkd
                      go_wp2_with fail
                      refine wp_region_held_drew (S := fun w' => w'.cell? ⟨w6.heap.size, 0, none⟩ = some (.string x.ret) ∧ w'.cell? ⟨w6.heap.size, 1, none⟩ = some (.string x.nm) ∧ w'.cell? ⟨w6.heap.size, 2, none⟩ = some (.bool false) ∧ w'.cell? ⟨w6.heap.size, 3, none⟩ = some (.bool false) ∧ w'.cell? ⟨w6.heap.size, 4, none⟩ = some (.slice x.pa x.ps.length x.pc) ∧ w'.cell? ⟨w6.heap.size, 5, none⟩ = some (.slice x.s5.1 x.s5.2.1 x.s5.2.2) ∧ w'.cell? ⟨w6.heap.size, 6, none⟩ = some (.slice x.s6.1 x.s6.2.1 x.s6.2.2) ∧ w'.cell? ⟨w6.heap.size, 7, none⟩ = some (.int .i64 x.line) ∧ w'.cell? ⟨w6.heap.size, 8, none⟩ = some (.int .i64 x.col) ∧ w'.cell? ⟨mb, mo + q * 9, none⟩ = some (.string y.ret) ∧ w'.cell? ⟨mb, mo + q * 9 + 1, none⟩ = some (.string y.nm) ∧ w'.cell? ⟨mb, mo + q * 9 + 2, none⟩ = some (.bool y.st) ∧ w'.cell? ⟨mb, mo + q * 9 + 3, none⟩ = some (.bool true) ∧ w'.cell? ⟨mb, mo + q * 9 + 4, none⟩ = some (.slice y.pa y.ps.length y.pc) ∧ w'.cell? ⟨mb, mo + q * 9 + 5, none⟩ = some (.slice y.s5.1 y.s5.2.1 y.s5.2.2) ∧ w'.cell? ⟨mb, mo + q * 9 + 6, none⟩ = some (.slice y.s6.1 y.s6.2.1 y.s6.2.2) ∧ w'.cell? ⟨mb, mo + q * 9 + 7, none⟩ = some (.int .i64 y.line) ∧ w'.cell? ⟨mb, mo + q * 9 + 8, none⟩ = some (.int .i64 y.col)) (by kernel_rfl) HSz.out (fun hHeld => ?_)
                      (refine wpAnyH_take (i := 0) (v := ?_) rfl (by kernel_rfl) (by kernel_rfl) (by kernel_rfl) (fun _ _ _ h => h) (Or.inl ⟨by rfl, ?_⟩) (by assumption) ?_; rotate_left 1; · (intro wz hSw; (try dsimp only at hSw); go_simp; try rfl)); (try simp only [Act.put, List.getElem_toArray, List.getElem_cons_succ, List.getElem_cons_zero, List.setIfInBounds_toArray, List.set_cons_zero, List.set_cons_succ])
                      (refine wpAnyH_take (i := 1) (v := ?_) rfl (by kernel_rfl) (by kernel_rfl) (by kernel_rfl) (fun _ _ _ h => h) (Or.inl ⟨by rfl, ?_⟩) (by assumption) ?_; rotate_left 1; · (intro wz hSw; (try dsimp only at hSw); go_simp; try rfl)); (try simp only [Act.put, List.getElem_toArray, List.getElem_cons_succ, List.getElem_cons_zero, List.setIfInBounds_toArray, List.set_cons_zero, List.set_cons_succ])
                      (refine wpAnyH_take (i := 2) (v := ?_) rfl (by kernel_rfl) (by kernel_rfl) (by kernel_rfl) (fun _ _ _ h => h) (Or.inl ⟨by rfl, ?_⟩) (by assumption) ?_; rotate_left 1; · (intro wz hSw; (try dsimp only at hSw); go_simp; try rfl)); (try simp only [Act.put, List.getElem_toArray, List.getElem_cons_succ, List.getElem_cons_zero, List.setIfInBounds_toArray, List.set_cons_zero, List.set_cons_succ])
                      (refine wpAnyH_take (i := 3) (v := ?_) rfl (by kernel_rfl) (by kernel_rfl) (by kernel_rfl) (fun _ _ _ h => h) (Or.inl ⟨by rfl, ?_⟩) (by assumption) ?_; rotate_left 1; · (intro wz hSw; (try dsimp only at hSw); go_simp; try rfl)); (try simp only [Act.put, List.getElem_toArray, List.getElem_cons_succ, List.getElem_cons_zero, List.setIfInBounds_toArray, List.set_cons_zero, List.set_cons_succ])
                      (refine wpAnyH_take (i := 4) (v := ?_) rfl (by kernel_rfl) (by kernel_rfl) (by kernel_rfl) (fun _ _ _ h => h) (Or.inl ⟨by rfl, ?_⟩) (by assumption) ?_; rotate_left 1; · (intro wz hSw; (try dsimp only at hSw); go_simp; try rfl)); (try simp only [Act.put, List.getElem_toArray, List.getElem_cons_succ, List.getElem_cons_zero, List.setIfInBounds_toArray, List.set_cons_zero, List.set_cons_succ])
                      (refine wpAnyH_take (i := 5) (v := ?_) rfl (by kernel_rfl) (by kernel_rfl) (by kernel_rfl) (fun _ _ _ h => h) (Or.inl ⟨by rfl, ?_⟩) (by assumption) ?_; rotate_left 1; · (intro wz hSw; (try dsimp only at hSw); go_simp; try rfl)); (try simp only [Act.put, List.getElem_toArray, List.getElem_cons_succ, List.getElem_cons_zero, List.setIfInBounds_toArray, List.set_cons_zero, List.set_cons_succ])
                      (refine wpAnyH_take (i := 6) (v := ?_) rfl (by kernel_rfl) (by kernel_rfl) (by kernel_rfl) (fun _ _ _ h => h) (Or.inl ⟨by rfl, ?_⟩) (by assumption) ?_; rotate_left 1; · (intro wz hSw; (try dsimp only at hSw); go_simp; try rfl)); (try simp only [Act.put, List.getElem_toArray, List.getElem_cons_succ, List.getElem_cons_zero, List.setIfInBounds_toArray, List.set_cons_zero, List.set_cons_succ])
                      (refine wpAnyH_take (i := 7) (v := ?_) rfl (by kernel_rfl) (by kernel_rfl) (by kernel_rfl) (fun _ _ _ h => h) (Or.inl ⟨by rfl, ?_⟩) (by assumption) ?_; rotate_left 1; · (intro wz hSw; (try dsimp only at hSw); go_simp; try rfl)); (try simp only [Act.put, List.getElem_toArray, List.getElem_cons_succ, List.getElem_cons_zero, List.setIfInBounds_toArray, List.set_cons_zero, List.set_cons_succ])
                      (refine wpAnyH_take (i := 8) (v := ?_) rfl (by kernel_rfl) (by kernel_rfl) (by kernel_rfl) (fun _ _ _ h => h) (Or.inl ⟨by rfl, ?_⟩) (by assumption) ?_; rotate_left 1; · (intro wz hSw; (try dsimp only at hSw); go_simp; try rfl)); (try simp only [Act.put, List.getElem_toArray, List.getElem_cons_succ, List.getElem_cons_zero, List.setIfInBounds_toArray, List.set_cons_zero, List.set_cons_succ])
                      (refine wpAnyH_take (i := 9) (v := ?_) rfl (by kernel_rfl) (by kernel_rfl) (by kernel_rfl) (fun _ _ _ h => h) (Or.inl ⟨by rfl, ?_⟩) (by assumption) ?_; rotate_left 1; · (intro wz hSw; (try dsimp only at hSw); go_simp; try rfl)); (try simp only [Act.put, List.getElem_toArray, List.getElem_cons_succ, List.getElem_cons_zero, List.setIfInBounds_toArray, List.set_cons_zero, List.set_cons_succ])
                      (refine wpAnyH_take (i := 10) (v := ?_) rfl (by kernel_rfl) (by kernel_rfl) (by kernel_rfl) (fun _ _ _ h => h) (Or.inl ⟨by rfl, ?_⟩) (by assumption) ?_; rotate_left 1; · (intro wz hSw; (try dsimp only at hSw); go_simp; try rfl)); (try simp only [Act.put, List.getElem_toArray, List.getElem_cons_succ, List.getElem_cons_zero, List.setIfInBounds_toArray, List.set_cons_zero, List.set_cons_succ])
                      (refine wpAnyH_take (i := 11) (v := ?_) rfl (by kernel_rfl) (by kernel_rfl) (by kernel_rfl) (fun _ _ _ h => h) (Or.inl ⟨by rfl, ?_⟩) (by assumption) ?_; rotate_left 1; · (intro wz hSw; (try dsimp only at hSw); go_simp; try rfl)); (try simp only [Act.put, List.getElem_toArray, List.getElem_cons_succ, List.getElem_cons_zero, List.setIfInBounds_toArray, List.set_cons_zero, List.set_cons_succ])
                      refine wpAnyH_ready (rs := [12]) (by kernel_rfl) (by simp) (AllReadyH.cons rfl (fun K hK => ?_) AllReadyH.nil)
                      go_simp
                      go_at_call 68
                      refine (hal).mono ?_
                      rintro e w8 ⟨hr8, hc8⟩
                      have K8 := hid (((Ch.refl No w7).drew).trans hc8)
                      obtain rfl := hr8.no HKD.out
                      clear hc8
                      go_simp
                      have HS8 := hid (show w8.cell? ⟨w6.heap.size, 0, none⟩ = some (.string x.ret) ∧ w8.cell? ⟨w6.heap.size, 1, none⟩ = some (.string x.nm) ∧ w8.cell? ⟨w6.heap.size, 2, none⟩ = some (.bool false) ∧ w8.cell? ⟨w6.heap.size, 3, none⟩ = some (.bool false) ∧ w8.cell? ⟨w6.heap.size, 4, none⟩ = some (.slice x.pa x.ps.length x.pc) ∧ w8.cell? ⟨w6.heap.size, 5, none⟩ = some (.slice x.s5.1 x.s5.2.1 x.s5.2.2) ∧ w8.cell? ⟨w6.heap.size, 6, none⟩ = some (.slice x.s6.1 x.s6.2.1 x.s6.2.2) ∧ w8.cell? ⟨w6.heap.size, 7, none⟩ = some (.int .i64 x.line) ∧ w8.cell? ⟨w6.heap.size, 8, none⟩ = some (.int .i64 x.col) ∧ w8.cell? ⟨mb, mo + q * 9, none⟩ = some (.string y.ret) ∧ w8.cell? ⟨mb, mo + q * 9 + 1, none⟩ = some (.string y.nm) ∧ w8.cell? ⟨mb, mo + q * 9 + 2, none⟩ = some (.bool y.st) ∧ w8.cell? ⟨mb, mo + q * 9 + 3, none⟩ = some (.bool true) ∧ w8.cell? ⟨mb, mo + q * 9 + 4, none⟩ = some (.slice y.pa y.ps.length y.pc) ∧ w8.cell? ⟨mb, mo + q * 9 + 5, none⟩ = some (.slice y.s5.1 y.s5.2.1 y.s5.2.2) ∧ w8.cell? ⟨mb, mo + q * 9 + 6, none⟩ = some (.slice y.s6.1 y.s6.2.1 y.s6.2.2) ∧ w8.cell? ⟨mb, mo + q * 9 + 7, none⟩ = some (.int .i64 y.line) ∧ w8.cell? ⟨mb, mo + q * 9 + 8, none⟩ = some (.int .i64 y.col) from ⟨cell_ch HSz.out.1 K8.out (fun _ _ h => h), cell_ch HSz.out.2.1 K8.out (fun _ _ h => h), cell_ch HSz.out.2.2.1 K8.out (fun _ _ h => h), cell_ch HSz.out.2.2.2.1 K8.out (fun _ _ h => h), cell_ch HSz.out.2.2.2.2.1 K8.out (fun _ _ h => h), cell_ch HSz.out.2.2.2.2.2.1 K8.out (fun _ _ h => h), cell_ch HSz.out.2.2.2.2.2.2.1 K8.out (fun _ _ h => h), cell_ch HSz.out.2.2.2.2.2.2.2.1 K8.out (fun _ _ h => h), cell_ch HSz.out.2.2.2.2.2.2.2.2.1 K8.out (fun _ _ h => h), cell_ch HSz.out.2.2.2.2.2.2.2.2.2.1 K8.out (fun _ _ h => h), cell_ch HSz.out.2.2.2.2.2.2.2.2.2.2.1 K8.out (fun _ _ h => h), cell_ch HSz.out.2.2.2.2.2.2.2.2.2.2.2.1 K8.out (fun _ _ h => h), cell_ch HSz.out.2.2.2.2.2.2.2.2.2.2.2.2.1 K8.out (fun _ _ h => h), cell_ch HSz.out.2.2.2.2.2.2.2.2.2.2.2.2.2.1 K8.out (fun _ _ h => h), cell_ch HSz.out.2.2.2.2.2.2.2.2.2.2.2.2.2.2.1 K8.out (fun _ _ h => h), cell_ch HSz.out.2.2.2.2.2.2.2.2.2.2.2.2.2.2.2.1 K8.out (fun _ _ h => h), cell_ch HSz.out.2.2.2.2.2.2.2.2.2.2.2.2.2.2.2.2.1 K8.out (fun _ _ h => h), cell_ch HSz.out.2.2.2.2.2.2.2.2.2.2.2.2.2.2.2.2.2 K8.out (fun _ _ h => h)⟩)
                      refine hK.out _ _ HS8.out (fun hHeld8 => ?_)
                      clear hK
                      (refine wpAnyH_take (i := 13) (v := ?_) rfl (by kernel_rfl) (by kernel_rfl) (by kernel_rfl) (fun _ _ _ h => h) (Or.inl ⟨by rfl, ?_⟩) (by assumption) ?_; rotate_left 1; · (intro wz hSw; (try dsimp only at hSw); go_simp; try rfl)); (try simp only [Act.put, List.getElem_toArray, List.getElem_cons_succ, List.getElem_cons_zero, List.setIfInBounds_toArray, List.set_cons_zero, List.set_cons_succ])
                      (refine wpAnyH_take (i := 14) (v := ?_) rfl (by kernel_rfl) (by kernel_rfl) (by kernel_rfl) (fun _ _ _ h => h) (Or.inl ⟨by rfl, ?_⟩) (by assumption) ?_; rotate_left 1; · (intro wz hSw; (try dsimp only at hSw); go_simp; try rfl)); (try simp only [Act.put, List.getElem_toArray, List.getElem_cons_succ, List.getElem_cons_zero, List.setIfInBounds_toArray, List.set_cons_zero, List.set_cons_succ])
                      refine wpAnyH_done (by kernel_rfl) ?_ _
                      go_wp2_with fail
                      go_ret
                      exact ⟨BoolIf.f, HCH.out.trans (HCW3.out.trans (K37.out.trans K8.out))⟩
            · obtain ⟨z, hz⟩ : ∃ z, optZ (mtK mj.ms y.nm) = z := ⟨_, rfl⟩
              have hzk : ¬ z = (q : Int) := by
                rw [← hz]
                intro e
                apply hf
                cases ho : mtK mj.ms y.nm with
                | none => rw [ho] at e; exact absurd e (by show ¬ ((-1 : Int) = _); omega)
                | some t => rw [ho] at e; have : (t : Int) = q := e; congr 1; omega
              rw [hz] at hown
              have HF := hid hf
              clear hz hf
              go_wp2_with fail
              refine wp_region_held_drew (S := fun w' => w'.cell? ⟨ub, uo + k, none⟩ = some (.int .i64 j) ∧ w'.cell? ⟨mb, mo + q * 9 + 1, none⟩ = some (.string y.nm) ∧ w'.cell? ⟨mb, mo + q * 9 + 3, none⟩ = some (.bool true) ∧ w'.cell? ⟨w.heap.size, 0, none⟩ = some (.slice (some ⟨b, off, none⟩) len cap) ∧ w'.cell? ⟨w.heap.size, 1, none⟩ = some m0 ∧ w'.cell? ⟨w.heap.size, 2, none⟩ = some m1 ∧ w'.cell? ⟨w.heap.size, 3, none⟩ = some m2 ∧ w'.cell? ⟨w.heap.size, 4, none⟩ = some m3 ∧ w'.cell? ⟨w.heap.size, 5, none⟩ = some m4 ∧ w'.cell? ⟨w.heap.size, 6, none⟩ = some m5 ∧ w'.cell? ⟨w.heap.size, 7, none⟩ = some m6 ∧ w'.cell? ⟨w.heap.size, 8, none⟩ = some m7 ∧ w'.cell? ⟨w.heap.size, 9, none⟩ = some m8) (by kernel_rfl) HSx.out (fun hHeld => ?_)
              (refine wpAnyH_take (i := 0) (v := ?_) rfl (by kernel_rfl) (by kernel_rfl) (by kernel_rfl) (fun _ _ _ h => h) (Or.inl ⟨by rfl, ?_⟩) (by assumption) ?_; rotate_left 1; · (intro wz hSw; (try dsimp only at hSw); go_simp; try rfl)); (try simp only [Act.put, List.getElem_toArray, List.getElem_cons_succ, List.getElem_cons_zero, List.setIfInBounds_toArray, List.set_cons_zero, List.set_cons_succ])
              (refine wpAnyH_take (i := 1) (v := ?_) rfl (by kernel_rfl) (by kernel_rfl) (by kernel_rfl) (fun _ _ _ h => h) (Or.inl ⟨by rfl, ?_⟩) (by assumption) ?_; rotate_left 1; · (intro wz hSw; (try dsimp only at hSw); go_simp; try rfl)); (try simp only [Act.put, List.getElem_toArray, List.getElem_cons_succ, List.getElem_cons_zero, List.setIfInBounds_toArray, List.set_cons_zero, List.set_cons_succ])
              (refine wpAnyH_take (i := 2) (v := ?_) rfl (by kernel_rfl) (by kernel_rfl) (by kernel_rfl) (fun _ _ _ h => h) (Or.inl ⟨by rfl, ?_⟩) (by assumption) ?_; rotate_left 1; · (intro wz hSw; (try dsimp only at hSw); go_simp; try rfl)); (try simp only [Act.put, List.getElem_toArray, List.getElem_cons_succ, List.getElem_cons_zero, List.setIfInBounds_toArray, List.set_cons_zero, List.set_cons_succ])
              (refine wpAnyH_take (i := 3) (v := ?_) rfl (by kernel_rfl) (by kernel_rfl) (by kernel_rfl) (fun _ _ _ h => h) (Or.inl ⟨by rfl, ?_⟩) (by assumption) ?_; rotate_left 1; · (intro wz hSw; (try dsimp only at hSw); go_simp; try rfl)); (try simp only [Act.put, List.getElem_toArray, List.getElem_cons_succ, List.getElem_cons_zero, List.setIfInBounds_toArray, List.set_cons_zero, List.set_cons_succ])
              (refine wpAnyH_take (i := 4) (v := ?_) rfl (by kernel_rfl) (by kernel_rfl) (by kernel_rfl) (fun _ _ _ h => h) (Or.inl ⟨by rfl, ?_⟩) (by assumption) ?_; rotate_left 1; · (intro wz hSw; (try dsimp only at hSw); go_simp; try rfl)); (try simp only [Act.put, List.getElem_toArray, List.getElem_cons_succ, List.getElem_cons_zero, List.setIfInBounds_toArray, List.set_cons_zero, List.set_cons_succ])
              (refine wpAnyH_take (i := 5) (v := ?_) rfl (by kernel_rfl) (by kernel_rfl) (by kernel_rfl) (fun _ _ _ h => h) (Or.inl ⟨by rfl, ?_⟩) (by assumption) ?_; rotate_left 1; · (intro wz hSw; (try dsimp only at hSw); go_simp; try rfl)); (try simp only [Act.put, List.getElem_toArray, List.getElem_cons_succ, List.getElem_cons_zero, List.setIfInBounds_toArray, List.set_cons_zero, List.set_cons_succ])
              (refine wpAnyH_take (i := 6) (v := ?_) rfl (by kernel_rfl) (by kernel_rfl) (by kernel_rfl) (fun _ _ _ h => h) (Or.inl ⟨by rfl, ?_⟩) (by assumption) ?_; rotate_left 1; · (intro wz hSw; (try dsimp only at hSw); go_simp; try rfl)); (try simp only [Act.put, List.getElem_toArray, List.getElem_cons_succ, List.getElem_cons_zero, List.setIfInBounds_toArray, List.set_cons_zero, List.set_cons_succ])
              (refine wpAnyH_take (i := 7) (v := ?_) rfl (by kernel_rfl) (by kernel_rfl) (by kernel_rfl) (fun _ _ _ h => h) (Or.inl ⟨by rfl, ?_⟩) (by assumption) ?_; rotate_left 1; · (intro wz hSw; (try dsimp only at hSw); go_simp; try rfl)); (try simp only [Act.put, List.getElem_toArray, List.getElem_cons_succ, List.getElem_cons_zero, List.setIfInBounds_toArray, List.set_cons_zero, List.set_cons_succ])
              (refine wpAnyH_take (i := 8) (v := ?_) rfl (by kernel_rfl) (by kernel_rfl) (by kernel_rfl) (fun _ _ _ h => h) (Or.inl ⟨by rfl, ?_⟩) (by assumption) ?_; rotate_left 1; · (intro wz hSw; (try dsimp only at hSw); go_simp; try rfl)); (try simp only [Act.put, List.getElem_toArray, List.getElem_cons_succ, List.getElem_cons_zero, List.setIfInBounds_toArray, List.set_cons_zero, List.set_cons_succ])
              (refine wpAnyH_take (i := 9) (v := ?_) rfl (by kernel_rfl) (by kernel_rfl) (by kernel_rfl) (fun _ _ _ h => h) (Or.inl ⟨by rfl, ?_⟩) (by assumption) ?_; rotate_left 1; · (intro wz hSw; (try dsimp only at hSw); go_simp; try rfl)); (try simp only [Act.put, List.getElem_toArray, List.getElem_cons_succ, List.getElem_cons_zero, List.setIfInBounds_toArray, List.set_cons_zero, List.set_cons_succ])
              (refine wpAnyH_take (i := 10) (v := ?_) rfl (by kernel_rfl) (by kernel_rfl) (by kernel_rfl) (fun _ _ _ h => h) (Or.inl ⟨by rfl, ?_⟩) (by assumption) ?_; rotate_left 1; · (intro wz hSw; (try dsimp only at hSw); go_simp; try rfl)); (try simp only [Act.put, List.getElem_toArray, List.getElem_cons_succ, List.getElem_cons_zero, List.setIfInBounds_toArray, List.set_cons_zero, List.set_cons_succ])
              (refine wpAnyH_take (i := 11) (v := ?_) rfl (by kernel_rfl) (by kernel_rfl) (by kernel_rfl) (fun _ _ _ h => h) (Or.inl ⟨by rfl, ?_⟩) (by assumption) ?_; rotate_left 1; · (intro wz hSw; (try dsimp only at hSw); go_simp; try rfl)); (try simp only [Act.put, List.getElem_toArray, List.getElem_cons_succ, List.getElem_cons_zero, List.setIfInBounds_toArray, List.set_cons_zero, List.set_cons_succ])
              (refine wpAnyH_take (i := 12) (v := ?_) rfl (by kernel_rfl) (by kernel_rfl) (by kernel_rfl) (fun _ _ _ h => h) (Or.inl ⟨by rfl, ?_⟩) (by assumption) ?_; rotate_left 1; · (intro wz hSw; (try dsimp only at hSw); go_simp; try rfl)); (try simp only [Act.put, List.getElem_toArray, List.getElem_cons_succ, List.getElem_cons_zero, List.setIfInBounds_toArray, List.set_cons_zero, List.set_cons_succ])
              (refine wpAnyH_take (i := 13) (v := ?_) rfl (by kernel_rfl) (by kernel_rfl) (by kernel_rfl) (fun _ _ _ h => h) (Or.inl ⟨by rfl, ?_⟩) (by assumption) ?_; rotate_left 1; · (intro wz hSw; (try dsimp only at hSw); go_simp; try rfl)); (try simp only [Act.put, List.getElem_toArray, List.getElem_cons_succ, List.getElem_cons_zero, List.setIfInBounds_toArray, List.set_cons_zero, List.set_cons_succ])
              (refine wpAnyH_take (i := 14) (v := ?_) rfl (by kernel_rfl) (by kernel_rfl) (by kernel_rfl) (fun _ _ _ h => h) (Or.inl ⟨by rfl, ?_⟩) (by assumption) ?_; rotate_left 1; · (intro wz hSw; (try dsimp only at hSw); go_simp; try rfl)); (try simp only [Act.put, List.getElem_toArray, List.getElem_cons_succ, List.getElem_cons_zero, List.setIfInBounds_toArray, List.set_cons_zero, List.set_cons_succ])
              (refine wpAnyH_take (i := 15) (v := ?_) rfl (by kernel_rfl) (by kernel_rfl) (by kernel_rfl) (fun _ _ _ h => h) (Or.inl ⟨by rfl, ?_⟩) (by assumption) ?_; rotate_left 1; · (intro wz hSw; (try dsimp only at hSw); go_simp; try rfl)); (try simp only [Act.put, List.getElem_toArray, List.getElem_cons_succ, List.getElem_cons_zero, List.setIfInBounds_toArray, List.set_cons_zero, List.set_cons_succ])
              (refine wpAnyH_take (i := 16) (v := ?_) rfl (by kernel_rfl) (by kernel_rfl) (by kernel_rfl) (fun _ _ _ h => h) (Or.inl ⟨by rfl, ?_⟩) (by assumption) ?_; rotate_left 1; · (intro wz hSw; (try dsimp only at hSw); go_simp; try rfl)); (try simp only [Act.put, List.getElem_toArray, List.getElem_cons_succ, List.getElem_cons_zero, List.setIfInBounds_toArray, List.set_cons_zero, List.set_cons_succ])
              (refine wpAnyH_take (i := 18) (v := ?_) rfl (by kernel_rfl) (by kernel_rfl) (by kernel_rfl) (fun _ _ _ h => h) (Or.inl ⟨by rfl, ?_⟩) (by assumption) ?_; rotate_left 1; · (intro wz hSw; (try dsimp only at hSw); go_simp; try rfl)); (try simp only [Act.put, List.getElem_toArray, List.getElem_cons_succ, List.getElem_cons_zero, List.setIfInBounds_toArray, List.set_cons_zero, List.set_cons_succ])
              refine wpAnyH_ready (rs := [17]) (by kernel_rfl) (by simp) (AllReadyH.cons rfl (fun K hK => ?_) AllReadyH.nil)
              go_simp
              go_at_call 67
              refine (hown).mono ?_
              rintro e w5 ⟨rfl, hc5⟩
              have K5 := hid (((Ch.refl No w3).drew).trans hc5)
              clear hc5
              go_simp
              have HS5 := hid (show w5.cell? ⟨ub, uo + k, none⟩ = some (.int .i64 j) ∧ w5.cell? ⟨mb, mo + q * 9 + 1, none⟩ = some (.string y.nm) ∧ w5.cell? ⟨mb, mo + q * 9 + 3, none⟩ = some (.bool true) ∧ w5.cell? ⟨w.heap.size, 0, none⟩ = some (.slice (some ⟨b, off, none⟩) len cap) ∧ w5.cell? ⟨w.heap.size, 1, none⟩ = some m0 ∧ w5.cell? ⟨w.heap.size, 2, none⟩ = some m1 ∧ w5.cell? ⟨w.heap.size, 3, none⟩ = some m2 ∧ w5.cell? ⟨w.heap.size, 4, none⟩ = some m3 ∧ w5.cell? ⟨w.heap.size, 5, none⟩ = some m4 ∧ w5.cell? ⟨w.heap.size, 6, none⟩ = some m5 ∧ w5.cell? ⟨w.heap.size, 7, none⟩ = some m6 ∧ w5.cell? ⟨w.heap.size, 8, none⟩ = some m7 ∧ w5.cell? ⟨w.heap.size, 9, none⟩ = some m8 from ⟨cell_ch HSx.out.1 K5.out (fun _ _ h => h), cell_ch HSx.out.2.1 K5.out (fun _ _ h => h), cell_ch HSx.out.2.2.1 K5.out (fun _ _ h => h), cell_ch HSx.out.2.2.2.1 K5.out (fun _ _ h => h), cell_ch HSx.out.2.2.2.2.1 K5.out (fun _ _ h => h), cell_ch HSx.out.2.2.2.2.2.1 K5.out (fun _ _ h => h), cell_ch HSx.out.2.2.2.2.2.2.1 K5.out (fun _ _ h => h), cell_ch HSx.out.2.2.2.2.2.2.2.1 K5.out (fun _ _ h => h), cell_ch HSx.out.2.2.2.2.2.2.2.2.1 K5.out (fun _ _ h => h), cell_ch HSx.out.2.2.2.2.2.2.2.2.2.1 K5.out (fun _ _ h => h), cell_ch HSx.out.2.2.2.2.2.2.2.2.2.2.1 K5.out (fun _ _ h => h), cell_ch HSx.out.2.2.2.2.2.2.2.2.2.2.2.1 K5.out (fun _ _ h => h), cell_ch HSx.out.2.2.2.2.2.2.2.2.2.2.2.2 K5.out (fun _ _ h => h)⟩)
              refine hK.out _ _ HS5.out (fun hHeld5 => ?_)
              clear hK
              (refine wpAnyH_take (i := 19) (v := ?_) rfl (by kernel_rfl) (by kernel_rfl) (by kernel_rfl) (fun _ _ _ h => h) (Or.inl ⟨by rfl, ?_⟩) (by assumption) ?_; rotate_left 1; · (intro wz hSw; (try dsimp only at hSw); go_simp; try rfl)); (try simp only [Act.put, List.getElem_toArray, List.getElem_cons_succ, List.getElem_cons_zero, List.setIfInBounds_toArray, List.set_cons_zero, List.set_cons_succ])
              (refine wpAnyH_take (i := 20) (v := ?_) rfl (by kernel_rfl) (by kernel_rfl) (by kernel_rfl) (fun _ _ _ h => h) (Or.inl ⟨by rfl, ?_⟩) (by assumption) ?_; rotate_left 1; · (intro wz hSw; (try dsimp only at hSw); go_simp; try rfl)); (try simp only [Act.put, List.getElem_toArray, List.getElem_cons_succ, List.getElem_cons_zero, List.setIfInBounds_toArray, List.set_cons_zero, List.set_cons_succ])
              refine wpAnyH_done (by kernel_rfl) ?_ _
              go_wp2_with fail
              go_roundg (mn - q - 1)
              case rel =>
                refine ⟨q + 1, by omega, by omega, by go_num, hid fun t ht => ?_, HC3.out.trans K5.out⟩
                by_cases h1 : t < q
                · exact HQ.out t h1
                · obtain rfl : t = q := by omega
                  intro y' hy' hb ho
                  rw [HY.out] at hy'; cases hy'
                  exact absurd ho HF.out
              case measure => omega
end Go.Proofs.YtgjpgfedlgdjhaaGreatDoor
