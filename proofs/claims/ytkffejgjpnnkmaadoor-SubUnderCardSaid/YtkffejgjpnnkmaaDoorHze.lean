/- HierFaults: the law. -/
import Derived.Test.YtkffejgjpnnkmaaDoorHzd
set_option linter.unusedVariables false
set_option linter.unusedSimpArgs false
namespace Go.Proofs.YtkffejgjpnnkmaaDoor
open Go.RowKit Go.W

theorem faultIs {cs : List Cls} {o : Option Nat} (h : FaultAt cs o) : (o = none ∧ faultC cs o = (0, 0, 0)) ∨ ∃ i l c, o = some i ∧ faultC cs o = (11, l, c) := by
  cases o with
  | none => exact .inl ⟨rfl, rfl⟩
  | some i =>
    obtain ⟨c, hc⟩ : ∃ c, cs[i]? = some c := ⟨_, List.getElem?_eq_getElem h.1⟩
    exact .inr ⟨i, c.line, c.col, rfl, faultSome hc⟩

set_option maxHeartbeats 8000000 in
theorem law_hfaults {w : World} {pv : Value} {cs : List Cls} (hT : Tab w) (h : ProgAt w pv cs) (hsz : SzP cs) :
    Calls Tryd.prog 3 #[pv] w fun e w' => e = .returned (.bool true) ∧ Ch No w w' := by
  have HT0 := hid hT
  have HSZ := hid hsz
  clear hT hsz
  have hp := h
  obtain ⟨cv, m0, m1, m2, m3, m4, m5, m6, m7, m8, rfl, h⟩ := h
  obtain ⟨ao, cap, rfl, hcap, hmax, _, _⟩ := h.row
  rw [List.length_map] at hcap h hp ⊢
  obtain ⟨len, hlen⟩ : ∃ len, cs.length = len := ⟨_, rfl⟩
  rw [hlen] at hcap h hp ⊢
  unfold maxLen at hmax
  obtain ⟨wa, hwa⟩ : ∃ wa, w.alloc (.cells #[.slice ao len cap, m0, m1, m2, m3, m4, m5, m6, m7, m8] 30) = wa := ⟨_, rfl⟩
  have hpb := heap_alloc_new w (.cells #[.slice ao len cap, m0, m1, m2, m3, m4, m5, m6, m7, m8] 30)
  have hch := (Ch.refl No w).alloc (.cells #[.slice ao len cap, m0, m1, m2, m3, m4, m5, m6, m7, m8] 30)
  rw [hwa] at hch hpb
  have HL := hid hlen
  have HP := hid (hp.no hch)
  have HC := hid (h.no hch)
  have HPB := hid hpb
  have HCH := hid hch
  have p0 := cellAt hpb 0
  have p1 := cellAt hpb 1
  have p2 := cellAt hpb 2
  have p3 := cellAt hpb 3
  have p4 := cellAt hpb 4
  have p5 := cellAt hpb 5
  have p6 := cellAt hpb 6
  have p7 := cellAt hpb 7
  have p8 := cellAt hpb 8
  have p9 := cellAt hpb 9
  have hz := lt_size hpb
  clear hlen h hp hpb hch
  have HT := hid (HT0.out.no HCH.out)
  have haw := awake08 HT.out
  go_enter Tryd.func3, Tryd.ntmps3
  go_wp2_with fail
  refine haw.mono ?_
  rintro e w1 ⟨rfl, hc1⟩
  have hp1 := hc1.keep _ _ HPB.out (fun h => h)
  clear p0 p1 p2 p3 p4 p5 p6 p7 p8 p9 haw hwa
  have p0 := cellAt hp1 0
  have p1 := cellAt hp1 1
  have p2 := cellAt hp1 2
  have p3 := cellAt hp1 3
  have p4 := cellAt hp1 4
  have p5 := cellAt hp1 5
  have p6 := cellAt hp1 6
  have p7 := cellAt hp1 7
  have p8 := cellAt hp1 8
  have p9 := cellAt hp1 9
  have hsm := rsmall (HP.out.no hc1)
  have HP1 := hid hp1
  have HC1 := hid hc1
  clear hp1 hc1
  go_wp2_with fail
  refine hsm.mono ?_
  rintro e w2 ⟨⟨r, rfl, hr⟩, hc2⟩
  have hp2 := hc2.keep _ _ HP1.out (fun h => h)
  clear p0 p1 p2 p3 p4 p5 p6 p7 p8 p9 hsm
  have p0 := cellAt hp2 0
  have p1 := cellAt hp2 1
  have p2 := cellAt hp2 2
  have p3 := cellAt hp2 3
  have p4 := cellAt hp2 4
  have p5 := cellAt hp2 5
  have p6 := cellAt hp2 6
  have p7 := cellAt hp2 7
  have p8 := cellAt hp2 8
  have p9 := cellAt hp2 9
  have HP2 := hid hp2
  have HC2 := hid (HC1.out.trans hc2)
  have HR := hid hr
  clear hp2 hc2 hr
  cases r with
  | false =>
    have haw := awake08 (HT.out.no HC2.out)
    go_wp2_with fail
    refine haw.mono ?_
    rintro e w3 ⟨rfl, hc3⟩
    go_wp2_with fail
    go_ret
    exact ⟨rfl, HCH.out.trans (HC2.out.trans hc3)⟩
  | true =>
    have hsmall : SmallP cs := HR.out.1 rfl
    have hnw := hnew (HP.out.no HC2.out) (HT.out.no HC2.out) HSZ.out hsmall
    have HSM := hid hsmall
    clear hsmall
    go_wp2_with fail
    refine hnw.mono ?_
    rintro e w3 ⟨o, hf, hc3, hout⟩
    have HC3 := hid (HC2.out.trans hc3)
    have HF := hid hf
    have hp3 := hc3.keep _ _ HP2.out (fun h => h)
    have hfa := rfault (HP.out.no HC3.out) HSM.out
    have HP3 := hid hp3
    clear p0 p1 p2 p3 p4 p5 p6 p7 p8 p9 hnw hf hc3 hp3
    rcases faultIs HF.out with ⟨rfl, hfc⟩ | ⟨i, l, c, rfl, hfc⟩
    · obtain ⟨tv, rfl, tb, T, rfl, _⟩ := hout
      have hca := (Ch.refl No w3).alloc (.cells #[.int .i64 0, .int .i64 0, .int .i64 0] 36)
      have hba := heap_alloc_new w3 (.cells #[.int .i64 0, .int .i64 0, .int .i64 0] 36)
      have hp4 := hca.keep _ _ HP3.out (fun h => h)
      have p0 := cellAt hp4 0
      have p1 := cellAt hp4 1
      have p2 := cellAt hp4 2
      have p3 := cellAt hp4 3
      have p4 := cellAt hp4 4
      have p5 := cellAt hp4 5
      have p6 := cellAt hp4 6
      have p7 := cellAt hp4 7
      have p8 := cellAt hp4 8
      have p9 := cellAt hp4 9
      have HCA := hid hca
      have HBA := hid hba
      have HFC := hid hfc
      clear hca hba hp4 hfa hfc
      unfold faultV
      have hfa := fun (wz : World) (hz : Ch No w3 wz) => rfault (HP.out.no (HC3.out.trans hz)) HSM.out
      have hfa := hfa _ HCA.out
      go_wp2_with fail
      refine hfa.mono ?_
      rintro e w5 ⟨o2, hf2, rfl, hc5⟩
      obtain rfl := HF.out.uniq hf2
      rw [HFC.out]
      unfold faultV
      have hb5 := hc5.keep _ _ HBA.out (fun h => h)
      have g0 := cellAt hb5 0
      have g1 := cellAt hb5 1
      have g2 := cellAt hb5 2
      have zg := lt_size hb5
      have HC5 := hid hc5
      clear hfa hf2 hc5 hb5
      go_wp2_with fail
      go_ret
      exact ⟨rfl, (HCH.out.trans (HC3.out.trans (HCA.out.trans HC5.out))).alloc _⟩
    · have he : e = .returned (.tuple #[.pointer none, faultV (faultC cs (some i))]) := hout
      rw [hfc] at he
      subst he
      have hca := (Ch.refl No w3).alloc (.cells #[.int .i64 11, .int .i64 l, .int .i64 c] 36)
      have hba := heap_alloc_new w3 (.cells #[.int .i64 11, .int .i64 l, .int .i64 c] 36)
      have hp4 := hca.keep _ _ HP3.out (fun h => h)
      have p0 := cellAt hp4 0
      have p1 := cellAt hp4 1
      have p2 := cellAt hp4 2
      have p3 := cellAt hp4 3
      have p4 := cellAt hp4 4
      have p5 := cellAt hp4 5
      have p6 := cellAt hp4 6
      have p7 := cellAt hp4 7
      have p8 := cellAt hp4 8
      have p9 := cellAt hp4 9
      have HCA := hid hca
      have HBA := hid hba
      have HFC := hid hfc
      clear hca hba hp4 hfa hfc hout
      unfold faultV
      have hfa := fun (wz : World) (hz : Ch No w3 wz) => rfault (HP.out.no (HC3.out.trans hz)) HSM.out
      have hfa := hfa _ HCA.out
      go_wp2_with fail
      refine hfa.mono ?_
      rintro e w5 ⟨o2, hf2, rfl, hc5⟩
      obtain rfl := HF.out.uniq hf2
      rw [HFC.out]
      unfold faultV
      have hb5 := hc5.keep _ _ HBA.out (fun h => h)
      have g0 := cellAt hb5 0
      have g1 := cellAt hb5 1
      have g2 := cellAt hb5 2
      have zg := lt_size hb5
      have HC5 := hid hc5
      clear hfa hf2 hc5 hb5
      go_wp2_with fail
      go_ret
      exact ⟨rfl, (HCH.out.trans (HC3.out.trans (HCA.out.trans HC5.out))).alloc _⟩
end Go.Proofs.YtkffejgjpnnkmaaDoor
