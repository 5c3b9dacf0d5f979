/- HierBoth: the law. -/
import Derived.Test.YtkffejgjpnnkmaaDoorHzf
set_option linter.unusedVariables false
set_option linter.unusedSimpArgs false
namespace Go.Proofs.YtkffejgjpnnkmaaDoor
open Go.RowKit Go.W

theorem putLen (l : List Int) (n : Int) : (putS l n).length ≤ l.length + 1 := by
  unfold putS
  split
  · omega
  · have := congrArg List.length (List.takeWhile_append_dropWhile (p := fun x => decide (x < n)) (l := l))
    simp only [List.length_append, List.length_cons] at *
    omega
theorem foldLen (q : List Int) : ∀ l : List Int, (q.foldl putS l).length ≤ l.length + q.length := by
  induction q with
  | nil => intro l; simp
  | cons a q ih => intro l; rw [List.foldl_cons, List.length_cons]; have := ih (putS l a); have := putLen l a; omega

/-- what is above each, put together -/
noncomputable def bothF (cs : List Cls) (is : List Int) : List Int := is.foldl (fun acc i => (abL cs [i] cs.length).foldl putS acc) []
theorem bothIs {cs : List Cls} (hn : cs.length ≤ 20) (is : List Int) : bothF cs is = abL cs is cs.length := by
  have key : ∀ (js : List Int) (acc : List Int), Good acc → Good (js.foldl (fun acc i => (abL cs [i] cs.length).foldl putS acc) acc) ∧ ∀ z, z ∈ js.foldl (fun acc i => (abL cs [i] cs.length).foldl putS acc) acc ↔ z ∈ acc ∨ ∃ i ∈ js, z ∈ abL cs [i] cs.length := by
    intro js
    induction js with
    | nil => intro acc hg; exact ⟨hg, fun z => by simp⟩
    | cons j js ih =>
      intro acc hg
      obtain ⟨h1, h2⟩ := ih ((abL cs [j] cs.length).foldl putS acc) (hg.fold _)
      refine ⟨h1, fun z => ?_⟩
      rw [List.foldl_cons, h2, mem_fold]
      constructor
      · rintro ((h | ⟨h, _⟩) | ⟨i, hi, h⟩)
        · exact .inl h
        · exact .inr ⟨j, by simp, h⟩
        · exact .inr ⟨i, by simp [hi], h⟩
      · rintro (h3 | ⟨i, hi, h3⟩)
        · exact .inl (.inl h3)
        · rcases List.mem_cons.1 hi with rfl | hi
          · refine .inl (.inr ⟨h3, ?_⟩)
            obtain ⟨k, rfl, hk, _⟩ := mem_abL.1 h3
            omega
          · exact .inr ⟨i, hi, h3⟩
  obtain ⟨h1, h2⟩ := key is [] good_nil
  refine sorted_eq h1.1 (abSorted cs _ _) (fun z => ?_)
  unfold bothF
  rw [h2, abMono]
  constructor
  · rintro (h3 | ⟨i, hi, h3⟩)
    · cases h3
    · refine ⟨i, hi, ?_, h3⟩
      obtain ⟨k, _, _, u, hu, h⟩ := mem_abL.1 h3
      have hu' : u = i := by simpa using hu
      subst hu'
      exact ⟨h.1, h.2.1⟩
  · rintro ⟨i, hi, _, h3⟩
    exact .inr ⟨i, hi, h3⟩
theorem bothSnoc {cs : List Cls} {is : List Int} {k : Nat} {x : Int} (hx : is[k]? = some x) : bothF cs (is.take (k + 1)) = (abL cs [x] cs.length).foldl putS (bothF cs (is.take k)) := by
  unfold bothF
  rw [List.take_add_one, hx, List.foldl_append]
  rfl
theorem foldSnoc {l acc : List Int} {q : Nat} {x : Int} (hx : l[q]? = some x) : (l.take (q + 1)).foldl putS acc = putS ((l.take q).foldl putS acc) x := by
  rw [List.take_add_one, hx, List.foldl_append]
  rfl

set_option maxRecDepth 100000 in
set_option maxHeartbeats 16000000 in
theorem law_hboth {w : World} {pv vi : Value} {cs : List Cls} {is : List Int} (hT : Tab w) (h : ProgAt w pv cs) (hsz : SzP cs) (hi : IntsAt w vi is) :
    Calls Tryd.prog 6 #[pv, vi] w fun e w' => e = .returned (.bool true) ∧ Ch No w w' := by
  have HT0 := hid hT
  have HSZ := hid hsz
  have HI0 := hid hi
  obtain ⟨ai, capi, rfl, hcapi, hmaxi, _, _⟩ := hi
  obtain ⟨ni, hni⟩ : ∃ ni, is.length = ni := ⟨_, rfl⟩
  rw [hni] at hcapi HI0 ⊢
  unfold maxLen at hmaxi
  have HNI := hid hni
  clear hT hsz hni
  have hp := h
  obtain ⟨cv, m0, m1, m2, m3, m4, m5, m6, m7, m8, rfl, h⟩ := h
  obtain ⟨ao, cap, rfl, hcap, hmax, _, _⟩ := h.row
  rw [List.length_map] at hcap h hp ⊢
  obtain ⟨len, hlen⟩ : ∃ len, cs.length = len := ⟨_, rfl⟩
  rw [hlen] at hcap h hp ⊢
  unfold maxLen at hmax
  obtain ⟨wa, hwa⟩ : ∃ wa, w.alloc (.cells #[.slice ao len cap, m0, m1, m2, m3, m4, m5, m6, m7, m8] 30) = wa := ⟨_, rfl⟩
  have hpb := heap_alloc_new w (.cells #[.slice ao len cap, m0, m1, m2, m3, m4, m5, m6, m7, m8] 30)
  have hch := (Ch.refl No w).alloc (.cells #[.slice ao len cap, m0, m1, m2, m3, m4, m5, m6, m7, m8] 30)
  rw [hwa] at hch hpb
  have HL := hid hlen
  have HP := hid (hp.no hch)
  have HC := hid (h.no hch)
  have HPB := hid hpb
  have HCH := hid hch
  have p0 := cellAt hpb 0
  have p1 := cellAt hpb 1
  have p2 := cellAt hpb 2
  have p3 := cellAt hpb 3
  have p4 := cellAt hpb 4
  have p5 := cellAt hpb 5
  have p6 := cellAt hpb 6
  have p7 := cellAt hpb 7
  have p8 := cellAt hpb 8
  have p9 := cellAt hpb 9
  have hz := lt_size hpb
  clear hlen h hp hpb hch
  have HT := hid (HT0.out.no HCH.out)
  have HI := hid (HI0.out.no HCH.out)
  have haw := awake08 HT.out
  go_enter Tryd.func6, Tryd.ntmps6
  go_wp2_with fail
  refine haw.mono ?_
  rintro e w1 ⟨rfl, hc1⟩
  have hp1 := hc1.keep _ _ HPB.out (fun h => h)
  clear p0 p1 p2 p3 p4 p5 p6 p7 p8 p9 haw hwa
  have p0 := cellAt hp1 0
  have p1 := cellAt hp1 1
  have p2 := cellAt hp1 2
  have p3 := cellAt hp1 3
  have p4 := cellAt hp1 4
  have p5 := cellAt hp1 5
  have p6 := cellAt hp1 6
  have p7 := cellAt hp1 7
  have p8 := cellAt hp1 8
  have p9 := cellAt hp1 9
  have hsm := rsmall (HP.out.no hc1)
  have HP1 := hid hp1
  have HC1 := hid hc1
  clear hp1 hc1
  go_wp2_with fail
  refine hsm.mono ?_
  rintro e w2 ⟨⟨r, rfl, hr⟩, hc2⟩
  have hp2 := hc2.keep _ _ HP1.out (fun h => h)
  clear p0 p1 p2 p3 p4 p5 p6 p7 p8 p9 hsm
  have p0 := cellAt hp2 0
  have p1 := cellAt hp2 1
  have p2 := cellAt hp2 2
  have p3 := cellAt hp2 3
  have p4 := cellAt hp2 4
  have p5 := cellAt hp2 5
  have p6 := cellAt hp2 6
  have p7 := cellAt hp2 7
  have p8 := cellAt hp2 8
  have p9 := cellAt hp2 9
  have HP2 := hid hp2
  have HC2 := hid (HC1.out.trans hc2)
  have HR := hid hr
  clear hp2 hc2 hr
  cases r with
  | false =>
    have haw := awake08 (HT.out.no HC2.out)
    go_wp2_with fail
    refine haw.mono ?_
    rintro e w3 ⟨rfl, hc3⟩
    go_wp2_with fail
    go_ret
    exact ⟨rfl, HCH.out.trans (HC2.out.trans hc3)⟩
  | true =>
  cases h10 : decide (10 < ni) with
  | true =>
    have h10' : 10 < ni := by simpa using h10
    have haw := awake08 (HT.out.no HC2.out)
    go_wp2_with fail
    refine haw.mono ?_
    rintro e w3 ⟨rfl, hc3⟩
    go_wp2_with fail
    go_ret
    exact ⟨rfl, HCH.out.trans (HC2.out.trans hc3)⟩
  | false =>
    have h10' : ¬ 10 < ni := by simpa using h10
    have hsmall : SmallP cs := HR.out.1 rfl
    have hnw := hnew (HP.out.no HC2.out) (HT.out.no HC2.out) HSZ.out hsmall
    have HSM := hid hsmall
    have hl20 : len ≤ 20 := by have := hsmall.1; have := HL.out; omega
    clear hsmall
    go_wp2_with fail
    refine hnw.mono ?_
    rintro e w3 ⟨o, hf, hc3, hout⟩
    have HC3 := hid (HC2.out.trans hc3)
    have HF := hid hf
    clear p0 p1 p2 p3 p4 p5 p6 p7 p8 p9 hnw hf hc3
    rcases faultIs HF.out with ⟨rfl, hfc⟩ | ⟨i, l, c, rfl, hfc⟩
    · obtain ⟨tv, rfl, htv⟩ := hout
      have htv0 := htv
      obtain ⟨tb, T, rfl, _⟩ := htv
      have hca := (Ch.refl No w3).alloc (.cells #[.int .i64 0, .int .i64 0, .int .i64 0] 36)
      have hba := heap_alloc_new w3 (.cells #[.int .i64 0, .int .i64 0, .int .i64 0] 36)
      have g0 := cellAt hba 0
      have g1 := cellAt hba 1
      have g2 := cellAt hba 2
      have HTV := hid (htv0.no hca)
      have HCF := hid (HC3.out.trans hca)
      have HIF := hid (HI.out.no HCF.out)
      clear hfc hca hba htv0
      unfold faultV
      go_wp2_with fail
      obtain ⟨wf, hwf⟩ : ∃ wf, w3.alloc (.cells #[.int .i64 0, .int .i64 0, .int .i64 0] 36) = wf := ⟨_, rfl⟩
      rw [hwf] at HTV HCF HIF
      try rw [hwf]
      clear hwf g0 g1 g2
      go_loopg [7, 8] ni (fun g s7 s8 wr => ∃ (k : Nat), k ≤ ni ∧ ni - k ≤ g ∧ s8 = .int .i64 k ∧ IntsAt wr s7 (bothF cs (is.take k)) ∧ Ch No wf wr)
      case atStart => exact ⟨0, Nat.zero_le _, by omega, rfl, IntsAt.nil _, Ch.refl _ _⟩
      case round =>
        obtain ⟨k, hk, hgk, rfl, hall, hc⟩ := hrel
        have HALL := hid hall
        have hl1 : (bothF cs (is.take k)).length ≤ 20 := by
          rw [bothIs (by have := HL.out; omega)]; have := abLen cs (is.take k) cs.length; have := HL.out; omega
        obtain ⟨a7, cap7, rfl, _, _, _, _⟩ := hall
        have HCR := hid hc
        clear hc
        cases hd : decide (k < ni) with
        | false =>
          have hkl : ¬ k < ni := by simpa using hd
          have hab := tAbove (HT.out.no (HCF.out.trans HCR.out)) (HTV.out.no HCR.out) HF.out (by have := HL.out; omega) (HIF.out.no HCR.out)
          go_wp2_with fail
          refine hab.mono ?_
          rintro e w5 ⟨u, rfl, hu, hc5⟩
          have hsa := rsame' hu.at_ (HALL.out.no hc5)
          have HC5 := hid hc5
          clear hab hu hc5
          go_wp2_with fail
          refine hsa.mono ?_
          rintro e w6 ⟨rfl, hc6⟩
          have e1 : decide (abL cs is cs.length = bothF cs (is.take k)) = true := by
            rw [List.take_of_length_le (by have := HNI.out; omega), bothIs (by have := HL.out; omega)]; simp
          rw [e1]
          clear hsa e1
          go_wp2_with fail
          go_ret
          exact ⟨rfl, HCH.out.trans (HCF.out.trans (HCR.out.trans (HC5.out.trans hc6)))⟩
        | true =>
          have hkl : k < ni := by simpa using hd
          obtain ⟨x, hx⟩ : ∃ x, is[k]? = some x := ⟨_, List.getElem?_eq_getElem (by have := HNI.out; omega)⟩
          obtain ⟨b2, off2, hao, hqc⟩ := intsCell (HIF.out.no HCR.out) hx
          subst hao
          have hab := tAbove (HT.out.no ((HCF.out.trans HCR.out).alloc (.cells #[.int .i64 x] 3))) (HTV.out.no (HCR.out.alloc (.cells #[.int .i64 x] 3))) HF.out (by have := HL.out; omega) (one_at wr x)
          have HX := hid hx
          clear hx
          go_wp2_with fail
          refine hab.mono ?_
          rintro e w5 ⟨u, rfl, hu, hc5⟩
          obtain ⟨a9, cap9, rfl, hcap9, hmax9, _, _⟩ := hu.at_
          obtain ⟨nu, hnu⟩ : ∃ nu, (abL cs [x] cs.length).length = nu := ⟨_, rfl⟩
          have hnu20 : nu ≤ 20 := by have := abLen cs [x] cs.length; have := HL.out; omega
          rw [hnu] at hcap9 hu ⊢
          unfold maxLen at hmax9
          have HNU := hid hnu
          have HU := hid hu.at_
          have HC5 := hid (((Ch.refl No wr).alloc (.cells #[.int .i64 x] 3)).trans hc5)
          have HA7 := hid (HALL.out.no HC5.out)
          clear hab hu hnu hc5 hqc HALL
          obtain ⟨n7, hn7⟩ : ∃ n7, (bothF cs (is.take k)).length = n7 := ⟨_, rfl⟩
          rw [hn7] at HA7 hl1 ⊢
          have HN7 := hid hn7
          clear hn7
          go_wp2_with fail
          go_loopg [7, 10] nu (fun g s7 s10 wr' => ∃ (q : Nat), q ≤ nu ∧ nu - q ≤ g ∧ s10 = .int .i64 q ∧ IntsAt wr' s7 (((abL cs [x] cs.length).take q).foldl putS (bothF cs (is.take k))) ∧ Ch No w5 wr')
          case atStart => exact ⟨0, Nat.zero_le _, by omega, rfl, HA7.out, Ch.refl _ _⟩
          case round =>
            obtain ⟨q, hq, hgq, rfl, hin, hcq⟩ := hrel
            have HIN := hid hin
            have HCQ := hid hcq
            obtain ⟨a71, cap71, rfl, _, _, _, _⟩ := hin
            have hl2 : (((abL cs [x] cs.length).take q).foldl putS (bothF cs (is.take k))).length ≤ 3000000 := by
              have h1 := foldLen ((abL cs [x] cs.length).take q) (bothF cs (is.take k))
              have h2 := List.length_take_le q (abL cs [x] cs.length)
              have := HN7.out
              omega
            clear hcq
            cases hdq : decide (q < nu) with
            | false =>
              have hql : ¬ q < nu := by simpa using hdq
              go_wp2_with fail
              go_roundg (ni - k - 1)
              case rel =>
                refine ⟨k + 1, by omega, by omega, by go_num, ?_, HCR.out.trans (HC5.out.trans HCQ.out)⟩
                rw [bothSnoc HX.out]
                have h1 := HIN.out
                have e1 : (abL cs [x] cs.length).take q = abL cs [x] cs.length := List.take_of_length_le (by have := HNU.out; omega)
                rw [e1] at h1 ⊢
                exact h1
              case measure => omega
            | true =>
              have hql : q < nu := by simpa using hdq
              obtain ⟨z, hz⟩ : ∃ z, (abL cs [x] cs.length)[q]? = some z := ⟨_, List.getElem?_eq_getElem (by have := HNU.out; omega)⟩
              obtain ⟨b3, off3, hao3, hqc3⟩ := intsCell (HU.out.no HCQ.out) hz
              subst hao3
              have hpt := rput (HIN.out.no (Ch.refl No wr)) z hl2
              have HZ := hid hz
              clear hz
              go_wp2_with fail
              refine hpt.mono ?_
              rintro e w7 ⟨u7, rfl, hu7, hc7⟩
              have hu8 : IntsAt w7 u7 (((abL cs [x] cs.length).take (q + 1)).foldl putS (bothF cs (is.take k))) := by
                rw [foldSnoc HZ.out]
                rcases hu7 with ⟨rfl, e⟩ | h
                · rw [e]; exact HIN.out.no hc7
                · exact h.at_
              have HU8 := hid hu8
              have HC7 := hid (HCQ.out.trans hc7)
              clear hpt hu7 hu8 hc7
              go_wp2_with fail
              go_roundg (nu - q - 1)
              case rel => exact ⟨q + 1, by omega, by omega, by go_num, HU8.out, HC7.out⟩
              case measure => omega
    · have he : e = .returned (.tuple #[.pointer none, faultV (faultC cs (some i))]) := hout
      rw [hfc] at he
      subst he
      have hca := (Ch.refl No w3).alloc (.cells #[.int .i64 11, .int .i64 l, .int .i64 c] 36)
      have hba := heap_alloc_new w3 (.cells #[.int .i64 11, .int .i64 l, .int .i64 c] 36)
      obtain ⟨wf, hwf⟩ : ∃ wf, w3.alloc (.cells #[.int .i64 11, .int .i64 l, .int .i64 c] 36) = wf := ⟨_, rfl⟩
      rw [hwf] at hca hba
      have g0 := cellAt hba 0
      have g1 := cellAt hba 1
      have g2 := cellAt hba 2
      have HCF := hid (HC3.out.trans hca)
      clear hfc hca hba hout
      unfold faultV
      go_wp2_with fail
      go_ret
      exact ⟨rfl, HCH.out.trans HCF.out⟩
end Go.Proofs.YtkffejgjpnnkmaaDoor
