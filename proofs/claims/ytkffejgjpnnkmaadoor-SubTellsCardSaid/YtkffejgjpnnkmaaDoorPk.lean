/- Types: the reference 09: Is, Ref, Below; Texts of the reference 04. -/
import Derived.Test.YtkffejgjpnnkmaaDoorPj
set_option linter.unusedVariables false
set_option linter.unusedSimpArgs false
namespace Go.Proofs.YtkffejgjpnnkmaaDoor
open Go.RowKit Go.W

set_option maxHeartbeats 2000000 in
theorem rtexts {w : World} {v v' : Value} {l l' : List ByteArray} (h : StrsAt w v l) (h' : StrsAt w v' l') :
    Calls Tryd.prog 43 #[v, v'] w fun e w' => e = .returned (.bool (decide (l = l'))) ∧ ∃ q, w' = w.drewN q := by
  obtain ⟨ao, cap, rfl, hcap, hmax, hcell⟩ := h
  obtain ⟨ao', cap', rfl, hcap', hmax', hcell'⟩ := h'
  obtain ⟨len, hlen⟩ : ∃ len, l.length = len := ⟨_, rfl⟩
  obtain ⟨len', hlen'⟩ : ∃ len', l'.length = len' := ⟨_, rfl⟩
  rw [hlen] at hcap hcell ⊢
  rw [hlen'] at hcap' hcell' ⊢
  unfold maxLen at hmax hmax'
  have HL := hid hlen
  have HL' := hid hlen'
  obtain ⟨r, hr⟩ : ∃ r, decide (l = l') = r := ⟨_, rfl⟩
  rw [hr]
  have HR := hid hr
  clear hlen hr hlen'
  by_cases hne : len = len'
  · subst hne
    go_enter Tryd.func43, Tryd.ntmps43
    go_wp2_with fail
    go_loopg [5] len (fun g s5 wr => ∃ k q : Nat, k ≤ len ∧ len - k ≤ g ∧ s5 = .int .i64 k ∧ wr = w.drewN q ∧ l.take k = l'.take k)
    case atStart => exact ⟨0, 0, Nat.zero_le _, by omega, rfl, rfl, by simp⟩
    case round =>
      obtain ⟨k, q, hk, hg, rfl, rfl, heq⟩ := hrel
      have HQ := hid heq
      clear heq
      cases hd : decide (k < len) with
      | true =>
        have hkl : k < len := by simpa using hd
        obtain ⟨b, off, rfl, hc⟩ := hcell (by omega)
        obtain ⟨b', off', rfl, hc'⟩ := hcell' (by omega)
        obtain ⟨x, hx⟩ : ∃ x, l[k]? = some x := ⟨_, List.getElem?_eq_getElem (by have := HL.out; omega)⟩
        obtain ⟨y, hy⟩ : ∃ y, l'[k]? = some y := ⟨_, List.getElem?_eq_getElem (by have := HL'.out; omega)⟩
        have hq := hc k x hx
        have hq' := hc' k y hy
        have HX := hid hx
        have HY := hid hy
        clear hc hcell hx hc' hcell' hy
        by_cases e0 : x = y
        · have e1 := toL x y e0
          have E0 := hid e0
          clear e0
          go_wp2_with fail
          go_quiet (fail)
          go_wp2_with fail
          go_roundg (len - k - 1)
          case rel =>
            refine ⟨k + 1, _, by omega, by omega, by go_num, rfl, ?_⟩
            rw [List.take_add_one, List.take_add_one, HX.out, HY.out, HQ.out, E0.out]
          case measure => omega
        · have e1 := toLn x y e0
          have E0 := hid e0
          clear e0
          go_wp2_with fail
          go_quiet (fail)
          go_wp2_with fail
          go_ret
          refine ⟨ret_bool ?_, _, World.drewN_drewN ..⟩
          rw [← HR.out]; symm; rw [decide_eq_false_iff_not]
          rintro rfl
          exact E0.out (Option.some.inj (HX.out.symm.trans HY.out))
      | false =>
        go_wp2_with fail
        go_ret
        refine ⟨ret_bool ?_, _, rfl⟩
        rw [← HR.out]; symm; rw [decide_eq_true_eq]
        have hkl : ¬ k < len := by simpa using hd
        have := HQ.out
        rwa [List.take_of_length_le (by have := HL.out; omega), List.take_of_length_le (by have := HL'.out; omega)] at this
  · have e1 : ((len : Int) == (len' : Int)) = false := by simp; omega
    go_enter Tryd.func43, Tryd.ntmps43
    go_wp2_with fail
    go_ret
    refine ⟨ret_bool ?_, 0, rfl⟩
    rw [← HR.out]; symm; rw [decide_eq_false_iff_not]
    rintro rfl
    exact hne (HL.out.symm.trans HL'.out)
theorem rtexts' {w : World} {v v' : Value} {l : List ByteArray} (h : StrsAt w v l) (h' : StrsAt w v' l) :
    Calls Tryd.prog 43 #[v, v'] w fun e w' => e = .returned (.bool true) ∧ Ch No w w' :=
  (rtexts h h').mono fun e w' ⟨he, q, hw⟩ => ⟨he.trans (ret_bool (by simp)), by rw [hw]; exact (Ch.refl _ _).drewN q⟩

theorem elemS_none {cs : List Cls} {t : ByteArray} (h : elemO cs t = none) : (elemS cs t).toList.isEmpty = true := by
  unfold elemS; rw [h, emptyIs]; simp
theorem elemS_some {cs : List Cls} (hp : PlainP cs) {t e : ByteArray} (h : elemO cs t = some e) : (elemS cs t).toList.isEmpty = false := by
  obtain ⟨_, _, i, hi⟩ := elemO_some.1 h
  obtain ⟨c, hc, hn, _⟩ := find_some hi
  have := (hp c (List.mem_of_getElem? hc)).ne
  unfold elemS; rw [h, emptyIs]
  rw [hn] at this
  simpa using this

set_option maxRecDepth 100000 in
set_option maxHeartbeats 8000000 in
theorem gis {w : World} {pv : Value} {cs : List Cls} (h : ProgAt w pv cs) (hp : PlainP cs) {t : ByteArray} (ht : t.size ≤ maxLen) :
    Calls Tryd.prog 39 #[pv, .string t] w fun e w' => BoolIs (isT cs t) e ∧ Ch No w w' := by
  have HPL := hid hp
  clear hp
  have hp := h
  obtain ⟨cv, m0, m1, m2, m3, m4, m5, m6, m7, m8, rfl, h⟩ := h
  obtain ⟨ao, cap, rfl, hcap, hmax, _, _⟩ := h.row
  rw [List.length_map] at hcap h hp ⊢
  obtain ⟨len, hlen⟩ : ∃ len, cs.length = len := ⟨_, rfl⟩
  rw [hlen] at hcap h hp ⊢
  unfold maxLen at hmax
  obtain ⟨wa, hwa⟩ : ∃ wa, w.alloc (.cells #[.slice ao len cap, m0, m1, m2, m3, m4, m5, m6, m7, m8] 30) = wa := ⟨_, rfl⟩
  have hpb := heap_alloc_new w (.cells #[.slice ao len cap, m0, m1, m2, m3, m4, m5, m6, m7, m8] 30)
  have hch := (Ch.refl No w).alloc (.cells #[.slice ao len cap, m0, m1, m2, m3, m4, m5, m6, m7, m8] 30)
  rw [hwa] at hch hpb
  have HL := hid hlen
  have HP := hid (hp.no hch)
  have HC := hid (h.no hch)
  have HPB := hid hpb
  have HCH := hid hch
  have p0 := cellAt hpb 0
  have p1 := cellAt hpb 1
  have p2 := cellAt hpb 2
  have p3 := cellAt hpb 3
  have p4 := cellAt hpb 4
  have p5 := cellAt hpb 5
  have p6 := cellAt hpb 6
  have p7 := cellAt hpb 7
  have p8 := cellAt hpb 8
  have p9 := cellAt hpb 9
  have hz := lt_size hpb
  clear hlen h hp hpb hch
  by_cases h1 : t = sInt
  · have e1 := lit t [105, 110, 116] h1
    have H1 := hid h1
    clear h1
    go_enter Tryd.func39, Tryd.ntmps39
    go_wp2_with fail
    go_ret
    exact ⟨BoolIs.t (.inl H1.out), HCH.out⟩
  · have e1 := litn t [105, 110, 116] h1
    have H1 := hid h1
    clear h1
    by_cases h2 : t = sNull
    · have e2 := lit t [110, 117, 108, 108] h2
      have H2 := hid h2
      clear h2
      go_enter Tryd.func39, Tryd.ntmps39
      go_wp2_with fail
      go_ret
      exact ⟨BoolIs.t (.inr (.inl H2.out)), HCH.out⟩
    · have e2 := litn t [110, 117, 108, 108] h2
      have H2 := hid h2
      clear h2
      have hfi := rfind HP.out t
      cases hf : find cs t with
      | some j =>
        rw [findZ_some hf] at hfi
        have HF := hid hf
        clear hf
        go_enter Tryd.func39, Tryd.ntmps39
        go_wp2_with fail
        clear hwa
        refine hfi.mono ?_
        rintro e w5 ⟨rfl, hc5⟩
        clear hfi
        go_wp2_with fail
        go_ret
        exact ⟨BoolIs.t (.inr (.inr (.inl ⟨j, HF.out⟩))), HCH.out.trans hc5⟩
      | none =>
        rw [findZ_none hf] at hfi
        have HF := hid hf
        clear hf
        go_enter Tryd.func39, Tryd.ntmps39
        go_wp2_with fail
        clear hwa
        refine hfi.mono ?_
        rintro e w5 ⟨rfl, hc5⟩
        have hb5 := hc5.keep _ _ HPB.out (fun h => h)
        have hge := gelem (HP.out.no hc5) HPL.out ht
        have HC5 := hid (HCH.out.trans hc5)
        clear hfi hc5 p0 p1 p2 p3 p4 p5 p6 p7 p8 p9
        have p0 := cellAt hb5 0
        have p1 := cellAt hb5 1
        have p2 := cellAt hb5 2
        have p3 := cellAt hb5 3
        have p4 := cellAt hb5 4
        have p5 := cellAt hb5 5
        have p6 := cellAt hb5 6
        have p7 := cellAt hb5 7
        have p8 := cellAt hb5 8
        have p9 := cellAt hb5 9
        clear hb5
        cases he : elemO cs t with
        | none =>
          have e3 := elemS_none he
          have HE := hid he
          clear he
          go_wp2_with fail
          refine hge.mono ?_
          rintro e w6 ⟨rfl, hc6⟩
          clear hge
          go_wp2_with fail
          go_ret
          refine ⟨BoolIs.f ?_, HC5.out.trans hc6⟩
          rintro (h | h | ⟨i, h⟩ | ⟨e, h⟩)
          · exact H1.out h
          · exact H2.out h
          · rw [HF.out] at h; cases h
          · rw [HE.out] at h; cases h
        | some el =>
          have e3 := elemS_some HPL.out he
          have HE := hid he
          clear he
          go_wp2_with fail
          refine hge.mono ?_
          rintro e w6 ⟨rfl, hc6⟩
          clear hge
          go_wp2_with fail
          go_ret
          exact ⟨BoolIs.t (.inr (.inr (.inr ⟨el, HE.out⟩))), HC5.out.trans hc6⟩
set_option maxRecDepth 100000 in
set_option maxHeartbeats 4000000 in
theorem gref {w : World} {pv : Value} {cs : List Cls} (h : ProgAt w pv cs) (hp : PlainP cs) {t : ByteArray} (ht : t.size ≤ maxLen) :
    Calls Tryd.prog 41 #[pv, .string t] w fun e w' => BoolIs (t ≠ sInt ∧ isT cs t) e ∧ Ch No w w' := by
  have HPL := hid hp
  clear hp
  have hp := h
  obtain ⟨cv, m0, m1, m2, m3, m4, m5, m6, m7, m8, rfl, h⟩ := h
  obtain ⟨ao, cap, rfl, hcap, hmax, _, _⟩ := h.row
  rw [List.length_map] at hcap h hp ⊢
  obtain ⟨len, hlen⟩ : ∃ len, cs.length = len := ⟨_, rfl⟩
  rw [hlen] at hcap h hp ⊢
  unfold maxLen at hmax
  obtain ⟨wa, hwa⟩ : ∃ wa, w.alloc (.cells #[.slice ao len cap, m0, m1, m2, m3, m4, m5, m6, m7, m8] 30) = wa := ⟨_, rfl⟩
  have hpb := heap_alloc_new w (.cells #[.slice ao len cap, m0, m1, m2, m3, m4, m5, m6, m7, m8] 30)
  have hch := (Ch.refl No w).alloc (.cells #[.slice ao len cap, m0, m1, m2, m3, m4, m5, m6, m7, m8] 30)
  rw [hwa] at hch hpb
  have HL := hid hlen
  have HP := hid (hp.no hch)
  have HC := hid (h.no hch)
  have HPB := hid hpb
  have HCH := hid hch
  have p0 := cellAt hpb 0
  have p1 := cellAt hpb 1
  have p2 := cellAt hpb 2
  have p3 := cellAt hpb 3
  have p4 := cellAt hpb 4
  have p5 := cellAt hpb 5
  have p6 := cellAt hpb 6
  have p7 := cellAt hpb 7
  have p8 := cellAt hpb 8
  have p9 := cellAt hpb 9
  have hz := lt_size hpb
  clear hlen h hp hpb hch
  have hgi := gis HP.out HPL.out ht
  by_cases h1 : t = sInt
  · have e1 := lit t [105, 110, 116] h1
    have H1 := hid h1
    clear h1
    go_enter Tryd.func41, Tryd.ntmps41
    go_wp2_with fail
    go_ret
    exact ⟨BoolIs.f (fun h => h.1 H1.out), HCH.out⟩
  · have e1 := litn t [105, 110, 116] h1
    have H1 := hid h1
    clear h1
    go_enter Tryd.func41, Tryd.ntmps41
    go_wp2_with fail
    clear hwa
    refine hgi.mono ?_
    rintro e w5 ⟨⟨r, rfl, hr⟩, hc5⟩
    have HR := hid hr
    clear hgi hr
    go_wp2_with fail
    go_ret
    exact ⟨⟨r, rfl, fun h => ⟨H1.out, HR.out.1 h⟩, fun h => HR.out.2 h.2⟩, HCH.out.trans hc5⟩
end Go.Proofs.YtkffejgjpnnkmaaDoor
