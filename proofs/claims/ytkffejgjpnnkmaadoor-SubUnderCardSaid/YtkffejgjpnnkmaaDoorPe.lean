/- Types: Plain of the reference 09; right, made of the law 09. -/
import Derived.Test.YtkffejgjpnnkmaaDoorPc
import Derived.Test.YtkffejgjpnnkmaaDoorHze
set_option linter.unusedVariables false
set_option linter.unusedSimpArgs false
namespace Go.Proofs.YtkffejgjpnnkmaaDoor
open Go.RowKit Go.W

theorem emptyIs (a : ByteArray) : a.toList.isEmpty = decide (a = ⟨#[]⟩) := by
  have h := streqL a []
  have e : (a.toList == []) = a.toList.isEmpty := by cases a.toList <;> rfl
  rw [← e, h]
set_option maxHeartbeats 8000000 in
theorem rplain {w : World} {pv : Value} {cs : List Cls} (h : ProgAt w pv cs) (hsz : SzP cs) :
    Calls Tryd.prog 60 #[pv] w fun e w' => BoolIs (PlainP cs) e ∧ Ch No w w' := by
  have HSZ := hid hsz
  obtain ⟨cv, m0, m1, m2, m3, m4, m5, m6, m7, m8, rfl, h⟩ := h
  have hch := (Ch.refl No w).alloc (.cells #[cv, m0, m1, m2, m3, m4, m5, m6, m7, m8] 30)
  have h' := h.no hch
  obtain ⟨ao, cap, rfl, hcap, hmax, _, _⟩ := h.row
  rw [List.length_map] at hcap h' ⊢
  obtain ⟨len, hlen⟩ : ∃ len, cs.length = len := ⟨_, rfl⟩
  rw [hlen] at hcap h' ⊢
  unfold maxLen at hmax
  have HL := hid hlen
  have HC := hid h'
  obtain ⟨wa, hwa⟩ : ∃ wa, w.alloc (.cells #[.slice ao len cap, m0, m1, m2, m3, m4, m5, m6, m7, m8] 30) = wa := ⟨_, rfl⟩
  have c0 := cellAt (heap_alloc_new w (.cells #[.slice ao len cap, m0, m1, m2, m3, m4, m5, m6, m7, m8] 30)) 0
  rw [List.length_map, hlen] at hch
  rw [hwa] at hch HC c0
  have HCH := hid hch
  clear hlen h h' hch hsz
  go_enter Tryd.func60, Tryd.ntmps60
  go_wp2_with fail
  clear hwa
  go_loop [3] (fun s3 => ∃ k : Nat, k ≤ len ∧ s3 = .int .i64 k ∧ Hid (∀ x ∈ cs.take k, PlainC x)) (fun s3 => len - (intOf s3).toNat)
  case atStart => exact ⟨0, Nat.zero_le _, rfl, hid (by simp)⟩
  case round =>
    obtain ⟨k, hk, rfl, HN⟩ := hrel
    cases hd : decide (k < len) with
    | true =>
      have hkl : k < len := by simpa using hd
      obtain ⟨c, hc⟩ : ∃ c, cs[k]? = some c := ⟨_, List.getElem?_eq_getElem (by have := HL.out; omega)⟩
      obtain ⟨b, off, cap', e, hcell, _, _⟩ := HC.out.cell hc
      rw [HL.out] at e
      cases e
      have q0 := hcell.q0
      have HX := hid hc
      have hcs := (HSZ.out c (List.mem_of_getElem? hc)).1
      unfold maxLen at hcs
      obtain ⟨nm, hnm⟩ : ∃ nm, c.name = nm := ⟨_, rfl⟩
      rw [hnm] at q0 hcs
      have HNM := hid hnm
      have hno : ¬ PlainC c → ¬ PlainP cs := fun h hp => h (hp c (List.mem_of_getElem? HX.out))
      have HNO := hid hno
      clear hc hcell hnm hno
      by_cases h1 : nm = ⟨#[]⟩
      · have e1 : nm.toList.isEmpty = true := by rw [emptyIs]; simpa using h1
        have H1 := hid h1
        clear h1
        go_wp2_with fail
        go_ret
        exact ⟨BoolIs.f (HNO.out (fun h => h.ne (HNM.out.trans H1.out))), HCH.out⟩
      have e1 : nm.toList.isEmpty = false := by rw [emptyIs]; simpa using h1
      have H1 := hid h1
      clear h1
      by_cases h2 : nm = sInt
      · have e2 := lit nm [105, 110, 116] h2
        have H2 := hid h2
        clear h2
        go_wp2_with fail
        go_ret
        exact ⟨BoolIs.f (HNO.out (fun h => h.nint (HNM.out.trans H2.out))), HCH.out⟩
      have e2 := litn nm [105, 110, 116] h2
      have H2 := hid h2
      clear h2
      by_cases h3 : nm = sNull
      · have e3 := lit nm [110, 117, 108, 108] h3
        have H3 := hid h3
        clear h3
        go_wp2_with fail
        go_ret
        exact ⟨BoolIs.f (HNO.out (fun h => h.nnull (HNM.out.trans H3.out))), HCH.out⟩
      have e3 := litn nm [110, 117, 108, 108] h3
      have H3 := hid h3
      clear h3
      by_cases h4 : nm = sVoid
      · have e4 := lit nm [118, 111, 105, 100] h4
        have H4 := hid h4
        clear h4
        go_wp2_with fail
        go_ret
        exact ⟨BoolIs.f (HNO.out (fun h => h.nvoid (HNM.out.trans H4.out))), HCH.out⟩
      have e4 := litn nm [118, 111, 105, 100] h4
      have H4 := hid h4
      clear h4
      have hgood : ¬ arrP nm → ∀ x ∈ cs.take (k + 1), PlainC x := by
        intro ha x hx
        rw [List.take_add_one, HX.out] at hx
        rcases List.mem_append.1 hx with hx | hx
        · exact HN.out x hx
        · simp at hx; subst hx
          have e := HNM.out
          exact ⟨by rw [e]; exact H1.out, by rw [e]; exact H2.out, by rw [e]; exact H3.out, by rw [e]; exact H4.out, by rw [e]; exact ha⟩
      have HG := hid hgood
      clear hgood
      cases h5 : decide ((2 : Int) ≤ nm.size) with
      | false =>
        have h5' : ¬ (2 : Int) ≤ nm.size := by simpa using h5
        go_wp2_with fail
        go_round
        case rel => exact ⟨k + 1, by omega, by go_num, hid (HG.out (fun h => by have := h.1; omega))⟩
        case measure => simp [intOf]; omega
      | true =>
        have h5' : (2 : Int) ≤ nm.size := by simpa using h5
        have hsl : ∀ w', (Instr.slice 9 (.string nm) (some (.int .i64 ((nm.size : Int) - 2))) none none).run Tryd.prog w' = .ok (.string (nm.extract (nm.size - 2) nm.size)) w' := by
          intro w'
          have := run_slice_string_l w' 9 nm Tryd.underlying9 .i64 ((nm.size : Int) - 2) (by omega) (by omega)
          rwa [show ((nm.size : Int) - 2).toNat = nm.size - 2 by omega] at this
        have hsl' := hsl wa
        have HSL := hid hsl
        clear hsl
        obtain ⟨sx, hsx⟩ : ∃ sx, nm.extract (nm.size - 2) nm.size = sx := ⟨_, rfl⟩
        rw [hsx] at hsl'
        by_cases h6 : sx = sArr
        · have e6 := lit sx [91, 93] h6
          have HA := hid (show arrP nm from ⟨by omega, hsx.trans h6⟩)
          clear h6 hsx
          go_wp2_with fail
          go_ret
          exact ⟨BoolIs.f (HNO.out (fun h => h.narr (by rw [HNM.out]; exact HA.out))), HCH.out⟩
        · have e6 := litn sx [91, 93] h6
          have HA := hid (show ¬ arrP nm from fun h => h6 (hsx.symm.trans h.2))
          clear h6 hsx
          go_wp2_with fail
          go_round
          case rel => exact ⟨k + 1, by omega, by go_num, hid (HG.out HA.out)⟩
          case measure => simp [intOf]; omega
    | false =>
      have hkl : ¬ k < len := by simpa using hd
      go_wp2_with fail
      go_ret
      refine ⟨BoolIs.t (fun c hc => HN.out c ?_), HCH.out⟩
      rw [List.take_of_length_le (by have := HL.out; omega)]; exact hc

theorem faultFld (w : World) (a b c : Int) : (Instr.field 36 (.agg #[.int .i64 a, .int .i64 b, .int .i64 c]) 0).run Tryd.prog w = .ok (.int .i64 a) w := by kernel_rfl
/-- a program that may be looked at -/
def RightP (cs : List Cls) : Prop := SmallP cs ∧ FaultAt cs none ∧ PlainP cs
set_option maxRecDepth 100000 in
set_option maxHeartbeats 4000000 in
theorem lright {w : World} {pv : Value} {cs : List Cls} (h : ProgAt w pv cs) (hsz : SzP cs) :
    Calls Tryd.prog 31 #[pv] w fun e w' => BoolIs (RightP cs) e ∧ Ch No w w' := by
  have HSZ := hid hsz
  clear hsz
  have hp := h
  obtain ⟨cv, m0, m1, m2, m3, m4, m5, m6, m7, m8, rfl, h⟩ := h
  obtain ⟨ao, cap, rfl, hcap, hmax, _, _⟩ := h.row
  rw [List.length_map] at hcap h hp ⊢
  obtain ⟨len, hlen⟩ : ∃ len, cs.length = len := ⟨_, rfl⟩
  rw [hlen] at hcap h hp ⊢
  unfold maxLen at hmax
  obtain ⟨wa, hwa⟩ : ∃ wa, w.alloc (.cells #[.slice ao len cap, m0, m1, m2, m3, m4, m5, m6, m7, m8] 30) = wa := ⟨_, rfl⟩
  have hpb := heap_alloc_new w (.cells #[.slice ao len cap, m0, m1, m2, m3, m4, m5, m6, m7, m8] 30)
  have hch := (Ch.refl No w).alloc (.cells #[.slice ao len cap, m0, m1, m2, m3, m4, m5, m6, m7, m8] 30)
  rw [hwa] at hch hpb
  have HL := hid hlen
  have HP := hid (hp.no hch)
  have HC := hid (h.no hch)
  have HPB := hid hpb
  have HCH := hid hch
  have p0 := cellAt hpb 0
  have p1 := cellAt hpb 1
  have p2 := cellAt hpb 2
  have p3 := cellAt hpb 3
  have p4 := cellAt hpb 4
  have p5 := cellAt hpb 5
  have p6 := cellAt hpb 6
  have p7 := cellAt hpb 7
  have p8 := cellAt hpb 8
  have p9 := cellAt hpb 9
  have hz := lt_size hpb
  clear hlen h hp hpb hch
  have hsm := rsmall HP.out
  go_enter Tryd.func31, Tryd.ntmps31
  go_wp2_with fail
  clear hwa
  refine hsm.mono ?_
  rintro e w1 ⟨⟨r, rfl, hr⟩, hc1⟩
  have hp1 := hc1.keep _ _ HPB.out (fun h => h)
  have HP1 := hid (HP.out.no hc1)
  have HC1 := hid (HCH.out.trans hc1)
  have HB1 := hid hp1
  have HR := hid hr
  clear p0 p1 p2 p3 p4 p5 p6 p7 p8 p9 hsm hr hc1
  have p0 := cellAt hp1 0
  have p1 := cellAt hp1 1
  have p2 := cellAt hp1 2
  have p3 := cellAt hp1 3
  have p4 := cellAt hp1 4
  have p5 := cellAt hp1 5
  have p6 := cellAt hp1 6
  have p7 := cellAt hp1 7
  have p8 := cellAt hp1 8
  have p9 := cellAt hp1 9
  clear hp1
  cases r with
  | false =>
    have HNO := hid (show ¬ SmallP cs from fun h => Bool.noConfusion (HR.out.2 h))
    clear HR
    go_wp2_with fail
    go_ret
    exact ⟨BoolIs.f (fun h => HNO.out h.1), HC1.out⟩
  | true =>
    have HSM := hid (HR.out.1 rfl)
    clear HR
    have hfa := rfault HP1.out HSM.out
    go_wp2_with fail
    refine hfa.mono ?_
    rintro e w2 ⟨o, ho, rfl, hc2⟩
    have HO := hid ho
    clear hfa ho
    rcases faultIs HO.out with ⟨rfl, hfc⟩ | ⟨i, l, c, rfl, hfc⟩
    · rw [hfc]
      have hp2 := hc2.keep _ _ HB1.out (fun h => h)
      have hpl := rplain (HP1.out.no hc2) HSZ.out
      have HC2 := hid (HC1.out.trans hc2)
      clear p0 p1 p2 p3 p4 p5 p6 p7 p8 p9 hfc hc2
      have p0 := cellAt hp2 0
      have p1 := cellAt hp2 1
      have p2 := cellAt hp2 2
      have p3 := cellAt hp2 3
      have p4 := cellAt hp2 4
      have p5 := cellAt hp2 5
      have p6 := cellAt hp2 6
      have p7 := cellAt hp2 7
      have p8 := cellAt hp2 8
      have p9 := cellAt hp2 9
      clear hp2
      have hfd := faultFld w2 0 0 0
      unfold faultV
      go_wp2_with fail
      refine hpl.mono ?_
      rintro e w3 ⟨⟨r, rfl, hr⟩, hc3⟩
      have HR := hid hr
      have HC3 := hid (HC2.out.trans hc3)
      clear hpl hr hc3
      go_wp2_with fail
      go_ret
      exact ⟨⟨r, rfl, fun h => ⟨HSM.out, HO.out, HR.out.1 h⟩, fun h => HR.out.2 h.2.2⟩, HC3.out⟩
    · rw [hfc]
      have HC2 := hid (HC1.out.trans hc2)
      clear hfc hc2
      have hfd := faultFld w2 11 l c
      unfold faultV
      go_wp2_with fail
      go_ret
      refine ⟨BoolIs.f (fun h => ?_), HC2.out⟩
      have := HO.out.uniq h.2.1
      cases this

set_option maxRecDepth 100000 in
set_option maxHeartbeats 4000000 in
theorem lmade {w : World} {pv : Value} {cs : List Cls} (hT : Tab w) (h : ProgAt w pv cs) (hsz : SzP cs) (hsm : SmallP cs) (hf : FaultAt cs none) :
    Calls Tryd.prog 32 #[pv] w fun e w' => ∃ xv, e = .returned xv ∧ TypesIs w' xv cs ∧ Ch No w w' := by
  have HSZ := hid hsz
  have HSM := hid hsm
  have HF := hid hf
  have HT0 := hid hT
  clear hsz hsm hf hT
  have hp := h
  obtain ⟨cv, m0, m1, m2, m3, m4, m5, m6, m7, m8, rfl, h⟩ := h
  obtain ⟨ao, cap, rfl, hcap, hmax, _, _⟩ := h.row
  rw [List.length_map] at hcap h hp ⊢
  obtain ⟨len, hlen⟩ : ∃ len, cs.length = len := ⟨_, rfl⟩
  rw [hlen] at hcap h hp ⊢
  unfold maxLen at hmax
  obtain ⟨wa, hwa⟩ : ∃ wa, w.alloc (.cells #[.slice ao len cap, m0, m1, m2, m3, m4, m5, m6, m7, m8] 30) = wa := ⟨_, rfl⟩
  have hpb := heap_alloc_new w (.cells #[.slice ao len cap, m0, m1, m2, m3, m4, m5, m6, m7, m8] 30)
  have hch := (Ch.refl No w).alloc (.cells #[.slice ao len cap, m0, m1, m2, m3, m4, m5, m6, m7, m8] 30)
  rw [hwa] at hch hpb
  have HL := hid hlen
  have HP := hid (hp.no hch)
  have HC := hid (h.no hch)
  have HPB := hid hpb
  have HCH := hid hch
  have p0 := cellAt hpb 0
  have p1 := cellAt hpb 1
  have p2 := cellAt hpb 2
  have p3 := cellAt hpb 3
  have p4 := cellAt hpb 4
  have p5 := cellAt hpb 5
  have p6 := cellAt hpb 6
  have p7 := cellAt hpb 7
  have p8 := cellAt hpb 8
  have p9 := cellAt hpb 9
  have hz := lt_size hpb
  clear hlen h hp hpb hch
  have HT := hid (HT0.out.no HCH.out)
  have hnw := hnew HP.out HT.out HSZ.out HSM.out
  go_enter Tryd.func32, Tryd.ntmps32
  go_wp2_with fail
  clear hwa
  refine hnw.mono ?_
  rintro e w1 ⟨o, ho, hc1, hout⟩
  obtain rfl := ho.uniq HF.out
  obtain ⟨tv, rfl, htv⟩ := hout
  have hca := hc1.alloc (.cells #[.int .i64 0, .int .i64 0, .int .i64 0] 36)
  have htva := htv.no ((Ch.refl No w1).alloc (.cells #[.int .i64 0, .int .i64 0, .int .i64 0] 36))
  have hxn := xnew (HT.out.no hca) htva HF.out (by have := HSM.out.1; omega)
  obtain ⟨tb, T, rfl, hTT⟩ := htv
  have HCA := hid (HCH.out.trans hca)
  clear hnw ho hc1 hca htva hTT p0 p1 p2 p3 p4 p5 p6 p7 p8 p9
  unfold faultV
  go_wp2_with fail
  refine hxn.mono ?_
  rintro e w2 ⟨xv, rfl, hx, hc2⟩
  have HX := hid hx
  have HC2 := hid (HCA.out.trans hc2)
  obtain ⟨xb, tb', abv, ss, rfl, _⟩ := hx
  clear hxn hc2
  go_wp2_with fail
  go_ret
  exact ⟨_, rfl, HX.out, HC2.out⟩

/-- names of which longer ones can be made -/
def SzB (cs : List Cls) : Prop := ∀ c ∈ cs, c.name.size ≤ 4611686018427387904
theorem oneStr2 (a b : ByteArray) : ∀ u ∈ [Value.string a, Value.string b], u.oneCell' = true := by
  intro u hu
  simp at hu
  rcases hu with rfl | rfl <;> rfl
/-- all's state at a round's head -/
structure AllSt (cs : List Cls) (wa wr : World) (v : Value) (k : Nat) : Prop where
  ch : Ch No wa wr
  own : StrsOwn wr wa.heap.size v (allT cs k)
theorem AllSt.rowAt {cs : List Cls} {wa wr w' : World} {v : Value} {k n : Nat} (h : AllSt cs wa wr v k) (hn : (allT cs k).length = n) (hc : Ch No wr w') : w'.ownsRow wa.heap.size 9 1 v n ((allT cs k).map Value.string) := by
  have := h.own.no hc
  unfold StrsOwn at this
  rw [hn] at this
  exact this
theorem AllSt.step {cs : List Cls} {wa wr w4 w5 : World} {v v5 : Value} {k n : Nat} {c : Cls} (h : AllSt cs wa wr v k) (hn : (allT cs k).length = n) (hc4 : Ch No wr w4) (hcs : cs[k]? = some c)
    (hr : w5.ownsRow wa.heap.size 9 1 v5 (n + 2) ((allT cs k).map Value.string ++ [.string c.name, .string (c.name ++ { data := #[91, 93] })])) (hc : Ch (fun j _ => v.ownBlock = some j) w4 w5) : AllSt cs wa w5 v5 (k + 1) := by
  refine ⟨(h.ch.trans hc4).trans' hc (fun j o ho e => ?_), ?_⟩
  · obtain ⟨h1, _⟩ := owned_typed (h.rowAt rfl hc4) j e
    have := lt_size ho
    omega
  · unfold StrsOwn
    rw [allTsnoc hcs, List.map_append, List.length_append, hn]
    exact hr
set_option maxRecDepth 100000 in
set_option maxHeartbeats 4000000 in
theorem lall {w : World} {pv : Value} {cs : List Cls} (h : ProgAt w pv cs) (hsz : SzB cs) :
    Calls Tryd.prog 33 #[pv] w fun e w' => ∃ v, e = .returned v ∧ StrsAt w' v (allT cs 8) ∧ Ch No w w' := by
  have HSZ := hid hsz
  clear hsz
  have hp := h
  obtain ⟨cv, m0, m1, m2, m3, m4, m5, m6, m7, m8, rfl, h⟩ := h
  obtain ⟨ao, cap, rfl, hcap, hmax, _, _⟩ := h.row
  rw [List.length_map] at hcap h hp ⊢
  obtain ⟨len, hlen⟩ : ∃ len, cs.length = len := ⟨_, rfl⟩
  rw [hlen] at hcap h hp ⊢
  unfold maxLen at hmax
  obtain ⟨wa, hwa⟩ : ∃ wa, w.alloc (.cells #[.slice ao len cap, m0, m1, m2, m3, m4, m5, m6, m7, m8] 30) = wa := ⟨_, rfl⟩
  have hpb := heap_alloc_new w (.cells #[.slice ao len cap, m0, m1, m2, m3, m4, m5, m6, m7, m8] 30)
  have hch := (Ch.refl No w).alloc (.cells #[.slice ao len cap, m0, m1, m2, m3, m4, m5, m6, m7, m8] 30)
  rw [hwa] at hch hpb
  have HL := hid hlen
  have HP := hid (hp.no hch)
  have HC := hid (h.no hch)
  have HPB := hid hpb
  have HCH := hid hch
  have p0 := cellAt hpb 0
  have p1 := cellAt hpb 1
  have p2 := cellAt hpb 2
  have p3 := cellAt hpb 3
  have p4 := cellAt hpb 4
  have p5 := cellAt hpb 5
  have p6 := cellAt hpb 6
  have p7 := cellAt hpb 7
  have p8 := cellAt hpb 8
  have p9 := cellAt hpb 9
  have hz := lt_size hpb
  clear hlen h hp hpb hch
  have hst : AllSt cs wa (wa.alloc (.cells #[.string { data := #[105, 110, 116] }, .string { data := #[110, 117, 108, 108] }] 9)) (.slice (some ⟨wa.heap.size, 0, none⟩) 2 2) 0 :=
    ⟨(Ch.refl No wa).alloc _, strsBuilt wa [sInt, sNull] (Nat.le_of_ble_eq_true rfl) (Nat.le_of_ble_eq_true rfl)⟩
  have HST := hid hst
  clear hst
  go_enter Tryd.func33, Tryd.ntmps33
  go_wp2_with fail
  clear hwa p0 p1 p2 p3 p4 p5 p6 p7 p8 p9
  go_loopg [3, 4] len (fun g s3 s4 wr => ∃ (k : Nat), k ≤ len ∧ k ≤ 8 ∧ len - k ≤ g ∧ s4 = .int .i64 k ∧ Hid (AllSt cs wa wr s3 k))
  case atStart => exact ⟨0, Nat.zero_le _, Nat.zero_le _, by omega, rfl, HST⟩
  case round =>
    obtain ⟨k, hk, hk8, hg, rfl, HS⟩ := hrel
    have p0 := cellAt (HS.out.ch.keep _ _ HPB.out (fun h => h)) 0
    obtain ⟨ao, cap, rfl, hcp, hmx, _⟩ := HS.out.own.at_
    obtain ⟨n, hn⟩ : ∃ n, (allT cs k).length = n := ⟨_, rfl⟩
    rw [hn] at HS hcp ⊢
    unfold maxLen at hmx
    have hn20 : n ≤ 18 := by rw [← hn, allTlen]; have := Nat.min_le_left k cs.length; omega
    have HN := hid hn
    clear hn
    have stop : cs.length ≤ k ∨ 8 ≤ k → allT cs k = allT cs 8 := by
      intro h
      unfold allT
      rcases h with h | h
      · rw [List.take_of_length_le h, List.take_of_length_le (by have := HL.out; omega)]
      · rw [show k = 8 by omega]
    have HSTOP := hid stop
    clear stop
    cases hd : decide (k < len) with
    | false =>
      have hkl : ¬ k < len := by simpa using hd
      go_wp2_with fail
      go_ret
      refine ⟨_, rfl, ?_, HCH.out.trans HS.out.ch⟩
      have h1 := HS.out.own.at_
      rw [HSTOP.out (.inl (by have := HL.out; omega))] at h1
      exact h1
    | true =>
      have hkl : k < len := by simpa using hd
      cases hd8 : decide (k < 8) with
      | false =>
        have hkl8 : ¬ k < 8 := by simpa using hd8
        go_wp2_with fail
        go_ret
        refine ⟨_, rfl, ?_, HCH.out.trans HS.out.ch⟩
        have h1 := HS.out.own.at_
        rw [HSTOP.out (.inr (by omega))] at h1
        exact h1
      | true =>
        have hkl8 : k < 8 := by simpa using hd8
        obtain ⟨c, hc⟩ : ∃ c, cs[k]? = some c := ⟨_, List.getElem?_eq_getElem (by have := HL.out; omega)⟩
        obtain ⟨b, off, cap', e, hcell, _, _⟩ := (HC.out.no HS.out.ch).cell hc
        rw [HL.out] at e
        cases e
        have q0 := hcell.q0
        have hcs := HSZ.out c (List.mem_of_getElem? hc)
        have hz : (ByteArray.mk #[91, 93]).size = 2 := rfl
        have hn2 : n + 2 ≤ 100000 := by omega
        have hadd : ¬ 9223372036854775807 < c.name.size + 2 := by omega
        have hc4 : Ch No wr _ := ((Ch.refl No wr).alloc (.cells #[.string c.name, .string (c.name ++ { data := #[91, 93] })] 9)).drew
        have hrow := HS.out.rowAt HN.out hc4
        have hbb := ((Ch.refl No _).drew).keep _ _ (heap_alloc_new wr (.cells #[.string c.name, .string (c.name ++ { data := #[91, 93] })] 9)) (fun h => h)
        have hbs : wa.heap.size ≤ _ := Nat.le_trans HS.out.ch.size hc4.size
        have HX := hid hc
        have HC4 := hid hc4
        have HROW := hid hrow
        have HBB := hid hbb
        have HBS := hid hbs
        clear hc hcell hc4 hrow hbb hbs
        go_wp2_with fail
        go_region_law (first | (refine step_appendOwn rfl _ _ rfl Tryd.sliceStr Tryd.infoStr Nat.zero_lt_one (Nat.le_of_ble_eq_true rfl) wa.heap.size _ n _ rfl HROW.out wr.heap.size 2 2 [.string c.name, .string (c.name ++ { data := #[91, 93] })] rfl rfl HBB.out (oneStr2 _ _) hn2 HBS.out ?_; intro v5 w5 hr5 hc5; have hst5 := HS.out.step HN.out HC4.out HX.out hr5 hc5; have HST5 := hid hst5; clear hr5 hc5 hst5))
        all_goals (
          go_wp2_with fail
          go_roundg (len - k - 1)
          case rel => exact ⟨k + 1, by omega, by omega, by omega, by go_num, HST5⟩
          case measure => omega)

/- the example -/
theorem aw_plain : PlainP awC := by
  intro c hc
  have : c = awA ∨ c = awB := by simpa [awC] using hc
  rcases this with rfl | rfl
  · exact ⟨by decide, by decide, by decide, by decide, fun h => absurd h.1 (by decide)⟩
  · exact ⟨by decide, by decide, by decide, by decide, fun h => absurd h.1 (by decide)⟩
theorem aw_find0 : find awC ⟨#[65]⟩ = some 0 := by decide
theorem aw_find1 : find awC ⟨#[66]⟩ = some 1 := by decide
theorem aw_elemA : elemO awC ⟨#[65, 91, 93]⟩ = some ⟨#[65]⟩ := by
  obtain ⟨h1, h2⟩ := arr_name ⟨#[65]⟩
  have e : (⟨#[65]⟩ : ByteArray) ++ sArr = ⟨#[65, 91, 93]⟩ := by decide
  rw [e] at h1 h2
  exact elemO_some.2 ⟨h1, h2, 0, aw_find0⟩
theorem aw_elemB : elemO awC ⟨#[66, 91, 93]⟩ = some ⟨#[66]⟩ := by
  obtain ⟨h1, h2⟩ := arr_name ⟨#[66]⟩
  have e : (⟨#[66]⟩ : ByteArray) ++ sArr = ⟨#[66, 91, 93]⟩ := by decide
  rw [e] at h1 h2
  exact elemO_some.2 ⟨h1, h2, 1, aw_find1⟩
theorem aw_b1 : belT awC ⟨#[65]⟩ ⟨#[66]⟩ :=
  ⟨.inr (.inr (.inl ⟨0, aw_find0⟩)), .inr (.inr (.inl ⟨1, aw_find1⟩)), .inr (.inr ⟨by decide, 0, 1, aw_find0, aw_find1, .inr (.one (by rw [aw_up0]; simp))⟩)⟩
theorem aw_b2 : ¬ belT awC ⟨#[65, 91, 93]⟩ ⟨#[66, 91, 93]⟩ := by
  rw [bel_arr aw_plain (.inr (.inr (.inr ⟨_, aw_elemA⟩))) (.inr (.inr (.inr ⟨_, aw_elemB⟩))) (.inl ⟨_, aw_elemA⟩)]
  rintro (h | ⟨_, h⟩)
  · exact absurd h (by decide)
  · exact absurd h (by decide)
theorem aw_b3 : belT awC sNull ⟨#[65, 91, 93]⟩ := ⟨.inr (.inl rfl), .inr (.inr (.inr ⟨_, aw_elemA⟩)), .inr (.inl ⟨rfl, by decide⟩)⟩
theorem BoolIs.yes {P : Prop} {e : Ending} (h : BoolIs P e) (hp : P) : e = .returned (.bool true) := by
  obtain ⟨r, rfl, hr⟩ := h
  rw [hr.2 hp]
theorem BoolIs.no {P : Prop} {e : Ending} (h : BoolIs P e) (hp : ¬ P) : e = .returned (.bool false) := by
  obtain ⟨r, rfl, hr⟩ := h
  cases r with
  | false => rfl
  | true => exact absurd (hr.1 rfl) hp

set_option maxRecDepth 100000 in
set_option maxHeartbeats 4000000 in
theorem awake09 {w : World} (hT : Tab w) : Calls Tryd.prog 30 #[] w fun e w' => e = .returned (.bool true) ∧ Ch No w w' := by
  have HT := hid hT
  have hcl := clssBuilt w awC (by decide) (fun c hc => by
    have : c = awA ∨ c = awB := by simpa [awC] using hc
    rcases this with rfl | rfl <;> exact StrsAt.nil _)
  have hc1 := (Ch.refl No w).alloc (.cells (awC.flatMap Cls.cells).toArray 49)
  obtain ⟨wa, hwa⟩ : ∃ wa, w.alloc (.cells #[.string { data := #[65] }, .string { data := #[66] }, .bool false, .slice none 0 0, .slice none 0 0, .slice none 0 0, .slice none 0 0, .pointer none, .int .i64 0, .int .i64 0, .string { data := #[66] }, .string { data := #[] }, .bool false, .slice none 0 0, .slice none 0 0, .slice none 0 0, .slice none 0 0, .pointer none, .int .i64 0, .int .i64 0] 49) = wa := ⟨_, rfl⟩
  have hcl' : ClssAt wa (.slice (some ⟨w.heap.size, 0, none⟩) 2 2) awC := by rw [← hwa]; exact hcl
  have hc1' : Ch No w wa := by rw [← hwa]; exact hc1
  have hmk := lmade (pv := .agg #[.slice (some ⟨w.heap.size, 0, none⟩) 2 2, .string { data := #[] }, .string { data := #[] }, .bool false, .bool false, .slice none 0 0, .slice none 0 0, .slice none 0 0, .int .i64 0, .int .i64 0]) (HT.out.no hc1') ⟨_, _, _, _, _, _, _, _, _, _, rfl, hcl'⟩ aw_sz aw_small aw_fault
  have HC1 := hid hc1'
  clear hT hcl hc1 hcl' hc1'
  go_enter Tryd.func30, Tryd.ntmps30
  go_wp2_with fail
  clear hwa
  refine hmk.mono ?_
  rintro e w1 ⟨xv, rfl, hx, hc2⟩
  have HX := hid hx
  have HC2 := hid (HC1.out.trans hc2)
  obtain ⟨xb, tb, abv, ss, rfl, _⟩ := hx
  have hnil := xnewNil w1
  clear hmk hc2
  go_wp2_with fail
  refine hnil.mono ?_
  rintro e w2 ⟨rfl, rfl⟩
  have hb1 := xbelow HX.out (t := ⟨#[65]⟩) (u := ⟨#[66]⟩) (by decide) (by decide)
  clear hnil
  go_wp2_with fail
  refine hb1.mono ?_
  rintro e w3 ⟨hr, hc3⟩
  obtain rfl := hr.yes aw_b1
  have HX3 := hid (HX.out.no hc3)
  have HC3 := hid (HC2.out.trans hc3)
  clear hb1 hr hc3
  have hb2 := xbelow HX3.out (t := ⟨#[65, 91, 93]⟩) (u := ⟨#[66, 91, 93]⟩) (by decide) (by decide)
  go_wp2_with fail
  refine hb2.mono ?_
  rintro e w4 ⟨hr, hc4⟩
  obtain rfl := hr.no aw_b2
  have HX4 := hid (HX3.out.no hc4)
  have HC4 := hid (HC3.out.trans hc4)
  clear hb2 hr hc4
  have hb3 := xbelow HX4.out (t := ⟨#[110, 117, 108, 108]⟩) (u := ⟨#[65, 91, 93]⟩) (by decide) (by decide)
  go_wp2_with fail
  refine hb3.mono ?_
  rintro e w5 ⟨hr, hc5⟩
  obtain rfl := hr.yes aw_b3
  have HC5 := hid (HC4.out.trans hc5)
  clear hb3 hr hc5
  go_wp2_with fail
  go_ret
  exact ⟨rfl, HC5.out⟩
theorem allTsz {cs : List Cls} (hz : SzB cs) {n : Nat} : ∀ t ∈ allT cs n, t.size ≤ maxLen := by
  intro t h
  have hm : maxLen = 9223372036854775807 := rfl
  unfold allT at h
  rcases List.mem_append.1 h with h | h
  · simp at h
    rcases h with rfl | rfl <;> decide
  · obtain ⟨c, hc, ht⟩ := List.mem_flatMap.1 h
    have := hz c (List.mem_of_mem_take hc)
    simp at ht
    rcases ht with rfl | rfl
    · omega
    · rw [ByteArray.size_append]
      have : sArr.size = 2 := rfl
      omega
theorem nodupAt {l : List ByteArray} (h : l.Nodup) {i k : Nat} {t : ByteArray} (hi : l[i]? = some t) (hk : l[k]? = some t) : i = k :=
  (List.getElem?_inj (List.getElem?_eq_some_iff.1 hi).1 h).1 (hi.trans hk.symm)

end Go.Proofs.YtkffejgjpnnkmaaDoor
