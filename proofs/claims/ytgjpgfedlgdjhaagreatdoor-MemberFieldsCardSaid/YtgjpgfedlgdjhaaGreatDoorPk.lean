/- Laid together: Pe Pi Pj Pk. -/
import Derived.Test.YtgjpgfedlgdjhaaGreatDoorPc
import Derived.Test.YtgjpgfedlgdjhaaGreatDoorPw
import Derived.Deep.RegionHeld3
import Derived.BigQuiet
section
/- Types: Plain of the reference 09; right, made of the law 09. -/
set_option linter.unusedVariables false
set_option linter.unusedSimpArgs false
set_option maxRecDepth 8192
namespace Go.Proofs.YtgjpgfedlgdjhaaGreatDoor
open Go.RowKit Go.W

theorem emptyIs (a : ByteArray) : a.toList.isEmpty = decide (a = ⟨#[]⟩) := by
  have h := streqL a []
  have e : (a.toList == []) = a.toList.isEmpty := by cases a.toList <;> rfl
  rw [← e, h]
set_option maxHeartbeats 8000000 in
theorem rplain {w : World} {pv : Value} {cs : List Cls} (h : ProgAt w pv cs) (hsz : SzP cs) :
    Calls Tryz.prog 36 #[pv] w fun e w' => BoolIs (PlainP cs) e ∧ Ch No w w' := by
  have HSZ := hid hsz
  obtain ⟨cv, m0, m1, m2, m3, m4, m5, m6, m7, m8, rfl, h⟩ := h
  have hch := (Ch.refl No w).alloc (.cells #[cv, m0, m1, m2, m3, m4, m5, m6, m7, m8] 31)
  have h' := h.no hch
  obtain ⟨ao, cap, rfl, hcap, hmax, _, _⟩ := h.row
  rw [List.length_map] at hcap h' ⊢
  obtain ⟨len, hlen⟩ : ∃ len, cs.length = len := ⟨_, rfl⟩
  rw [hlen] at hcap h' ⊢
  unfold maxLen at hmax
  have HL := hid hlen
  have HC := hid h'
  obtain ⟨wa, hwa⟩ : ∃ wa, w.alloc (.cells #[.slice ao len cap, m0, m1, m2, m3, m4, m5, m6, m7, m8] 31) = wa := ⟨_, rfl⟩
  have c0 := cellAt (heap_alloc_new w (.cells #[.slice ao len cap, m0, m1, m2, m3, m4, m5, m6, m7, m8] 31)) 0
  rw [List.length_map, hlen] at hch
  rw [hwa] at hch HC c0
  have HCH := hid hch
  clear hlen h h' hch hsz
  go_enter Tryz.func36, Tryz.ntmps36
  go_wp2_with fail
  clear hwa
  go_loop [3] (fun s3 => ∃ k : Nat, k ≤ len ∧ s3 = .int .i64 k ∧ Hid (∀ x ∈ cs.take k, PlainC x)) (fun s3 => len - (intOf s3).toNat)
  case atStart => exact ⟨0, Nat.zero_le _, rfl, hid (by simp)⟩
  case round =>
    obtain ⟨k, hk, rfl, HN⟩ := hrel
    cases hd : decide (k < len) with
    | true =>
      have hkl : k < len := by simpa using hd
      obtain ⟨c, hc⟩ : ∃ c, cs[k]? = some c := ⟨_, List.getElem?_eq_getElem (by have := HL.out; omega)⟩
      obtain ⟨b, off, cap', e, hcell, _, _⟩ := HC.out.cell hc
      rw [HL.out] at e
      cases e
      have q0 := hcell.q0
      have HX := hid hc
      have hcs := (HSZ.out c (List.mem_of_getElem? hc)).1
      unfold maxLen at hcs
      obtain ⟨nm, hnm⟩ : ∃ nm, c.name = nm := ⟨_, rfl⟩
      rw [hnm] at q0 hcs
      have HNM := hid hnm
      have hno : ¬ PlainC c → ¬ PlainP cs := fun h hp => h (hp c (List.mem_of_getElem? HX.out))
      have HNO := hid hno
      clear hc hcell hnm hno
      by_cases h1 : nm = ⟨#[]⟩
      · have e1 : nm.toList.isEmpty = true := by rw [emptyIs]; simpa using h1
        have H1 := hid h1
        clear h1
        go_wp2_with fail
        go_ret
        exact ⟨BoolIs.f (HNO.out (fun h => h.ne (HNM.out.trans H1.out))), HCH.out⟩
      have e1 : nm.toList.isEmpty = false := by rw [emptyIs]; simpa using h1
      have H1 := hid h1
      clear h1
      by_cases h2 : nm = sInt
      · have e2 := lit nm [105, 110, 116] h2
        have H2 := hid h2
        clear h2
        go_wp2_with fail
        go_ret
        exact ⟨BoolIs.f (HNO.out (fun h => h.nint (HNM.out.trans H2.out))), HCH.out⟩
      have e2 := litn nm [105, 110, 116] h2
      have H2 := hid h2
      clear h2
      by_cases h3 : nm = sNull
      · have e3 := lit nm [110, 117, 108, 108] h3
        have H3 := hid h3
        clear h3
        go_wp2_with fail
        go_ret
        exact ⟨BoolIs.f (HNO.out (fun h => h.nnull (HNM.out.trans H3.out))), HCH.out⟩
      have e3 := litn nm [110, 117, 108, 108] h3
      have H3 := hid h3
      clear h3
      by_cases h4 : nm = sVoid
      · have e4 := lit nm [118, 111, 105, 100] h4
        have H4 := hid h4
        clear h4
        go_wp2_with fail
        go_ret
        exact ⟨BoolIs.f (HNO.out (fun h => h.nvoid (HNM.out.trans H4.out))), HCH.out⟩
      have e4 := litn nm [118, 111, 105, 100] h4
      have H4 := hid h4
      clear h4
      have hgood : ¬ arrP nm → ∀ x ∈ cs.take (k + 1), PlainC x := by
        intro ha x hx
        rw [List.take_add_one, HX.out] at hx
        rcases List.mem_append.1 hx with hx | hx
        · exact HN.out x hx
        · simp at hx; subst hx
          have e := HNM.out
          exact ⟨by rw [e]; exact H1.out, by rw [e]; exact H2.out, by rw [e]; exact H3.out, by rw [e]; exact H4.out, by rw [e]; exact ha⟩
      have HG := hid hgood
      clear hgood
      cases h5 : decide ((2 : Int) ≤ nm.size) with
      | false =>
        have h5' : ¬ (2 : Int) ≤ nm.size := by simpa using h5
        go_wp2_with fail
        go_round
        case rel => exact ⟨k + 1, by omega, by go_num, hid (HG.out (fun h => by have := h.1; omega))⟩
        case measure => simp [intOf]; omega
      | true =>
        have h5' : (2 : Int) ≤ nm.size := by simpa using h5
        have hsl : ∀ w', (Instr.slice 9 (.string nm) (some (.int .i64 ((nm.size : Int) - 2))) none none).run Tryz.prog w' = .ok (.string (nm.extract (nm.size - 2) nm.size)) w' := by
          intro w'
          have := run_slice_string_l w' 9 nm Tryz.underlying9 .i64 ((nm.size : Int) - 2) (by omega) (by omega)
          rwa [show ((nm.size : Int) - 2).toNat = nm.size - 2 by omega] at this
        have hsl' := hsl wa
        have HSL := hid hsl
        clear hsl
        obtain ⟨sx, hsx⟩ : ∃ sx, nm.extract (nm.size - 2) nm.size = sx := ⟨_, rfl⟩
        rw [hsx] at hsl'
        by_cases h6 : sx = sArr
        · have e6 := lit sx [91, 93] h6
          have HA := hid (show arrP nm from ⟨by omega, hsx.trans h6⟩)
          clear h6 hsx
          go_wp2_with fail
          go_ret
          exact ⟨BoolIs.f (HNO.out (fun h => h.narr (by rw [HNM.out]; exact HA.out))), HCH.out⟩
        · have e6 := litn sx [91, 93] h6
          have HA := hid (show ¬ arrP nm from fun h => h6 (hsx.symm.trans h.2))
          clear h6 hsx
          go_wp2_with fail
          go_round
          case rel => exact ⟨k + 1, by omega, by go_num, hid (HG.out HA.out)⟩
          case measure => simp [intOf]; omega
    | false =>
      have hkl : ¬ k < len := by simpa using hd
      go_wp2_with fail
      go_ret
      refine ⟨BoolIs.t (fun c hc => HN.out c ?_), HCH.out⟩
      rw [List.take_of_length_le (by have := HL.out; omega)]; exact hc

theorem faultFld (w : World) (a b c : Int) : (Instr.field 34 (.agg #[.int .i64 a, .int .i64 b, .int .i64 c]) 0).run Tryz.prog w = .ok (.int .i64 a) w := by kernel_rfl
/-- a program that may be looked at -/
def RightP (cs : List Cls) : Prop := SmallP cs ∧ FaultAt cs none ∧ PlainP cs


/-- names of which longer ones can be made -/
def SzB (cs : List Cls) : Prop := ∀ c ∈ cs, c.name.size ≤ 4611686018427387904
theorem oneStr2 (a b : ByteArray) : ∀ u ∈ [Value.string a, Value.string b], u.oneCell' = true := by
  intro u hu
  simp at hu
  rcases hu with rfl | rfl <;> rfl
/-- all's state at a round's head -/
structure AllSt (cs : List Cls) (wa wr : World) (v : Value) (k : Nat) : Prop where
  ch : Ch No wa wr
  own : StrsOwn wr wa.heap.size v (allT cs k)
theorem AllSt.rowAt {cs : List Cls} {wa wr w' : World} {v : Value} {k n : Nat} (h : AllSt cs wa wr v k) (hn : (allT cs k).length = n) (hc : Ch No wr w') : w'.ownsRow wa.heap.size 9 1 v n ((allT cs k).map Value.string) := by
  have := h.own.no hc
  unfold StrsOwn at this
  rw [hn] at this
  exact this
theorem AllSt.step {cs : List Cls} {wa wr w4 w5 : World} {v v5 : Value} {k n : Nat} {c : Cls} (h : AllSt cs wa wr v k) (hn : (allT cs k).length = n) (hc4 : Ch No wr w4) (hcs : cs[k]? = some c)
    (hr : w5.ownsRow wa.heap.size 9 1 v5 (n + 2) ((allT cs k).map Value.string ++ [.string c.name, .string (c.name ++ { data := #[91, 93] })])) (hc : Ch (fun j _ => v.ownBlock = some j) w4 w5) : AllSt cs wa w5 v5 (k + 1) := by
  refine ⟨(h.ch.trans hc4).trans' hc (fun j o ho e => ?_), ?_⟩
  · obtain ⟨h1, _⟩ := owned_typed (h.rowAt rfl hc4) j e
    have := lt_size ho
    omega
  · unfold StrsOwn
    rw [allTsnoc hcs, List.map_append, List.length_append, hn]
    exact hr

/- the example -/
theorem aw_plain : PlainP awC := by
  intro c hc
  have : c = awA ∨ c = awB := by simpa [awC] using hc
  rcases this with rfl | rfl
  · exact ⟨by decide, by decide, by decide, by decide, fun h => absurd h.1 (by decide)⟩
  · exact ⟨by decide, by decide, by decide, by decide, fun h => absurd h.1 (by decide)⟩
theorem aw_find0 : find awC ⟨#[65]⟩ = some 0 := by decide
theorem aw_find1 : find awC ⟨#[66]⟩ = some 1 := by decide
theorem aw_elemA : elemO awC ⟨#[65, 91, 93]⟩ = some ⟨#[65]⟩ := by
  obtain ⟨h1, h2⟩ := arr_name ⟨#[65]⟩
  have e : (⟨#[65]⟩ : ByteArray) ++ sArr = ⟨#[65, 91, 93]⟩ := by decide
  rw [e] at h1 h2
  exact elemO_some.2 ⟨h1, h2, 0, aw_find0⟩
theorem aw_elemB : elemO awC ⟨#[66, 91, 93]⟩ = some ⟨#[66]⟩ := by
  obtain ⟨h1, h2⟩ := arr_name ⟨#[66]⟩
  have e : (⟨#[66]⟩ : ByteArray) ++ sArr = ⟨#[66, 91, 93]⟩ := by decide
  rw [e] at h1 h2
  exact elemO_some.2 ⟨h1, h2, 1, aw_find1⟩
theorem aw_b1 : belT awC ⟨#[65]⟩ ⟨#[66]⟩ :=
  ⟨.inr (.inr (.inl ⟨0, aw_find0⟩)), .inr (.inr (.inl ⟨1, aw_find1⟩)), .inr (.inr ⟨by decide, 0, 1, aw_find0, aw_find1, .inr (.one (by rw [aw_up0]; simp))⟩)⟩
theorem aw_b2 : ¬ belT awC ⟨#[65, 91, 93]⟩ ⟨#[66, 91, 93]⟩ := by
  rw [bel_arr aw_plain (.inr (.inr (.inr ⟨_, aw_elemA⟩))) (.inr (.inr (.inr ⟨_, aw_elemB⟩))) (.inl ⟨_, aw_elemA⟩)]
  rintro (h | ⟨_, h⟩)
  · exact absurd h (by decide)
  · exact absurd h (by decide)
theorem aw_b3 : belT awC sNull ⟨#[65, 91, 93]⟩ := ⟨.inr (.inl rfl), .inr (.inr (.inr ⟨_, aw_elemA⟩)), .inr (.inl ⟨rfl, by decide⟩)⟩
theorem BoolIs.yes {P : Prop} {e : Ending} (h : BoolIs P e) (hp : P) : e = .returned (.bool true) := by
  obtain ⟨r, rfl, hr⟩ := h
  rw [hr.2 hp]
theorem BoolIs.no {P : Prop} {e : Ending} (h : BoolIs P e) (hp : ¬ P) : e = .returned (.bool false) := by
  obtain ⟨r, rfl, hr⟩ := h
  cases r with
  | false => rfl
  | true => exact absurd (hr.1 rfl) hp

theorem allTsz {cs : List Cls} (hz : SzB cs) {n : Nat} : ∀ t ∈ allT cs n, t.size ≤ maxLen := by
  intro t h
  have hm : maxLen = 9223372036854775807 := rfl
  unfold allT at h
  rcases List.mem_append.1 h with h | h
  · simp at h
    rcases h with rfl | rfl <;> decide
  · obtain ⟨c, hc, ht⟩ := List.mem_flatMap.1 h
    have := hz c (List.mem_of_mem_take hc)
    simp at ht
    rcases ht with rfl | rfl
    · omega
    · rw [ByteArray.size_append]
      have : sArr.size = 2 := rfl
      omega
theorem nodupAt {l : List ByteArray} (h : l.Nodup) {i k : Nat} {t : ByteArray} (hi : l[i]? = some t) (hk : l[k]? = some t) : i = k :=
  (List.getElem?_inj (List.getElem?_eq_some_iff.1 hi).1 h).1 (hi.trans hk.symm)

end Go.Proofs.YtgjpgfedlgdjhaaGreatDoor
end
section
/- Types of a program: Under. -/
set_option linter.unusedVariables false
set_option linter.unusedSimpArgs false
set_option maxRecDepth 8192
namespace Go.Proofs.YtgjpgfedlgdjhaaGreatDoor
open Go.RowKit Go.W

theorem oneStr1 (a : ByteArray) : ∀ u ∈ [Value.string a], u.oneCell' = true := by
  intro u hu
  simp at hu
  subst hu; rfl
theorem unLen (cs : List Cls) (k n : Nat) : (unL cs k n).length ≤ n := by
  unfold unL
  rw [List.length_map]
  have := List.length_filter_le (fun j => @decide (UnP cs k j) (Classical.propDecidable _)) (List.range n)
  simpa using this
theorem StrsOwn.rowN {w w' : World} {base n : Nat} {v : Value} {l : List ByteArray} (h : StrsOwn w base v l) (hn : l.length = n) (hc : Ch No w w') : w'.ownsRow base 9 1 v n (l.map Value.string) := by
  have := h.no hc
  unfold StrsOwn at this
  rw [hn] at this
  exact this
end Go.Proofs.YtgjpgfedlgdjhaaGreatDoor
end
section
/- Types: the reference 09: Elem, Is, Ref. -/
set_option linter.unusedVariables false
set_option linter.unusedSimpArgs false
set_option maxRecDepth 8192
namespace Go.Proofs.YtgjpgfedlgdjhaaGreatDoor
open Go.RowKit Go.W

noncomputable def elemS (cs : List Cls) (t : ByteArray) : ByteArray := (elemO cs t).getD ⟨#[]⟩
theorem wrapS {n : Nat} (h : n ≤ 9223372036854775807) (h2 : 2 ≤ n) : IntKind.i64.wrap ((n : Int) - 2) = (n : Int) - 2 := by
  simp [IntKind.wrap, IntKind.signed, IntKind.bits]
  omega
theorem progCells9 {w : World} {b : Nat} {x0 x1 x2 x3 x4 x5 x6 x7 x8 x9 : Value} {t : TypeId} (h : w.heap[b]? = some (.cells #[x0, x1, x2, x3, x4, x5, x6, x7, x8, x9] t (0, 0))) :
    w.cell? ⟨b, 0, none⟩ = some x0 ∧ w.cell? ⟨b, 1, none⟩ = some x1 ∧ w.cell? ⟨b, 2, none⟩ = some x2 ∧ w.cell? ⟨b, 3, none⟩ = some x3 ∧ w.cell? ⟨b, 4, none⟩ = some x4 ∧ w.cell? ⟨b, 5, none⟩ = some x5 ∧ w.cell? ⟨b, 6, none⟩ = some x6 ∧ w.cell? ⟨b, 7, none⟩ = some x7 ∧ w.cell? ⟨b, 8, none⟩ = some x8 ∧ w.cell? ⟨b, 9, none⟩ = some x9 :=
  ⟨cellAt h 0, cellAt h 1, cellAt h 2, cellAt h 3, cellAt h 4, cellAt h 5, cellAt h 6, cellAt h 7, cellAt h 8, cellAt h 9⟩
set_option maxRecDepth 100000 in
set_option maxHeartbeats 8000000 in
theorem gelem {w : World} {pv : Value} {cs : List Cls} (h : ProgAt w pv cs) (hp : PlainP cs) {t : ByteArray} (ht : t.size ≤ maxLen) :
    Calls Tryz.prog 143 #[pv, .string t] w fun e w' => e = .returned (.string (elemS cs t)) ∧ Ch No w w' := by
  have HPL := hid hp
  have ht' := ht
  unfold maxLen at ht'
  clear hp
  have hp := h
  obtain ⟨cv, m0, m1, m2, m3, m4, m5, m6, m7, m8, rfl, h⟩ := h
  obtain ⟨ao, cap, rfl, hcap, hmax, _, _⟩ := h.row
  rw [List.length_map] at hcap h hp ⊢
  obtain ⟨len, hlen⟩ : ∃ len, cs.length = len := ⟨_, rfl⟩
  rw [hlen] at hcap h hp ⊢
  unfold maxLen at hmax
  obtain ⟨wa, hwa⟩ : ∃ wa, w.alloc (.cells #[.slice ao len cap, m0, m1, m2, m3, m4, m5, m6, m7, m8] 31) = wa := ⟨_, rfl⟩
  have hpb := heap_alloc_new w (.cells #[.slice ao len cap, m0, m1, m2, m3, m4, m5, m6, m7, m8] 31)
  have hch := (Ch.refl No w).alloc (.cells #[.slice ao len cap, m0, m1, m2, m3, m4, m5, m6, m7, m8] 31)
  rw [hwa] at hch hpb
  have HL := hid hlen
  have HP := hid (hp.no hch)
  have HC := hid (h.no hch)
  have HPB := hid hpb
  have HCH := hid hch
  have p0 := cellAt hpb 0
  have p1 := cellAt hpb 1
  have p2 := cellAt hpb 2
  have p3 := cellAt hpb 3
  have p4 := cellAt hpb 4
  have p5 := cellAt hpb 5
  have p6 := cellAt hpb 6
  have p7 := cellAt hpb 7
  have p8 := cellAt hpb 8
  have p9 := cellAt hpb 9
  have hz := lt_size hpb
  clear hlen h hp hpb hch
  have hz2 : (ByteArray.mk #[91, 93]).size = 2 := rfl
  have hempty : find cs ⟨#[]⟩ = none := HPL.out.none (.inr (.inr (.inr (.inl rfl))))
  have HEM := hid hempty
  clear hempty
  cases h2 : decide ((2 : Int) < t.size) with
  | false =>
    have h2' : ¬ (2 : Int) < t.size := by simpa using h2
    have he : elemS cs t = ⟨#[]⟩ := by
      unfold elemS
      rw [elemO_none.2]
      · rfl
      · rintro ⟨ha, hb⟩
        have hs : t.size = 2 := by have := ha.1; omega
        have hc : cutA t = ⟨#[]⟩ := by
          have := cutSize t
          have e : (cutA t).size = 0 := by unfold cutA; rw [ByteArray.size_extract]; omega
          exact ByteArray.size_eq_zero_iff.1 e
        rw [hc, HEM.out] at hb
        cases hb
    have HE := hid he
    clear he
    go_enter Tryz.func143, Tryz.ntmps143
    go_wp2_with fail
    go_quiet (fail)
    go_wp2_with fail
    go_ret
    exact ⟨by rw [HE.out]; rfl, HCH.out.trans (by first | exact (Ch.refl No wa).drew | exact (Ch.refl No wa).drewN _ | exact Ch.refl No wa)⟩
  | true =>
    have h2' : (2 : Int) < t.size := by simpa using h2
    have hwr := wrapS (n := t.size) ht' (by omega)
    have hsl : ∀ w', (Instr.slice 9 (.string t) (some (.int .i64 ((t.size : Int) - 2))) none none).run Tryz.prog w' = .ok (.string (t.extract (t.size - 2) t.size)) w' := by
      intro w'
      have := run_slice_string_l w' 9 t Tryz.underlying9 .i64 ((t.size : Int) - 2) (by omega) (by omega)
      rwa [show ((t.size : Int) - 2).toNat = t.size - 2 by omega] at this
    have hsh : ∀ w', (Instr.slice 9 (.string t) none (some (.int .i64 ((t.size : Int) - 2))) none).run Tryz.prog w' = .ok (.string (cutA t)) w' := by
      intro w'
      have := run_slice_string_h w' 9 t Tryz.underlying9 .i64 ((t.size : Int) - 2) (by omega) (by omega)
      rwa [show ((t.size : Int) - 2).toNat = t.size - 2 by omega] at this
    obtain ⟨sx, hsx⟩ : ∃ sx, t.extract (t.size - 2) t.size = sx := ⟨_, rfl⟩
    rw [hsx] at hsl
    by_cases h6 : sx = sArr
    · have e6 := lit sx [91, 93] h6
      have HA := hid (show arrP t from ⟨by omega, hsx.trans h6⟩)
      have hfi := rfind (HP.out.no ((Ch.refl No wa).drew)) (cutA t)
      have hsd := progCells9 (((Ch.refl No wa).drew).keep _ _ HPB.out (fun h => h))
      have HSd := hid hsd
      have HSx := hid (progCells9 HPB.out)
      clear h6 hsx hsd
      cases hf : find cs (cutA t) with
      | none =>
        rw [findZ_none hf] at hfi
        have he : elemS cs t = ⟨#[]⟩ := by
          unfold elemS
          rw [elemO_none.2 (fun h => by rw [hf] at h; cases h.2)]; rfl
        have HE := hid he
        clear he hf
        go_enter Tryz.func143, Tryz.ntmps143
        go_wp2_with fail
        refine wp_region_held_drew (S := (fun w' => w'.cell? ⟨w.heap.size, 0, none⟩ = some (.slice ao len cap) ∧ w'.cell? ⟨w.heap.size, 1, none⟩ = some m0 ∧ w'.cell? ⟨w.heap.size, 2, none⟩ = some m1 ∧ w'.cell? ⟨w.heap.size, 3, none⟩ = some m2 ∧ w'.cell? ⟨w.heap.size, 4, none⟩ = some m3 ∧ w'.cell? ⟨w.heap.size, 5, none⟩ = some m4 ∧ w'.cell? ⟨w.heap.size, 6, none⟩ = some m5 ∧ w'.cell? ⟨w.heap.size, 7, none⟩ = some m6 ∧ w'.cell? ⟨w.heap.size, 8, none⟩ = some m7 ∧ w'.cell? ⟨w.heap.size, 9, none⟩ = some m8)) (by kernel_rfl) HSd.out (fun hHeld => ?_)
        (refine wpAnyH_take (i := 0) (v := ?_) rfl (by kernel_rfl) (by kernel_rfl) (by kernel_rfl) (fun _ _ _ h => h) (Or.inl ⟨by rfl, ?_⟩) (by assumption) ?_; rotate_left 1; · (intro wz hSw; (try dsimp only at hSw); go_simp; try rfl)); (try simp only [Act.put, List.getElem_toArray, List.getElem_cons_succ, List.getElem_cons_zero, List.setIfInBounds_toArray, List.set_cons_zero, List.set_cons_succ])
        (refine wpAnyH_take (i := 1) (v := ?_) rfl (by kernel_rfl) (by kernel_rfl) (by kernel_rfl) (fun _ _ _ h => h) (Or.inl ⟨by rfl, ?_⟩) (by assumption) ?_; rotate_left 1; · (intro wz hSw; (try dsimp only at hSw); go_simp; try rfl)); (try simp only [Act.put, List.getElem_toArray, List.getElem_cons_succ, List.getElem_cons_zero, List.setIfInBounds_toArray, List.set_cons_zero, List.set_cons_succ])
        (refine wpAnyH_take (i := 2) (v := ?_) rfl (by kernel_rfl) (by kernel_rfl) (by kernel_rfl) (fun _ _ _ h => h) (Or.inl ⟨by rfl, ?_⟩) (by assumption) ?_; rotate_left 1; · (intro wz hSw; (try dsimp only at hSw); go_simp; try rfl)); (try simp only [Act.put, List.getElem_toArray, List.getElem_cons_succ, List.getElem_cons_zero, List.setIfInBounds_toArray, List.set_cons_zero, List.set_cons_succ])
        (refine wpAnyH_take (i := 3) (v := ?_) rfl (by kernel_rfl) (by kernel_rfl) (by kernel_rfl) (fun _ _ _ h => h) (Or.inl ⟨by rfl, ?_⟩) (by assumption) ?_; rotate_left 1; · (intro wz hSw; (try dsimp only at hSw); go_simp; try rfl)); (try simp only [Act.put, List.getElem_toArray, List.getElem_cons_succ, List.getElem_cons_zero, List.setIfInBounds_toArray, List.set_cons_zero, List.set_cons_succ])
        (refine wpAnyH_take (i := 4) (v := ?_) rfl (by kernel_rfl) (by kernel_rfl) (by kernel_rfl) (fun _ _ _ h => h) (Or.inl ⟨by rfl, ?_⟩) (by assumption) ?_; rotate_left 1; · (intro wz hSw; (try dsimp only at hSw); go_simp; try rfl)); (try simp only [Act.put, List.getElem_toArray, List.getElem_cons_succ, List.getElem_cons_zero, List.setIfInBounds_toArray, List.set_cons_zero, List.set_cons_succ])
        (refine wpAnyH_take (i := 5) (v := ?_) rfl (by kernel_rfl) (by kernel_rfl) (by kernel_rfl) (fun _ _ _ h => h) (Or.inl ⟨by rfl, ?_⟩) (by assumption) ?_; rotate_left 1; · (intro wz hSw; (try dsimp only at hSw); go_simp; try rfl)); (try simp only [Act.put, List.getElem_toArray, List.getElem_cons_succ, List.getElem_cons_zero, List.setIfInBounds_toArray, List.set_cons_zero, List.set_cons_succ])
        (refine wpAnyH_take (i := 6) (v := ?_) rfl (by kernel_rfl) (by kernel_rfl) (by kernel_rfl) (fun _ _ _ h => h) (Or.inl ⟨by rfl, ?_⟩) (by assumption) ?_; rotate_left 1; · (intro wz hSw; (try dsimp only at hSw); go_simp; try rfl)); (try simp only [Act.put, List.getElem_toArray, List.getElem_cons_succ, List.getElem_cons_zero, List.setIfInBounds_toArray, List.set_cons_zero, List.set_cons_succ])
        (refine wpAnyH_take (i := 7) (v := ?_) rfl (by kernel_rfl) (by kernel_rfl) (by kernel_rfl) (fun _ _ _ h => h) (Or.inl ⟨by rfl, ?_⟩) (by assumption) ?_; rotate_left 1; · (intro wz hSw; (try dsimp only at hSw); go_simp; try rfl)); (try simp only [Act.put, List.getElem_toArray, List.getElem_cons_succ, List.getElem_cons_zero, List.setIfInBounds_toArray, List.set_cons_zero, List.set_cons_succ])
        (refine wpAnyH_take (i := 8) (v := ?_) rfl (by kernel_rfl) (by kernel_rfl) (by kernel_rfl) (fun _ _ _ h => h) (Or.inl ⟨by rfl, ?_⟩) (by assumption) ?_; rotate_left 1; · (intro wz hSw; (try dsimp only at hSw); have hsz := hsl wz; go_simp; try rfl)); (try simp only [Act.put, List.getElem_toArray, List.getElem_cons_succ, List.getElem_cons_zero, List.setIfInBounds_toArray, List.set_cons_zero, List.set_cons_succ])
        (refine wpAnyH_take (i := 9) (v := ?_) rfl (by kernel_rfl) (by kernel_rfl) (by kernel_rfl) (fun _ _ _ h => h) (Or.inl ⟨by rfl, ?_⟩) (by assumption) ?_; rotate_left 1; · (intro wz hSw; (try dsimp only at hSw); go_simp; try rfl)); (try simp only [Act.put, List.getElem_toArray, List.getElem_cons_succ, List.getElem_cons_zero, List.setIfInBounds_toArray, List.set_cons_zero, List.set_cons_succ])
        (refine wpAnyH_take (i := 10) (v := ?_) rfl (by kernel_rfl) (by kernel_rfl) (by kernel_rfl) (fun _ _ _ h => h) (Or.inl ⟨by rfl, ?_⟩) (by assumption) ?_; rotate_left 1; · (intro wz hSw; (try dsimp only at hSw); go_simp; try rfl)); (try simp only [Act.put, List.getElem_toArray, List.getElem_cons_succ, List.getElem_cons_zero, List.setIfInBounds_toArray, List.set_cons_zero, List.set_cons_succ])
        (refine wpAnyH_take (i := 11) (v := ?_) rfl (by kernel_rfl) (by kernel_rfl) (by kernel_rfl) (fun _ _ _ h => h) (Or.inl ⟨by rfl, ?_⟩) (by assumption) ?_; rotate_left 1; · (intro wz hSw; (try dsimp only at hSw); go_simp; try rfl)); (try simp only [Act.put, List.getElem_toArray, List.getElem_cons_succ, List.getElem_cons_zero, List.setIfInBounds_toArray, List.set_cons_zero, List.set_cons_succ])
        (refine wpAnyH_take (i := 12) (v := ?_) rfl (by kernel_rfl) (by kernel_rfl) (by kernel_rfl) (fun _ _ _ h => h) (Or.inl ⟨by rfl, ?_⟩) (by assumption) ?_; rotate_left 1; · (intro wz hSw; (try dsimp only at hSw); go_simp; try rfl)); (try simp only [Act.put, List.getElem_toArray, List.getElem_cons_succ, List.getElem_cons_zero, List.setIfInBounds_toArray, List.set_cons_zero, List.set_cons_succ])
        (refine wpAnyH_take (i := 13) (v := ?_) rfl (by kernel_rfl) (by kernel_rfl) (by kernel_rfl) (fun _ _ _ h => h) (Or.inl ⟨by rfl, ?_⟩) (by assumption) ?_; rotate_left 1; · (intro wz hSw; (try dsimp only at hSw); go_simp; try rfl)); (try simp only [Act.put, List.getElem_toArray, List.getElem_cons_succ, List.getElem_cons_zero, List.setIfInBounds_toArray, List.set_cons_zero, List.set_cons_succ])
        (refine wpAnyH_take (i := 14) (v := ?_) rfl (by kernel_rfl) (by kernel_rfl) (by kernel_rfl) (fun _ _ _ h => h) (Or.inl ⟨by rfl, ?_⟩) (by assumption) ?_; rotate_left 1; · (intro wz hSw; (try dsimp only at hSw); go_simp; try rfl)); (try simp only [Act.put, List.getElem_toArray, List.getElem_cons_succ, List.getElem_cons_zero, List.setIfInBounds_toArray, List.set_cons_zero, List.set_cons_succ])
        (refine wpAnyH_take (i := 15) (v := ?_) rfl (by kernel_rfl) (by kernel_rfl) (by kernel_rfl) (fun _ _ _ h => h) (Or.inl ⟨by rfl, ?_⟩) (by assumption) ?_; rotate_left 1; · (intro wz hSw; (try dsimp only at hSw); go_simp; try rfl)); (try simp only [Act.put, List.getElem_toArray, List.getElem_cons_succ, List.getElem_cons_zero, List.setIfInBounds_toArray, List.set_cons_zero, List.set_cons_succ])
        (refine wpAnyH_take (i := 16) (v := ?_) rfl (by kernel_rfl) (by kernel_rfl) (by kernel_rfl) (fun _ _ _ h => h) (Or.inl ⟨by rfl, ?_⟩) (by assumption) ?_; rotate_left 1; · (intro wz hSw; (try dsimp only at hSw); go_simp; try rfl)); (try simp only [Act.put, List.getElem_toArray, List.getElem_cons_succ, List.getElem_cons_zero, List.setIfInBounds_toArray, List.set_cons_zero, List.set_cons_succ])
        (refine wpAnyH_take (i := 17) (v := ?_) rfl (by kernel_rfl) (by kernel_rfl) (by kernel_rfl) (fun _ _ _ h => h) (Or.inl ⟨by rfl, ?_⟩) (by assumption) ?_; rotate_left 1; · (intro wz hSw; (try dsimp only at hSw); have hsz := hsh wz; go_simp; try rfl)); (try simp only [Act.put, List.getElem_toArray, List.getElem_cons_succ, List.getElem_cons_zero, List.setIfInBounds_toArray, List.set_cons_zero, List.set_cons_succ])
        refine wpAnyH_ready (rs := [18]) (by kernel_rfl) (by simp) (AllReadyH.cons rfl (fun K hK => ?_) AllReadyH.nil)
        go_simp
        go_at_call 92
        refine (hfi).mono ?_
        rintro e w5 ⟨rfl, hc5⟩
        have K5 := hid (((Ch.refl No wa).drew).trans hc5)
        clear hc5 hfi
        go_simp
        have HS5 := hid (progCells9 (K5.out.keep _ _ HPB.out (fun h => h)))
        refine hK.out _ _ HS5.out (fun hHeld5 => ?_)
        clear hK
        (refine wpAnyH_take (i := 19) (v := ?_) rfl (by kernel_rfl) (by kernel_rfl) (by kernel_rfl) (fun _ _ _ h => h) (Or.inl ⟨by rfl, ?_⟩) (by assumption) ?_; rotate_left 1; · (intro wz hSw; (try dsimp only at hSw); go_simp; try rfl)); (try simp only [Act.put, List.getElem_toArray, List.getElem_cons_succ, List.getElem_cons_zero, List.setIfInBounds_toArray, List.set_cons_zero, List.set_cons_succ])
        (refine wpAnyH_take (i := 20) (v := ?_) rfl (by kernel_rfl) (by kernel_rfl) (by kernel_rfl) (fun _ _ _ h => h) (Or.inl ⟨by rfl, ?_⟩) (by assumption) ?_; rotate_left 1; · (intro wz hSw; (try dsimp only at hSw); go_simp; try rfl)); (try simp only [Act.put, List.getElem_toArray, List.getElem_cons_succ, List.getElem_cons_zero, List.setIfInBounds_toArray, List.set_cons_zero, List.set_cons_succ])
        refine wpAnyH_done (by kernel_rfl) ?_ _
        go_wp2_with fail
        go_ret
        exact ⟨by rw [HE.out]; rfl, HCH.out.trans K5.out⟩
      | some j =>
        rw [findZ_some hf] at hfi
        have he : elemS cs t = cutA t := by
          unfold elemS
          rw [elemO_some.2 ⟨HA.out, rfl, j, hf⟩]; rfl
        have HE := hid he
        clear he hf
        go_enter Tryz.func143, Tryz.ntmps143
        go_wp2_with fail
        refine wp_region_held_drew (S := (fun w' => w'.cell? ⟨w.heap.size, 0, none⟩ = some (.slice ao len cap) ∧ w'.cell? ⟨w.heap.size, 1, none⟩ = some m0 ∧ w'.cell? ⟨w.heap.size, 2, none⟩ = some m1 ∧ w'.cell? ⟨w.heap.size, 3, none⟩ = some m2 ∧ w'.cell? ⟨w.heap.size, 4, none⟩ = some m3 ∧ w'.cell? ⟨w.heap.size, 5, none⟩ = some m4 ∧ w'.cell? ⟨w.heap.size, 6, none⟩ = some m5 ∧ w'.cell? ⟨w.heap.size, 7, none⟩ = some m6 ∧ w'.cell? ⟨w.heap.size, 8, none⟩ = some m7 ∧ w'.cell? ⟨w.heap.size, 9, none⟩ = some m8)) (by kernel_rfl) HSd.out (fun hHeld => ?_)
        (refine wpAnyH_take (i := 0) (v := ?_) rfl (by kernel_rfl) (by kernel_rfl) (by kernel_rfl) (fun _ _ _ h => h) (Or.inl ⟨by rfl, ?_⟩) (by assumption) ?_; rotate_left 1; · (intro wz hSw; (try dsimp only at hSw); go_simp; try rfl)); (try simp only [Act.put, List.getElem_toArray, List.getElem_cons_succ, List.getElem_cons_zero, List.setIfInBounds_toArray, List.set_cons_zero, List.set_cons_succ])
        (refine wpAnyH_take (i := 1) (v := ?_) rfl (by kernel_rfl) (by kernel_rfl) (by kernel_rfl) (fun _ _ _ h => h) (Or.inl ⟨by rfl, ?_⟩) (by assumption) ?_; rotate_left 1; · (intro wz hSw; (try dsimp only at hSw); go_simp; try rfl)); (try simp only [Act.put, List.getElem_toArray, List.getElem_cons_succ, List.getElem_cons_zero, List.setIfInBounds_toArray, List.set_cons_zero, List.set_cons_succ])
        (refine wpAnyH_take (i := 2) (v := ?_) rfl (by kernel_rfl) (by kernel_rfl) (by kernel_rfl) (fun _ _ _ h => h) (Or.inl ⟨by rfl, ?_⟩) (by assumption) ?_; rotate_left 1; · (intro wz hSw; (try dsimp only at hSw); go_simp; try rfl)); (try simp only [Act.put, List.getElem_toArray, List.getElem_cons_succ, List.getElem_cons_zero, List.setIfInBounds_toArray, List.set_cons_zero, List.set_cons_succ])
        (refine wpAnyH_take (i := 3) (v := ?_) rfl (by kernel_rfl) (by kernel_rfl) (by kernel_rfl) (fun _ _ _ h => h) (Or.inl ⟨by rfl, ?_⟩) (by assumption) ?_; rotate_left 1; · (intro wz hSw; (try dsimp only at hSw); go_simp; try rfl)); (try simp only [Act.put, List.getElem_toArray, List.getElem_cons_succ, List.getElem_cons_zero, List.setIfInBounds_toArray, List.set_cons_zero, List.set_cons_succ])
        (refine wpAnyH_take (i := 4) (v := ?_) rfl (by kernel_rfl) (by kernel_rfl) (by kernel_rfl) (fun _ _ _ h => h) (Or.inl ⟨by rfl, ?_⟩) (by assumption) ?_; rotate_left 1; · (intro wz hSw; (try dsimp only at hSw); go_simp; try rfl)); (try simp only [Act.put, List.getElem_toArray, List.getElem_cons_succ, List.getElem_cons_zero, List.setIfInBounds_toArray, List.set_cons_zero, List.set_cons_succ])
        (refine wpAnyH_take (i := 5) (v := ?_) rfl (by kernel_rfl) (by kernel_rfl) (by kernel_rfl) (fun _ _ _ h => h) (Or.inl ⟨by rfl, ?_⟩) (by assumption) ?_; rotate_left 1; · (intro wz hSw; (try dsimp only at hSw); go_simp; try rfl)); (try simp only [Act.put, List.getElem_toArray, List.getElem_cons_succ, List.getElem_cons_zero, List.setIfInBounds_toArray, List.set_cons_zero, List.set_cons_succ])
        (refine wpAnyH_take (i := 6) (v := ?_) rfl (by kernel_rfl) (by kernel_rfl) (by kernel_rfl) (fun _ _ _ h => h) (Or.inl ⟨by rfl, ?_⟩) (by assumption) ?_; rotate_left 1; · (intro wz hSw; (try dsimp only at hSw); go_simp; try rfl)); (try simp only [Act.put, List.getElem_toArray, List.getElem_cons_succ, List.getElem_cons_zero, List.setIfInBounds_toArray, List.set_cons_zero, List.set_cons_succ])
        (refine wpAnyH_take (i := 7) (v := ?_) rfl (by kernel_rfl) (by kernel_rfl) (by kernel_rfl) (fun _ _ _ h => h) (Or.inl ⟨by rfl, ?_⟩) (by assumption) ?_; rotate_left 1; · (intro wz hSw; (try dsimp only at hSw); go_simp; try rfl)); (try simp only [Act.put, List.getElem_toArray, List.getElem_cons_succ, List.getElem_cons_zero, List.setIfInBounds_toArray, List.set_cons_zero, List.set_cons_succ])
        (refine wpAnyH_take (i := 8) (v := ?_) rfl (by kernel_rfl) (by kernel_rfl) (by kernel_rfl) (fun _ _ _ h => h) (Or.inl ⟨by rfl, ?_⟩) (by assumption) ?_; rotate_left 1; · (intro wz hSw; (try dsimp only at hSw); have hsz := hsl wz; go_simp; try rfl)); (try simp only [Act.put, List.getElem_toArray, List.getElem_cons_succ, List.getElem_cons_zero, List.setIfInBounds_toArray, List.set_cons_zero, List.set_cons_succ])
        (refine wpAnyH_take (i := 9) (v := ?_) rfl (by kernel_rfl) (by kernel_rfl) (by kernel_rfl) (fun _ _ _ h => h) (Or.inl ⟨by rfl, ?_⟩) (by assumption) ?_; rotate_left 1; · (intro wz hSw; (try dsimp only at hSw); go_simp; try rfl)); (try simp only [Act.put, List.getElem_toArray, List.getElem_cons_succ, List.getElem_cons_zero, List.setIfInBounds_toArray, List.set_cons_zero, List.set_cons_succ])
        (refine wpAnyH_take (i := 10) (v := ?_) rfl (by kernel_rfl) (by kernel_rfl) (by kernel_rfl) (fun _ _ _ h => h) (Or.inl ⟨by rfl, ?_⟩) (by assumption) ?_; rotate_left 1; · (intro wz hSw; (try dsimp only at hSw); go_simp; try rfl)); (try simp only [Act.put, List.getElem_toArray, List.getElem_cons_succ, List.getElem_cons_zero, List.setIfInBounds_toArray, List.set_cons_zero, List.set_cons_succ])
        (refine wpAnyH_take (i := 11) (v := ?_) rfl (by kernel_rfl) (by kernel_rfl) (by kernel_rfl) (fun _ _ _ h => h) (Or.inl ⟨by rfl, ?_⟩) (by assumption) ?_; rotate_left 1; · (intro wz hSw; (try dsimp only at hSw); go_simp; try rfl)); (try simp only [Act.put, List.getElem_toArray, List.getElem_cons_succ, List.getElem_cons_zero, List.setIfInBounds_toArray, List.set_cons_zero, List.set_cons_succ])
        (refine wpAnyH_take (i := 12) (v := ?_) rfl (by kernel_rfl) (by kernel_rfl) (by kernel_rfl) (fun _ _ _ h => h) (Or.inl ⟨by rfl, ?_⟩) (by assumption) ?_; rotate_left 1; · (intro wz hSw; (try dsimp only at hSw); go_simp; try rfl)); (try simp only [Act.put, List.getElem_toArray, List.getElem_cons_succ, List.getElem_cons_zero, List.setIfInBounds_toArray, List.set_cons_zero, List.set_cons_succ])
        (refine wpAnyH_take (i := 13) (v := ?_) rfl (by kernel_rfl) (by kernel_rfl) (by kernel_rfl) (fun _ _ _ h => h) (Or.inl ⟨by rfl, ?_⟩) (by assumption) ?_; rotate_left 1; · (intro wz hSw; (try dsimp only at hSw); go_simp; try rfl)); (try simp only [Act.put, List.getElem_toArray, List.getElem_cons_succ, List.getElem_cons_zero, List.setIfInBounds_toArray, List.set_cons_zero, List.set_cons_succ])
        (refine wpAnyH_take (i := 14) (v := ?_) rfl (by kernel_rfl) (by kernel_rfl) (by kernel_rfl) (fun _ _ _ h => h) (Or.inl ⟨by rfl, ?_⟩) (by assumption) ?_; rotate_left 1; · (intro wz hSw; (try dsimp only at hSw); go_simp; try rfl)); (try simp only [Act.put, List.getElem_toArray, List.getElem_cons_succ, List.getElem_cons_zero, List.setIfInBounds_toArray, List.set_cons_zero, List.set_cons_succ])
        (refine wpAnyH_take (i := 15) (v := ?_) rfl (by kernel_rfl) (by kernel_rfl) (by kernel_rfl) (fun _ _ _ h => h) (Or.inl ⟨by rfl, ?_⟩) (by assumption) ?_; rotate_left 1; · (intro wz hSw; (try dsimp only at hSw); go_simp; try rfl)); (try simp only [Act.put, List.getElem_toArray, List.getElem_cons_succ, List.getElem_cons_zero, List.setIfInBounds_toArray, List.set_cons_zero, List.set_cons_succ])
        (refine wpAnyH_take (i := 16) (v := ?_) rfl (by kernel_rfl) (by kernel_rfl) (by kernel_rfl) (fun _ _ _ h => h) (Or.inl ⟨by rfl, ?_⟩) (by assumption) ?_; rotate_left 1; · (intro wz hSw; (try dsimp only at hSw); go_simp; try rfl)); (try simp only [Act.put, List.getElem_toArray, List.getElem_cons_succ, List.getElem_cons_zero, List.setIfInBounds_toArray, List.set_cons_zero, List.set_cons_succ])
        (refine wpAnyH_take (i := 17) (v := ?_) rfl (by kernel_rfl) (by kernel_rfl) (by kernel_rfl) (fun _ _ _ h => h) (Or.inl ⟨by rfl, ?_⟩) (by assumption) ?_; rotate_left 1; · (intro wz hSw; (try dsimp only at hSw); have hsz := hsh wz; go_simp; try rfl)); (try simp only [Act.put, List.getElem_toArray, List.getElem_cons_succ, List.getElem_cons_zero, List.setIfInBounds_toArray, List.set_cons_zero, List.set_cons_succ])
        refine wpAnyH_ready (rs := [18]) (by kernel_rfl) (by simp) (AllReadyH.cons rfl (fun K hK => ?_) AllReadyH.nil)
        go_simp
        go_at_call 92
        refine (hfi).mono ?_
        rintro e w5 ⟨rfl, hc5⟩
        have K5 := hid (((Ch.refl No wa).drew).trans hc5)
        clear hc5 hfi
        go_simp
        have HS5 := hid (progCells9 (K5.out.keep _ _ HPB.out (fun h => h)))
        refine hK.out _ _ HS5.out (fun hHeld5 => ?_)
        clear hK
        (refine wpAnyH_take (i := 19) (v := ?_) rfl (by kernel_rfl) (by kernel_rfl) (by kernel_rfl) (fun _ _ _ h => h) (Or.inl ⟨by rfl, ?_⟩) (by assumption) ?_; rotate_left 1; · (intro wz hSw; (try dsimp only at hSw); go_simp; try rfl)); (try simp only [Act.put, List.getElem_toArray, List.getElem_cons_succ, List.getElem_cons_zero, List.setIfInBounds_toArray, List.set_cons_zero, List.set_cons_succ])
        (refine wpAnyH_take (i := 20) (v := ?_) rfl (by kernel_rfl) (by kernel_rfl) (by kernel_rfl) (fun _ _ _ h => h) (Or.inl ⟨by rfl, ?_⟩) (by assumption) ?_; rotate_left 1; · (intro wz hSw; (try dsimp only at hSw); go_simp; try rfl)); (try simp only [Act.put, List.getElem_toArray, List.getElem_cons_succ, List.getElem_cons_zero, List.setIfInBounds_toArray, List.set_cons_zero, List.set_cons_succ])
        refine wpAnyH_done (by kernel_rfl) ?_ _
        have hsh5 := hsh w5
        go_wp2_with fail
        go_ret
        exact ⟨by rw [HE.out]; rfl, HCH.out.trans K5.out⟩
    · have e6 := litn sx [91, 93] h6
      have he : elemS cs t = ⟨#[]⟩ := by
        unfold elemS
        rw [elemO_none.2 (fun h => h6 (hsx.symm.trans h.1.2))]; rfl
      have HE := hid he
      have hsl1 := hsl wa
      clear he h6 hsx
      go_enter Tryz.func143, Tryz.ntmps143
      go_wp2_with fail
      go_quiet (fail)
      go_wp2_with fail
      go_ret
      exact ⟨by rw [HE.out]; rfl, HCH.out.trans (by first | exact (Ch.refl No wa).drew | exact (Ch.refl No wa).drewN _ | exact Ch.refl No wa)⟩
end Go.Proofs.YtgjpgfedlgdjhaaGreatDoor
end
section
/- Types: the reference 09: Is, Ref, Below; Texts of the reference 04. -/
set_option linter.unusedVariables false
set_option linter.unusedSimpArgs false
set_option maxRecDepth 8192
namespace Go.Proofs.YtgjpgfedlgdjhaaGreatDoor
open Go.RowKit Go.W

set_option maxHeartbeats 2000000 in
theorem rtexts {w : World} {v v' : Value} {l l' : List ByteArray} (h : StrsAt w v l) (h' : StrsAt w v' l') :
    Calls Tryz.prog 104 #[v, v'] w fun e w' => e = .returned (.bool (decide (l = l'))) ∧ ∃ q, w' = w.drewN q := by
  obtain ⟨ao, cap, rfl, hcap, hmax, hcell⟩ := h
  obtain ⟨ao', cap', rfl, hcap', hmax', hcell'⟩ := h'
  obtain ⟨len, hlen⟩ : ∃ len, l.length = len := ⟨_, rfl⟩
  obtain ⟨len', hlen'⟩ : ∃ len', l'.length = len' := ⟨_, rfl⟩
  rw [hlen] at hcap hcell ⊢
  rw [hlen'] at hcap' hcell' ⊢
  unfold maxLen at hmax hmax'
  have HL := hid hlen
  have HL' := hid hlen'
  obtain ⟨r, hr⟩ : ∃ r, decide (l = l') = r := ⟨_, rfl⟩
  rw [hr]
  have HR := hid hr
  clear hlen hr hlen'
  by_cases hne : len = len'
  · subst hne
    go_enter Tryz.func104, Tryz.ntmps104
    go_wp2_with fail
    go_loopg [5] len (fun g s5 wr => ∃ k q : Nat, k ≤ len ∧ len - k ≤ g ∧ s5 = .int .i64 k ∧ wr = w.drewN q ∧ l.take k = l'.take k)
    case atStart => exact ⟨0, 0, Nat.zero_le _, by omega, rfl, rfl, by simp⟩
    case round =>
      obtain ⟨k, q, hk, hg, rfl, rfl, heq⟩ := hrel
      have HQ := hid heq
      clear heq
      cases hd : decide (k < len) with
      | true =>
        have hkl : k < len := by simpa using hd
        obtain ⟨b, off, rfl, hc⟩ := hcell (by omega)
        obtain ⟨b', off', rfl, hc'⟩ := hcell' (by omega)
        obtain ⟨x, hx⟩ : ∃ x, l[k]? = some x := ⟨_, List.getElem?_eq_getElem (by have := HL.out; omega)⟩
        obtain ⟨y, hy⟩ : ∃ y, l'[k]? = some y := ⟨_, List.getElem?_eq_getElem (by have := HL'.out; omega)⟩
        have hq := hc k x hx
        have hq' := hc' k y hy
        have HX := hid hx
        have HY := hid hy
        clear hc hcell hx hc' hcell' hy
        by_cases e0 : x = y
        · have e1 := toL x y e0
          have E0 := hid e0
          clear e0
          go_wp2_with fail
          go_quiet (fail)
          go_wp2_with fail
          go_roundg (len - k - 1)
          case rel =>
            refine ⟨k + 1, _, by omega, by omega, by go_num, rfl, ?_⟩
            rw [List.take_add_one, List.take_add_one, HX.out, HY.out, HQ.out, E0.out]
          case measure => omega
        · have e1 := toLn x y e0
          have E0 := hid e0
          clear e0
          go_wp2_with fail
          go_quiet (fail)
          go_wp2_with fail
          go_ret
          refine ⟨ret_bool ?_, _, World.drewN_drewN ..⟩
          rw [← HR.out]; symm; rw [decide_eq_false_iff_not]
          rintro rfl
          exact E0.out (Option.some.inj (HX.out.symm.trans HY.out))
      | false =>
        go_wp2_with fail
        go_ret
        refine ⟨ret_bool ?_, _, rfl⟩
        rw [← HR.out]; symm; rw [decide_eq_true_eq]
        have hkl : ¬ k < len := by simpa using hd
        have := HQ.out
        rwa [List.take_of_length_le (by have := HL.out; omega), List.take_of_length_le (by have := HL'.out; omega)] at this
  · have e1 : ((len : Int) == (len' : Int)) = false := by simp; omega
    go_enter Tryz.func104, Tryz.ntmps104
    go_wp2_with fail
    go_ret
    refine ⟨ret_bool ?_, 0, rfl⟩
    rw [← HR.out]; symm; rw [decide_eq_false_iff_not]
    rintro rfl
    exact hne (HL.out.symm.trans HL'.out)
theorem rtexts' {w : World} {v v' : Value} {l : List ByteArray} (h : StrsAt w v l) (h' : StrsAt w v' l) :
    Calls Tryz.prog 104 #[v, v'] w fun e w' => e = .returned (.bool true) ∧ Ch No w w' :=
  (rtexts h h').mono fun e w' ⟨he, q, hw⟩ => ⟨he.trans (ret_bool (by simp)), by rw [hw]; exact (Ch.refl _ _).drewN q⟩

theorem elemS_none {cs : List Cls} {t : ByteArray} (h : elemO cs t = none) : (elemS cs t).toList.isEmpty = true := by
  unfold elemS; rw [h, emptyIs]; simp
theorem elemS_some {cs : List Cls} (hp : PlainP cs) {t e : ByteArray} (h : elemO cs t = some e) : (elemS cs t).toList.isEmpty = false := by
  obtain ⟨_, _, i, hi⟩ := elemO_some.1 h
  obtain ⟨c, hc, hn, _⟩ := find_some hi
  have := (hp c (List.mem_of_getElem? hc)).ne
  unfold elemS; rw [h, emptyIs]
  rw [hn] at this
  simpa using this

set_option maxRecDepth 100000 in
set_option maxHeartbeats 8000000 in
theorem gis {w : World} {pv : Value} {cs : List Cls} (h : ProgAt w pv cs) (hp : PlainP cs) {t : ByteArray} (ht : t.size ≤ maxLen) :
    Calls Tryz.prog 103 #[pv, .string t] w fun e w' => BoolIs (isT cs t) e ∧ Ch No w w' := by
  have HPL := hid hp
  clear hp
  have hp := h
  obtain ⟨cv, m0, m1, m2, m3, m4, m5, m6, m7, m8, rfl, h⟩ := h
  obtain ⟨ao, cap, rfl, hcap, hmax, _, _⟩ := h.row
  rw [List.length_map] at hcap h hp ⊢
  obtain ⟨len, hlen⟩ : ∃ len, cs.length = len := ⟨_, rfl⟩
  rw [hlen] at hcap h hp ⊢
  unfold maxLen at hmax
  obtain ⟨wa, hwa⟩ : ∃ wa, w.alloc (.cells #[.slice ao len cap, m0, m1, m2, m3, m4, m5, m6, m7, m8] 31) = wa := ⟨_, rfl⟩
  have hpb := heap_alloc_new w (.cells #[.slice ao len cap, m0, m1, m2, m3, m4, m5, m6, m7, m8] 31)
  have hch := (Ch.refl No w).alloc (.cells #[.slice ao len cap, m0, m1, m2, m3, m4, m5, m6, m7, m8] 31)
  rw [hwa] at hch hpb
  have HL := hid hlen
  have HP := hid (hp.no hch)
  have HC := hid (h.no hch)
  have HPB := hid hpb
  have HCH := hid hch
  have p0 := cellAt hpb 0
  have p1 := cellAt hpb 1
  have p2 := cellAt hpb 2
  have p3 := cellAt hpb 3
  have p4 := cellAt hpb 4
  have p5 := cellAt hpb 5
  have p6 := cellAt hpb 6
  have p7 := cellAt hpb 7
  have p8 := cellAt hpb 8
  have p9 := cellAt hpb 9
  have hz := lt_size hpb
  clear hlen h hp hpb hch
  by_cases h1 : t = sInt
  · have e1 := lit t [105, 110, 116] h1
    have H1 := hid h1
    clear h1
    go_enter Tryz.func103, Tryz.ntmps103
    go_wp2_with fail
    go_ret
    exact ⟨BoolIs.t (.inl H1.out), HCH.out⟩
  · have e1 := litn t [105, 110, 116] h1
    have H1 := hid h1
    clear h1
    by_cases h2 : t = sNull
    · have e2 := lit t [110, 117, 108, 108] h2
      have H2 := hid h2
      clear h2
      go_enter Tryz.func103, Tryz.ntmps103
      go_wp2_with fail
      go_ret
      exact ⟨BoolIs.t (.inr (.inl H2.out)), HCH.out⟩
    · have e2 := litn t [110, 117, 108, 108] h2
      have H2 := hid h2
      clear h2
      have hfi := rfind HP.out t
      cases hf : find cs t with
      | some j =>
        rw [findZ_some hf] at hfi
        have HF := hid hf
        clear hf
        go_enter Tryz.func103, Tryz.ntmps103
        go_wp2_with fail
        clear hwa
        refine hfi.mono ?_
        rintro e w5 ⟨rfl, hc5⟩
        clear hfi
        go_wp2_with fail
        go_ret
        exact ⟨BoolIs.t (.inr (.inr (.inl ⟨j, HF.out⟩))), HCH.out.trans hc5⟩
      | none =>
        rw [findZ_none hf] at hfi
        have HF := hid hf
        clear hf
        go_enter Tryz.func103, Tryz.ntmps103
        go_wp2_with fail
        clear hwa
        refine hfi.mono ?_
        rintro e w5 ⟨rfl, hc5⟩
        have hb5 := hc5.keep _ _ HPB.out (fun h => h)
        have hge := gelem (HP.out.no hc5) HPL.out ht
        have HC5 := hid (HCH.out.trans hc5)
        clear hfi hc5 p0 p1 p2 p3 p4 p5 p6 p7 p8 p9
        have p0 := cellAt hb5 0
        have p1 := cellAt hb5 1
        have p2 := cellAt hb5 2
        have p3 := cellAt hb5 3
        have p4 := cellAt hb5 4
        have p5 := cellAt hb5 5
        have p6 := cellAt hb5 6
        have p7 := cellAt hb5 7
        have p8 := cellAt hb5 8
        have p9 := cellAt hb5 9
        clear hb5
        cases he : elemO cs t with
        | none =>
          have e3 := elemS_none he
          have HE := hid he
          clear he
          go_wp2_with fail
          refine hge.mono ?_
          rintro e w6 ⟨rfl, hc6⟩
          clear hge
          go_wp2_with fail
          go_ret
          refine ⟨BoolIs.f ?_, HC5.out.trans hc6⟩
          rintro (h | h | ⟨i, h⟩ | ⟨e, h⟩)
          · exact H1.out h
          · exact H2.out h
          · rw [HF.out] at h; cases h
          · rw [HE.out] at h; cases h
        | some el =>
          have e3 := elemS_some HPL.out he
          have HE := hid he
          clear he
          go_wp2_with fail
          refine hge.mono ?_
          rintro e w6 ⟨rfl, hc6⟩
          clear hge
          go_wp2_with fail
          go_ret
          exact ⟨BoolIs.t (.inr (.inr (.inr ⟨el, HE.out⟩))), HC5.out.trans hc6⟩
end Go.Proofs.YtgjpgfedlgdjhaaGreatDoor
end
