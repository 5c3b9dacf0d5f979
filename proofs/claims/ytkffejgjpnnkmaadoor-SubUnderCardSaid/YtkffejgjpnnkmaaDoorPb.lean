/- Types: what ends as arrays do, CutSuffix; the types of a program: Class, Elem, one, Is, Ref. -/
import Derived.Test.YtkffejgjpnnkmaaDoorPt
set_option linter.unusedVariables false
set_option linter.unusedSimpArgs false
namespace Go.Proofs.YtkffejgjpnnkmaaDoor
open Go.RowKit Go.W

theorem streqL (a : ByteArray) (l : List UInt8) : (a.toList == l) = decide (a = ⟨l.toArray⟩) := by
  have h : (⟨l.toArray⟩ : ByteArray).toList = l := by rw [toList_eq]
  rw [← streq, h]
theorem toL (a b : ByteArray) (h : a = b) : (a.toList == b.toList) = true := by rw [streq]; simpa using h
theorem toLn (a b : ByteArray) (h : ¬ a = b) : (a.toList == b.toList) = false := by rw [streq]; simpa using h
theorem lit (a : ByteArray) (l : List UInt8) (h : a = ⟨l.toArray⟩) : (a.toList == l) = true := by rw [streqL]; simpa using h
theorem litn (a : ByteArray) (l : List UInt8) (h : ¬ a = ⟨l.toArray⟩) : (a.toList == l) = false := by rw [streqL]; simpa using h

set_option maxHeartbeats 1000000 in
theorem sHasSuf (w : World) {t : ByteArray} (ht : t.size ≤ maxLen) :
    Calls Tryd.prog 83 #[.string t, .string { data := #[91, 93] }] w fun e w' => BoolIs (arrP t) e ∧ w = w' := by
  unfold maxLen at ht
  have hz : (ByteArray.mk #[91, 93]).size = 2 := rfl
  cases h2 : decide ((2 : Int) ≤ t.size) with
  | false =>
    have h2' : ¬ (2 : Int) ≤ t.size := by simpa using h2
    go_enter Tryd.func83, Tryd.ntmps83
    go_wp2_with fail
    go_ret
    exact ⟨BoolIs.f (fun h => by have := h.1; omega), rfl⟩
  | true =>
    have h2' : (2 : Int) ≤ t.size := by simpa using h2
    have hsl : (Instr.slice 9 (.string t) (some (.int .i64 ((t.size : Int) - 2))) none none).run Tryd.prog w = .ok (.string (t.extract (t.size - 2) t.size)) w := by
      have := run_slice_string_l w 9 t Tryd.underlying9 .i64 ((t.size : Int) - 2) (by omega) (by omega)
      rwa [show ((t.size : Int) - 2).toNat = t.size - 2 by omega] at this
    go_enter Tryd.func83, Tryd.ntmps83
    go_wp2_with fail
    go_ret
    refine ⟨⟨_, rfl, ?_⟩, rfl⟩
    rw [streqL]
    simp only [decide_eq_true_eq]
    exact ⟨fun h => ⟨by omega, h⟩, fun h => h.2⟩

/-- what CutSuffix answers -/
def CutOut (t : ByteArray) (e : Ending) : Prop := (arrP t ∧ e = .returned (.tuple #[.string (cutA t), .bool true])) ∨ (¬ arrP t ∧ e = .returned (.tuple #[.string t, .bool false]))
set_option maxHeartbeats 1000000 in
theorem siCut (w : World) {t : ByteArray} (ht : t.size ≤ maxLen) :
    Calls Tryd.prog 75 #[.string t, .string { data := #[91, 93] }] w fun e w' => CutOut t e ∧ w = w' := by
  have hs := sHasSuf w ht
  unfold maxLen at ht
  have hz : (ByteArray.mk #[91, 93]).size = 2 := rfl
  go_enter Tryd.func75, Tryd.ntmps75
  go_wp2_with fail
  refine hs.mono ?_
  rintro e w1 ⟨⟨r, rfl, hr⟩, rfl⟩
  clear hs
  cases r with
  | false =>
    have ha : ¬ arrP t := fun h => Bool.noConfusion (hr.2 h)
    go_wp2_with fail
    go_ret2
    exact ⟨.inr ⟨ha, rfl⟩, rfl⟩
  | true =>
    have ha : arrP t := hr.1 rfl
    have h2 := ha.1
    have hsl : (Instr.slice 9 (.string t) none (some (.int .i64 ((t.size : Int) - 2))) none).run Tryd.prog w = .ok (.string (cutA t)) w := by
      have := run_slice_string_h w 9 t Tryd.underlying9 .i64 ((t.size : Int) - 2) (by omega) (by omega)
      rwa [show ((t.size : Int) - 2).toNat = t.size - 2 by omega] at this
    clear hr
    go_wp2_with fail
    go_ret2
    exact ⟨.inl ⟨ha, rfl⟩, rfl⟩
set_option maxHeartbeats 1000000 in
theorem sCut (w : World) {t : ByteArray} (ht : t.size ≤ maxLen) :
    Calls Tryd.prog 63 #[.string t, .string { data := #[91, 93] }] w fun e w' => CutOut t e ∧ w = w' := by
  have hs := siCut w ht
  go_enter Tryd.func63, Tryd.ntmps63
  go_wp2_with fail
  refine hs.mono ?_
  rintro e w1 ⟨⟨ha, rfl⟩ | ⟨ha, rfl⟩, rfl⟩
  · clear hs
    go_wp2_with fail
    go_ret2
    exact ⟨.inl ⟨ha, rfl⟩, rfl⟩
  · clear hs
    go_wp2_with fail
    go_ret2
    exact ⟨.inr ⟨ha, rfl⟩, rfl⟩

/-- block xb is the types of the classes cs -/
structure TypAt (w : World) (xb tb : Nat) (abv : Value) (ss : List SetP) (cs : List Cls) : Prop where
  blk : w.heap[xb]? = some (.cells #[.pointer (some ⟨tb, 0, none⟩), abv] 101 (0, 0))
  tab : TableIs w (.pointer (some ⟨tb, 0, none⟩)) cs
  sets : SetsAt w abv ss
  len : ss.length = cs.length
  ab : ∀ (i : Nat) (s : SetP), ss[i]? = some s → s.l = abL cs [(i : Int)] cs.length
def TypesIs (w : World) (xv : Value) (cs : List Cls) : Prop := ∃ xb tb abv ss, xv = .pointer (some ⟨xb, 0, none⟩) ∧ TypAt w xb tb abv ss cs
theorem TypAt.no {w w' : World} {xb tb : Nat} {abv : Value} {ss : List SetP} {cs : List Cls} (h : TypAt w xb tb abv ss cs) (hc : Ch No w w') : TypAt w' xb tb abv ss cs :=
  ⟨hc.keep _ _ h.blk (fun h => h), h.tab.no hc, h.sets.no hc, h.len, h.ab⟩
theorem TypesIs.no {w w' : World} {xv : Value} {cs : List Cls} (h : TypesIs w xv cs) (hc : Ch No w w') : TypesIs w' xv cs := by
  obtain ⟨xb, tb, abv, ss, rfl, h⟩ := h
  exact ⟨xb, tb, abv, ss, rfl, h.no hc⟩

set_option maxHeartbeats 1000000 in
theorem xclass {w : World} {xv : Value} {cs : List Cls} (h : TypesIs w xv cs) {t : ByteArray} (ht : t.size ≤ maxLen) :
    Calls Tryd.prog 37 #[xv, .string t] w fun e w' => e = .returned (.tuple #[.int .i64 (getI (find cs) t), .bool (getB (find cs) t)]) ∧ w = w' := by
  obtain ⟨xb, tb, abv, ss, rfl, h⟩ := h
  have c0 := cellAt h.blk 0
  have hi := tIndex h.tab ht
  clear h
  go_enter Tryd.func37, Tryd.ntmps37
  go_wp2_with fail
  refine hi.mono ?_
  rintro e w1 ⟨rfl, rfl⟩
  go_wp2_with fail
  go_ret2
  exact ⟨rfl, rfl⟩

/-- what Elem answers -/
def ElemOut (cs : List Cls) (t : ByteArray) (e : Ending) : Prop := (∃ el, elemO cs t = some el ∧ e = .returned (.tuple #[.string el, .bool true])) ∨ (elemO cs t = none ∧ e = .returned (.tuple #[.string { data := #[] }, .bool false]))
theorem cutSize (t : ByteArray) : (cutA t).size ≤ t.size := by
  unfold cutA
  rw [ByteArray.size_extract]; omega
set_option maxHeartbeats 1000000 in
theorem xelem {w : World} {xv : Value} {cs : List Cls} (h : TypesIs w xv cs) {t : ByteArray} (ht : t.size ≤ maxLen) :
    Calls Tryd.prog 36 #[xv, .string t] w fun e w' => ElemOut cs t e ∧ w = w' := by
  have H := hid h
  obtain ⟨xb, tb, abv, ss, rfl, _⟩ := h
  have hc := sCut w ht
  go_enter Tryd.func36, Tryd.ntmps36
  go_wp2_with fail
  refine hc.mono ?_
  rintro e w1 ⟨⟨ha, rfl⟩ | ⟨ha, rfl⟩, rfl⟩
  · have hcl := xclass H.out (t := cutA t) (Nat.le_trans (cutSize t) ht)
    clear hc
    cases hb : find cs (cutA t) with
    | none =>
      have hb1 : getB (find cs) (cutA t) = false := by unfold getB; rw [hb]; rfl
      rw [hb1] at hcl
      clear hb1
      go_wp2_with fail
      refine hcl.mono ?_
      rintro e w1 ⟨rfl, rfl⟩
      go_wp2_with fail
      go_ret2
      exact ⟨.inr ⟨elemO_none.2 (fun h => by rw [hb] at h; exact Bool.noConfusion h.2), rfl⟩, rfl⟩
    | some i =>
      have hb1 : getB (find cs) (cutA t) = true := by unfold getB; rw [hb]; rfl
      rw [hb1] at hcl
      clear hb1
      go_wp2_with fail
      refine hcl.mono ?_
      rintro e w1 ⟨rfl, rfl⟩
      go_wp2_with fail
      go_ret2
      exact ⟨.inl ⟨_, elemO_some.2 ⟨ha, rfl, i, hb⟩, rfl⟩, rfl⟩
  · have hcl := xclass H.out ht
    clear hc
    go_wp2_with fail
    refine hcl.mono ?_
    rintro e w1 ⟨rfl, rfl⟩
    clear hcl
    go_wp2_with fail
    go_ret2
    exact ⟨.inr ⟨elemO_none.2 (fun h => ha h.1), rfl⟩, rfl⟩

theorem getB_iff {cs : List Cls} {t : ByteArray} : getB (find cs) t = true ↔ ∃ i, find cs t = some i := by
  unfold getB
  rw [Option.isSome_iff_exists]
theorem getI_some {cs : List Cls} {t : ByteArray} {i : Nat} (h : find cs t = some i) : getI (find cs) t = (i : Int) := by
  unfold getI; rw [h]
theorem getI_none {cs : List Cls} {t : ByteArray} (h : find cs t = none) : getI (find cs) t = 0 := by
  unfold getI; rw [h]

set_option maxHeartbeats 2000000 in
theorem xone {w : World} {xv : Value} {cs : List Cls} (h : TypesIs w xv cs) {t : ByteArray} (ht : t.size ≤ maxLen) :
    Calls Tryd.prog 61 #[xv, .string t] w fun e w' => BoolIs (isT cs t) e ∧ w = w' := by
  have H := hid h
  obtain ⟨xb, tb, abv, ss, rfl, _⟩ := h
  by_cases h1 : t = sInt
  · have e1 := lit t [105, 110, 116] h1
    have H1 := hid h1
    clear h1
    go_enter Tryd.func61, Tryd.ntmps61
    go_wp2_with fail
    go_ret
    exact ⟨BoolIs.t (.inl H1.out), rfl⟩
  · have e1 := litn t [105, 110, 116] h1
    have H1 := hid h1
    clear h1
    by_cases h2 : t = sNull
    · have e2 := lit t [110, 117, 108, 108] h2
      have H2 := hid h2
      clear h2
      go_enter Tryd.func61, Tryd.ntmps61
      go_wp2_with fail
      go_ret
      exact ⟨BoolIs.t (.inr (.inl H2.out)), rfl⟩
    · have e2 := litn t [110, 117, 108, 108] h2
      have H2 := hid h2
      clear h2
      have hcl := xclass H.out ht
      have hel := xelem H.out ht
      cases hf : find cs t with
      | none =>
        have b1 : getB (find cs) t = false := by unfold getB; rw [hf]; rfl
        rw [b1] at hcl
        have HF := hid hf
        clear b1 hf
        go_enter Tryd.func61, Tryd.ntmps61
        go_wp2_with fail
        refine hcl.mono ?_
        rintro e w1 ⟨rfl, rfl⟩
        clear hcl
        go_wp2_with fail
        refine hel.mono ?_
        rintro e w1 ⟨⟨el, hel, rfl⟩ | ⟨hel, rfl⟩, rfl⟩
        · have HE := hid hel
          clear hel
          go_wp2_with fail
          go_ret
          exact ⟨BoolIs.t (.inr (.inr (.inr ⟨el, HE.out⟩))), rfl⟩
        · have HE := hid hel
          clear hel
          go_wp2_with fail
          go_ret
          refine ⟨BoolIs.f ?_, rfl⟩
          rintro (h | h | ⟨i, h⟩ | ⟨e, h⟩)
          · exact H1.out h
          · exact H2.out h
          · rw [HF.out] at h; cases h
          · rw [HE.out] at h; cases h
      | some i =>
        have b1 : getB (find cs) t = true := by unfold getB; rw [hf]; rfl
        rw [b1] at hcl
        have HF := hid hf
        clear b1 hf
        go_enter Tryd.func61, Tryd.ntmps61
        go_wp2_with fail
        refine hcl.mono ?_
        rintro e w1 ⟨rfl, rfl⟩
        clear hcl
        go_wp2_with fail
        refine hel.mono ?_
        rintro e w1 ⟨⟨el, hel, rfl⟩ | ⟨hel, rfl⟩, rfl⟩
        · clear hel
          go_wp2_with fail
          go_ret
          exact ⟨BoolIs.t (.inr (.inr (.inl ⟨i, HF.out⟩))), rfl⟩
        · clear hel
          go_wp2_with fail
          go_ret
          exact ⟨BoolIs.t (.inr (.inr (.inl ⟨i, HF.out⟩))), rfl⟩

set_option maxHeartbeats 2000000 in
theorem xref {w : World} {xv : Value} {cs : List Cls} (h : TypesIs w xv cs) {t : ByteArray} (ht : t.size ≤ maxLen) :
    Calls Tryd.prog 40 #[xv, .string t] w fun e w' => BoolIs (t ≠ sInt ∧ isT cs t) e ∧ w = w' := by
  have H := hid h
  obtain ⟨xb, tb, abv, ss, rfl, _⟩ := h
  by_cases h1 : t = sInt
  · have e1 := lit t [105, 110, 116] h1
    have H1 := hid h1
    clear h1
    go_enter Tryd.func40, Tryd.ntmps40
    go_wp2_with fail
    go_ret
    exact ⟨BoolIs.f (fun h => h.1 H1.out), rfl⟩
  · have e1 := litn t [105, 110, 116] h1
    have H1 := hid h1
    clear h1
    have ho := xone H.out ht
    go_enter Tryd.func40, Tryd.ntmps40
    go_wp2_with fail
    refine ho.mono ?_
    rintro e w1 ⟨⟨r, rfl, hr⟩, rfl⟩
    clear ho
    have HR := hid hr
    clear hr
    go_wp2_with fail
    go_ret
    exact ⟨⟨r, rfl, fun h => ⟨H1.out, HR.out.1 h⟩, fun h => HR.out.2 h.2⟩, rfl⟩

theorem StrsAt.one {w : World} (l : List ByteArray) (hl : l.length ≤ 1000) : StrsAt (w.alloc (.cells (l.map Value.string).toArray 9)) (.slice (some ⟨w.heap.size, 0, none⟩) l.length l.length) l := by
  refine ⟨_, _, rfl, Nat.le_refl _, by unfold maxLen; omega, fun _ => ⟨_, _, rfl, fun i x hx => ?_⟩⟩
  rw [cellAt (heap_alloc_new w _), Nat.zero_add]
  simp [hx]

set_option maxHeartbeats 2000000 in
theorem xis {w : World} {xv v : Value} {cs : List Cls} {ts : List ByteArray} (h : TypesIs w xv cs) (hv : StrsAt w v ts) (hz : ∀ t ∈ ts, t.size ≤ maxLen) :
    Calls Tryd.prog 34 #[xv, v] w fun e w' => BoolIs (∀ t ∈ ts, isT cs t) e ∧ w = w' := by
  have H := hid h
  have HV := hid hv
  have HZ := hid hz
  obtain ⟨xb, tb, abv, ss, rfl, _⟩ := h
  obtain ⟨ao, cap, rfl, hcap, hmax, _⟩ := hv
  obtain ⟨n, hn⟩ : ∃ n, ts.length = n := ⟨_, rfl⟩
  rw [hn] at hcap HV ⊢
  unfold maxLen at hmax
  have HN := hid hn
  clear hn hz
  go_enter Tryd.func34, Tryd.ntmps34
  go_wp2_with fail
  go_loopg [9] n (fun g s9 wr => ∃ (k : Nat), k ≤ n ∧ n - k ≤ g ∧ s9 = .int .i64 k ∧ wr = w ∧ Hid (∀ t ∈ ts.take k, isT cs t))
  case atStart => exact ⟨0, Nat.zero_le _, by omega, rfl, rfl, hid (by simp)⟩
  case round =>
    obtain ⟨k, hk, hg, rfl, rfl, HI⟩ := hrel
    cases hd : decide (k < n) with
    | false =>
      have hkl : ¬ k < n := by simpa using hd
      go_wp2_with fail
      go_ret
      refine ⟨BoolIs.t (fun t ht => HI.out t ?_), rfl⟩
      rw [List.take_of_length_le (by have := HN.out; omega)]; exact ht
    | true =>
      have hkl : k < n := by simpa using hd
      obtain ⟨t, ht⟩ : ∃ t, ts[k]? = some t := ⟨_, List.getElem?_eq_getElem (by have := HN.out; omega)⟩
      obtain ⟨hnn, b, off, hao, hq⟩ := HV.out.cell ht
      clear hnn
      subst hao
      have ho := xone H.out (t := t) (HZ.out t (List.mem_of_getElem? ht))
      have HX := hid ht
      clear ht
      go_wp2_with fail
      refine ho.mono ?_
      rintro e w1 ⟨⟨r, rfl, hr⟩, rfl⟩
      have HR := hid hr
      clear ho hr
      cases r with
      | false =>
        have HP := hid (show ¬ isT cs t from fun h => Bool.noConfusion (HR.out.2 h))
        clear HR
        go_wp2_with fail
        go_ret
        exact ⟨BoolIs.f (fun h => HP.out (h t (List.mem_of_getElem? HX.out))), rfl⟩
      | true =>
        have HP := hid (HR.out.1 rfl)
        clear HR
        go_wp2_with fail
        go_roundg (n - k - 1)
        case rel =>
          refine ⟨k + 1, by omega, by omega, by go_num, rfl, hid (fun x hx => ?_)⟩
          rw [List.take_add_one, HX.out] at hx
          rcases List.mem_append.1 hx with hx | hx
          · exact HI.out x hx
          · simp at hx; subst hx; exact HP.out
        case measure => omega
end Go.Proofs.YtkffejgjpnnkmaaDoor
