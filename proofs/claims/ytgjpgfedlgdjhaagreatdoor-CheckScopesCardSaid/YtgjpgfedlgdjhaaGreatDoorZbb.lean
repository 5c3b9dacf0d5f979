/- What the claim uses: part 28. -/
import Derived.Test.YtgjpgfedlgdjhaaGreatDoorZay
section
section
set_option linter.unusedVariables false
set_option linter.unusedSimpArgs false
namespace Go.Proofs.YtgjpgfedlgdjhaaGreatDoor
open Go.RowKit Go.W
theorem streqL (a : ByteArray) (l : List UInt8) : (a.toList == l) = decide (a = ⟨l.toArray⟩) := by
 have h : (⟨l.toArray⟩ : ByteArray).toList = l := by rw [toList_eq]
 rw [← streq, h]
theorem toL (a b : ByteArray) (h : a = b) : (a.toList == b.toList) = true := by rw [streq]; simpa using h
theorem toLn (a b : ByteArray) (h : ¬ a = b) : (a.toList == b.toList) = false := by rw [streq]; simpa using h
theorem lit (a : ByteArray) (l : List UInt8) (h : a = ⟨l.toArray⟩) : (a.toList == l) = true := by rw [streqL]; simpa using h
theorem litn (a : ByteArray) (l : List UInt8) (h : ¬ a = ⟨l.toArray⟩) : (a.toList == l) = false := by rw [streqL]; simpa using h
set_option maxHeartbeats 1000000 in
theorem sHasSuf (w : World) {t : ByteArray} (ht : t.size ≤ maxLen) :
   Calls Tryz.prog 172 #[.string t, .string { data := #[91, 93] }] w fun e w' => BoolIs (arrP t) e ∧ w = w' := by
 unfold maxLen at ht
 have hz : (ByteArray.mk #[91, 93]).size = 2 := rfl
 cases h2 : decide ((2 : Int) ≤ t.size) with
 | false =>
   have h2' : ¬ (2 : Int) ≤ t.size := by simpa using h2
   go_enter Tryz.func172, Tryz.ntmps172
   go_wp2_with fail
   go_ret
   exact ⟨BoolIs.f (fun h => by have := h.1; omega), rfl⟩
 | true =>
   have h2' : (2 : Int) ≤ t.size := by simpa using h2
   have hsl : (Instr.slice 9 (.string t) (some (.int .i64 ((t.size : Int) - 2))) none none).run Tryz.prog w = .ok (.string (t.extract (t.size - 2) t.size)) w := by
     have := run_slice_string_l w 9 t Tryz.underlying9 .i64 ((t.size : Int) - 2) (by omega) (by omega)
     rwa [show ((t.size : Int) - 2).toNat = t.size - 2 by omega] at this
   go_enter Tryz.func172, Tryz.ntmps172
   go_wp2_with fail
   go_ret
   refine ⟨⟨_, rfl, ?_⟩, rfl⟩
   rw [streqL]
   simp only [decide_eq_true_eq]
   exact ⟨fun h => ⟨by omega, h⟩, fun h => h.2⟩
def CutOut (t : ByteArray) (e : Ending) : Prop := (arrP t ∧ e = .returned (.tuple #[.string (cutA t), .bool true])) ∨ (¬ arrP t ∧ e = .returned (.tuple #[.string t, .bool false]))
set_option maxHeartbeats 1000000 in
theorem siCut (w : World) {t : ByteArray} (ht : t.size ≤ maxLen) :
   Calls Tryz.prog 170 #[.string t, .string { data := #[91, 93] }] w fun e w' => CutOut t e ∧ w = w' := by
 have hs := sHasSuf w ht
 unfold maxLen at ht
 have hz : (ByteArray.mk #[91, 93]).size = 2 := rfl
 go_enter Tryz.func170, Tryz.ntmps170
 go_wp2_with fail
 refine hs.mono ?_
 rintro e w1 ⟨⟨r, rfl, hr⟩, rfl⟩
 clear hs
 cases r with
 | false =>
   have ha : ¬ arrP t := fun h => Bool.noConfusion (hr.2 h)
   go_wp2_with fail
   go_ret2
   exact ⟨.inr ⟨ha, rfl⟩, rfl⟩
 | true =>
   have ha : arrP t := hr.1 rfl
   have h2 := ha.1
   have hsl : (Instr.slice 9 (.string t) none (some (.int .i64 ((t.size : Int) - 2))) none).run Tryz.prog w = .ok (.string (cutA t)) w := by
     have := run_slice_string_h w 9 t Tryz.underlying9 .i64 ((t.size : Int) - 2) (by omega) (by omega)
     rwa [show ((t.size : Int) - 2).toNat = t.size - 2 by omega] at this
   clear hr
   go_wp2_with fail
   go_ret2
   exact ⟨.inl ⟨ha, rfl⟩, rfl⟩
set_option maxHeartbeats 1000000 in
theorem sCut (w : World) {t : ByteArray} (ht : t.size ≤ maxLen) :
   Calls Tryz.prog 160 #[.string t, .string { data := #[91, 93] }] w fun e w' => CutOut t e ∧ w = w' := by
 have hs := siCut w ht
 go_enter Tryz.func160, Tryz.ntmps160
 go_wp2_with fail
 refine hs.mono ?_
 rintro e w1 ⟨⟨ha, rfl⟩ | ⟨ha, rfl⟩, rfl⟩
 · clear hs
   go_wp2_with fail
   go_ret2
   exact ⟨.inl ⟨ha, rfl⟩, rfl⟩
 · clear hs
   go_wp2_with fail
   go_ret2
   exact ⟨.inr ⟨ha, rfl⟩, rfl⟩
structure TypAt (w : World) (xb tb : Nat) (abv : Value) (ss : List SetP) (cs : List Cls) : Prop where
 blk : w.heap[xb]? = some (.cells #[.pointer (some ⟨tb, 0, none⟩), abv] 107 (0, 0))
 tab : TableIs w (.pointer (some ⟨tb, 0, none⟩)) cs
 sets : SetsAt w abv ss
 len : ss.length = cs.length
 ab : ∀ (i : Nat) (s : SetP), ss[i]? = some s → s.l = abL cs [(i : Int)] cs.length
def TypesIs (w : World) (xv : Value) (cs : List Cls) : Prop := ∃ xb tb abv ss, xv = .pointer (some ⟨xb, 0, none⟩) ∧ TypAt w xb tb abv ss cs
theorem TypAt.no {w w' : World} {xb tb : Nat} {abv : Value} {ss : List SetP} {cs : List Cls} (h : TypAt w xb tb abv ss cs) (hc : Ch No w w') : TypAt w' xb tb abv ss cs :=
 ⟨hc.keep _ _ h.blk (fun h => h), h.tab.no hc, h.sets.no hc, h.len, h.ab⟩
theorem TypesIs.no {w w' : World} {xv : Value} {cs : List Cls} (h : TypesIs w xv cs) (hc : Ch No w w') : TypesIs w' xv cs := by
 obtain ⟨xb, tb, abv, ss, rfl, h⟩ := h
 exact ⟨xb, tb, abv, ss, rfl, h.no hc⟩
set_option maxHeartbeats 1000000 in
theorem xclass {w : World} {xv : Value} {cs : List Cls} (h : TypesIs w xv cs) {t : ByteArray} (ht : t.size ≤ maxLen) :
   Calls Tryz.prog 132 #[xv, .string t] w fun e w' => e = .returned (.tuple #[.int .i64 (getI (find cs) t), .bool (getB (find cs) t)]) ∧ w = w' := by
 obtain ⟨xb, tb, abv, ss, rfl, h⟩ := h
 have c0 := cellAt h.blk 0
 have hi := tIndex h.tab ht
 clear h
 go_enter Tryz.func132, Tryz.ntmps132
 go_wp2_with fail
 refine hi.mono ?_
 rintro e w1 ⟨rfl, rfl⟩
 go_wp2_with fail
 go_ret2
 exact ⟨rfl, rfl⟩
def ElemOut (cs : List Cls) (t : ByteArray) (e : Ending) : Prop := (∃ el, elemO cs t = some el ∧ e = .returned (.tuple #[.string el, .bool true])) ∨ (elemO cs t = none ∧ e = .returned (.tuple #[.string { data := #[] }, .bool false]))
theorem cutSize (t : ByteArray) : (cutA t).size ≤ t.size := by
 unfold cutA
 rw [ByteArray.size_extract]; omega
set_option maxHeartbeats 1000000 in
theorem xelem {w : World} {xv : Value} {cs : List Cls} (h : TypesIs w xv cs) {t : ByteArray} (ht : t.size ≤ maxLen) :
   Calls Tryz.prog 133 #[xv, .string t] w fun e w' => ElemOut cs t e ∧ w = w' := by
 have H := hid h
 obtain ⟨xb, tb, abv, ss, rfl, _⟩ := h
 have hc := sCut w ht
 go_enter Tryz.func133, Tryz.ntmps133
 go_wp2_with fail
 refine hc.mono ?_
 rintro e w1 ⟨⟨ha, rfl⟩ | ⟨ha, rfl⟩, rfl⟩
 · have hcl := xclass H.out (t := cutA t) (Nat.le_trans (cutSize t) ht)
   clear hc
   cases hb : find cs (cutA t) with
   | none =>
     have hb1 : getB (find cs) (cutA t) = false := by unfold getB; rw [hb]; rfl
     rw [hb1] at hcl
     clear hb1
     go_wp2_with fail
     refine hcl.mono ?_
     rintro e w1 ⟨rfl, rfl⟩
     go_wp2_with fail
     go_ret2
     exact ⟨.inr ⟨elemO_none.2 (fun h => by rw [hb] at h; exact Bool.noConfusion h.2), rfl⟩, rfl⟩
   | some i =>
     have hb1 : getB (find cs) (cutA t) = true := by unfold getB; rw [hb]; rfl
     rw [hb1] at hcl
     clear hb1
     go_wp2_with fail
     refine hcl.mono ?_
     rintro e w1 ⟨rfl, rfl⟩
     go_wp2_with fail
     go_ret2
     exact ⟨.inl ⟨_, elemO_some.2 ⟨ha, rfl, i, hb⟩, rfl⟩, rfl⟩
 · have hcl := xclass H.out ht
   clear hc
   go_wp2_with fail
   refine hcl.mono ?_
   rintro e w1 ⟨rfl, rfl⟩
   clear hcl
   go_wp2_with fail
   go_ret2
   exact ⟨.inr ⟨elemO_none.2 (fun h => ha h.1), rfl⟩, rfl⟩
theorem getI_some {cs : List Cls} {t : ByteArray} {i : Nat} (h : find cs t = some i) : getI (find cs) t = (i : Int) := by
 unfold getI; rw [h]
theorem getI_none {cs : List Cls} {t : ByteArray} (h : find cs t = none) : getI (find cs) t = 0 := by
 unfold getI; rw [h]
set_option maxHeartbeats 2000000 in
theorem xone {w : World} {xv : Value} {cs : List Cls} (h : TypesIs w xv cs) {t : ByteArray} (ht : t.size ≤ maxLen) :
   Calls Tryz.prog 100 #[xv, .string t] w fun e w' => BoolIs (isT cs t) e ∧ w = w' := by
 have H := hid h
 obtain ⟨xb, tb, abv, ss, rfl, _⟩ := h
 by_cases h1 : t = sInt
 · have e1 := lit t [105, 110, 116] h1
   have H1 := hid h1
   clear h1
   go_enter Tryz.func100, Tryz.ntmps100
   go_wp2_with fail
   go_ret
   exact ⟨BoolIs.t (.inl H1.out), rfl⟩
 · have e1 := litn t [105, 110, 116] h1
   have H1 := hid h1
   clear h1
   by_cases h2 : t = sNull
   · have e2 := lit t [110, 117, 108, 108] h2
     have H2 := hid h2
     clear h2
     go_enter Tryz.func100, Tryz.ntmps100
     go_wp2_with fail
     go_ret
     exact ⟨BoolIs.t (.inr (.inl H2.out)), rfl⟩
   · have e2 := litn t [110, 117, 108, 108] h2
     have H2 := hid h2
     clear h2
     have hcl := xclass H.out ht
     have hel := xelem H.out ht
     cases hf : find cs t with
     | none =>
       have b1 : getB (find cs) t = false := by unfold getB; rw [hf]; rfl
       rw [b1] at hcl
       have HF := hid hf
       clear b1 hf
       go_enter Tryz.func100, Tryz.ntmps100
       go_wp2_with fail
       refine hcl.mono ?_
       rintro e w1 ⟨rfl, rfl⟩
       clear hcl
       go_wp2_with fail
       refine hel.mono ?_
       rintro e w1 ⟨⟨el, hel, rfl⟩ | ⟨hel, rfl⟩, rfl⟩
       · have HE := hid hel
         clear hel
         go_wp2_with fail
         go_ret
         exact ⟨BoolIs.t (.inr (.inr (.inr ⟨el, HE.out⟩))), rfl⟩
       · have HE := hid hel
         clear hel
         go_wp2_with fail
         go_ret
         refine ⟨BoolIs.f ?_, rfl⟩
         rintro (h | h | ⟨i, h⟩ | ⟨e, h⟩)
         · exact H1.out h
         · exact H2.out h
         · rw [HF.out] at h; cases h
         · rw [HE.out] at h; cases h
     | some i =>
       have b1 : getB (find cs) t = true := by unfold getB; rw [hf]; rfl
       rw [b1] at hcl
       have HF := hid hf
       clear b1 hf
       go_enter Tryz.func100, Tryz.ntmps100
       go_wp2_with fail
       refine hcl.mono ?_
       rintro e w1 ⟨rfl, rfl⟩
       clear hcl
       go_wp2_with fail
       refine hel.mono ?_
       rintro e w1 ⟨⟨el, hel, rfl⟩ | ⟨hel, rfl⟩, rfl⟩
       · clear hel
         go_wp2_with fail
         go_ret
         exact ⟨BoolIs.t (.inr (.inr (.inl ⟨i, HF.out⟩))), rfl⟩
       · clear hel
         go_wp2_with fail
         go_ret
         exact ⟨BoolIs.t (.inr (.inr (.inl ⟨i, HF.out⟩))), rfl⟩
set_option maxHeartbeats 2000000 in
theorem xref {w : World} {xv : Value} {cs : List Cls} (h : TypesIs w xv cs) {t : ByteArray} (ht : t.size ≤ maxLen) :
   Calls Tryz.prog 137 #[xv, .string t] w fun e w' => BoolIs (t ≠ sInt ∧ isT cs t) e ∧ w = w' := by
 have H := hid h
 obtain ⟨xb, tb, abv, ss, rfl, _⟩ := h
 by_cases h1 : t = sInt
 · have e1 := lit t [105, 110, 116] h1
   have H1 := hid h1
   clear h1
   go_enter Tryz.func137, Tryz.ntmps137
   go_wp2_with fail
   go_ret
   exact ⟨BoolIs.f (fun h => h.1 H1.out), rfl⟩
 · have e1 := litn t [105, 110, 116] h1
   have H1 := hid h1
   clear h1
   have ho := xone H.out ht
   go_enter Tryz.func137, Tryz.ntmps137
   go_wp2_with fail
   refine ho.mono ?_
   rintro e w1 ⟨⟨r, rfl, hr⟩, rfl⟩
   clear ho
   have HR := hid hr
   clear hr
   go_wp2_with fail
   go_ret
   exact ⟨⟨r, rfl, fun h => ⟨H1.out, HR.out.1 h⟩, fun h => HR.out.2 h.2⟩, rfl⟩
theorem StrsAt.one {w : World} (l : List ByteArray) (hl : l.length ≤ 1000) : StrsAt (w.alloc (.cells (l.map Value.string).toArray 9)) (.slice (some ⟨w.heap.size, 0, none⟩) l.length l.length) l := by
 refine ⟨_, _, rfl, Nat.le_refl _, by unfold maxLen; omega, fun _ => ⟨_, _, rfl, fun i x hx => ?_⟩⟩
 rw [cellAt (heap_alloc_new w _), Nat.zero_add]
 simp [hx]
set_option maxHeartbeats 2000000 in
theorem xis {w : World} {xv v : Value} {cs : List Cls} {ts : List ByteArray} (h : TypesIs w xv cs) (hv : StrsAt w v ts) (hz : ∀ t ∈ ts, t.size ≤ maxLen) :
   Calls Tryz.prog 61 #[xv, v] w fun e w' => BoolIs (∀ t ∈ ts, isT cs t) e ∧ w = w' := by
 have H := hid h
 have HV := hid hv
 have HZ := hid hz
 obtain ⟨xb, tb, abv, ss, rfl, _⟩ := h
 obtain ⟨ao, cap, rfl, hcap, hmax, _⟩ := hv
 obtain ⟨n, hn⟩ : ∃ n, ts.length = n := ⟨_, rfl⟩
 rw [hn] at hcap HV ⊢
 unfold maxLen at hmax
 have HN := hid hn
 clear hn hz
 go_enter Tryz.func61, Tryz.ntmps61
 go_wp2_with fail
 go_loopg [9] n (fun g s9 wr => ∃ (k : Nat), k ≤ n ∧ n - k ≤ g ∧ s9 = .int .i64 k ∧ wr = w ∧ Hid (∀ t ∈ ts.take k, isT cs t))
 case atStart => exact ⟨0, Nat.zero_le _, by omega, rfl, rfl, hid (by simp)⟩
 case round =>
   obtain ⟨k, hk, hg, rfl, rfl, HI⟩ := hrel
   cases hd : decide (k < n) with
   | false =>
     have hkl : ¬ k < n := by simpa using hd
     go_wp2_with fail
     go_ret
     refine ⟨BoolIs.t (fun t ht => HI.out t ?_), rfl⟩
     rw [List.take_of_length_le (by have := HN.out; omega)]; exact ht
   | true =>
     have hkl : k < n := by simpa using hd
     obtain ⟨t, ht⟩ : ∃ t, ts[k]? = some t := ⟨_, List.getElem?_eq_getElem (by have := HN.out; omega)⟩
     obtain ⟨hnn, b, off, hao, hq⟩ := HV.out.cell ht
     clear hnn
     subst hao
     have ho := xone H.out (t := t) (HZ.out t (List.mem_of_getElem? ht))
     have HX := hid ht
     clear ht
     go_wp2_with fail
     refine ho.mono ?_
     rintro e w1 ⟨⟨r, rfl, hr⟩, rfl⟩
     have HR := hid hr
     clear ho hr
     cases r with
     | false =>
       have HP := hid (show ¬ isT cs t from fun h => Bool.noConfusion (HR.out.2 h))
       clear HR
       go_wp2_with fail
       go_ret
       exact ⟨BoolIs.f (fun h => HP.out (h t (List.mem_of_getElem? HX.out))), rfl⟩
     | true =>
       have HP := hid (HR.out.1 rfl)
       clear HR
       go_wp2_with fail
       go_roundg (n - k - 1)
       case rel =>
         refine ⟨k + 1, by omega, by omega, by go_num, rfl, hid (fun x hx => ?_)⟩
         rw [List.take_add_one, HX.out] at hx
         rcases List.mem_append.1 hx with hx | hx
         · exact HI.out x hx
         · simp at hx; subst hx; exact HP.out
       case measure => omega
end Go.Proofs.YtgjpgfedlgdjhaaGreatDoor
end
section
set_option linter.unusedVariables false
set_option linter.unusedSimpArgs false
set_option maxRecDepth 8192
namespace Go.Proofs.YtgjpgfedlgdjhaaGreatDoor
open Go.RowKit Go.W
theorem mem_ab {cs : List Cls} {i k : Nat} (hi : i < cs.length) (hk : k < cs.length) : (k : Int) ∈ abL cs [(i : Int)] cs.length ↔ upT cs i k := by
 rw [mem_abL]
 constructor
 · rintro ⟨j, e, hj, x, hx, h⟩
   have hx' : x = (i : Int) := by simpa using hx
   subst hx'
   have : k = j := by omega
   subst this
   rcases h.2.2 with h | h
   · exact .inl (by omega)
   · exact .inr (by simpa using h)
 · intro h
   refine ⟨k, rfl, hk, (i : Int), by simp, by omega, by omega, ?_⟩
   rcases h with h | h
   · exact .inl (by omega)
   · exact .inr (by simpa using h)
set_option maxHeartbeats 8000000 in
theorem xbelow {w : World} {xv : Value} {cs : List Cls} (h : TypesIs w xv cs) {t u : ByteArray} (ht : t.size ≤ maxLen) (hu : u.size ≤ maxLen) :
   Calls Tryz.prog 139 #[xv, .string t, .string u] w fun e w' => BoolIs (belT cs t u) e ∧ Ch No w w' := by
 obtain ⟨xb, tb, abv, ss, rfl, h⟩ := h
 have hc1 := (Ch.refl No w).alloc (.cells #[.string t, .string u] 9)
 have hst : StrsAt (w.alloc (.cells #[.string t, .string u] 9)) (.slice (some ⟨w.heap.size, 0, none⟩) 2 2) [t, u] := StrsAt.one [t, u] (Nat.le_of_ble_eq_true rfl)
 obtain ⟨w1, hw1⟩ : ∃ w1, w.alloc (.cells #[.string t, .string u] 9) = w1 := ⟨_, rfl⟩
 rw [hw1] at hc1 hst
 have h1 := h.no hc1
 have HX : TypesIs w1 (.pointer (some ⟨xb, 0, none⟩)) cs := ⟨xb, tb, abv, ss, rfl, h1⟩
 have hisx := xis HX hst (fun x hx => by
   have : x = t ∨ x = u := by simpa using hx
   rcases this with rfl | rfl
   · exact ht
   · exact hu)
 have H1 := hid h1
 have HC1 := hid hc1
 have HXX := hid HX
 clear h hst h1 hc1 HX
 go_enter Tryz.func139, Tryz.ntmps139
 go_wp2_with fail
 clear hw1
 refine hisx.mono ?_
 rintro e w2 ⟨⟨r, rfl, hr⟩, rfl⟩
 have HR := hid hr
 clear hisx hr
 cases r with
 | false =>
   have HNO := hid (show ¬ ∀ x ∈ [t, u], isT cs x from fun h => Bool.noConfusion (HR.out.2 h))
   clear HR
   go_wp2_with fail
   go_ret
   refine ⟨BoolIs.f (fun hb => HNO.out (fun x hx => ?_)), HC1.out⟩
   have : x = t ∨ x = u := by simpa using hx
   rcases this with rfl | rfl
   · exact hb.1
   · exact hb.2.1
 | true =>
   have HIT := hid (HR.out.1 rfl t (by simp))
   have HIU := hid (HR.out.1 rfl u (by simp))
   clear HR
   by_cases htu : t = u
   · subst htu
     have e0 := toL t t rfl
     go_wp2_with fail
     go_ret
     exact ⟨BoolIs.t (belT.refl HIT.out), HC1.out⟩
   · have e0 := toLn t u htu
     have HTU := hid htu
     clear htu
     by_cases hn : t = sNull
     · have e2 := lit t [110, 117, 108, 108] hn
       have HN := hid hn
       clear hn
       have hrf := xref HXX.out hu
       go_wp2_with fail
       refine hrf.mono ?_
       rintro e w2 ⟨⟨r, rfl, hr⟩, rfl⟩
       have HR := hid hr
       clear hrf hr
       go_wp2_with fail
       go_ret
       refine ⟨⟨r, rfl, HR.out.trans ?_⟩, HC1.out⟩
       constructor
       · rintro ⟨h1, h2⟩
         exact ⟨HIT.out, h2, .inr (.inl ⟨HN.out, h1⟩)⟩
       · rintro ⟨_, h2, h3 | ⟨_, h3⟩ | ⟨h3, _⟩⟩
         · exact absurd h3 HTU.out
         · exact ⟨h3, h2⟩
         · exact absurd HN.out h3
     · have e2 := litn t [110, 117, 108, 108] hn
       have HN := hid hn
       clear hn
       have hct := xclass HXX.out ht
       have hcu := xclass HXX.out hu
       have key : belT cs t u ↔ ∃ i k, find cs t = some i ∧ find cs u = some k ∧ upT cs i k := by
         constructor
         · rintro ⟨_, _, h3 | ⟨h3, _⟩ | ⟨_, h3⟩⟩
           · exact absurd h3 HTU.out
           · exact absurd h3 HN.out
           · exact h3
         · intro h3
           exact ⟨HIT.out, HIU.out, .inr (.inr ⟨HN.out, h3⟩)⟩
       have KEY := hid key
       clear key
       cases hft : find cs t with
       | none =>
         have b1 : getB (find cs) t = false := by unfold getB; rw [hft]; rfl
         rw [b1] at hct
         have HFT := hid hft
         clear b1 hft
         obtain ⟨bu, hbu⟩ : ∃ bu, getB (find cs) u = bu := ⟨_, rfl⟩
         rw [hbu] at hcu
         go_wp2_with fail
         refine hct.mono ?_
         rintro e w2 ⟨rfl, rfl⟩
         clear hct
         go_wp2_with fail
         refine hcu.mono ?_
         rintro e w2 ⟨rfl, rfl⟩
         clear hcu
         go_wp2_with fail
         go_ret
         refine ⟨BoolIs.f (fun hb => ?_), HC1.out⟩
         obtain ⟨i, k, h1, _⟩ := KEY.out.1 hb
         rw [HFT.out] at h1; cases h1
       | some i =>
         have b1 : getB (find cs) t = true := by unfold getB; rw [hft]; rfl
         rw [b1, getI_some hft] at hct
         have HFT := hid hft
         clear b1 hft
         cases hfu : find cs u with
         | none =>
           have b2 : getB (find cs) u = false := by unfold getB; rw [hfu]; rfl
           rw [b2] at hcu
           have HFU := hid hfu
           clear b2 hfu
           go_wp2_with fail
           refine hct.mono ?_
           rintro e w2 ⟨rfl, rfl⟩
           clear hct
           go_wp2_with fail
           refine hcu.mono ?_
           rintro e w2 ⟨rfl, rfl⟩
           clear hcu
           go_wp2_with fail
           go_ret
           refine ⟨BoolIs.f (fun hb => ?_), HC1.out⟩
           obtain ⟨i, k, _, h1, _⟩ := KEY.out.1 hb
           rw [HFU.out] at h1; cases h1
         | some k =>
           have b2 : getB (find cs) u = true := by unfold getB; rw [hfu]; rfl
           rw [b2, getI_some hfu] at hcu
           have HFU := hid hfu
           have hil := find_lt HFT.out
           have hkl := find_lt hfu
           clear b2 hfu
           obtain ⟨s, hs⟩ : ∃ s, ss[i]? = some s := ⟨_, List.getElem?_eq_getElem (by rw [H1.out.len]; exact hil)⟩
           obtain ⟨b, off, cap, eab, hcell, hcap, hmax⟩ := H1.out.sets.cell hs
           obtain ⟨tsb, tob, hv⟩ := H1.out.sets.v hs
           have hhas := shas' hv (k : Int)
           have hsl := H1.out.ab i s hs
           rw [hsl] at hhas
           have c1 := cellAt H1.out.blk 1
           rw [eab] at c1
           have hlen : i < ss.length := (List.getElem?_eq_some_iff.1 hs).1
           unfold maxLen at hmax
           have HHAS := hid hhas
           clear hs eab hv hsl hhas
           go_wp2_with fail
           refine hct.mono ?_
           rintro e w2 ⟨rfl, rfl⟩
           clear hct
           go_wp2_with fail
           refine hcu.mono ?_
           rintro e w2 ⟨rfl, rfl⟩
           clear hcu
           have hhas := HHAS.out
           go_wp2_with fail
           refine hhas.mono ?_
           rintro e w2 ⟨rfl, hc2⟩
           have HC2 := hid (HC1.out.trans hc2)
           clear hhas hc2
           go_wp2_with fail
           go_ret
           refine ⟨⟨_, rfl, ?_⟩, HC2.out⟩
           rw [decide_eq_true_eq, mem_ab hil hkl, KEY.out]
           constructor
           · intro h3; exact ⟨i, k, HFT.out, HFU.out, h3⟩
           · rintro ⟨i', k', h1, h2, h3⟩
             rw [HFT.out] at h1; cases h1
             rw [HFU.out] at h2; cases h2
             exact h3
theorem Tryz.slicePsets : Tryz.prog.underlying 105 = some (.slice 150) := by kernel_rfl
theorem Tryz.infoPset2 : (Tryz.prog.info? 150).map (fun i => (i.zero.map (fun z => z.cells.size), i.size, i.bytes)) = some (some 1, 1, 8) := by kernel_rfl
theorem tySet : (182 : TypeId) ≠ 150 := by decide
theorem tyInt : (3 : TypeId) ≠ 150 := by decide
theorem tyU64 : (205 : TypeId) ≠ 150 := by decide
theorem SetAt.apartP {w : World} {sb : Nat} {l : List Int} {ob : Option Nat} (h : SetAt w sb l ob) {base n : Nat} {v : Value} {xs : List Value} (hown : w.ownsRow base 150 1 v n xs) : (¬ v.ownBlock = some sb) ∧ ∀ b, ob = some b → ¬ v.ownBlock = some b := by
 rcases h.2 with ⟨lv, h1, h2, h3, _⟩ | ⟨b, ws, h1, h2, _⟩
 · refine ⟨not_own hown h1 tySet, fun b hb => ?_⟩
   rw [← h3] at hb
   obtain ⟨cur, h4⟩ := h2.typed b hb
   exact not_own hown h4 tyInt
 · obtain ⟨_, cap, h4, h5⟩ := h2
   refine ⟨not_own hown h4 tySet, fun b' hb => ?_⟩
   rw [h1] at hb; cases hb
   obtain ⟨_, cur, h6⟩ := owned_typed h5 b rfl
   exact not_own hown h6 tyU64
structure SetsOwn (w : World) (base : Nat) (v : Value) (ss : List SetP) : Prop where
 row : w.ownsRow base 150 1 v ss.length (ss.map SetP.val)
 sets : ∀ s ∈ ss, ∃ b ob, s.b = some b ∧ SetAt w b s.l ob
theorem SetsOwn.nil (w : World) (base : Nat) : SetsOwn w base (.slice none 0 0) [] := ⟨World.ownsRow_nil _ _ _ _, fun s hs => by cases hs⟩
theorem SetsOwn.no {w w' : World} {base : Nat} {v : Value} {ss : List SetP} (h : SetsOwn w base v ss) (hc : Ch No w w') : SetsOwn w' base v ss :=
 ⟨ownsRow_ch h.row hc (fun _ _ _ _ _ h => h), fun s hs => by obtain ⟨b, ob, h1, h2⟩ := h.sets s hs; exact ⟨b, ob, h1, h2.no hc⟩⟩
theorem SetsOwn.shape {w : World} {base : Nat} {v : Value} {ss : List SetP} (h : SetsOwn w base v ss) : ∃ ao cap, v = .slice ao ss.length cap ∧ ss.length ≤ cap ∧ cap ≤ maxLen := by
 rcases h.row.2 with ⟨rfl, h0⟩ | ⟨g, cap, cur, rfl, _, _, h4, h5, _⟩
 · rw [h0]; exact ⟨_, _, rfl, Nat.le_refl _, Nat.zero_le _⟩
 · exact ⟨_, _, rfl, h4, h5⟩
theorem SetsOwn.at_ {w : World} {base : Nat} {v : Value} {ss : List SetP} (h : SetsOwn w base v ss) : SetsAt w v ss := by
 refine ⟨?_, fun s hs b hb => ?_, fun s hs hb => ?_⟩
 · rcases h.row.2 with ⟨rfl, h0⟩ | ⟨g, cap, cur, rfl, hg, hh, h4, h5, h6, h7⟩
   · have : ss = [] := List.length_eq_zero_iff.1 h0
     subst this
     exact ⟨none, 0, rfl, Nat.le_refl _, Nat.zero_le _, by simp, fun h => by simp at h⟩
   · refine ⟨some ⟨g, 0, none⟩, cap, by rw [List.length_map], by rw [List.length_map]; exact h4, h5, fun c hc => ?_, fun _ => ⟨g, 0, rfl, fun i c hi j hj => ?_⟩⟩
     · obtain ⟨k, _, rfl⟩ := List.mem_map.1 hc
       rfl
     · have e : j = 0 := by omega
       subst e
       rw [List.getElem?_map] at hi
       cases hk : ss[i]? with
       | none => rw [hk] at hi; cases hi
       | some k =>
         rw [hk] at hi
         have : c = [k.val] := by simpa using hi.symm
         subst this
         have hil := (List.getElem?_eq_some_iff.1 hk).1
         have h8 : (ss.map SetP.val)[i]? = some k.val := by rw [List.getElem?_map, hk]; rfl
         rw [← h7, List.getElem?_take, if_pos (by omega)] at h8
         rw [cellAt hh, Nat.zero_add, ← Array.getElem?_toList, Nat.mul_one, Nat.add_zero]
         exact h8
 · obtain ⟨b', ob, h1, h2⟩ := h.sets s hs
   rw [hb] at h1; cases h1
   exact ⟨ob, h2⟩
 · obtain ⟨b', ob, h1, h2⟩ := h.sets s hs
   rw [hb] at h1; cases h1
theorem SetsOwn.more {w w' : World} {base : Nat} {v v' : Value} {ss : List SetP} {s : SetP} (h : SetsOwn w base v ss) {b : Nat} {ob : Option Nat} (hb : s.b = some b) (hs : SetAt w b s.l ob)
   (hr : w'.ownsRow base 150 1 v' (ss.length + 1) (ss.map SetP.val ++ [s.val])) (hc : Ch (fun k _ => v.ownBlock = some k) w w') : SetsOwn w' base v' (ss ++ [s]) := by
 refine ⟨by rw [List.length_append, List.map_append]; exact hr, fun x hx => ?_⟩
 have key : ∃ b ob, x.b = some b ∧ SetAt w b x.l ob := by
   rcases List.mem_append.1 hx with hx | hx
   · exact h.sets x hx
   · have : x = s := by simpa using hx
     subst this; exact ⟨b, ob, hb, hs⟩
 obtain ⟨b', ob', h1, h2⟩ := key
 obtain ⟨h3, h4⟩ := h2.apartP h.row
 exact ⟨b', ob', h1, h2.ch hc (fun _ => h3) (fun b _ e => h4 b e)⟩
theorem abGood {cs : List Cls} (is : List Int) (hn : cs.length ≤ 20) : Good (abL cs is cs.length) :=
 ⟨abSorted cs is _, fun m hm => by obtain ⟨k, rfl, hk, _⟩ := mem_abL.1 hm; omega⟩
structure NwSt (cs : List Cls) (w wr : World) (xb tb : Nat) (v : Value) (ss : List SetP) (k : Nat) : Prop where
 ch : Ch No w wr
 blk : wr.heap[xb]? = some (.cells #[.pointer (some ⟨tb, 0, none⟩), v] 107 (0, 0))
 own : SetsOwn wr (xb + 1) v ss
 len : ss.length = k
 ab : ∀ (i : Nat) (s : SetP), ss[i]? = some s → s.l = abL cs [(i : Int)] cs.length
theorem NwSt.no {cs : List Cls} {w wr w' : World} {xb tb k : Nat} {v : Value} {ss : List SetP} (h : NwSt cs w wr xb tb v ss k) (hc : Ch No wr w') : NwSt cs w w' xb tb v ss k :=
 ⟨h.ch.trans hc, hc.keep _ _ h.blk (fun h => h), h.own.no hc, h.len, h.ab⟩
theorem NwSt.rowAt {cs : List Cls} {w wr w' : World} {xb tb k : Nat} {v : Value} {ss : List SetP} (h : NwSt cs w wr xb tb v ss k) (hc : Ch No wr w') : w'.ownsRow (xb + 1) 150 1 v k (ss.map SetP.val) := by
 have := (h.own.no hc).row
 rw [h.len] at this
 exact this
theorem onePtr (b : Nat) : ∀ u ∈ [Value.pointer (some ⟨b, 0, none⟩)], u.oneCell' = true := by
 intro u hu
 simp at hu
 subst hu; rfl
structure OfOut (cs : List Cls) (w w5 : World) (xb tb k : Nat) (v : Value) (ss : List SetP) (sb : Nat) (ob : Option Nat) : Prop where
 st : NwSt cs w w5 xb tb v ss k
 set : SetAt w5 sb (abL cs [(k : Int)] cs.length) ob
 row : (w5.alloc (.cells #[.pointer (some ⟨sb, 0, none⟩)] 150)).ownsRow (xb + 1) 150 1 v k (ss.map SetP.val)
 base : xb + 1 ≤ (w5.alloc (.cells #[.pointer (some ⟨sb, 0, none⟩)] 150)).heap.size
theorem ofOut {cs : List Cls} {w wr w4 w5 : World} {xb tb k B : Nat} {v u : Value} {ss : List SetP} (h : NwSt cs w wr xb tb v ss k) (hn : cs.length ≤ 20) (hc4 : Ch No wr w4) (hc5 : Ch No w4 w5) (hs : SetNew B w5 u ((abL cs [(k : Int)] cs.length).foldl putS [])) :
   ∃ sb ob, u = .pointer (some ⟨sb, 0, none⟩) ∧ OfOut cs w w5 xb tb k v ss sb ob := by
 obtain ⟨sb, ob, rfl, hset, _, _⟩ := hs.openIt
 rw [fold_self (abGood _ hn)] at hset
 have h5 := h.no (hc4.trans hc5)
 refine ⟨sb, ob, rfl, h5, hset, h5.rowAt ((Ch.refl No _).alloc _), ?_⟩
 have := lt_size h5.blk
 have e : (w5.alloc (.cells #[.pointer (some ⟨sb, 0, none⟩)] 150)).heap.size = w5.heap.size + 1 := by simp
 omega
theorem tyTypes : (107 : TypeId) ≠ 150 := by decide
theorem OfOut.step {cs : List Cls} {w w5 w7 : World} {xb tb k : Nat} {v v7 : Value} {ss : List SetP} {sb : Nat} {ob : Option Nat} (h : OfOut cs w w5 xb tb k v ss sb ob) (hxb : w.heap.size = xb)
   (hr : w7.ownsRow (xb + 1) 150 1 v7 (k + 1) (ss.map SetP.val ++ [.pointer (some ⟨sb, 0, none⟩)])) (hc : Ch (fun j _ => v.ownBlock = some j) (w5.alloc (.cells #[.pointer (some ⟨sb, 0, none⟩)] 150)) w7) :
   ∃ ao cap, v7 = .slice ao (k + 1) cap ∧ w7.heap[xb]? = some (.cells #[.pointer (some ⟨tb, 0, none⟩), v] 107 (0, 0)) ∧
     NwSt cs w (w7.setCell ⟨xb, 1, none⟩ (.slice ao (k + 1) cap)) xb tb (.slice ao (k + 1) cap) (ss ++ [⟨some sb, abL cs [(k : Int)] cs.length⟩]) (k + 1) := by
 have ha := (Ch.refl No w5).alloc (.cells #[.pointer (some ⟨sb, 0, none⟩)] 150)
 have h6 := h.st.no ha
 have hr' := hr
 rw [← h6.len] at hr'
 have hown := h6.own.more (s := ⟨some sb, abL cs [(k : Int)] cs.length⟩) rfl (h.set.no ha) hr' hc
 have hl : (ss ++ [(⟨some sb, abL cs [(k : Int)] cs.length⟩ : SetP)]).length = k + 1 := by rw [List.length_append, h6.len]; rfl
 obtain ⟨ao, cap, e, _⟩ := hown.shape
 rw [hl] at e
 subst e
 have hb7 := hc.keep _ _ h6.blk (not_own h6.own.row h6.blk tyTypes)
 have hcs : Ch (fun j _ => j = xb) w7 (w7.setCell ⟨xb, 1, none⟩ (.slice ao (k + 1) cap)) := (Ch.refl _ _).setCell (fun _ _ => rfl) _
 refine ⟨ao, cap, rfl, hb7, ?_, ?_, ?_, hl, fun i s hs => ?_⟩
 · have h8 : Ch No w w7 := h6.ch.trans' hc (fun j o ho e => by
     obtain ⟨h9, _⟩ := owned_typed h6.own.row j e
     have := lt_size ho
     omega)
   exact h8.trans' hcs (fun j o ho e => by have e' : j = xb := e; have := lt_size ho; omega)
 · rw [setCell_heap hb7]; rfl
 · refine ⟨ownsRow_ch hown.row hcs (fun g cur e hg hh e2 => ?_), fun s hs => ?_⟩
   · have e' : g = xb := e2
     omega
   · obtain ⟨b', ob', h1, h2⟩ := hown.sets s hs
     have hty : ¬ b' = xb ∧ ∀ b, ob' = some b → ¬ b = xb := by
       rcases h2.2 with ⟨lv, k1, k2, k3, _⟩ | ⟨b, ws, k1, k2, _⟩
       · refine ⟨fun e => ?_, fun b hb e => ?_⟩
         · rw [e, hb7] at k1; simp at k1
         · rw [← k3] at hb
           obtain ⟨cur, k4⟩ := k2.typed b hb
           rw [e, hb7] at k4; simp at k4
       · obtain ⟨_, cap, k4, k5⟩ := k2
         refine ⟨fun e => ?_, fun b'' hb e => ?_⟩
         · rw [e, hb7] at k4; simp at k4
         · rw [k1] at hb; cases hb
           obtain ⟨_, cur, k6⟩ := owned_typed k5 b rfl
           rw [e, hb7] at k6; simp at k6
     exact ⟨b', ob', h1, h2.ch hcs (fun _ => hty.1) (fun b _ e => hty.2 b e)⟩
 · by_cases hi : i < ss.length
   · rw [List.getElem?_append_left hi] at hs
     exact h6.ab i s hs
   · rw [List.getElem?_append_right (by omega)] at hs
     have hj2 : i - ss.length < 1 := by simpa using (List.getElem?_eq_some_iff.1 hs).1
     have e : i = k := by have := h6.len; omega
     subst e
     rw [h6.len, Nat.sub_self] at hs
     have : (⟨some sb, abL cs [(i : Int)] cs.length⟩ : SetP) = s := by simpa using hs
     subst this; rfl
set_option maxHeartbeats 8000000 in
theorem xnew {w : World} {tv : Value} {cs : List Cls} (hT : Tab w) (h : TableIs w tv cs) (hf : FaultAt cs none) (hn : cs.length ≤ 20) :
   Calls Tryz.prog 43 #[tv] w fun e w' => ∃ xv, e = .returned (.tuple #[xv, .int .i64 0]) ∧ TypesIs w' xv cs ∧ Ch No w w' := by
 have HT := hid hT
 have HF := hid hf
 have HTI := hid h
 obtain ⟨tb, T, rfl, _⟩ := h
 have hca := (Ch.refl No w).alloc (.cells #[.pointer (some ⟨tb, 0, none⟩), .slice none 0 0] 107)
 have hba := heap_alloc_new w (.cells #[.pointer (some ⟨tb, 0, none⟩), .slice none 0 0] 107)
 obtain ⟨wa, hwa⟩ : ∃ wa, w.alloc (.cells #[.pointer (some ⟨tb, 0, none⟩), .slice none 0 0] 107) = wa := ⟨_, rfl⟩
 rw [hwa] at hca hba
 have hle := tLen (HTI.out.no hca)
 obtain ⟨n, hn'⟩ : ∃ n, cs.length = n := ⟨_, rfl⟩
 rw [hn'] at hle hn
 have HN := hid hn'
 have HST : Hid (NwSt cs w wa w.heap.size tb (.slice none 0 0) [] 0) := hid ⟨hca, hba, SetsOwn.nil _ _, rfl, fun i s h => by simp at h⟩
 clear hT hf hca hba hn'
 go_enter Tryz.func43, Tryz.ntmps43
 go_wp2_with fail
 clear hwa
 refine hle.mono ?_
 rintro e w1 ⟨rfl, rfl⟩
 clear hle
 go_wp2_with fail
 go_loopg [13] n (fun g s13 wr => ∃ (k : Nat) (v : Value) (ss : List SetP), k ≤ n ∧ n - k ≤ g ∧ s13 = .int .i64 k ∧ Hid (NwSt cs w wr w.heap.size tb v ss k))
 case atStart => exact ⟨0, _, _, Nat.zero_le _, by omega, rfl, HST⟩
 case round =>
   obtain ⟨k, v, ss, hk, hg, rfl, HS⟩ := hrel
   cases hd : decide (k < n) with
   | false =>
     have hkl : ¬ k < n := by simpa using hd
     go_wp2_with fail
     go_ret2
     refine ⟨_, rfl, ⟨_, tb, v, ss, rfl, HS.out.blk, HTI.out.no HS.out.ch, HS.out.own.at_, ?_, HS.out.ab⟩, HS.out.ch⟩
     have := HS.out.len; have := HN.out; omega
   | true =>
     have hkl : k < n := by simpa using hd
     obtain ⟨ao, cap, rfl, hcap, hmax⟩ := HS.out.own.shape
     have hsl := HS.out.len
     rw [hsl] at HS hcap
     unfold maxLen at hmax
     have g0 := cellAt HS.out.blk 0
     have g1 := cellAt HS.out.blk 1
     have hxz := lt_size HS.out.blk
     clear hsl
     go_wp2_with fail
     have hk1 : k + 1 ≤ 100000 := by omega
     have hn20 : cs.length ≤ 20 := by have := HN.out; omega
     have hxw : w.heap.size = w.heap.size := rfl
     have HXW := hid hxw
     clear hxw
     go_region_law (first | (refine step_appendOwn rfl _ _ rfl Tryz.slicePsets Tryz.infoPset2 Nat.zero_lt_one (Nat.le_of_ble_eq_true rfl) _ _ k _ rfl HO5.out.row w5.heap.size 1 1 [.pointer (some ⟨sb, 0, none⟩)] rfl rfl (heap_alloc_new w5 _) (onePtr sb) hk1 HO5.out.base ?_; intro v7 w7 hr7 hc7; obtain ⟨ao7, cap7, rfl, hb7, hst7⟩ := HO5.out.step HXW.out hr7 hc7; have g70 := cellAt hb7 0; have g71 := cellAt hb7 1; have f71 := freeAt hb7 1; have HST7 := hid hst7; clear hr7 hc7 hb7 hst7) | (go_simp; go_at_call 77; refine (tAbove (is := [(k : Int)]) (HT.out.no (HS.out.ch.trans (((Ch.refl No wr).alloc _).drew))) (HTI.out.no (HS.out.ch.trans (((Ch.refl No wr).alloc _).drew))) HF.out hn20 ((one_at wr (k : Int)).no ((Ch.refl No _).drew))).mono ?_; rintro e w4 ⟨u, rfl, hu, hc4⟩; have hcw4 := (((Ch.refl No wr).alloc _).drew).trans hc4; have hs4 := HS.out.no hcw4; have g40 := cellAt hs4.blk 0; have g41 := cellAt hs4.blk 1; have HU4 := hid hu.at_; have HCW4 := hid hcw4; clear hu hc4 hcw4 hs4) | (go_simp; go_at_call 76; refine (sof HU4.out).mono ?_; rintro e w5 ⟨u5, rfl, hs5, hc5⟩; obtain ⟨sb, ob, rfl, ho5⟩ := ofOut HS.out hn20 HCW4.out hc5 hs5; have g50 := cellAt ho5.st.blk 0; have g51 := cellAt ho5.st.blk 1; have f51 := freeAt ho5.st.blk 1; have z5 := lt_size ho5.st.blk; have HO5 := hid ho5; clear hs5 hc5 ho5))
     all_goals (
       go_wp2_with fail
       go_roundg (n - k - 1)
       case rel => exact ⟨k + 1, _, _, by omega, by omega, by go_num, HST7⟩
       case measure => omega)
end Go.Proofs.YtgjpgfedlgdjhaaGreatDoor
end
end
