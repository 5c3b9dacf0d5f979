/- Members: typed, Var of the reference 10. -/
import Derived.Test.YtgjpgfedlgdjhaaGreatDoorMe
set_option linter.unusedVariables false
set_option linter.unusedSimpArgs false
set_option maxRecDepth 8192
namespace Go.Proofs.YtgjpgfedlgdjhaaGreatDoor
open Go.RowKit Go.W

set_option maxHeartbeats 4000000 in
theorem rtyped {w : World} {pv : Value} {cs : List Cls} (h : ProgAt w pv cs) (hpl : PlainP cs) {t : ByteArray} (ht : t.size ≤ maxLen) :
    Calls Tryz.prog 65 #[pv, .string t] w fun e w' => BoolIs (typedP cs t) e ∧ Ch No w w' := by
  have HPL := hid hpl
  have HT := hid ht
  clear hpl ht
  have hp := h
  obtain ⟨cv, m0, m1, m2, m3, m4, m5, m6, m7, m8, rfl, h⟩ := h
  obtain ⟨ao, cap, rfl, hcap, hmax, _, _⟩ := h.row
  rw [List.length_map] at hcap h hp ⊢
  obtain ⟨len, hlen⟩ : ∃ len, cs.length = len := ⟨_, rfl⟩
  rw [hlen] at hcap h hp ⊢
  unfold maxLen at hmax
  obtain ⟨wa, hwa⟩ : ∃ wa, w.alloc (.cells #[.slice ao len cap, m0, m1, m2, m3, m4, m5, m6, m7, m8] 31) = wa := ⟨_, rfl⟩
  have hpb := heap_alloc_new w (.cells #[.slice ao len cap, m0, m1, m2, m3, m4, m5, m6, m7, m8] 31)
  have hch := (Ch.refl No w).alloc (.cells #[.slice ao len cap, m0, m1, m2, m3, m4, m5, m6, m7, m8] 31)
  rw [hwa] at hch hpb
  have HL := hid hlen
  have HP := hid (hp.no hch)
  have HC := hid (h.no hch)
  have HPB := hid hpb
  have HCH := hid hch
  have p0 := cellAt hpb 0
  have p1 := cellAt hpb 1
  have p2 := cellAt hpb 2
  have p3 := cellAt hpb 3
  have p4 := cellAt hpb 4
  have p5 := cellAt hpb 5
  have p6 := cellAt hpb 6
  have p7 := cellAt hpb 7
  have p8 := cellAt hpb 8
  have p9 := cellAt hpb 9
  have hz := lt_size hpb
  clear hlen h hp hpb hch
  by_cases hn : t = sNull
  · have e0 := lit t [110, 117, 108, 108] hn
    have HN := hid hn
    clear hn
    go_enter Tryz.func65, Tryz.ntmps65
    go_wp2_with fail
    go_ret
    exact ⟨BoolIs.f (fun h => h.1 HN.out), HCH.out⟩
  · have e0 := litn t [110, 117, 108, 108] hn
    have HN := hid hn
    have hgi := gis HP.out HPL.out HT.out
    clear hn
    go_enter Tryz.func65, Tryz.ntmps65
    go_wp2_with fail
    refine hgi.mono ?_
    rintro e w2 ⟨⟨r, rfl, hr⟩, hc2⟩
    have HR := hid hr
    have HC2 := hid hc2
    clear hr hc2 hgi
    go_wp2_with fail
    go_ret
    refine ⟨⟨r, rfl, ?_⟩, HCH.out.trans HC2.out⟩
    rw [HR.out]
    exact ⟨fun h => ⟨HN.out, h⟩, fun h => h.2⟩

theorem vrTake {l : List Vr} {nm : ByteArray} {k : Nat} {x : Vr} (hk : l[k]? = some x) (hno : ∀ y ∈ l.take k, y.nm ≠ nm) (hx : x.nm = nm) : vrF l nm = some x := by
  unfold vrF
  rw [List.find?_eq_some_iff_getElem]
  obtain ⟨hl, e⟩ := List.getElem?_eq_some_iff.1 hk
  refine ⟨by simpa using hx, k, hl, e, fun j hj => ?_⟩
  have : l[j] ∈ l.take k := List.mem_take_iff_getElem.2 ⟨j, by omega, rfl⟩
  simpa using hno _ this
theorem vrNone {l : List Vr} {nm : ByteArray} (hno : ∀ y ∈ l, y.nm ≠ nm) : vrF l nm = none := by
  unfold vrF
  rw [List.find?_eq_none]
  intro x hx
  simpa using hno x hx
theorem vrSome {l : List Vr} {nm : ByteArray} {x : Vr} (h : vrF l nm = some x) : x.nm = nm ∧ ∃ k, l[k]? = some x ∧ ∀ y ∈ l.take k, y.nm ≠ nm := by
  unfold vrF at h
  rw [List.find?_eq_some_iff_getElem] at h
  obtain ⟨h1, k, hl, e, h2⟩ := h
  refine ⟨by simpa using h1, k, by rw [← e]; exact List.getElem?_eq_getElem hl, fun y hy => ?_⟩
  obtain ⟨j, hj, rfl⟩ := List.mem_take_iff_getElem.1 hy
  have := h2 j (by omega)
  simpa using this

/-- what Var tells -/
def varV (r : Option (Nat × Vr)) : Value := match r with | some (j, v) => .tuple #[.int .i64 (j : Int), .string v.ty] | none => .tuple #[.int .i64 (-1), .string { data := #[] }]
theorem MemAt.vs {w : World} {c : Cls} {m : Mem} (h : MemAt w c m) (st : Bool) : VarsAt w (.slice (if st then c.s5 else c.s4).1 (if st then c.s5 else c.s4).2.1 (if st then c.s5 else c.s4).2.2) (m.vs st) := by
  cases st
  · exact h.fs
  · exact h.ss
theorem chainO_len {cs : List Cls} (hno : NoRing cs) (i : Nat) : (chainO cs (some i)).length = (chainO cs (supN cs i)).length + 1 := chainLen hno i

set_option maxHeartbeats 8000000 in
theorem rvar {w : World} {pv : Value} {cs : List Cls} {ms : List Mem} (h : ProgAt w pv cs) (hm : MemsAt w cs ms) (hS : SoundP cs) (hno : NoRing cs) (z : Int) (nm : ByteArray) (st : Bool) :
    Calls Tryz.prog 66 #[pv, .int .i64 z, .string nm, .bool st] w fun e w' => e = .returned (varV (varUp cs ms st nm (inZ cs z))) ∧ Ch No w w' := by
  have HM0 := hid hm
  have HS := hid hS
  have HNO := hid hno
  clear hm hS hno
  have hp := h
  obtain ⟨cv, m0, m1, m2, m3, m4, m5, m6, m7, m8, rfl, h⟩ := h
  obtain ⟨ao, cap, rfl, hcap, hmax, _, _⟩ := h.row
  rw [List.length_map] at hcap h hp ⊢
  obtain ⟨len, hlen⟩ : ∃ len, cs.length = len := ⟨_, rfl⟩
  rw [hlen] at hcap h hp ⊢
  unfold maxLen at hmax
  obtain ⟨wa, hwa⟩ : ∃ wa, w.alloc (.cells #[.slice ao len cap, m0, m1, m2, m3, m4, m5, m6, m7, m8] 31) = wa := ⟨_, rfl⟩
  have hpb := heap_alloc_new w (.cells #[.slice ao len cap, m0, m1, m2, m3, m4, m5, m6, m7, m8] 31)
  have hch := (Ch.refl No w).alloc (.cells #[.slice ao len cap, m0, m1, m2, m3, m4, m5, m6, m7, m8] 31)
  rw [hwa] at hch hpb
  have HL := hid hlen
  have HP := hid (hp.no hch)
  have HC := hid (h.no hch)
  have HPB := hid hpb
  have HCH := hid hch
  have p0 := cellAt hpb 0
  have p1 := cellAt hpb 1
  have p2 := cellAt hpb 2
  have p3 := cellAt hpb 3
  have p4 := cellAt hpb 4
  have p5 := cellAt hpb 5
  have p6 := cellAt hpb 6
  have p7 := cellAt hpb 7
  have p8 := cellAt hpb 8
  have p9 := cellAt hpb 9
  have hz := lt_size hpb
  clear hlen h hp hpb hch
  have HM := hid (HM0.out.no HCH.out)
  obtain ⟨r0, hr0⟩ : ∃ r, varUp cs ms st nm (inZ cs z) = r := ⟨_, rfl⟩
  obtain ⟨N, hN⟩ : ∃ N, (chainO cs (inZ cs z)).length = N := ⟨_, rfl⟩
  have HR0 := hid hr0
  have HNN := hid hN
  rw [hr0]
  clear hr0 hN
  go_enter Tryz.func66, Tryz.ntmps66
  go_wp2_with fail
  clear hwa
  go_loopg [1, 10, 11] N (fun g s1 s10 s11 wr => ∃ (z1 : Int) (L : Nat), L ≤ g ∧ s1 = .int .i64 z1 ∧ Hid (∃ o, AtZ cs z1 o ∧ varUp cs ms st nm o = r0 ∧ (chainO cs o).length ≤ L) ∧ Ch No wa wr)
  case atStart => exact ⟨z, N, Nat.le_refl _, rfl, hid ⟨_, atZ cs z, HR0.out, by have := HNN.out; omega⟩, Ch.refl _ _⟩
  case round =>
    obtain ⟨z1, L, hL, rfl, HO, hc⟩ := hrel
    obtain ⟨w1, hw1⟩ : ∃ w1, w1 = wr := ⟨_, rfl⟩
    subst hw1
    have HC1 := hid hc
    have hb1 := hc.keep _ _ HPB.out (fun h => h)
    clear p0 p1 p2 p3 p4 p5 p6 p7 p8 p9 hc
    have p0 := cellAt hb1 0
    have p1 := cellAt hb1 1
    have p2 := cellAt hb1 2
    have p3 := cellAt hb1 3
    have p4 := cellAt hb1 4
    have p5 := cellAt hb1 5
    have p6 := cellAt hb1 6
    have p7 := cellAt hb1 7
    have p8 := cellAt hb1 8
    have p9 := cellAt hb1 9
    have HB1 := hid hb1
    have HP1 := hid (HP.out.no HC1.out)
    clear hb1
    have ho := HO.out
    obtain ⟨o, hz, hv, hln⟩ := ho
    rcases hz with ⟨k, rfl, hk, rfl⟩ | ⟨rfl, hz⟩
    · have hkl : k < len := by have := HL.out; omega
      obtain ⟨c, hcs⟩ : ∃ c, cs[k]? = some c := ⟨_, List.getElem?_eq_getElem hk⟩
      obtain ⟨m, hmk, hma⟩ := (HM.out.no HC1.out).get hcs
      obtain ⟨b, off, cap', e, hcell, _, _⟩ := (HC.out.no HC1.out).cell hcs
      rw [HL.out] at e
      cases e
      have hvs := hma.vs st
      obtain ⟨sl, hsl⟩ : ∃ sl, (if st then c.s5 else c.s4) = sl := ⟨_, rfl⟩
      rw [hsl] at hvs
      obtain ⟨va, vn, vc⟩ := sl
      have q4 := hcell.q4
      have q5 := hcell.q5
      obtain ⟨hvn, hvc, hvm⟩ := hvs.shape
      unfold maxLen at hvm
      have hvx : vn ≤ vc := by have h1 : vn = (m.vs st).length := hvn; have h2 : (m.vs st).length ≤ vc := hvc; omega
      have HVN := hid (show vn = (m.vs st).length from hvn)
      have HVS := hid hvs
      have HV := hid hv
      have HLN := hid hln
      have HCS := hid hcs
      have HMK := hid hmk
      have hstep := varUp_step (ms := ms) HNO.out st nm k
      have HFO := hid (show fieldO ms st nm k = vrF (m.vs st) nm by unfold fieldO; rw [HMK.out])
      have HSTEP := hid hstep
      have hsu := rsuper HP1.out HCS.out
      obtain ⟨l, hl⟩ : ∃ l, m.vs st = l := ⟨_, rfl⟩
      rw [hl] at HFO HVN HVS
      obtain ⟨r4, hr4⟩ : ∃ r, c.s4 = r := ⟨_, rfl⟩
      obtain ⟨r5, hr5⟩ : ∃ r, c.s5 = r := ⟨_, rfl⟩
      rw [hr4] at q4
      rw [hr5] at q5
      have hsl' : (if st then r5 else r4) = (va, vn, vc) := by rw [← hr4, ← hr5]; exact hsl
      have HKEY := hid (show (∀ x ∈ l, x.nm ≠ nm) → varUp cs ms st nm (supN cs k) = r0 from fun h2 => by
        have h1 := HSTEP.out
        rw [HFO.out, vrNone h2] at h1
        rw [← HV.out, h1])
      clear hvn hvc hvs hv hln hcs hmk hstep hma hcell HO hl hr4 hr5 hsl
      cases st
      all_goals (
        simp only [Bool.false_eq_true, if_false, if_true] at hsl'
        subst hsl'
        go_wp2_with fail
        go_loopg [11] vn (fun g' s11' wr' => ∃ q : Nat, q ≤ vn ∧ vn - q ≤ g' ∧ s11' = .int .i64 q ∧ Hid (∀ x ∈ l.take q, x.nm ≠ nm) ∧ wr' = w1)
        case atStart => exact ⟨0, Nat.zero_le _, by omega, rfl, hid (by simp), rfl⟩
        case round =>
          obtain ⟨q, hq, hg', rfl, HN, rfl⟩ := hrel
          cases hd : decide (q < vn) with
          | true =>
            have hql : q < vn := by simpa using hd
            obtain ⟨x, hx⟩ : ∃ x, l[q]? = some x := ⟨_, List.getElem?_eq_getElem (by have := HVN.out; omega)⟩
            obtain ⟨b2, off2, rfl, hcell⟩ := HVS.out.cell hx
            have r0' := hcell.q0
            have r1 := hcell.q1
            have HX := hid hx
            clear hx hcell
            cases e0 : (x.nm.toList == nm.toList) with
            | true =>
              have hxn : x.nm = nm := by rw [streq] at e0; simpa using e0
              have hres : r0 = some (k, x) := by
                have h1 := HSTEP.out
                rw [HFO.out, vrTake HX.out HN.out hxn] at h1
                rw [HV.out] at h1
                exact h1
              subst hres
              go_wp2_with fail
              go_quiet (fail)
              go_wp2_with fail
              refine bodyPost_ret (v := varV (some (k, x))) (by simp [results, Tryz.results66, go_sem, varV]) rfl ?_
              exact ⟨rfl, HCH.out.trans (HC1.out.trans (by first | exact (Ch.refl No _).drew | exact (Ch.refl No _).drewN _ | exact Ch.refl No _))⟩
            | false =>
              go_wp2_with fail
              go_roundg (vn - q - 1)
              case rel =>
                have hcn : x.nm ≠ nm := by rw [streq] at e0; simpa using e0
                refine ⟨q + 1, by omega, by omega, by go_num, hid fun y hy => ?_, rfl⟩
                rw [List.take_add_one, HX.out] at hy
                rcases List.mem_append.1 hy with hy | hy
                · exact HN.out y hy
                · simp at hy; subst hy; exact hcn
              case measure => omega
          | false =>
            have hql : ¬ q < vn := by simpa using hd
            have hall := HN.out
            rw [List.take_of_length_le (by have := HVN.out; omega)] at hall
            have hnone := HKEY.out hall
            have HNONE := hid hnone
            clear hnone hall
            go_wp2_with fail
            refine hsu.mono ?_
            rintro e w5 ⟨rfl, hc5⟩
            have HC5 := hid (HC1.out.trans hc5)
            clear hc5
            go_wp2_with fail
            go_roundg (L - 1)
            case rel => exact ⟨_, L - 1, Nat.le_refl _, rfl, hid ⟨_, supAtZ HCS.out (HS.out k c HCS.out), HNONE.out, by have h1 := chainO_len HNO.out k; have h2 := HLN.out; omega⟩, HC5.out⟩
            case measure => have h1 := chainO_len HNO.out k; have h2 := HLN.out; omega)
    · have hz' : ¬ (0 ≤ z1 ∧ z1 < len) := by have := HL.out; omega
      have hres : r0 = none := by rw [← hv]; rfl
      subst hres
      clear hv hln HO
      cases hd : decide (0 ≤ z1) with
      | true =>
        have h1 : ¬ z1 < len := by have : 0 ≤ z1 := by simpa using hd
                                   omega
        go_wp2_with fail
        refine bodyPost_ret (v := varV none) (by simp [results, Tryz.results66, go_sem, varV]) rfl ?_
        exact ⟨rfl, HCH.out.trans HC1.out⟩
      | false =>
        have h1 : ¬ 0 ≤ z1 := by simpa using hd
        go_wp2_with fail
        refine bodyPost_ret (v := varV none) (by simp [results, Tryz.results66, go_sem, varV]) rfl ?_
        exact ⟨rfl, HCH.out.trans HC1.out⟩
end Go.Proofs.YtgjpgfedlgdjhaaGreatDoor
