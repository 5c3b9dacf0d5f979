/- SubUnder: the law. -/
import Derived.Test.YtkffejgjpnnkmaaDoorPi
import Derived.Deep.RegionHeld3
import Derived.Deep.CutRange
import Derived.BigQuiet
set_option linter.unusedVariables false
set_option linter.unusedSimpArgs false
namespace Go.Proofs.YtkffejgjpnnkmaaDoor
open Go.RowKit Go.W

/-- class q is no interface, and stands for t -/
def UbP (cs : List Cls) (t : ByteArray) (q : Nat) : Prop := ∃ c, cs[q]? = some c ∧ c.face = false ∧ belT cs c.name t
noncomputable def cntU (cs : List Cls) (t : ByteArray) (n : Nat) : Nat := ((List.range n).filter (fun q => @decide (UbP cs t q) (Classical.propDecidable _))).length
theorem wrapQ {n : Nat} (h : n ≤ 9223372036854775807) : IntKind.i64.wrap (n : Int) = (n : Int) := by
  simp [IntKind.wrap, IntKind.signed, IntKind.bits]
  omega
theorem wrapP {q m : Nat} (h : q ≤ 9223372036854775807) (h0 : 0 < q) (hm : q - 1 = m) : IntKind.i64.wrap ((q : Int) - 1) = (m : Int) := by
  rw [show (q : Int) - 1 = ((q - 1 : Nat) : Int) by omega, hm]
  exact wrapQ (by omega)
theorem cntYes {cs : List Cls} {t : ByteArray} {n : Nat} (h : UbP cs t n) : cntU cs t (n + 1) = cntU cs t n + 1 := by
  unfold cntU
  rw [List.range_succ, List.filter_append, List.length_append]
  simp [h]
theorem cntNo {cs : List Cls} {t : ByteArray} {n : Nat} (h : ¬ UbP cs t n) : cntU cs t (n + 1) = cntU cs t n := by
  unfold cntU
  rw [List.range_succ, List.filter_append, List.length_append]
  simp [h]
theorem cntLe (cs : List Cls) (t : ByteArray) (n : Nat) : cntU cs t n ≤ n := by
  unfold cntU
  have := List.length_filter_le (fun q => @decide (UbP cs t q) (Classical.propDecidable _)) (List.range n)
  simpa using this
theorem underElem {cs : List Cls} {t e : ByteArray} (h : elemO cs t = some e) : underL cs t = [t] := by unfold underL; rw [h]
theorem under_len {cs : List Cls} (hf : FaultAt cs none) (hp : PlainP cs) {t : ByteArray} (ht : isT cs t) (he : elemO cs t = none) : (underL cs t).length = cntU cs t cs.length := by
  unfold underL
  rw [he]
  cases hk : find cs t with
  | none =>
    have key : ∀ n, n ≤ cs.length → cntU cs t n = 0 := by
      intro n
      induction n with
      | zero => intro _; rfl
      | succ n ih =>
        intro hn
        rw [cntNo]
        · exact ih (by omega)
        · rintro ⟨c, hc, _, _, _, h | ⟨h, _⟩ | ⟨_, i, k, _, h, _⟩⟩
          · have := (hf.1 n c hc).own
            rw [h, hk] at this; cases this
          · exact (hp c (List.mem_of_getElem? hc)).nnull h
          · rw [hk] at h; cases h
    exact (key _ (Nat.le_refl _)).symm
  | some k =>
    show (unL cs k cs.length).length = _
    have key : ∀ n, n ≤ cs.length → (unL cs k n).length = cntU cs t n := by
      intro n
      induction n with
      | zero => intro _; rfl
      | succ n ih =>
        intro hn
        obtain ⟨c, hc⟩ : ∃ c, cs[n]? = some c := ⟨_, List.getElem?_eq_getElem (by omega)⟩
        have hb := un_bel hf hp hc hk
        by_cases h : UnP cs k n
        · rw [unYes h, List.length_append, ih (by omega), cntYes ⟨c, hc, hb.1 h⟩]; rfl
        · rw [unNo h, ih (by omega), cntNo]
          rintro ⟨d, hd, h1, h2⟩
          rw [hc] at hd; cases hd
          exact h (hb.2 ⟨h1, h2⟩)
    exact key _ (Nat.le_refl _)
theorem under_mem {cs : List Cls} (hf : FaultAt cs none) (hp : PlainP cs) {t s : ByteArray} (ht : isT cs t) (h : s ∈ underL cs t) : belT cs s t := by
  unfold underL at h
  cases he : elemO cs t with
  | some e =>
    rw [he] at h
    have : s = t := by simpa using h
    subst this; exact belT.refl ht
  | none =>
    rw [he] at h
    cases hk : find cs t with
    | none => rw [hk] at h; cases h
    | some k =>
      rw [hk] at h
      obtain ⟨j, hj, hu, hn⟩ := mem_unL.1 h
      obtain ⟨c, hc⟩ : ∃ c, cs[j]? = some c := ⟨_, List.getElem?_eq_getElem (by omega)⟩
      have := ((un_bel hf hp hc hk).1 hu).2
      unfold nameAt at hn
      rw [hc] at hn
      have hn' : c.name = s := hn
      rw [← hn']; exact this
theorem under_nodup {cs : List Cls} (hf : FaultAt cs none) (t : ByteArray) : (underL cs t).Nodup := by
  unfold underL
  cases he : elemO cs t with
  | some e => simp
  | none =>
    cases hk : find cs t with
    | none => simp
    | some k => exact unNodup hf k _ (Nat.le_refl _)
theorem under_sz {cs : List Cls} (hz : SzP cs) {t : ByteArray} (ht : t.size ≤ maxLen) : ∀ s ∈ underL cs t, s.size ≤ maxLen := by
  intro s h
  unfold underL at h
  cases he : elemO cs t with
  | some e =>
    rw [he] at h
    have : s = t := by simpa using h
    subst this; exact ht
  | none =>
    rw [he] at h
    cases hk : find cs t with
    | none => rw [hk] at h; cases h
    | some k =>
      rw [hk] at h
      obtain ⟨j, hj, hu, hn⟩ := mem_unL.1 h
      obtain ⟨c, hc⟩ : ∃ c, cs[j]? = some c := ⟨_, List.getElem?_eq_getElem (by omega)⟩
      unfold nameAt at hn
      rw [hc] at hn
      have hn' : c.name = s := hn
      rw [← hn']
      exact (hz c (List.mem_of_getElem? hc)).1

set_option maxRecDepth 100000 in
set_option maxHeartbeats 16000000 in
theorem law_sunder {w : World} {pv : Value} {cs : List Cls} (hT : Tab w) (h : ProgAt w pv cs) (hsz : SzP cs) (hzb : SzB cs) :
    Calls Tryd.prog 11 #[pv] w fun e w' => e = .returned (.bool true) ∧ Ch No w w' := by
  have HT0 := hid hT
  have HSZ := hid hsz
  have HZB := hid hzb
  clear hT hsz hzb
  have hp := h
  obtain ⟨cv, m0, m1, m2, m3, m4, m5, m6, m7, m8, rfl, h⟩ := h
  obtain ⟨ao, cap, rfl, hcap, hmax, _, _⟩ := h.row
  rw [List.length_map] at hcap h hp ⊢
  obtain ⟨len, hlen⟩ : ∃ len, cs.length = len := ⟨_, rfl⟩
  rw [hlen] at hcap h hp ⊢
  unfold maxLen at hmax
  obtain ⟨wa, hwa⟩ : ∃ wa, w.alloc (.cells #[.slice ao len cap, m0, m1, m2, m3, m4, m5, m6, m7, m8] 30) = wa := ⟨_, rfl⟩
  have hpb := heap_alloc_new w (.cells #[.slice ao len cap, m0, m1, m2, m3, m4, m5, m6, m7, m8] 30)
  have hch := (Ch.refl No w).alloc (.cells #[.slice ao len cap, m0, m1, m2, m3, m4, m5, m6, m7, m8] 30)
  rw [hwa] at hch hpb
  have HL := hid hlen
  have HP := hid (hp.no hch)
  have HC := hid (h.no hch)
  have HPB := hid hpb
  have HCH := hid hch
  have p0 := cellAt hpb 0
  have p1 := cellAt hpb 1
  have p2 := cellAt hpb 2
  have p3 := cellAt hpb 3
  have p4 := cellAt hpb 4
  have p5 := cellAt hpb 5
  have p6 := cellAt hpb 6
  have p7 := cellAt hpb 7
  have p8 := cellAt hpb 8
  have p9 := cellAt hpb 9
  have hz := lt_size hpb
  clear hlen h hp hpb hch
  have HT := hid (HT0.out.no HCH.out)
  have haw := awake09 HT.out
  go_enter Tryd.func11, Tryd.ntmps11
  go_wp2_with fail
  clear hwa
  refine haw.mono ?_
  rintro e w1 ⟨rfl, hc1⟩
  have hp1 := hc1.keep _ _ HPB.out (fun h => h)
  have hri := lright (HP.out.no hc1) HSZ.out
  have HP1 := hid hp1
  have HC1 := hid hc1
  clear p0 p1 p2 p3 p4 p5 p6 p7 p8 p9 haw hc1
  have p0 := cellAt hp1 0
  have p1 := cellAt hp1 1
  have p2 := cellAt hp1 2
  have p3 := cellAt hp1 3
  have p4 := cellAt hp1 4
  have p5 := cellAt hp1 5
  have p6 := cellAt hp1 6
  have p7 := cellAt hp1 7
  have p8 := cellAt hp1 8
  have p9 := cellAt hp1 9
  clear hp1
  go_wp2_with fail
  refine hri.mono ?_
  rintro e w2 ⟨⟨r, rfl, hr⟩, hc2⟩
  have hp2 := hc2.keep _ _ HP1.out (fun h => h)
  have HC2 := hid (HC1.out.trans hc2)
  have HP2 := hid hp2
  have HR := hid hr
  clear p0 p1 p2 p3 p4 p5 p6 p7 p8 p9 hri hc2 hr
  have p0 := cellAt hp2 0
  have p1 := cellAt hp2 1
  have p2 := cellAt hp2 2
  have p3 := cellAt hp2 3
  have p4 := cellAt hp2 4
  have p5 := cellAt hp2 5
  have p6 := cellAt hp2 6
  have p7 := cellAt hp2 7
  have p8 := cellAt hp2 8
  have p9 := cellAt hp2 9
  clear hp2
  cases r with
  | false =>
    clear HR
    have haw := awake09 (HT.out.no HC2.out)
    go_wp2_with fail
    refine haw.mono ?_
    rintro e w3 ⟨rfl, hc3⟩
    go_wp2_with fail
    go_ret
    exact ⟨rfl, HCH.out.trans (HC2.out.trans hc3)⟩
  | true =>
    have HRI := hid (HR.out.1 rfl)
    clear HR
    have hmk := lmade (HT.out.no HC2.out) (HP.out.no HC2.out) HSZ.out HRI.out.1 HRI.out.2.1
    go_wp2_with fail
    refine hmk.mono ?_
    rintro e w3 ⟨xv, rfl, hx, hc3⟩
    have HX := hid hx
    have HC3 := hid (HC2.out.trans hc3)
    have hp3 := hc3.keep _ _ HP2.out (fun h => h)
    have hal := lall (HP.out.no HC3.out) HZB.out
    obtain ⟨xb, tb, abv, ss, rfl, _⟩ := hx
    clear p0 p1 p2 p3 p4 p5 p6 p7 p8 p9 hmk hc3
    have p0 := cellAt hp3 0
    have p1 := cellAt hp3 1
    have p2 := cellAt hp3 2
    have p3 := cellAt hp3 3
    have p4 := cellAt hp3 4
    have p5 := cellAt hp3 5
    have p6 := cellAt hp3 6
    have p7 := cellAt hp3 7
    have p8 := cellAt hp3 8
    have p9 := cellAt hp3 9
    clear hp3
    go_wp2_with fail
    refine hal.mono ?_
    rintro e w4 ⟨v, rfl, hv, hc4⟩
    have HX4 := hid (HX.out.no hc4)
    have HC4 := hid (HC3.out.trans hc4)
    have HV := hid hv
    obtain ⟨al, capl, rfl, hcp, hmx, _⟩ := hv
    obtain ⟨n, hn⟩ : ∃ n, (allT cs 8).length = n := ⟨_, rfl⟩
    rw [hn] at HV hcp ⊢
    unfold maxLen at hmx
    have hn20 : n ≤ 18 := by rw [← hn, allTlen]; have := Nat.min_le_left 8 cs.length; omega
    have HN := hid hn
    have HB4 := hid (HC4.out.keep _ _ HPB.out (fun h => h))
    clear hn hal hc4 p0 p1 p2 p3 p4 p5 p6 p7 p8 p9
    go_wp2_with fail
    go_loopg [5] n (fun g s5 wr => ∃ (i : Nat), i ≤ n ∧ n - i ≤ g ∧ s5 = .int .i64 i ∧ Ch No w4 wr)
    case atStart => exact ⟨0, Nat.zero_le _, by omega, rfl, Ch.refl _ _⟩
    case round =>
      obtain ⟨i, hi, hg, rfl, hc⟩ := hrel
      have HCR := hid hc
      clear hc
      cases hd : decide (i < n) with
      | false =>
        have hil : ¬ i < n := by simpa using hd
        go_wp2_with fail
        go_ret
        exact ⟨rfl, HCH.out.trans (HC4.out.trans HCR.out)⟩
      | true =>
        have hil : i < n := by simpa using hd
        obtain ⟨ti, hti⟩ : ∃ ti, (allT cs 8)[i]? = some ti := ⟨_, List.getElem?_eq_getElem (by have := HN.out; omega)⟩
        have hti1 := allTis HRI.out.2.1 (List.mem_of_getElem? hti)
        have htz := allTsz HZB.out ti (List.mem_of_getElem? hti)
        obtain ⟨hn1, b, off, e1, hqi⟩ := (HV.out.no HCR.out).cell hti
        subst e1
        have hun := xunder (HX4.out.no HCR.out) htz (by have := HRI.out.1.1; omega)
        have HTI := hid hti
        have HTI1 := hid hti1
        have HTZ := hid htz
        clear hn1 hti hti1 htz
        go_wp2_with fail
        refine hun.mono ?_
        rintro e w6 ⟨v6, rfl, hv6, hc6⟩
        have HV6 := hid hv6
        have HC6 := hid (HCR.out.trans hc6)
        obtain ⟨a6, cap6, rfl, hcp6, hmx6, _⟩ := hv6
        obtain ⟨nu, hnu⟩ : ∃ nu, (underL cs ti).length = nu := ⟨_, rfl⟩
        rw [hnu] at HV6 hcp6 ⊢
        unfold maxLen at hmx6
        have HNU := hid hnu
        clear hun hc6 hnu hqi
        go_wp2_with fail
        go_loopg [7, 8] len (fun g s7 s8 wr' => ∃ (j : Nat), j ≤ len ∧ len - j ≤ g ∧ s8 = .int .i64 j ∧ s7 = .int .i64 (cntU cs ti j) ∧ Ch No w4 wr' ∧ StrsAt wr' (.slice a6 nu cap6) (underL cs ti))
        case atStart => exact ⟨0, Nat.zero_le _, by omega, rfl, rfl, HC6.out, HV6.out⟩
        case round =>
          obtain ⟨j, hj, hgj, rfl, rfl, hcj, hvj⟩ := hrel
          have HVJ := hid hvj
          clear hvj
          have HCJ := hid hcj
          have p0 := cellAt (hcj.keep _ _ HB4.out (fun h => h)) 0
          obtain ⟨cnt, hcnt⟩ : ∃ cnt, cntU cs ti j = cnt := ⟨_, rfl⟩
          rw [hcnt]
          have hcl20 : cnt ≤ 20 := by have := cntLe cs ti j; have := HRI.out.1.1; have := HL.out; omega
          have HCNT := hid hcnt
          clear hcj hcnt
          cases hdj : decide (j < len) with
          | true =>
            have hjl : j < len := by simpa using hdj
            obtain ⟨c, hc⟩ : ∃ c, cs[j]? = some c := ⟨_, List.getElem?_eq_getElem (by have := HL.out; omega)⟩
            obtain ⟨cb, co, cc, ecs, hcell, _, _⟩ := (HC.out.no (HC4.out.trans HCJ.out)).cell hc
            rw [HL.out] at ecs
            cases ecs
            have p0' : wr.cell? ⟨w.heap.size, 0, none⟩ = some (.slice (some ⟨cb, co, none⟩) len cap) := p0
            have q0 := hcell.q0
            have q2 := hcell.q2
            obtain ⟨hn1, b', off', e1, hqi⟩ := (HV.out.no HCJ.out).cell HTI.out
            cases e1
            have HCC := hid hc
            clear hc hcell hn1
            cases hface : c.face with
            | true =>
              have HNO := hid (show ¬ UbP cs ti j from fun ⟨d, hd, h1, _⟩ => by rw [HCC.out] at hd; cases hd; rw [hface] at h1; cases h1)
              rw [hface] at q2
              clear hface
              go_wp2_with fail
              go_quiet (fail)
              go_wp2_with fail
              go_roundg (len - j - 1)
              case rel => exact ⟨j + 1, by omega, by omega, by go_num, by rw [cntNo HNO.out, HCNT.out], HCJ.out.trans (by first | exact (Ch.refl No wr).drew | exact (Ch.refl No wr).drewN _), HVJ.out.no (by first | exact (Ch.refl No wr).drew | exact (Ch.refl No wr).drewN _)⟩
              case measure => omega
            | false =>
              rw [hface] at q2
              have HFA := hid hface
              have hcz := (HSZ.out c (List.mem_of_getElem? HCC.out)).1
              have hbe := xbelow (HX4.out.no (HCJ.out.trans (Ch.refl No wr).drew)) hcz HTZ.out
              have HSx := hid (And.intro p0' (And.intro q0 (And.intro q2 hqi)))
              have HSd := hid (And.intro (cell_ch p0' ((Ch.refl No wr).drew) (fun _ _ h => h)) (And.intro (cell_ch q0 ((Ch.refl No wr).drew) (fun _ _ h => h)) (And.intro (cell_ch q2 ((Ch.refl No wr).drew) (fun _ _ h => h)) (cell_ch hqi ((Ch.refl No wr).drew) (fun _ _ h => h)))))
              clear hface hcz
              by_cases hup : belT cs c.name ti
              · have HUP := hid hup
                have HY := hid (show UbP cs ti j from ⟨c, HCC.out, HFA.out, hup⟩)
                clear hup
                go_wp2_with fail
                go_region_held3 (fun w' => w'.cell? ⟨w.heap.size, 0, none⟩ = some (.slice (some ⟨cb, co, none⟩) len cap) ∧ w'.cell? ⟨cb, co + j * 10, none⟩ = some (.string c.name) ∧ w'.cell? ⟨cb, co + j * 10 + 2, none⟩ = some (.bool false) ∧ w'.cell? ⟨b, off + i, none⟩ = some (.string ti)) (first | with_reducible exact HSx.out | with_reducible exact HSd.out | with_reducible exact HS7.out | go_keep) (first | (go_at_call 35; refine hbe.mono ?_; rintro e w7 ⟨hr7, hc7⟩; obtain rfl := hr7.yes HUP.out; have K7 := hid (((Ch.refl No wr).drew).trans hc7); have HS7 := hid (And.intro (cell_ch p0' K7.out (fun _ _ h => h)) (And.intro (cell_ch q0 K7.out (fun _ _ h => h)) (And.intro (cell_ch q2 K7.out (fun _ _ h => h)) (cell_ch hqi K7.out (fun _ _ h => h))))); clear hr7 hc7 hbe))
                go_wp2_with fail
                go_roundg (len - j - 1)
                case rel => exact ⟨j + 1, by omega, by omega, by go_num, by rw [cntYes HY.out, HCNT.out]; go_num, HCJ.out.trans K7.out, HVJ.out.no K7.out⟩
                case measure => omega
              · have HUP := hid hup
                have HNO := hid (show ¬ UbP cs ti j from fun ⟨d, hd, _, h1⟩ => by rw [HCC.out] at hd; cases hd; exact hup h1)
                clear hup
                go_wp2_with fail
                go_region_held3 (fun w' => w'.cell? ⟨w.heap.size, 0, none⟩ = some (.slice (some ⟨cb, co, none⟩) len cap) ∧ w'.cell? ⟨cb, co + j * 10, none⟩ = some (.string c.name) ∧ w'.cell? ⟨cb, co + j * 10 + 2, none⟩ = some (.bool false) ∧ w'.cell? ⟨b, off + i, none⟩ = some (.string ti)) (first | with_reducible exact HSx.out | with_reducible exact HSd.out | with_reducible exact HS7.out | go_keep) (first | (go_at_call 35; refine hbe.mono ?_; rintro e w7 ⟨hr7, hc7⟩; obtain rfl := hr7.no HUP.out; have K7 := hid (((Ch.refl No wr).drew).trans hc7); have HS7 := hid (And.intro (cell_ch p0' K7.out (fun _ _ h => h)) (And.intro (cell_ch q0 K7.out (fun _ _ h => h)) (And.intro (cell_ch q2 K7.out (fun _ _ h => h)) (cell_ch hqi K7.out (fun _ _ h => h))))); clear hr7 hc7 hbe))
                go_wp2_with fail
                go_roundg (len - j - 1)
                case rel => exact ⟨j + 1, by omega, by omega, by go_num, by rw [cntNo HNO.out, HCNT.out], HCJ.out.trans K7.out, HVJ.out.no K7.out⟩
                case measure => omega
          | false =>
            have hjl : ¬ j < len := by simpa using hdj
            have EJ := hid (show j = len by omega)
            go_wp2_with fail
            go_loopg [9] nu (fun g s9 wr' => ∃ (q : Nat), q ≤ nu ∧ nu - q ≤ g ∧ s9 = .int .i64 q ∧ Ch No w4 wr' ∧ StrsAt wr' (.slice a6 nu cap6) (underL cs ti))
            case atStart => exact ⟨0, Nat.zero_le _, by omega, rfl, HCJ.out, HVJ.out⟩
            case round =>
              obtain ⟨q, hq, hgq, rfl, hcq, hvq⟩ := hrel
              have HCQ := hid hcq
              have HVQ := hid hvq
              obtain ⟨hn1, b', off', e1, hqi⟩ := (HV.out.no hcq).cell HTI.out
              cases e1
              clear hcq hvq hn1
              cases hdq : decide (q < nu) with
              | true =>
                have hql : q < nu := by simpa using hdq
                obtain ⟨uq, huq⟩ : ∃ uq, (underL cs ti)[q]? = some uq := ⟨_, List.getElem?_eq_getElem (by have := HNU.out; omega)⟩
                obtain ⟨hn2, b2, off2, e2, hqu⟩ := HVQ.out.cell huq
                subst e2
                have hum := under_mem HRI.out.2.1 HRI.out.2.2 HTI1.out (List.mem_of_getElem? huq)
                have HBE := hid hum
                have huz := under_sz HSZ.out HTZ.out uq (List.mem_of_getElem? huq)
                have hbe := xbelow (HX4.out.no (HCQ.out.trans (Ch.refl No wr).drew)) huz HTZ.out
                have HUQ := hid huq
                clear hn2 hum huz huq
                cases hq0 : decide (0 < q) with
                | false =>
                  have hq0' : ¬ 0 < q := by simpa using hq0
                  have hq2 : decide ((0 : Int) < (q : Int)) = false := by simp; omega
                  go_wp2_with fail
                  refine wp_region_held_drew (S := (fun w' => w'.cell? ⟨b2, off2 + q, none⟩ = some (.string uq) ∧ w'.cell? ⟨b, off + i, none⟩ = some (.string ti))) (by kernel_rfl) ⟨hqu, hqi⟩ (fun hHeld => ?_)
                  (refine wpAnyH_take (i := 0) (v := ?_) rfl (by kernel_rfl) (by kernel_rfl) (by kernel_rfl) (fun _ _ _ h => h) (Or.inl ⟨by rfl, ?_⟩) (by assumption) ?_; rotate_left 1; · (intro wz hSw; (try dsimp only at hSw); go_simp; try rfl)); (try simp only [Act.put, List.getElem_toArray, List.getElem_cons_succ, List.getElem_cons_zero, List.setIfInBounds_toArray, List.set_cons_zero, List.set_cons_succ])
                  (refine wpAnyH_take (i := 1) (v := ?_) rfl (by kernel_rfl) (by kernel_rfl) (by kernel_rfl) (fun _ _ _ h => h) (Or.inl ⟨by rfl, ?_⟩) (by assumption) ?_; rotate_left 1; · (intro wz hSw; (try dsimp only at hSw); go_simp; try rfl)); (try simp only [Act.put, List.getElem_toArray, List.getElem_cons_succ, List.getElem_cons_zero, List.setIfInBounds_toArray, List.set_cons_zero, List.set_cons_succ])
                  (refine wpAnyH_take (i := 2) (v := ?_) rfl (by kernel_rfl) (by kernel_rfl) (by kernel_rfl) (fun _ _ _ h => h) (Or.inl ⟨by rfl, ?_⟩) (by assumption) ?_; rotate_left 1; · (intro wz hSw; (try dsimp only at hSw); go_simp; try rfl)); (try simp only [Act.put, List.getElem_toArray, List.getElem_cons_succ, List.getElem_cons_zero, List.setIfInBounds_toArray, List.set_cons_zero, List.set_cons_succ])
                  (refine wpAnyH_take (i := 3) (v := ?_) rfl (by kernel_rfl) (by kernel_rfl) (by kernel_rfl) (fun _ _ _ h => h) (Or.inl ⟨by rfl, ?_⟩) (by assumption) ?_; rotate_left 1; · (intro wz hSw; (try dsimp only at hSw); go_simp; try rfl)); (try simp only [Act.put, List.getElem_toArray, List.getElem_cons_succ, List.getElem_cons_zero, List.setIfInBounds_toArray, List.set_cons_zero, List.set_cons_succ])
                  (refine wpAnyH_take (i := 4) (v := ?_) rfl (by kernel_rfl) (by kernel_rfl) (by kernel_rfl) (fun _ _ _ h => h) (Or.inl ⟨by rfl, ?_⟩) (by assumption) ?_; rotate_left 1; · (intro wz hSw; (try dsimp only at hSw); go_simp; try rfl)); (try simp only [Act.put, List.getElem_toArray, List.getElem_cons_succ, List.getElem_cons_zero, List.setIfInBounds_toArray, List.set_cons_zero, List.set_cons_succ])
                  (refine wpAnyH_take (i := 5) (v := ?_) rfl (by kernel_rfl) (by kernel_rfl) (by kernel_rfl) (fun _ _ _ h => h) (Or.inl ⟨by rfl, ?_⟩) (by assumption) ?_; rotate_left 1; · (intro wz hSw; (try dsimp only at hSw); go_simp; try rfl)); (try simp only [Act.put, List.getElem_toArray, List.getElem_cons_succ, List.getElem_cons_zero, List.setIfInBounds_toArray, List.set_cons_zero, List.set_cons_succ])
                  (refine wpAnyH_take (i := 6) (v := ?_) rfl (by kernel_rfl) (by kernel_rfl) (by kernel_rfl) (fun _ _ _ h => h) (Or.inl ⟨by rfl, ?_⟩) (by assumption) ?_; rotate_left 1; · (intro wz hSw; (try dsimp only at hSw); go_simp; try rfl)); (try simp only [Act.put, List.getElem_toArray, List.getElem_cons_succ, List.getElem_cons_zero, List.setIfInBounds_toArray, List.set_cons_zero, List.set_cons_succ])
                  (refine wpAnyH_take (i := 7) (v := ?_) rfl (by kernel_rfl) (by kernel_rfl) (by kernel_rfl) (fun _ _ _ h => h) (Or.inl ⟨by rfl, ?_⟩) (by assumption) ?_; rotate_left 1; · (intro wz hSw; (try dsimp only at hSw); go_simp; try rfl)); (try simp only [Act.put, List.getElem_toArray, List.getElem_cons_succ, List.getElem_cons_zero, List.setIfInBounds_toArray, List.set_cons_zero, List.set_cons_succ])
                  (refine wpAnyH_take (i := 8) (v := ?_) rfl (by kernel_rfl) (by kernel_rfl) (by kernel_rfl) (fun _ _ _ h => h) (Or.inl ⟨by rfl, ?_⟩) (by assumption) ?_; rotate_left 1; · (intro wz hSw; (try dsimp only at hSw); go_simp; try rfl)); (try simp only [Act.put, List.getElem_toArray, List.getElem_cons_succ, List.getElem_cons_zero, List.setIfInBounds_toArray, List.set_cons_zero, List.set_cons_succ])
                  refine wpAnyH_ready (rs := [9]) (by kernel_rfl) (by simp) (AllReadyH.cons rfl (fun K hK => ?_) AllReadyH.nil)
                  go_simp
                  go_at_call 35
                  refine (hbe).mono ?_
                  rintro e w7 ⟨hr7, hc7⟩
                  obtain rfl := hr7.yes HBE.out
                  have hc7' := ((Ch.refl No wr).drew).trans hc7
                  have hq7u := cell_ch hqu hc7' (fun _ _ h => h)
                  have hq7i := cell_ch hqi hc7' (fun _ _ h => h)
                  have HC7 := hid hc7'
                  clear hr7 hc7 hc7' hbe
                  go_simp
                  have HS7 := hid (And.intro hq7u hq7i)
                  refine hK.out _ _ HS7.out (fun hHeld7 => ?_)
                  clear hK
                  (refine wpAnyH_take (i := 10) (v := ?_) rfl (by kernel_rfl) (by kernel_rfl) (by kernel_rfl) (fun _ _ _ h => h) (Or.inl ⟨by rfl, ?_⟩) (by assumption) ?_; rotate_left 1; · (intro wz hSw; (try dsimp only at hSw); go_simp; try rfl)); (try simp only [Act.put, List.getElem_toArray, List.getElem_cons_succ, List.getElem_cons_zero, List.setIfInBounds_toArray, List.set_cons_zero, List.set_cons_succ])
                  (refine wpAnyH_take (i := 11) (v := ?_) rfl (by kernel_rfl) (by kernel_rfl) (by kernel_rfl) (fun _ _ _ h => h) (Or.inl ⟨by rfl, ?_⟩) (by assumption) ?_; rotate_left 1; · (intro wz hSw; (try dsimp only at hSw); go_simp; try rfl)); (try simp only [Act.put, List.getElem_toArray, List.getElem_cons_succ, List.getElem_cons_zero, List.setIfInBounds_toArray, List.set_cons_zero, List.set_cons_succ])
                  (refine wpAnyH_take (i := 12) (v := ?_) rfl (by kernel_rfl) (by kernel_rfl) (by kernel_rfl) (fun _ _ _ h => h) (Or.inl ⟨by rfl, ?_⟩) (by assumption) ?_; rotate_left 1; · (intro wz hSw; (try dsimp only at hSw); go_simp; try rfl)); (try simp only [Act.put, List.getElem_toArray, List.getElem_cons_succ, List.getElem_cons_zero, List.setIfInBounds_toArray, List.set_cons_zero, List.set_cons_succ])
                  (refine wpAnyH_take (i := 13) (v := ?_) rfl (by kernel_rfl) (by kernel_rfl) (by kernel_rfl) (fun _ _ _ h => h) (Or.inl ⟨by rfl, ?_⟩) (by assumption) ?_; rotate_left 1; · (intro wz hSw; (try dsimp only at hSw); go_simp; try rfl)); (try simp only [Act.put, List.getElem_toArray, List.getElem_cons_succ, List.getElem_cons_zero, List.setIfInBounds_toArray, List.set_cons_zero, List.set_cons_succ])
                  (refine wpAnyH_take (i := 14) (v := ?_) rfl (by kernel_rfl) (by kernel_rfl) (by kernel_rfl) (fun _ _ _ h => h) (Or.inl ⟨by rfl, ?_⟩) (by assumption) ?_; rotate_left 1; · (intro wz hSw; (try dsimp only at hSw); go_simp; try rfl)); (try simp only [Act.put, List.getElem_toArray, List.getElem_cons_succ, List.getElem_cons_zero, List.setIfInBounds_toArray, List.set_cons_zero, List.set_cons_succ])
                  (refine wpAnyH_take (i := 15) (v := undef) rfl (by kernel_rfl) (by kernel_rfl) (by kernel_rfl) (fun _ _ _ h => h) (Or.inr ⟨by rfl, rfl⟩) (by assumption) ?_); (try simp only [Act.put, List.getElem_toArray, List.getElem_cons_succ, List.getElem_cons_zero, List.setIfInBounds_toArray, List.set_cons_zero, List.set_cons_succ])
                  (refine wpAnyH_take (i := 16) (v := undef) rfl (by kernel_rfl) (by kernel_rfl) (by kernel_rfl) (fun _ _ _ h => h) (Or.inr ⟨by rfl, rfl⟩) (by assumption) ?_); (try simp only [Act.put, List.getElem_toArray, List.getElem_cons_succ, List.getElem_cons_zero, List.setIfInBounds_toArray, List.set_cons_zero, List.set_cons_succ])
                  (refine wpAnyH_take (i := 17) (v := undef) rfl (by kernel_rfl) (by kernel_rfl) (by kernel_rfl) (fun _ _ _ h => h) (Or.inr ⟨by rfl, rfl⟩) (by assumption) ?_); (try simp only [Act.put, List.getElem_toArray, List.getElem_cons_succ, List.getElem_cons_zero, List.setIfInBounds_toArray, List.set_cons_zero, List.set_cons_succ])
                  (refine wpAnyH_take (i := 18) (v := undef) rfl (by kernel_rfl) (by kernel_rfl) (by kernel_rfl) (fun _ _ _ h => h) (Or.inr ⟨by rfl, rfl⟩) (by assumption) ?_); (try simp only [Act.put, List.getElem_toArray, List.getElem_cons_succ, List.getElem_cons_zero, List.setIfInBounds_toArray, List.set_cons_zero, List.set_cons_succ])
                  (refine wpAnyH_take (i := 19) (v := undef) rfl (by kernel_rfl) (by kernel_rfl) (by kernel_rfl) (fun _ _ _ h => h) (Or.inr ⟨by rfl, rfl⟩) (by assumption) ?_); (try simp only [Act.put, List.getElem_toArray, List.getElem_cons_succ, List.getElem_cons_zero, List.setIfInBounds_toArray, List.set_cons_zero, List.set_cons_succ])
                  (refine wpAnyH_take (i := 20) (v := undef) rfl (by kernel_rfl) (by kernel_rfl) (by kernel_rfl) (fun _ _ _ h => h) (Or.inr ⟨by rfl, rfl⟩) (by assumption) ?_); (try simp only [Act.put, List.getElem_toArray, List.getElem_cons_succ, List.getElem_cons_zero, List.setIfInBounds_toArray, List.set_cons_zero, List.set_cons_succ])
                  (refine wpAnyH_take (i := 21) (v := undef) rfl (by kernel_rfl) (by kernel_rfl) (by kernel_rfl) (fun _ _ _ h => h) (Or.inr ⟨by rfl, rfl⟩) (by assumption) ?_); (try simp only [Act.put, List.getElem_toArray, List.getElem_cons_succ, List.getElem_cons_zero, List.setIfInBounds_toArray, List.set_cons_zero, List.set_cons_succ])
                  (refine wpAnyH_take (i := 22) (v := undef) rfl (by kernel_rfl) (by kernel_rfl) (by kernel_rfl) (fun _ _ _ h => h) (Or.inr ⟨by rfl, rfl⟩) (by assumption) ?_); (try simp only [Act.put, List.getElem_toArray, List.getElem_cons_succ, List.getElem_cons_zero, List.setIfInBounds_toArray, List.set_cons_zero, List.set_cons_succ])
                  (refine wpAnyH_take (i := 23) (v := undef) rfl (by kernel_rfl) (by kernel_rfl) (by kernel_rfl) (fun _ _ _ h => h) (Or.inr ⟨by rfl, rfl⟩) (by assumption) ?_); (try simp only [Act.put, List.getElem_toArray, List.getElem_cons_succ, List.getElem_cons_zero, List.setIfInBounds_toArray, List.set_cons_zero, List.set_cons_succ])
                  (refine wpAnyH_take (i := 24) (v := undef) rfl (by kernel_rfl) (by kernel_rfl) (by kernel_rfl) (fun _ _ _ h => h) (Or.inr ⟨by rfl, rfl⟩) (by assumption) ?_); (try simp only [Act.put, List.getElem_toArray, List.getElem_cons_succ, List.getElem_cons_zero, List.setIfInBounds_toArray, List.set_cons_zero, List.set_cons_succ])
                  (refine wpAnyH_take (i := 25) (v := ?_) rfl (by kernel_rfl) (by kernel_rfl) (by kernel_rfl) (fun _ _ _ h => h) (Or.inl ⟨by rfl, ?_⟩) (by assumption) ?_; rotate_left 1; · (intro wz hSw; (try dsimp only at hSw); go_simp; try rfl)); (try simp only [Act.put, List.getElem_toArray, List.getElem_cons_succ, List.getElem_cons_zero, List.setIfInBounds_toArray, List.set_cons_zero, List.set_cons_succ])
                  (refine wpAnyH_take (i := 26) (v := ?_) rfl (by kernel_rfl) (by kernel_rfl) (by kernel_rfl) (fun _ _ _ h => h) (Or.inl ⟨by rfl, ?_⟩) (by assumption) ?_; rotate_left 1; · (intro wz hSw; (try dsimp only at hSw); go_simp; try rfl)); (try simp only [Act.put, List.getElem_toArray, List.getElem_cons_succ, List.getElem_cons_zero, List.setIfInBounds_toArray, List.set_cons_zero, List.set_cons_succ])
                  refine wpAnyH_done (by kernel_rfl) ?_ _
                  go_wp2_with fail
                  go_roundg (nu - q - 1)
                  case rel => exact ⟨q + 1, by omega, by omega, by go_num, HCQ.out.trans HC7.out, HVQ.out.no HC7.out⟩
                  case measure => omega
                | true =>
                  have hq0' : 0 < q := by simpa using hq0
                  have hq2 : decide ((0 : Int) < (q : Int)) = true := by simp; omega
                  obtain ⟨up, hup⟩ : ∃ up, (underL cs ti)[q - 1]? = some up := ⟨_, List.getElem?_eq_getElem (by have := HNU.out; omega)⟩
                  obtain ⟨hn2, b3, off3, e3, hqp⟩ := HVQ.out.cell hup
                  cases e3
                  have hne : ¬ uq = up := fun e => by
                    have := nodupAt (under_nodup HRI.out.2.1 ti) HUQ.out (by rw [e]; exact hup)
                    omega
                  have e4 := toLn uq up hne
                  have hqm : (q : Int) - 1 = ((q - 1 : Nat) : Int) := by omega
                  obtain ⟨qm, hqm2⟩ : ∃ qm, q - 1 = qm := ⟨_, rfl⟩
                  rw [hqm2] at hqp hqm
                  have hqml : qm < nu := by omega
                  have hnu64 : nu ≤ 9223372036854775807 := by omega
                  have hw1 : IntKind.i64.wrap ((q : Int) - 1) = (qm : Int) := wrapP (by omega) (by omega) hqm2
                  have hw2 : IntKind.i64.wrap (qm : Int) = (qm : Int) := wrapQ (by omega)
                  clear hn2 hup hne
                  go_wp2_with fail
                  go_region_held3 (fun w' => w'.cell? ⟨b2, off2 + q, none⟩ = some (.string uq) ∧ w'.cell? ⟨b2, off2 + qm, none⟩ = some (.string up) ∧ w'.cell? ⟨b, off + i, none⟩ = some (.string ti)) (first | exact ⟨hqu, hqp, hqi⟩ | exact ⟨hq7u, hq7p, hq7i⟩ | go_keep) (first | (go_at_call 35; refine hbe.mono ?_; rintro e w7 ⟨hr7, hc7⟩; obtain rfl := hr7.yes HBE.out; have hc7' := ((Ch.refl No wr).drew).trans hc7; have hq7u := cell_ch hqu hc7' (fun _ _ h => h); have hq7p := cell_ch hqp hc7' (fun _ _ h => h); have hq7i := cell_ch hqi hc7' (fun _ _ h => h); have HC7 := hid hc7'; clear hr7 hc7 hc7' hbe))
                  go_wp2_with fail
                  go_roundg (nu - q - 1)
                  case rel => exact ⟨q + 1, by omega, by omega, by go_num, HCQ.out.trans HC7.out, HVQ.out.no HC7.out⟩
                  case measure => omega
              | false =>
                have hql : ¬ q < nu := by simpa using hdq
                have hel := xelem (HX4.out.no HCQ.out) HTZ.out
                go_wp2_with fail
                refine hel.mono ?_
                rintro e w7 ⟨⟨el, he, rfl⟩ | ⟨he, rfl⟩, rfl⟩
                · have h1 : nu = 1 := by rw [← HNU.out, underElem he]; rfl
                  subst h1
                  clear hel he
                  go_wp2_with fail
                  go_roundg (n - i - 1)
                  case rel => exact ⟨i + 1, by omega, by omega, by go_num, HCQ.out⟩
                  case measure => omega
                · have h1 : cnt = nu := by
                    have h2 := under_len HRI.out.2.1 HRI.out.2.2 HTI1.out he
                    rw [← HCNT.out, EJ.out, ← HL.out, ← h2]; exact HNU.out
                  subst h1
                  clear hel he
                  go_wp2_with fail
                  go_roundg (n - i - 1)
                  case rel => exact ⟨i + 1, by omega, by omega, by go_num, HCQ.out⟩
                  case measure => omega
end Go.Proofs.YtkffejgjpnnkmaaDoor
