/- MemberOwn: a class that tells a method itself, neither static nor bare, has that for its objects, and each class right below that tells none has it, too. -/
import Derived.Test.YtgjpgfedlgdjhaaGreatDoorNf
set_option linter.unusedVariables false
set_option linter.unusedSimpArgs false
set_option maxRecDepth 8192
namespace Go.Proofs.YtgjpgfedlgdjhaaGreatDoor
open Go.RowKit Go.W

set_option maxHeartbeats 2000000 in
theorem mtypes {w : World} {mb : Nat} {cs : List Cls} {ms : List Mem} (h : MembIs w mb cs ms) : Calls Tryz.prog 16 #[.pointer (some ⟨mb, 0, none⟩)] w fun e w' => (∃ xb, e = .returned (.pointer (some ⟨xb, 0, none⟩))) ∧ w = w' := by
  obtain ⟨cv, m0, m1, m2, m3, m4, m5, m6, m7, m8, xv, ov, bs, hm⟩ := h
  obtain ⟨xb, tb, abv, ss, hxv, hx⟩ := hm.typ
  subst hxv
  have c10 := cellAt hm.blk 10
  clear hm hx
  go_enter Tryz.func16, Tryz.ntmps16
  go_wp2_with fail
  go_ret
  exact ⟨⟨xb, rfl⟩, rfl⟩
theorem fewM_of {cs : List Cls} {ms : List Mem} (h : SmallM cs ms) : ∀ m ∈ ms, FewM m := by
  intro m hm
  obtain ⟨i, hi, rfl⟩ := List.mem_iff_getElem.1 hm
  obtain ⟨h1, h2, h3, h4⟩ := h.mem i _ (List.getElem?_eq_getElem hi)
  exact ⟨by omega, by omega, by omega, fun x hx => by have := h4 x hx; omega⟩
theorem upvAny {o : Option MbR} {B : Nat} {e : Ending} {w' : World} (h : UpV o B e w') : ∃ (yc : Int) (yn yt : ByteArray) (sa : Option Addr) (sn sc : Nat) (ys yb is : Bool), e = .returned (.tuple #[.agg #[.int .i64 yc, .string yn, .string yt, .slice sa sn sc, .bool ys, .bool yb], .bool is]) ∧ ∀ y, o = some y → yc = y.cls ∧ is = true := by
  cases o with
  | none => exact ⟨_, _, _, _, _, _, _, _, _, h, fun y hy => by cases hy⟩
  | some x =>
    obtain ⟨sa, sn, sc, he, _⟩ := h
    exact ⟨_, _, _, _, _, _, _, _, _, he, fun y hy => by cases hy; exact ⟨rfl, rfl⟩⟩
theorem dispAny {o : Option Int} {e : Ending} (h : DispV o e) : ∃ (d : Int) (has : Bool), e = .returned (.tuple #[.int .i64 d, .bool has]) ∧ ∀ c, o = some c → d = c ∧ has = true := by
  cases o with
  | none => exact ⟨_, _, h, fun y hy => by cases hy⟩
  | some x => exact ⟨_, _, h, fun y hy => by cases hy; exact ⟨rfl, rfl⟩⟩
theorem few10 {cs : List Cls} {ms : List Mem} (h : SmallM cs ms) : FewP ms := fun m hm x hx => (fewM_of h m hm).ps x hx

set_option maxRecDepth 100000 in
set_option maxHeartbeats 64000000 in
theorem law_mown {w : World} {pv : Value} {cs : List Cls} {ms : List Mem} (hT : Tab w) (h : ProgAt w pv cs) (hm : MemsAt w cs ms) (hsz : SzP cs) (hszm : SzM ms) :
    Calls Tryz.prog 5 #[pv] w fun e w' => e = .returned (.bool true) ∧ Ch No w w' := by
  have hfld : ∀ (a l c : Int) (w : World), (Instr.field 34 (.agg #[.int .i64 a, .int .i64 l, .int .i64 c]) 0).run Tryz.prog w = .ok (.int .i64 a) w := fun _ _ _ _ => rfl
  have HT := hid hT
  have HM0 := hid hm
  have HSZ := hid hsz
  have HSZM := hid hszm
  have HLN := hid hm.len
  have HP0 := hid h
  have haw := awake10 (hT.no ((Ch.refl No w).alloc (.cells #[] 9)))
  clear hT hm hsz hszm haw
  have hp := h
  obtain ⟨cv, m0, m1, m2, m3, m4, m5, m6, m7, m8, rfl, h⟩ := h
  obtain ⟨ao, cap, rfl, hcap, hmax, _, _⟩ := h.row
  rw [List.length_map] at hcap h hp ⊢
  obtain ⟨len, hlen⟩ : ∃ len, cs.length = len := ⟨_, rfl⟩
  rw [hlen] at hcap h hp ⊢
  unfold maxLen at hmax
  obtain ⟨wa, hwa⟩ : ∃ wa, w.alloc (.cells #[.slice ao len cap, m0, m1, m2, m3, m4, m5, m6, m7, m8] 31) = wa := ⟨_, rfl⟩
  have hpb := heap_alloc_new w (.cells #[.slice ao len cap, m0, m1, m2, m3, m4, m5, m6, m7, m8] 31)
  have hch := (Ch.refl No w).alloc (.cells #[.slice ao len cap, m0, m1, m2, m3, m4, m5, m6, m7, m8] 31)
  rw [hwa] at hch hpb
  have HL := hid hlen
  have HP := hid (hp.no hch)
  have HC := hid (h.no hch)
  have HPB := hid hpb
  have HCH := hid hch
  have p0 := cellAt hpb 0
  have p1 := cellAt hpb 1
  have p2 := cellAt hpb 2
  have p3 := cellAt hpb 3
  have p4 := cellAt hpb 4
  have p5 := cellAt hpb 5
  have p6 := cellAt hpb 6
  have p7 := cellAt hpb 7
  have p8 := cellAt hpb 8
  have p9 := cellAt hpb 9
  have hz := lt_size hpb
  clear hlen h hp hpb hch
  have HCLS : Hid (ClssAt w (.slice ao len cap) cs) := by
    obtain ⟨_, _, _, _, _, _, _, _, _, _, e, hc⟩ := HP0.out
    rw [List.length_map, HL.out] at e
    cases e
    exact hid hc
  have haw := awake10 (HT.out.no HCH.out)
  go_enter Tryz.func5, Tryz.ntmps5
  go_wp2_with fail
  refine haw.mono ?_
  rintro e w1 ⟨rfl, hc1⟩
  have HC1 := hid (HCH.out.trans hc1)
  have HP1 := hid (hc1.keep _ _ HPB.out (fun h => h))
  have hp1 := HP1.out
  have hsm := rsmall10 (HP.out.no hc1) (HM0.out.no HC1.out) HSZ.out
  have K1 := hid hc1
  clear hwa haw hc1 p0 p1 p2 p3 p4 p5 p6 p7 p8 p9
  have p0 := cellAt hp1 0
  have p1 := cellAt hp1 1
  have p2 := cellAt hp1 2
  have p3 := cellAt hp1 3
  have p4 := cellAt hp1 4
  have p5 := cellAt hp1 5
  have p6 := cellAt hp1 6
  have p7 := cellAt hp1 7
  have p8 := cellAt hp1 8
  have p9 := cellAt hp1 9
  clear hp1
  go_wp2_with fail
  refine hsm.mono ?_
  rintro e w2 ⟨⟨r2, rfl, hr2⟩, hc2⟩
  have HR2 := hid hr2
  have HC2 := hid (HC1.out.trans hc2)
  have K2 := hid (K1.out.trans hc2)
  have HP2 := hid (hc2.keep _ _ HP1.out (fun h => h))
  clear hsm hr2 hc2 p0 p1 p2 p3 p4 p5 p6 p7 p8 p9
  cases r2 with
  | false =>
    have haw := awake10 (HT.out.no HC2.out)
    go_wp2_with fail
    refine haw.mono ?_
    rintro e w3 ⟨rfl, hc3⟩
    have HC3 := hid (HC2.out.trans hc3)
    clear haw hc3
    go_wp2_with fail
    go_ret
    exact ⟨rfl, HC3.out⟩
  | true =>
    have HSM := hid (HR2.out (by first | rfl | trivial))
    have hp2 := HP2.out
    have p0 := cellAt hp2 0
    have p1 := cellAt hp2 1
    have p2 := cellAt hp2 2
    have p3 := cellAt hp2 3
    have p4 := cellAt hp2 4
    have p5 := cellAt hp2 5
    have p6 := cellAt hp2 6
    have p7 := cellAt hp2 7
    have p8 := cellAt hp2 8
    have p9 := cellAt hp2 9
    have hfa := rfault10 (HP.out.no K2.out) (HM0.out.no HC2.out) HSM.out.plain HSM.out.few HSZM.out (fun m hm x hx => (fewM_of HSM.out m hm).ps x hx)
    clear hp2
    go_wp2_with fail
    refine hfa.mono ?_
    rintro e w3 ⟨⟨fa, fl, fc, rfl, hfz⟩, hc3⟩
    have HFZ := hid hfz
    have HC3 := hid (HC2.out.trans hc3)
    have K3 := hid (K2.out.trans hc3)
    have HP3 := hid (hc3.keep _ _ HP2.out (fun h => h))
    clear hfa hfz hc3 p0 p1 p2 p3 p4 p5 p6 p7 p8 p9
    by_cases hz0 : fa = 0
    · subst hz0
      have HOK := hid (HFZ.out rfl)
      have hp3 := HP3.out
      have p0 := cellAt hp3 0
      have p1 := cellAt hp3 1
      have p2 := cellAt hp3 2
      have p3 := cellAt hp3 3
      have p4 := cellAt hp3 4
      have p5 := cellAt hp3 5
      have p6 := cellAt hp3 6
      have p7 := cellAt hp3 7
      have p8 := cellAt hp3 8
      have p9 := cellAt hp3 9
      have hnw := mnew (HP.out.no K3.out) (HM0.out.no HC3.out) (HT.out.no HC3.out) HSZ.out HSZM.out HSM.out.few (fewM_of HSM.out)
      clear hp3
      go_wp2_with fail
      refine hnw.mono ?_
      rintro e w4 ⟨hc4, ⟨mb, rfl, hmb, hok⟩ | ⟨l, c, rfl, hno⟩⟩
      · have HC4 := hid (HC3.out.trans hc4)
        have K4 := hid (K3.out.trans hc4)
        have HMB := hid hmb
        clear hnw hmb hok hc4 p0 p1 p2 p3 p4 p5 p6 p7 p8 p9
        go_upto_region 4 with fail
        obtain ⟨w5, hw5⟩ : ∃ w5, w4.alloc (.cells #[.int .i64 0, .int .i64 0, .int .i64 0] 34) = w5 := ⟨_, rfl⟩
        rw [hw5]
        have hc5 : Ch No w4 w5 := by rw [← hw5]; exact (Ch.refl No w4).alloc _
        have HC5 := hid (HC4.out.trans hc5)
        have K5 := hid (K4.out.trans hc5)
        have HM5 := hid (HMB.out.no hc5)
        have HP5 := hid (K5.out.keep _ _ HPB.out (fun h => h))
        have hty := mtypes HM5.out
        clear hw5 hc5
        go_wp2_with fail
        refine hty.mono ?_
        rintro e w5' ⟨⟨xb, rfl⟩, rfl⟩
        clear hty
        go_wp2_with fail
        have HNO := hid (noRingOf HOK.out.1)
        have HS := hid HOK.out.1.1
        go_loopg [5, 6, 7, 8, 9, 10, 11, 12, 13, 14, 15] len (fun g s5 s6 s7 s8 s9 s10 s11 s12 s13 s14 s15 wr => ∃ k : Nat, k ≤ len ∧ len - k ≤ g ∧ s5 = .int .i64 k ∧ Ch No w5 wr)
        case atStart => exact ⟨0, Nat.zero_le _, by omega, rfl, Ch.refl _ _⟩
        case round =>
          obtain ⟨k, hk, hg, rfl, hcr⟩ := hrel
          have HCR := hid hcr
          have HCW := hid (HC5.out.trans hcr)
          have KW := hid (K5.out.trans hcr)
          have HPR := hid (KW.out.keep _ _ HPB.out (fun h => h))
          have p0 := cellAt HPR.out 0
          clear hcr
          cases hd : decide (k < len) with
          | false =>
            have hkl : ¬ k < len := by simpa using hd
            go_wp2_with fail
            go_ret
            exact ⟨rfl, HCW.out⟩
          | true =>
            have hkl : k < len := by simpa using hd
            obtain ⟨c, hcs⟩ : ∃ c, cs[k]? = some c := ⟨_, List.getElem?_eq_getElem (by have := HL.out; omega)⟩
            obtain ⟨m, hmi⟩ : ∃ m, ms[k]? = some m := ⟨_, List.getElem?_eq_getElem (by have := HL.out; have := HLN.out; omega)⟩
            obtain ⟨cb, co, cc, ecs, hcell, _, _⟩ := (HCLS.out.no HCW.out).cell hcs
            rw [HL.out] at ecs
            cases ecs
            obtain ⟨q0, q1, q2, q3, q4, q5, q6, q7, q8, q9⟩ := hcell
            obtain ⟨fb, hfb⟩ : ∃ fb, c.face = fb := ⟨_, rfl⟩
            obtain ⟨r6, hr6⟩ : ∃ r, c.s6 = r := ⟨_, rfl⟩
            have v6 := (HM0.out.at_ k c m hcs hmi).ms
            rw [hr6] at v6 q6
            rw [hfb] at q2
            obtain ⟨a6, n6, c6⟩ := r6
            dsimp only at v6 q6
            obtain ⟨hn6, hc6, hm6⟩ := v6.shape
            unfold maxLen at hm6
            have x6 : n6 ≤ c6 := by have h1 : n6 = m.ms.length := hn6; have h2 : m.ms.length ≤ c6 := hc6; omega
            have V6 := hid v6
            have N6 := hid (show n6 = m.ms.length from hn6)
            have HFB := hid hfb
            have HCS := hid hcs
            have HMI := hid hmi
            have HSZX := hid (HSZM.out m (List.mem_of_getElem? hmi))
            obtain ⟨w6, hw6⟩ : ∃ w6, wr.alloc (.cells #[.string c.name, .string c.sup, .bool fb, .slice c.fa c.faces.length c.fc, .slice c.s4.1 c.s4.2.1 c.s4.2.2, .slice c.s5.1 c.s5.2.1 c.s5.2.2, .slice a6 n6 c6, .pointer c.p7, .int .i64 c.line, .int .i64 c.col] 50) = w6 := ⟨_, rfl⟩
            have hb6 := heap_alloc_new wr (.cells #[.string c.name, .string c.sup, .bool fb, .slice c.fa c.faces.length c.fc, .slice c.s4.1 c.s4.2.1 c.s4.2.2, .slice c.s5.1 c.s5.2.1 c.s5.2.2, .slice a6 n6 c6, .pointer c.p7, .int .i64 c.line, .int .i64 c.col] 50)
            have hc6' := (Ch.refl No wr).alloc (.cells #[.string c.name, .string c.sup, .bool fb, .slice c.fa c.faces.length c.fc, .slice c.s4.1 c.s4.2.1 c.s4.2.2, .slice c.s5.1 c.s5.2.1 c.s5.2.2, .slice a6 n6 c6, .pointer c.p7, .int .i64 c.line, .int .i64 c.col] 50)
            rw [hw6] at hb6 hc6'
            have HB6 := hid hb6
            have HC6 := hid (HCW.out.trans hc6')
            have K6 := hid (KW.out.trans hc6')
            have L6 := hid (HCR.out.trans hc6')
            have y6 := lt_size hb6
            clear hcs hmi hfb hr6 v6 hn6 hc6 hb6 hc6'
            go_wp2_with fail
            clear hw6 p0 q0 q1 q2 q3 q4 q5 q6 q7 q8 q9
            go_loopg [7, 8, 9, 10, 11, 12, 13, 14, 15] n6 (fun g s7 s8 s9 s10 s11 s12 s13 s14 s15 wr => ∃ q : Nat, q ≤ n6 ∧ n6 - q ≤ g ∧ s7 = .int .i64 q ∧ Ch No w6 wr)
            case atStart => exact ⟨0, Nat.zero_le _, by omega, rfl, Ch.refl _ _⟩
            case round =>
              obtain ⟨q, hq, hgq, rfl, hcq⟩ := hrel
              obtain ⟨w7, hw7⟩ : ∃ w7, w7 = wr := ⟨_, rfl⟩
              subst hw7
              have HCQ := hid hcq
              have HC7 := hid (HC6.out.trans hcq)
              have K7 := hid (K6.out.trans hcq)
              have L7 := hid (L6.out.trans hcq)
              have HB7 := hid (hcq.keep _ _ HB6.out (fun h => h))
              have hb7 := HB7.out
              have e6 := cellAt hb7 6
              clear hcq hb7
              cases hdq : decide (q < n6) with
              | false =>
                have hql : ¬ q < n6 := by simpa using hdq
                go_wp2_with fail
                go_roundg (len - k - 1)
                case rel => exact ⟨k + 1, by omega, by omega, by go_num, L7.out⟩
                case measure => omega
              | true =>
                have hql : q < n6 := by simpa using hdq
                obtain ⟨x, hx⟩ : ∃ x, m.ms[q]? = some x := ⟨_, List.getElem?_eq_getElem (by have := N6.out; omega)⟩
                have hmts := V6.out.no HC7.out
                obtain ⟨mxb, mxo, hma6, q0, q1, q2, q3, q4, q5, q6, q7, q8⟩ := hmts.cell hx
                obtain ⟨sb, hsb⟩ : ∃ sb, x.st = sb := ⟨_, rfl⟩
                obtain ⟨bb, hbb⟩ : ∃ bb, x.ba = bb := ⟨_, rfl⟩
                rw [hsb] at q2
                rw [hbb] at q3
                obtain ⟨w8, hw8⟩ : ∃ w8, w7.alloc (.cells #[.string x.ret, .string x.nm, .bool sb, .bool bb, .slice x.pa x.ps.length x.pc, .slice x.s5.1 x.s5.2.1 x.s5.2.2, .slice x.s6.1 x.s6.2.1 x.s6.2.2, .int .i64 x.line, .int .i64 x.col] 29) = w8 := ⟨_, rfl⟩
                have hb8 := heap_alloc_new w7 (.cells #[.string x.ret, .string x.nm, .bool sb, .bool bb, .slice x.pa x.ps.length x.pc, .slice x.s5.1 x.s5.2.1 x.s5.2.2, .slice x.s6.1 x.s6.2.1 x.s6.2.2, .int .i64 x.line, .int .i64 x.col] 29)
                have hc8 := (Ch.refl No w7).alloc (.cells #[.string x.ret, .string x.nm, .bool sb, .bool bb, .slice x.pa x.ps.length x.pc, .slice x.s5.1 x.s5.2.1 x.s5.2.2, .slice x.s6.1 x.s6.2.1 x.s6.2.2, .int .i64 x.line, .int .i64 x.col] 29)
                rw [hw8] at hb8 hc8
                have HB8 := hid hb8
                have HC8 := hid (HC7.out.trans hc8)
                have K8 := hid (K7.out.trans hc8)
                have L8 := hid (L7.out.trans hc8)
                have M8 := hid (HCQ.out.trans hc8)
                have hb68 := hc8.keep _ _ HB7.out (fun h => h)
                have HB68 := hid hb68
                have HX := hid hx
                have HSB := hid hsb
                have HBB := hid hbb
                have y8 := lt_size hb8
                have e2 := cellAt hb68 2
                have d1 := cellAt hb8 1
                have d2 := cellAt hb8 2
                have d3 := cellAt hb8 3
                have hnx := (HSZX.out.ms x (List.mem_of_getElem? hx)).1
                subst hma6
                clear hmts hx hsb hbb hb8 hc8 hb68
                cases fb with
                | true =>
                  go_wp2_with fail
                  go_roundg (n6 - q - 1)
                  case rel => exact ⟨q + 1, by omega, by omega, by go_num, M8.out⟩
                  case measure => omega
                | false =>
                  cases sb with
                  | true =>
                    go_wp2_with fail
                    go_roundg (n6 - q - 1)
                    case rel => exact ⟨q + 1, by omega, by omega, by go_num, M8.out⟩
                    case measure => omega
                  | false =>
                    cases bb with
                    | true =>
                      go_wp2_with fail
                      go_roundg (n6 - q - 1)
                      case rel => exact ⟨q + 1, by omega, by omega, by go_num, M8.out⟩
                      case measure => omega
                    | false =>
                      have hdi := mdisp (HM5.out.no L8.out) HS.out HNO.out HSM.out.few HLN.out (few10 HSM.out) hnx (AtZ.some (by have := HL.out; omega : k < cs.length))
                      rw [own_disp HNO.out HOK.out.2 HCS.out HMI.out HX.out HFB.out HSB.out HBB.out] at hdi
                      go_wp2_with fail
                      refine hdi.mono ?_
                      rintro e w9 ⟨rfl, hc9⟩
                      have M9 := hid (M8.out.trans hc9)
                      have HC9 := hid (HC8.out.trans hc9)
                      have K9 := hid (K8.out.trans hc9)
                      have L9 := hid (L8.out.trans hc9)
                      have HB89 := hid (hc9.keep _ _ HB8.out (fun h => h))
                      have HB69 := hid (hc9.keep _ _ HB68.out (fun h => h))
                      clear hdi hc9 hw8 e6 q0 q1 q2 q3 q4 q5 q6 q7 q8 d1 d2 d3 e2
                      go_wp2_with fail
                      go_loopg [11, 12, 13, 14, 15] len (fun g s11 s12 s13 s14 s15 wr => ∃ r : Nat, r ≤ len ∧ len - r ≤ g ∧ s11 = .int .i64 r ∧ Ch No w9 wr)
                      case atStart => exact ⟨0, Nat.zero_le _, by omega, rfl, Ch.refl _ _⟩
                      case round =>
                        obtain ⟨r, hr, hgr, rfl, hcr⟩ := hrel
                        obtain ⟨wt, hwt⟩ : ∃ wt, wt = wr := ⟨_, rfl⟩
                        subst hwt
                        have HCT := hid hcr
                        have HCA := hid (HC9.out.trans hcr)
                        have KA := hid (K9.out.trans hcr)
                        have LA := hid (L9.out.trans hcr)
                        have MA := hid (M9.out.trans hcr)
                        have HB8A := hid (hcr.keep _ _ HB89.out (fun h => h))
                        have HB6A := hid (hcr.keep _ _ HB69.out (fun h => h))
                        have HPA := hid (KA.out.keep _ _ HPB.out (fun h => h))
                        have p0 := cellAt HPA.out 0
                        have d1 := cellAt HB8A.out 1
                        clear hcr
                        cases hdr : decide (r < len) with
                        | false =>
                          have hrl : ¬ r < len := by simpa using hdr
                          go_wp2_with fail
                          go_roundg (n6 - q - 1)
                          case rel => exact ⟨q + 1, by omega, by omega, by go_num, MA.out⟩
                          case measure => omega
                        | true =>
                          have hrl : r < len := by simpa using hdr
                          obtain ⟨cq, hcq⟩ : ∃ cq, cs[r]? = some cq := ⟨_, List.getElem?_eq_getElem (by have := HL.out; omega)⟩
                          have HCQ2 := hid hcq
                          have hme := mmeth HS.out HNO.out HSM.out.few HLN.out (few10 HSM.out) hnx (rankN cs r) (r : Int) (some r) (HM5.out.no LA.out) (AtZ.some (by have := HL.out; omega : r < cs.length)) (fun i' e => by cases e; exact Nat.le_refl _)
                          clear hcq
                          go_wp2_with fail
                          refine hme.mono ?_
                          rintro e wb ⟨hup, hcb⟩
                          obtain ⟨yc, yn, yt, sa, sn, sc, ys, yb, is, rfl, hyis⟩ := upvAny hup
                          obtain ⟨wc, hwc⟩ : ∃ wc, wb.alloc (.cells #[.int .i64 yc, .string yn, .string yt, .slice sa sn sc, .bool ys, .bool yb] 54) = wc := ⟨_, rfl⟩
                          have hbc := heap_alloc_new wb (.cells #[.int .i64 yc, .string yn, .string yt, .slice sa sn sc, .bool ys, .bool yb] 54)
                          have hcc := (Ch.refl No wb).alloc (.cells #[.int .i64 yc, .string yn, .string yt, .slice sa sn sc, .bool ys, .bool yb] 54)
                          rw [hwc] at hbc hcc
                          have TC := hid (hcb.trans hcc)
                          have HBC := hid hbc
                          have HYIS := hid hyis
                          have yzc := lt_size hbc
                          have d1 := cellAt (TC.out.keep _ _ HB8A.out (fun h => h)) 1
                          have hdi := mdisp (HM5.out.no (LA.out.trans TC.out)) HS.out HNO.out HSM.out.few HLN.out (few10 HSM.out) hnx (AtZ.some (by have := HL.out; omega : r < cs.length))
                          clear hme hup hyis hcb hbc hcc
                          go_wp2_with fail
                          refine hdi.mono ?_
                          rintro e wd ⟨hdv, hcd⟩
                          obtain ⟨dv, has, rfl, hdhas⟩ := dispAny hdv
                          have HDHAS := hid hdhas
                          have TD := hid (TC.out.trans hcd)
                          have HBD := hid (hcd.keep _ _ HBC.out (fun h => h))
                          have HPD := hid (TD.out.keep _ _ HPA.out (fun h => h))
                          have HB6D := hid (TD.out.keep _ _ HB6A.out (fun h => h))
                          obtain ⟨cb, co, cc', ecs, hcell, _, _⟩ := (HCLS.out.no (HCA.out.trans TD.out)).cell HCQ2.out
                          rw [HL.out] at ecs
                          cases ecs
                          have q1 := hcell.q1
                          have q2 := hcell.q2
                          obtain ⟨fq, hfq⟩ : ∃ fq, cq.face = fq := ⟨_, rfl⟩
                          rw [hfq] at q2
                          have HFQ := hid hfq
                          have p0 := cellAt HPD.out 0
                          have d0 := cellAt HB6D.out 0
                          have u0 := cellAt HBD.out 0
                          clear hdi hdv hdhas hcd hcell hfq hwc d1
                          cases e0 : (cq.sup.toList == c.name.toList) with
                          | false =>
                            go_wp2_with fail
                            go_quiet (fail)
                            go_wp2_with fail
                            go_roundg (len - r - 1)
                            case rel => exact ⟨r + 1, by omega, by omega, by go_num, HCT.out.trans (TD.out.trans (by first | exact (Ch.refl No _).drew | exact (Ch.refl No _).drewN _ | exact Ch.refl No _))⟩
                            case measure => omega
                          | true =>
                            cases fq with
                            | true =>
                              go_wp2_with fail
                              go_quiet (fail)
                              go_wp2_with fail
                              go_roundg (len - r - 1)
                              case rel => exact ⟨r + 1, by omega, by omega, by go_num, HCT.out.trans (TD.out.trans (by first | exact (Ch.refl No _).drew | exact (Ch.refl No _).drewN _ | exact Ch.refl No _))⟩
                              case measure => omega
                            | false =>
                              have hsn : cq.sup = c.name := by rw [streq] at e0; simpa using e0
                              obtain ⟨y, hy1, hy2, hy3⟩ := own_below HOK.out.1 HSM.out.plain HLN.out HOK.out.2 HCS.out HMI.out HX.out HFB.out HSB.out HBB.out HCQ2.out hsn HFQ.out
                              obtain ⟨ey1, ey2⟩ := HYIS.out y hy1
                              obtain ⟨ed1, ed2⟩ := HDHAS.out _ hy2
                              clear hsn hy1 hy2
                              by_cases hyk : y.cls = k
                              · rw [hyk] at ey1 ed1
                                subst ey1 ey2 ed1 ed2
                                clear hy3
                                go_wp2_with fail
                                go_quiet (fail)
                                go_wp2_with fail
                                go_roundg (len - r - 1)
                                case rel => exact ⟨r + 1, by omega, by omega, by go_num, HCT.out.trans (TD.out.trans (by first | exact (Ch.refl No _).drew | exact (Ch.refl No _).drewN _ | exact Ch.refl No _))⟩
                                case measure => omega
                              · have hyr : y.cls = r := hy3.resolve_left hyk
                                rw [hyr] at ey1 ed1 hyk
                                subst ey1 ey2 ed1 ed2
                                clear hy3
                                have hne2 : ¬ (r : Int) = (k : Int) := by omega
                                have hne3 : decide ((r : Int) = (k : Int)) = false := by simp; omega
                                go_wp2_with fail
                                go_quiet (fail)
                                go_wp2_with fail
                                go_roundg (len - r - 1)
                                case rel => exact ⟨r + 1, by omega, by omega, by go_num, HCT.out.trans (TD.out.trans (by first | exact (Ch.refl No _).drew | exact (Ch.refl No _).drewN _ | exact Ch.refl No _))⟩
                                case measure => omega
      · refine absurd ⟨HOK.out.1, goodR HOK.out.1 HLN.out HOK.out.2⟩ hno
    · have haw := awake10 (HT.out.no HC3.out)
      have hz1 : (fa == 0) = false := by simpa using hz0
      go_wp2_with fail
      refine haw.mono ?_
      rintro e w4 ⟨rfl, hc4⟩
      have HC4 := hid (HC3.out.trans hc4)
      clear haw hc4
      go_wp2_with fail
      go_ret
      exact ⟨rfl, HC4.out⟩
end Go.Proofs.YtgjpgfedlgdjhaaGreatDoor
