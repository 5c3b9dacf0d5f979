/- Order of the reference 08: the walk. -/
import Derived.Test.YtkffejgjpnnkmaaDoorHs
set_option linter.unusedVariables false
set_option linter.unusedSimpArgs false
namespace Go.Proofs.YtkffejgjpnnkmaaDoor
open Go.RowKit Go.W

/-- ready, as far as is seen -/
def RdyQ (cs : List Cls) (d : List Nat) (i q : Nat) : Prop := i ∉ d ∧ ∀ j ∈ (upsN cs i).take q, j ∈ d
theorem rdySnoc {cs : List Cls} {d : List Nat} {i q x : Nat} (hx : (upsN cs i)[q]? = some x) : RdyQ cs d i (q + 1) ↔ RdyQ cs d i q ∧ d.contains x = true := by
  unfold RdyQ
  rw [List.take_add_one, hx]
  simp only [List.mem_append, Option.toList_some, List.mem_singleton, List.contains_iff_mem]
  constructor
  · rintro ⟨h1, h2⟩
    exact ⟨⟨h1, fun j hj => h2 j (.inl hj)⟩, h2 x (.inr rfl)⟩
  · rintro ⟨⟨h1, h2⟩, h3⟩
    refine ⟨h1, fun j hj => ?_⟩
    rcases hj with hj | hj
    · exact h2 j hj
    · subst hj; exact h3

set_option maxHeartbeats 8000000 in
theorem rorder {w : World} {pv : Value} {cs : List Cls} (h : ProgAt w pv cs) (hS : SoundP cs) (hno : NoRing cs) (hsm : SmallP cs) :
    Calls Tryd.prog 21 #[pv] w fun e w' => ∃ u, e = .returned u ∧ IntsOwn w' w.heap.size u (ordL cs) ∧ Ch No w w' := by
  have hmk := mkBools cs.length (by have := hsm.1; omega)
  have HS := hid hS
  have HM := hid hsm
  have HR := hid hno
  clear hS hsm hno
  have hp := h
  obtain ⟨cv, m0, m1, m2, m3, m4, m5, m6, m7, m8, rfl, h⟩ := h
  obtain ⟨ao, cap, rfl, hcap, hmax, _, _⟩ := h.row
  rw [List.length_map] at hcap h hp ⊢
  obtain ⟨len, hlen⟩ : ∃ len, cs.length = len := ⟨_, rfl⟩
  rw [hlen] at hcap h hp ⊢
  unfold maxLen at hmax
  obtain ⟨wa, hwa⟩ : ∃ wa, w.alloc (.cells #[.slice ao len cap, m0, m1, m2, m3, m4, m5, m6, m7, m8] 30) = wa := ⟨_, rfl⟩
  have hpb := heap_alloc_new w (.cells #[.slice ao len cap, m0, m1, m2, m3, m4, m5, m6, m7, m8] 30)
  have hch := (Ch.refl No w).alloc (.cells #[.slice ao len cap, m0, m1, m2, m3, m4, m5, m6, m7, m8] 30)
  rw [hwa] at hch hpb
  have HL := hid hlen
  have HP := hid (hp.no hch)
  have HC := hid (h.no hch)
  have HPB := hid hpb
  have HCH := hid hch
  have p0 := cellAt hpb 0
  have p1 := cellAt hpb 1
  have p2 := cellAt hpb 2
  have p3 := cellAt hpb 3
  have p4 := cellAt hpb 4
  have p5 := cellAt hpb 5
  have p6 := cellAt hpb 6
  have p7 := cellAt hpb 7
  have p8 := cellAt hpb 8
  have p9 := cellAt hpb 9
  have hz := lt_size hpb
  clear hlen h hp hpb hch
  have hl20 : len ≤ 20 := by have := HM.out.1; have := HL.out; omega
  rw [HL.out] at hmk
  have hgb : BoolsB (wa.alloc (.cells ((List.replicate len false).map Value.bool).toArray 4)) wa.heap.size (List.replicate len false) := heap_alloc_new wa _
  have hcg := (Ch.refl No wa).alloc (.cells ((List.replicate len false).map Value.bool).toArray 4)
  obtain ⟨wb, hwb⟩ : ∃ wb, wa.alloc (.cells ((List.replicate len false).map Value.bool).toArray 4) = wb := ⟨_, rfl⟩
  rw [hwb] at hgb hcg
  have hmk1 := hmk wa
  rw [hwb] at hmk1
  have HG := hid hgb
  have HCG := hid hcg
  have HZ := hid (lt_size hgb)
  clear hmk hgb hcg
  go_enter Tryd.func21, Tryd.ntmps21
  go_wp2_with fail
  clear hwa hwb hmk1
  go_loopg [3] len (fun g s3 wr => ∃ (m : List Bool) (d : List Nat), len - d.length ≤ g ∧ Hid (OrdSo cs d ∧ FlagsP len m d) ∧ IntsOwn wr wb.heap.size s3 (d.map (fun j : Nat => (j : Int))) ∧ BoolsB wr wa.heap.size m ∧ Ch No wa wr ∧ wb.heap.size ≤ wr.heap.size)
  case atStart => exact ⟨_, [], by simp, hid ⟨.start cs, .start len⟩, IntsOwn.nil _ _, HG.out, HCG.out, Nat.le_refl _⟩
  case round =>
    obtain ⟨m, d, hg, HD, hown, hb, hc, hzr⟩ := hrel
    have hdl := HD.out.1.len
    rw [HL.out] at hdl
    have HOWN := hid hown
    have HB := hid hb
    have HC1 := hid hc
    obtain ⟨ao3, cap3, rfl, hcap3, hmax3, _, _⟩ := hown.at_
    rw [List.length_map] at hcap3 HOWN ⊢
    obtain ⟨nd, hnd⟩ : ∃ nd, d.length = nd := ⟨_, rfl⟩
    rw [hnd] at hcap3 HOWN hdl hg ⊢
    unfold maxLen at hmax3
    have HND := hid hnd
    clear hown hb hc hnd
    cases hd : decide (nd < len) with
    | false =>
      have hkl : ¬ nd < len := by simpa using hd
      go_wp2_with fail
      go_ret
      refine ⟨_, rfl, ?_, HCH.out.trans HC1.out⟩
      unfold ordL
      rw [HD.out.1.stop (by have := HL.out; have := HND.out; omega)]
      exact HOWN.out.base (by have := HZ.out; have := HCG.out.size; omega)
    | true =>
      have hkl : nd < len := by simpa using hd
      go_wp2_with fail
      go_loopg [3, 5] len (fun g s3 s5 wr => ∃ (i : Nat), i ≤ len ∧ len - i ≤ g ∧ s3 = .slice ao3 nd cap3 ∧ s5 = .int .i64 i ∧ Hid (∀ j, j < i → ¬ RdyP cs d j) ∧ IntsOwn wr wb.heap.size (.slice ao3 nd cap3) (d.map (fun j : Nat => (j : Int))) ∧ BoolsB wr wa.heap.size m ∧ Ch No wa wr ∧ wb.heap.size ≤ wr.heap.size)
      case atStart => exact ⟨0, Nat.zero_le _, by omega, rfl, rfl, hid (fun j h => absurd h (Nat.not_lt_zero _)), HOWN.out, HB.out, HC1.out, hzr⟩
      case round =>
        obtain ⟨i, hi, hgi, rfl, rfl, HN, hown, hb, hc, hzr2⟩ := hrel
        cases hdi : decide (i < len) with
        | false =>
          exfalso
          have hil : ¬ i < len := by simpa using hdi
          have := HD.out.1.more HR.out (fun j hj => HN.out j (by have := HL.out; omega))
          have := HL.out
          have := HND.out
          omega
        | true =>
          have hil : i < len := by simpa using hdi
          obtain ⟨c, hcs⟩ : ∃ c, cs[i]? = some c := ⟨_, List.getElem?_eq_getElem (by have := HL.out; omega)⟩
          have hbi := HD.out.2.2 i hil
          have hqi := hb.cell hbi
          have hrt := rright (HP.out.no hc) hcs (by have := HM.out.2 c (List.mem_of_getElem? hcs); omega)
          rw [rightZ_ups hcs (HS.out i c hcs)] at hrt
          obtain ⟨R, Z⟩ := chRules hc
          have hzb := lt_size hb
          obtain ⟨bi, hbie⟩ : ∃ bi, d.contains i = bi := ⟨_, rfl⟩
          rw [hbie] at hqi
          have HBI := hid hbie
          have HO2 := hid hown
          have HB2 := hid hb
          have HC2 := hid hc
          have hz2 := hc.size
          clear hbi hbie hown hb hc hcs
          go_wp2_with fail
          refine hrt.mono ?_
          rintro e w3 ⟨u, rfl, hu, hc3⟩
          obtain ⟨ao2, cap2, rfl, hcap2, hmax2, _, _⟩ := hu.at_
          rw [List.length_map] at hcap2 hu ⊢
          obtain ⟨nu, hnu⟩ : ∃ nu, (upsN cs i).length = nu := ⟨_, rfl⟩
          rw [hnu] at hcap2 hu ⊢
          unfold maxLen at hmax2
          have HNU := hid hnu
          have HU := hid hu
          have HC3 := hid hc3
          clear hrt R Z hu hnu hc3
          go_wp2_with fail
          go_loopg [6, 8] nu (fun g s6 s8 wr => ∃ (q : Nat) (r : Bool) (n : Nat), q ≤ nu ∧ nu - q ≤ g ∧ s6 = .bool r ∧ s8 = .int .i64 q ∧ Hid (r = true ↔ RdyQ cs d i q) ∧ wr = w3.drewN n)
          case atStart =>
            refine ⟨0, _, 0, Nat.zero_le _, by omega, rfl, rfl, hid ?_, rfl⟩
            have := HBI.out
            unfold RdyQ
            rw [← this]
            simp
          case round =>
            obtain ⟨q, r, n, hq, hgq, rfl, rfl, HQ, rfl⟩ := hrel
            cases hdq : decide (q < nu) with
            | false =>
              have hql : ¬ q < nu := by simpa using hdq
              have HRD := hid (show r = true ↔ RdyP cs d i by
                have := HQ.out
                unfold RdyQ at this
                rw [List.take_of_length_le (by have := HNU.out; omega)] at this
                exact this)
              cases r with
              | false =>
                go_wp2_with fail
                go_roundg (len - i - 1)
                case rel =>
                  refine ⟨i + 1, by omega, by omega, rfl, by go_num, hid (fun j hj => ?_), (HO2.out.no HC3.out).no ((Ch.refl _ _).drewN n), (HB2.out.no HC3.out).no ((Ch.refl _ _).drewN n), (HC2.out.trans HC3.out).drewN n, Nat.le_trans hzr2 HC3.out.size⟩
                  by_cases e : j = i
                  · subst e; exact fun h => Bool.noConfusion (HRD.out.2 h)
                  · exact HN.out j (by omega)
                case measure => omega
              | true =>
                have hb3 := (HB2.out.no HC3.out).no ((Ch.refl No w3).drewN n)
                have hq3 := hb3.cell (HD.out.2.2 i hil)
                rw [HBI.out] at hq3
                have hfr := freeAt (show (w3.drewN n).heap[wa.heap.size]? = _ from hb3) i
                have hO3 := (HO2.out.no HC3.out).no ((Ch.refl No w3).drewN n)
                have hO4 : IntsOwn ((w3.drewN n).setCell ⟨wa.heap.size, i, none⟩ (.bool true)) wb.heap.size (.slice ao3 nd cap3) (d.map (fun j : Nat => (j : Int))) :=
                  hO3.ch (S := fun k _ => k = wa.heap.size) ((Ch.refl _ _).setCell (fun o ho => rfl) _) (fun j o hj hbj ho e => by
                    have e' : j = wa.heap.size := e
                    have := HZ.out
                    omega)
                have hB4 := hb3.set i true
                have hC4 : Ch No wa ((w3.drewN n).setCell ⟨wa.heap.size, i, none⟩ (.bool true)) := ((HC2.out.trans HC3.out).drewN n).setNew (Nat.le_refl _) _
                have hz5 : wb.heap.size ≤ w3.heap.size := Nat.le_trans hzr2 HC3.out.size
                have HO4 := hid hO4
                have HB4 := hid hB4
                have HC4 := hid hC4
                clear hb3 hO3 hO4 hB4 hC4
                have hb0 : (d.map (fun j : Nat => (j : Int))).length + [(i : Int)].length ≤ 10000000 := by rw [List.length_map, HND.out, List.length_singleton]; omega
                go_wp2_with (at_builtin; go_must (refine wpAppendI2 rfl _ _ rfl wb.heap.size _ (d.map (fun j : Nat => (j : Int))) [(i : Int)] rfl ?_ (.slice (some ⟨w3.heap.size, 0, none⟩) 1 1) rfl ?_ Nat.zero_lt_one hb0 ?_ ?_))
                · exact HO4.out.alloc _
                · have e : ((w3.drewN n).setCell ⟨wa.heap.size, i, none⟩ (.bool true)).heap.size = w3.heap.size := by simp [World.setCell]
                  rw [← e]
                  exact one_at _ _
                · omega
                intro v4 w4 hown4 hgrow4 _
                have hch4 := grown_ch hgrow4
                have hlt : ∀ j, (Value.slice ao3 nd cap3).ownBlock = some j → wb.heap.size ≤ j := fun j hj => (HO4.out.lt j hj).1
                have hb5 : BoolsB w4 wa.heap.size (m.set i true) := hch4.keep _ _ HB4.out (fun h => by have := hlt _ h; have := HZ.out; omega)
                have hc5 : Ch No wa w4 := HC4.out.trans' hch4 (fun j o ho h => by have := hlt _ h; have := lt_size ho; have := HZ.out; omega)
                have hz6 : wb.heap.size ≤ w4.heap.size := by have := hch4.size; simp [World.setCell] at this; omega
                clear hgrow4 hch4 hlt
                go_wp2_with fail
                go_roundg (len - nd - 1)
                case rel =>
                  have hpk : Gr.pick cs.length (upsN cs) d = some i := pickIs (by have := HL.out; omega) (by have := HRD.out; simpa using this) HN.out
                  refine ⟨m.set i true, d ++ [i], by rw [List.length_append, List.length_singleton, HND.out]; omega, hid ⟨HD.out.1.step hpk, HD.out.2.step i⟩, by simpa using hown4, hb5, hc5, hz6⟩
                case measure => omega
            | true =>
              have hql : q < nu := by simpa using hdq
              obtain ⟨x, hx⟩ : ∃ x, (upsN cs i)[q]? = some x := ⟨_, List.getElem?_eq_getElem (by have := HNU.out; omega)⟩
              have hxl : x < len := by have := upsN_lt cs i x (List.mem_of_getElem? hx); have := HL.out; omega
              have hb3 := (HB2.out.no HC3.out).no ((Ch.refl No w3).drewN n)
              have hqx := hb3.cell (HD.out.2.2 x hxl)
              obtain ⟨b2, off2, hao, hqc⟩ := intsCell (HU.out.at_.no ((Ch.refl No w3).drewN n)) (show ((upsN cs i).map (fun j : Nat => (j : Int)))[q]? = some (x : Int) by rw [List.getElem?_map, hx]; rfl)
              subst hao
              obtain ⟨bx, hbx⟩ : ∃ bx, d.contains x = bx := ⟨_, rfl⟩
              rw [hbx] at hqx
              have HX := hid hx
              have HBX := hid hbx
              clear hx hbx hb3
              cases r with
              | true =>
                go_wp2_with fail
                go_roundg (nu - q - 1)
                case rel =>
                  refine ⟨q + 1, bx, _, by omega, by omega, rfl, by go_num, hid ?_, rfl⟩
                  rw [rdySnoc HX.out, HBX.out]
                  have := HQ.out
                  exact ⟨fun h => ⟨by simpa using this, h⟩, fun h => h.2⟩
                case measure => omega
              | false =>
                go_wp2_with fail
                go_roundg (nu - q - 1)
                case rel =>
                  refine ⟨q + 1, false, _, by omega, by omega, rfl, by go_num, hid ?_, rfl⟩
                  rw [rdySnoc HX.out]
                  have := HQ.out
                  exact ⟨fun h => Bool.noConfusion h, fun h => this.2 h.1⟩
                case measure => omega
end Go.Proofs.YtkffejgjpnnkmaaDoor
