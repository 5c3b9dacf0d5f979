/- HierOrder: the law. -/
import Derived.Test.YtkffejgjpnnkmaaDoorHze
import Derived.BigQuiet
set_option linter.unusedVariables false
set_option linter.unusedSimpArgs false
namespace Go.Proofs.YtkffejgjpnnkmaaDoor
open Go.RowKit Go.W

theorem ordTake {n : Nat} {up : Nat → List Nat} {l : List Nat} (h : Gr.Ord n up l) : ∀ k, Gr.Ord n up (l.take k) := by
  induction h with
  | nil => intro k; rw [List.take_nil]; exact .nil
  | @snoc l i h h1 h2 h3 ih =>
    intro k
    by_cases hk : k ≤ l.length
    · rw [List.take_append_of_le_length hk]; exact ih k
    · rw [List.take_of_length_le (by simp; omega)]
      exact .snoc h h1 h2 h3
/-- the order's place i: a class that does not stand before it, and all above it do -/
theorem ordPlace {cs : List Cls} {d : List Nat} (hO : Gr.Ord cs.length (upsN cs) d) {i x : Nat} (hx : d[i]? = some x) :
    x < cs.length ∧ x ∉ d.take i ∧ ∀ y, Gr.Reach (upsN cs) x y → y ∈ d.take i := by
  have h1 := ordTake hO (i + 1)
  rw [List.take_add_one, hx] at h1
  have key : ∀ l, Gr.Ord cs.length (upsN cs) l → l = d.take i ++ (some x).toList → x < cs.length ∧ x ∉ d.take i ∧ ∀ j ∈ upsN cs x, j ∈ d.take i := by
    intro l hl e
    cases hl with
    | nil => simp at e
    | @snoc l2 j a1 a2 a3 a4 =>
      have e2 : l2 ++ [j] = d.take i ++ [x] := e
      obtain ⟨e3, e4⟩ := List.append_inj' e2 rfl
      have e5 : j = x := by simpa using e4
      subst e3; subst e5
      exact ⟨a2, a3, a4⟩
  obtain ⟨k1, k2, k3⟩ := key _ h1 rfl
  refine ⟨k1, k2, fun y hy => ?_⟩
  cases hy with
  | one h => exact k3 _ h
  | step h h' => exact (ordTake hO i).reach (k3 _ h) h'

theorem ordOrd (cs : List Cls) : Gr.Ord cs.length (upsN cs) (ordN cs) := Gr.order_ord _ _ .nil
theorem ordLen {cs : List Cls} (h : FaultAt cs none) : (ordN cs).length = cs.length := by
  have h1 := ordAll h
  have h2 := Gr.nodup_len (ordOrd cs).nodup (ordOrd cs).lt
  have h3 := Gr.nodup_sub (List.range cs.length) (ordN cs) List.nodup_range (fun x hx => h1 x (by simpa using hx))
  rw [List.length_range] at h3
  omega
theorem abUp {cs : List Cls} {x : Nat} {z : Int} (hz : z ∈ abL cs [(x : Int)] cs.length) : ∃ y : Nat, z = y ∧ y < cs.length ∧ (y = x ∨ Gr.Reach (upsN cs) x y) := by
  obtain ⟨k, e, hk, u, hu, h⟩ := mem_abL.1 hz
  have hu' : u = (x : Int) := by simpa using hu
  subst hu'
  refine ⟨k, e, hk, ?_⟩
  rcases h.2.2 with h | h
  · exact .inl (by omega)
  · exact .inr (by simpa using h)

set_option maxRecDepth 100000 in
set_option maxHeartbeats 16000000 in
theorem law_horder {w : World} {pv : Value} {cs : List Cls} (hT : Tab w) (h : ProgAt w pv cs) (hsz : SzP cs) :
    Calls Tryd.prog 4 #[pv] w fun e w' => e = .returned (.bool true) ∧ Ch No w w' := by
  have HT0 := hid hT
  have HSZ := hid hsz
  clear hT hsz
  have hp := h
  obtain ⟨cv, m0, m1, m2, m3, m4, m5, m6, m7, m8, rfl, h⟩ := h
  obtain ⟨ao, cap, rfl, hcap, hmax, _, _⟩ := h.row
  rw [List.length_map] at hcap h hp ⊢
  obtain ⟨len, hlen⟩ : ∃ len, cs.length = len := ⟨_, rfl⟩
  rw [hlen] at hcap h hp ⊢
  unfold maxLen at hmax
  obtain ⟨wa, hwa⟩ : ∃ wa, w.alloc (.cells #[.slice ao len cap, m0, m1, m2, m3, m4, m5, m6, m7, m8] 30) = wa := ⟨_, rfl⟩
  have hpb := heap_alloc_new w (.cells #[.slice ao len cap, m0, m1, m2, m3, m4, m5, m6, m7, m8] 30)
  have hch := (Ch.refl No w).alloc (.cells #[.slice ao len cap, m0, m1, m2, m3, m4, m5, m6, m7, m8] 30)
  rw [hwa] at hch hpb
  have HL := hid hlen
  have HP := hid (hp.no hch)
  have HC := hid (h.no hch)
  have HPB := hid hpb
  have HCH := hid hch
  have p0 := cellAt hpb 0
  have p1 := cellAt hpb 1
  have p2 := cellAt hpb 2
  have p3 := cellAt hpb 3
  have p4 := cellAt hpb 4
  have p5 := cellAt hpb 5
  have p6 := cellAt hpb 6
  have p7 := cellAt hpb 7
  have p8 := cellAt hpb 8
  have p9 := cellAt hpb 9
  have hz := lt_size hpb
  clear hlen h hp hpb hch
  have HT := hid (HT0.out.no HCH.out)
  have haw := awake08 HT.out
  go_enter Tryd.func4, Tryd.ntmps4
  go_wp2_with fail
  refine haw.mono ?_
  rintro e w1 ⟨rfl, hc1⟩
  have hp1 := hc1.keep _ _ HPB.out (fun h => h)
  clear p0 p1 p2 p3 p4 p5 p6 p7 p8 p9 haw hwa
  have p0 := cellAt hp1 0
  have p1 := cellAt hp1 1
  have p2 := cellAt hp1 2
  have p3 := cellAt hp1 3
  have p4 := cellAt hp1 4
  have p5 := cellAt hp1 5
  have p6 := cellAt hp1 6
  have p7 := cellAt hp1 7
  have p8 := cellAt hp1 8
  have p9 := cellAt hp1 9
  have hsm := rsmall (HP.out.no hc1)
  have HP1 := hid hp1
  have HC1 := hid hc1
  clear hp1 hc1
  go_wp2_with fail
  refine hsm.mono ?_
  rintro e w2 ⟨⟨r, rfl, hr⟩, hc2⟩
  have hp2 := hc2.keep _ _ HP1.out (fun h => h)
  clear p0 p1 p2 p3 p4 p5 p6 p7 p8 p9 hsm
  have p0 := cellAt hp2 0
  have p1 := cellAt hp2 1
  have p2 := cellAt hp2 2
  have p3 := cellAt hp2 3
  have p4 := cellAt hp2 4
  have p5 := cellAt hp2 5
  have p6 := cellAt hp2 6
  have p7 := cellAt hp2 7
  have p8 := cellAt hp2 8
  have p9 := cellAt hp2 9
  have HP2 := hid hp2
  have HC2 := hid (HC1.out.trans hc2)
  have HR := hid hr
  clear hp2 hc2 hr
  cases r with
  | false =>
    have haw := awake08 (HT.out.no HC2.out)
    go_wp2_with fail
    refine haw.mono ?_
    rintro e w3 ⟨rfl, hc3⟩
    go_wp2_with fail
    go_ret
    exact ⟨rfl, HCH.out.trans (HC2.out.trans hc3)⟩
  | true =>
    have hsmall : SmallP cs := HR.out.1 rfl
    have hnw := hnew (HP.out.no HC2.out) (HT.out.no HC2.out) HSZ.out hsmall
    have HSM := hid hsmall
    have hl20 : len ≤ 20 := by have := hsmall.1; have := HL.out; omega
    clear hsmall
    go_wp2_with fail
    refine hnw.mono ?_
    rintro e w3 ⟨o, hf, hc3, hout⟩
    have HC3 := hid (HC2.out.trans hc3)
    have HF := hid hf
    have hp3 := hc3.keep _ _ HP2.out (fun h => h)
    have HP3 := hid hp3
    clear p0 p1 p2 p3 p4 p5 p6 p7 p8 p9 hnw hf hc3 hp3
    rcases faultIs HF.out with ⟨rfl, hfc⟩ | ⟨i, l, c, rfl, hfc⟩
    · obtain ⟨tv, rfl, htv⟩ := hout
      have htv0 := htv
      obtain ⟨tb, T, rfl, _⟩ := htv
      have hca := (Ch.refl No w3).alloc (.cells #[.int .i64 0, .int .i64 0, .int .i64 0] 36)
      have hba := heap_alloc_new w3 (.cells #[.int .i64 0, .int .i64 0, .int .i64 0] 36)
      have hsz : (w3.alloc (.cells #[.int .i64 0, .int .i64 0, .int .i64 0] 36)).heap.size = w3.heap.size + 1 := by simp
      have hp4 := hca.keep _ _ HP3.out (fun h => h)
      have p0 := cellAt hp4 0
      have p1 := cellAt hp4 1
      have p2 := cellAt hp4 2
      have p3 := cellAt hp4 3
      have p4 := cellAt hp4 4
      have p5 := cellAt hp4 5
      have p6 := cellAt hp4 6
      have p7 := cellAt hp4 7
      have p8 := cellAt hp4 8
      have p9 := cellAt hp4 9
      have g0 := cellAt hba 0
      have g1 := cellAt hba 1
      have g2 := cellAt hba 2
      have HTV := hid (htv0.no hca)
      have HCF := hid (HC3.out.trans hca)
      have hmk := mkBools len (by omega) (w3.alloc (.cells #[.int .i64 0, .int .i64 0, .int .i64 0] 36))
      have hgb : BoolsB ((w3.alloc (.cells #[.int .i64 0, .int .i64 0, .int .i64 0] 36)).alloc (.cells ((List.replicate len false).map Value.bool).toArray 4)) (w3.heap.size + 1) (List.replicate len false) := by rw [← hsz]; exact heap_alloc_new _ _
      have hcg := (Ch.refl No (w3.alloc (.cells #[.int .i64 0, .int .i64 0, .int .i64 0] 36))).alloc (.cells ((List.replicate len false).map Value.bool).toArray 4)
      obtain ⟨wb, hwb⟩ : ∃ wb, (w3.alloc (.cells #[.int .i64 0, .int .i64 0, .int .i64 0] 36)).alloc (.cells ((List.replicate len false).map Value.bool).toArray 4) = wb := ⟨_, rfl⟩
      rw [hwb] at hgb hcg hmk
      rw [hsz] at hmk
      have HG := hid hgb
      have HCG := hid hcg
      have HZ := hid (lt_size hgb)
      have hor := tOrder (HTV.out.no hcg) (by have := HL.out; omega)
      clear hfc hca hba hp4 htv0 hgb hcg hsz
      unfold faultV
      go_wp2_with fail
      refine hor.mono ?_
      rintro e w5 ⟨u, rfl, hu, hc5⟩
      obtain ⟨ao, cap, rfl, hcapo, hmaxo, _, _⟩ := hu.at_
      obtain ⟨no, hno⟩ : ∃ no, (ordL cs).length = no := ⟨_, rfl⟩
      rw [hno] at hcapo hu ⊢
      unfold maxLen at hmaxo
      have hnl : (ordN cs).length = len := by rw [ordLen HF.out]; exact HL.out
      have hnn : no = len := by unfold ordL at hno; rw [List.length_map] at hno; omega
      have HU := hid hu
      have HC5 := hid hc5
      have HNO := hid hno
      have HNL := hid hnl
      clear hor hu hc5 hno hnl hwb hmk p0 p1 p2 p3 p4 p5 p6 p7 p8 p9 g0 g1 g2
      obtain ⟨wf, hwf⟩ : ∃ wf, w3.alloc (.cells #[.int .i64 0, .int .i64 0, .int .i64 0] 36) = wf := ⟨_, rfl⟩
      obtain ⟨gb, hgb⟩ : ∃ gb, w3.heap.size + 1 = gb := ⟨_, rfl⟩
      have hwz : wf.heap.size = gb := by rw [← hwf, ← hgb]; simp
      rw [hwf] at HTV HCF HCG
      rw [hgb] at HG HZ ⊢
      clear hwf hgb
      subst hnn
      go_wp2_with fail
      go_loopg [7] no (fun g s7 wr => ∃ (i : Nat) (m : List Bool), i ≤ no ∧ no - i ≤ g ∧ s7 = .int .i64 i ∧ Hid (FlagsP no m ((ordN cs).take i)) ∧ IntsOwn wr wb.heap.size (.slice ao no cap) (ordL cs) ∧ BoolsB wr gb m ∧ Ch No wf wr)
      case atStart => exact ⟨0, _, Nat.zero_le _, by omega, rfl, hid (FlagsP.start no), HU.out, HG.out.no HC5.out, HCG.out.trans HC5.out⟩
      case round =>
        obtain ⟨i, m, hi, hgi, rfl, HFL, hown, hb, hc⟩ := hrel
        cases hd : decide (i < no) with
        | false =>
          have hil : ¬ i < no := by simpa using hd
          go_wp2_with fail
          go_ret
          exact ⟨rfl, HCH.out.trans (HCF.out.trans hc)⟩
        | true =>
          have hil : i < no := by simpa using hd
          obtain ⟨x, hx⟩ : ∃ x, (ordN cs)[i]? = some x := ⟨_, List.getElem?_eq_getElem (by have := HNL.out; omega)⟩
          obtain ⟨x1, x2, x3⟩ := ordPlace (ordOrd cs) hx
          obtain ⟨b2, off2, hao, hqc⟩ := intsCell hown.at_ (show (ordL cs)[i]? = some (x : Int) by unfold ordL; rw [List.getElem?_map, hx]; rfl)
          subst hao
          have hxl : x < no := by have := HL.out; omega
          have hq := hb.cell (HFL.out.2 x hxl)
          rw [show ((ordN cs).take i).contains x = false by simpa using x2] at hq
          have hab := tAbove (is := [(x : Int)]) ((HT.out.no HCF.out).no (hc.alloc (.cells #[.int .i64 x] 3))) (HTV.out.no (hc.alloc (.cells #[.int .i64 x] 3))) HF.out (by have := HL.out; omega) (one_at wr (x : Int))
          have y0 : decide ((x : Int) < 0) = false := by simp
          have y1 : decide ((no : Int) ≤ (x : Int)) = false := by simp; omega
          have HX := hid hx
          have HX3 := hid x3
          have HOWN := hid hown
          have HB := hid hb
          have HC6 := hid hc
          clear hx x1 x2 x3 hown hb hc
          go_wp2_with fail
          refine hab.mono ?_
          rintro e w6 ⟨u, rfl, hu, hc6⟩
          obtain ⟨a8, cap8, rfl, hcap8, hmax8, _, _⟩ := hu.at_
          obtain ⟨nu, hnu⟩ : ∃ nu, (abL cs [(x : Int)] cs.length).length = nu := ⟨_, rfl⟩
          rw [hnu] at hcap8 hu ⊢
          unfold maxLen at hmax8
          have HNU := hid hnu
          have HU8 := hid hu.at_
          have HC7 := hid ((((Ch.refl No wr).alloc (.cells #[.int .i64 x] 3))).trans hc6)
          clear hab hu hnu hc6 hqc hq
          go_wp2_with fail
          go_loopg [9] nu (fun g s9 wr' => ∃ (q n : Nat), q ≤ nu ∧ nu - q ≤ g ∧ s9 = .int .i64 q ∧ wr' = w6.drewN n)
          case atStart => exact ⟨0, 0, Nat.zero_le _, by omega, rfl, rfl⟩
          case round =>
            obtain ⟨q, n, hq, hgq, rfl, rfl⟩ := hrel
            have hB := (HB.out.no HC7.out).no ((Ch.refl No w6).drewN n)
            have hO := (HOWN.out.no HC7.out).no ((Ch.refl No w6).drewN n)
            obtain ⟨b3, off3, hao3, hqc⟩ := intsCell hO.at_ (show (ordL cs)[i]? = some (x : Int) by unfold ordL; rw [List.getElem?_map, HX.out]; rfl)
            cases hao3
            cases hdq : decide (q < nu) with
            | false =>
              have hql : ¬ q < nu := by simpa using hdq
              have hqb := hB.cell (HFL.out.2 x hxl)
              have hfr := freeAt (show (w6.drewN n).heap[gb]? = _ from hB) x
              have hO2 : IntsOwn ((w6.drewN n).setCell ⟨gb, x, none⟩ (.bool true)) wb.heap.size (.slice (some ⟨b2, off2, none⟩) no cap) (ordL cs) :=
                hO.ch (S := fun k _ => k = gb) ((Ch.refl _ _).setCell (fun o ho => rfl) _) (fun j o hj hbj ho e => by
                  have e' : j = gb := e
                  have := HZ.out
                  omega)
              have HO2 := hid hO2
              have HB2 := hid (hB.set x true)
              have HC8 := hid (show Ch No wf ((w6.drewN n).setCell ⟨gb, x, none⟩ (.bool true)) from ((HC6.out.trans HC7.out).drewN n).setNew (Nat.le_of_eq hwz) _)
              clear hB hO hO2
              go_wp2_with fail
              go_roundg (no - i - 1)
              case rel =>
                refine ⟨i + 1, m.set x true, by omega, by omega, by go_num, hid ?_, HO2.out, HB2.out, HC8.out⟩
                have h1 := HFL.out.step x
                rw [List.take_add_one, HX.out]
                exact h1
              case measure => omega
            | true =>
              have hql : q < nu := by simpa using hdq
              obtain ⟨z, hz⟩ : ∃ z, (abL cs [(x : Int)] cs.length)[q]? = some z := ⟨_, List.getElem?_eq_getElem (by have := HNU.out; omega)⟩
              obtain ⟨y, rfl, hyl, hy⟩ := abUp (List.mem_of_getElem? hz)
              obtain ⟨b4, off4, hao4, hqz⟩ := intsCell HU8.out hz
              subst hao4
              have hyn : y < no := by have := HL.out; omega
              have hqy := (HB.out.no HC7.out).cell (HFL.out.2 y (by have := HL.out; omega))
              have hqw : w6.cell? ⟨b2, off2 + i, none⟩ = some (.int .i64 (x : Int)) := by simpa using hqc
              obtain ⟨by1, hby⟩ : ∃ by1, ((ordN cs).take i).contains y = by1 := ⟨_, rfl⟩
              rw [hby] at hqy
              have hyy : ¬ y = x → by1 = true := fun hne => by
                rw [← hby]
                rcases hy with h | h
                · exact absurd h hne
                · simpa using HX3.out y h
              have HY := hid hyy
              clear hz hy hby hyy hB hO
              cases hne : decide (y = x) with
              | true =>
                obtain rfl : y = x := by simpa using hne
                clear hne
                go_wp2_with fail
                go_quiet (fail)
                go_wp2_with fail
                go_roundg (nu - q - 1)
                case rel => exact ⟨q + 1, _, by omega, by omega, by go_num, rfl⟩
                case measure => omega
              | false =>
                have hne' : ¬ y = x := by simpa using hne
                have hne2 : ¬ (y : Int) = (x : Int) := by omega
                have hne3 : decide ((y : Int) = (x : Int)) = false := by simp; omega
                obtain rfl := HY.out (by omega)
                go_wp2_with fail
                go_quiet (fail)
                go_wp2_with fail
                go_roundg (nu - q - 1)
                case rel => exact ⟨q + 1, _, by omega, by omega, by go_num, rfl⟩
                case measure => omega
    · have he : e = .returned (.tuple #[.pointer none, faultV (faultC cs (some i))]) := hout
      rw [hfc] at he
      subst he
      have hca := (Ch.refl No w3).alloc (.cells #[.int .i64 11, .int .i64 l, .int .i64 c] 36)
      have hba := heap_alloc_new w3 (.cells #[.int .i64 11, .int .i64 l, .int .i64 c] 36)
      obtain ⟨wf, hwf⟩ : ∃ wf, w3.alloc (.cells #[.int .i64 11, .int .i64 l, .int .i64 c] 36) = wf := ⟨_, rfl⟩
      rw [hwf] at hca hba
      have g0 := cellAt hba 0
      have g1 := cellAt hba 1
      have g2 := cellAt hba 2
      have HCF := hid (HC3.out.trans hca)
      clear hfc hca hba hout
      unfold faultV
      go_wp2_with fail
      go_ret
      exact ⟨rfl, HCH.out.trans HCF.out⟩
end Go.Proofs.YtkffejgjpnnkmaaDoor
