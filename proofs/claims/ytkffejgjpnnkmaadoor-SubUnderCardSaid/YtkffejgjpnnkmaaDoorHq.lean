/- Fault of the reference 08. -/
import Derived.Test.YtkffejgjpnnkmaaDoorHo
set_option linter.unusedVariables false
set_option linter.unusedSimpArgs false
namespace Go.Proofs.YtkffejgjpnnkmaaDoor
open Go.RowKit Go.W

/-- class i is right, but that it may be above itself -/
def okI (cs : List Cls) (i : Nat) : Prop := ∀ c, cs[i]? = some c → okC cs i c
/-- the first fault's class -/
def FaultAt (cs : List Cls) : Option Nat → Prop
  | some i => i < cs.length ∧ (¬ okI cs i ∧ (∀ j, j < i → okI cs j) ∨ SoundP cs ∧ Gr.Reach (upsN cs) i i ∧ ∀ j, j < i → ¬ Gr.Reach (upsN cs) j j)
  | none => SoundP cs ∧ ∀ i, i < cs.length → ¬ Gr.Reach (upsN cs) i i
theorem SoundP.ok {cs : List Cls} (h : SoundP cs) (i : Nat) : okI cs i := fun c hc => h i c hc
theorem soundOf {cs : List Cls} (h : ∀ i, i < cs.length → okI cs i) : SoundP cs := fun i c hc => h i (List.getElem?_eq_some_iff.1 hc).1 c hc
theorem FaultAt.uniq {cs : List Cls} {a b : Option Nat} (h : FaultAt cs a) (h' : FaultAt cs b) : a = b := by
  cases a with
  | none => cases b with
    | none => rfl
    | some j =>
      exfalso
      rcases h'.2 with ⟨h1, _⟩ | ⟨_, h1, _⟩
      · exact h1 (h.1.ok j)
      · exact h.2 j h'.1 h1
  | some i => cases b with
    | none =>
      exfalso
      rcases h.2 with ⟨h1, _⟩ | ⟨_, h1, _⟩
      · exact h1 (h'.1.ok i)
      · exact h'.2 i h.1 h1
    | some j =>
      congr 1
      rcases Nat.lt_trichotomy i j with hij | hij | hij
      · exfalso
        rcases h.2 with ⟨h1, _⟩ | ⟨hs, h1, _⟩ <;> rcases h'.2 with ⟨g1, g2⟩ | ⟨gs, g1, g2⟩
        · exact h1 (g2 i hij)
        · exact h1 (gs.ok i)
        · exact g1 (hs.ok j)
        · exact g2 i hij h1
      · exact hij
      · exfalso
        rcases h.2 with ⟨h1, h2⟩ | ⟨hs, h1, h2⟩ <;> rcases h'.2 with ⟨g1, g2⟩ | ⟨gs, g1, g2⟩
        · exact g1 (h2 j hij)
        · exact h1 (gs.ok i)
        · exact g1 (hs.ok j)
        · exact h2 j hij g1
/-- a fault, as a value -/
def faultC (cs : List Cls) (o : Option Nat) : Int × Int × Int := match o with
  | some i => match cs[i]? with
    | some c => (11, c.line, c.col)
    | none => (11, 0, 0)
  | none => (0, 0, 0)
theorem faultSome {cs : List Cls} {i : Nat} {c : Cls} (h : cs[i]? = some c) : faultC cs (some i) = (11, c.line, c.col) := by simp [faultC, h]
def faultV (f : Int × Int × Int) : Value := .agg #[.int .i64 f.1, .int .i64 f.2.1, .int .i64 f.2.2]
def FaultOut (cs : List Cls) (w : World) (e : Ending) (w' : World) : Prop := ∃ o, FaultAt cs o ∧ e = .returned (faultV (faultC cs o)) ∧ Ch No w w'
theorem FaultOut.mk {cs : List Cls} {w w' : World} {a b c : Int} (o : Option Nat) (ho : FaultAt cs o) (he : faultC cs o = (a, b, c)) (hc : Ch No w w') : FaultOut cs w (.returned (.agg #[.int .i64 a, .int .i64 b, .int .i64 c])) w' :=
  ⟨o, ho, by rw [he]; rfl, hc⟩

theorem rsound {w : World} {pv : Value} {cs : List Cls} (h : ProgAt w pv cs) {i : Nat} {c : Cls} (hi : cs[i]? = some c) (hl : c.faces.length ≤ 1000) :
    Calls Tryd.prog 50 #[pv, .int .i64 i] w fun e w' => (okI cs i ∧ e = .returned (.bool true) ∨ ¬ okI cs i ∧ e = .returned (.bool false)) ∧ Ch No w w' := by
  refine (rsound_own h hi hl).mono fun e w' ⟨⟨r, he, hr⟩, hc⟩ => ⟨?_, hc⟩
  have key : okI cs i ↔ okC cs i c := ⟨fun h => h c hi, fun h d hd => by rw [hi] at hd; cases hd; exact h⟩
  cases r with
  | true => exact .inl ⟨key.2 (hr.1 rfl), he⟩
  | false => exact .inr ⟨fun h => Bool.noConfusion (hr.2 (key.1 h)), he⟩

/-- a struct of three cells, stored whole -/
theorem put3 {w : World} {b : Nat} {x0 x1 x2 : Value} {t : TypeId} (h : w.heap[b]? = some (.cells #[x0, x1, x2] t (0, 0))) (v0 v1 v2 : Value) :
    ∃ wf, ((w.setCell ⟨b, 0, none⟩ v0).setCell ⟨b, 1, none⟩ v1).setCell ⟨b, 2, none⟩ v2 = wf ∧ wf.heap[b]? = some (.cells #[v0, v1, v2] t (0, 0)) ∧ Ch (fun k _ => k = b) w wf := by
  refine ⟨_, rfl, ?_, (((Ch.refl _ _).setCell (fun _ _ => rfl) _).setCell (fun _ _ => rfl) _).setCell (fun _ _ => rfl) _⟩
  rw [setCell_heap (setCell_heap (setCell_heap h 0 v0) 1 v1) 2 v2]
  rfl

set_option maxHeartbeats 8000000 in
theorem rfault {w : World} {pv : Value} {cs : List Cls} (h : ProgAt w pv cs) (hsm : SmallP cs) :
    Calls Tryd.prog 15 #[pv] w (FaultOut cs w) := by
  have HM := hid hsm
  clear hsm
  have hp := h
  obtain ⟨cv, m0, m1, m2, m3, m4, m5, m6, m7, m8, rfl, h⟩ := h
  obtain ⟨ao, cap, rfl, hcap, hmax, _, _⟩ := h.row
  rw [List.length_map] at hcap h hp ⊢
  obtain ⟨len, hlen⟩ : ∃ len, cs.length = len := ⟨_, rfl⟩
  rw [hlen] at hcap h hp ⊢
  unfold maxLen at hmax
  obtain ⟨wa, hwa⟩ : ∃ wa, w.alloc (.cells #[.slice ao len cap, m0, m1, m2, m3, m4, m5, m6, m7, m8] 30) = wa := ⟨_, rfl⟩
  have hpb := heap_alloc_new w (.cells #[.slice ao len cap, m0, m1, m2, m3, m4, m5, m6, m7, m8] 30)
  have hch := (Ch.refl No w).alloc (.cells #[.slice ao len cap, m0, m1, m2, m3, m4, m5, m6, m7, m8] 30)
  rw [hwa] at hch hpb
  have HL := hid hlen
  have HP := hid (hp.no hch)
  have HC := hid (h.no hch)
  have HPB := hid hpb
  have HCH := hid hch
  have p0 := cellAt hpb 0
  have p1 := cellAt hpb 1
  have p2 := cellAt hpb 2
  have p3 := cellAt hpb 3
  have p4 := cellAt hpb 4
  have p5 := cellAt hpb 5
  have p6 := cellAt hpb 6
  have p7 := cellAt hpb 7
  have p8 := cellAt hpb 8
  have p9 := cellAt hpb 9
  have hz := lt_size hpb
  clear hlen h hp hpb hch
  have hl20 : len ≤ 20 := by have := HM.out.1; have := HL.out; omega
  have hrb := heap_alloc_new wa (.cells #[.int .i64 0, .int .i64 0, .int .i64 0] 36)
  have hcr := (Ch.refl No wa).alloc (.cells #[.int .i64 0, .int .i64 0, .int .i64 0] 36)
  obtain ⟨wb, hwb⟩ : ∃ wb, wa.alloc (.cells #[.int .i64 0, .int .i64 0, .int .i64 0] 36) = wb := ⟨_, rfl⟩
  rw [hwb] at hrb hcr
  have HRB := hid hrb
  have HCR := hid hcr
  have z1 := lt_size hrb
  have z2 : w.heap.size < wb.heap.size := by omega
  obtain ⟨R0, _⟩ := chRules hcr
  have g0 := cellAt hrb 0
  have g1 := cellAt hrb 1
  have g2 := cellAt hrb 2
  have f0 := freeAt hrb 0
  have f1 := freeAt hrb 1
  have f2 := freeAt hrb 2
  rw [← R0 _ _ hz] at p0 p1 p2 p3 p4 p5 p6 p7 p8 p9
  clear hrb hcr R0
  go_enter Tryd.func15, Tryd.ntmps15
  go_wp2_with fail
  clear hwa hwb
  go_loopg [3] len (fun g s3 wr => ∃ (k : Nat), k ≤ len ∧ len - k ≤ g ∧ s3 = .int .i64 k ∧ Hid (∀ j, j < k → okI cs j) ∧ Ch No wb wr)
  case atStart => exact ⟨0, Nat.zero_le _, by omega, rfl, hid (fun j h => absurd h (Nat.not_lt_zero _)), Ch.refl _ _⟩
  case round =>
    obtain ⟨k, hk, hg, rfl, HI, hc⟩ := hrel
    obtain ⟨R, Z⟩ := chRules hc
    have FR := chFroz hc
    cases hd : decide (k < len) with
    | true =>
      have hkl : k < len := by simpa using hd
      obtain ⟨c, hcs⟩ : ∃ c, cs[k]? = some c := ⟨_, List.getElem?_eq_getElem (by have := HL.out; omega)⟩
      have hso := rsound (HP.out.no (HCR.out.trans hc)) hcs (by have := HM.out.2 c (List.mem_of_getElem? hcs); omega)
      have HCS := hid hcs
      have HC1 := hid hc
      clear hc hcs
      go_wp2_with fail
      refine hso.mono ?_
      rintro e w3 ⟨⟨hok, rfl⟩ | ⟨hok, rfl⟩, hc3⟩
      · have HOK := hid hok
        have HC3 := hid hc3
        clear hso hok hc3
        go_wp2_with fail
        go_roundg (len - k - 1)
        case rel =>
          refine ⟨k + 1, by omega, by omega, by go_num, hid fun j hj => ?_, HC1.out.trans HC3.out⟩
          by_cases e : j = k
          · subst e; exact HOK.out
          · exact HI.out j (by omega)
        case measure => omega
      · have HOK := hid hok
        have hc4 := HC1.out.trans hc3
        have HC4 := hid hc4
        obtain ⟨R4, Z4⟩ := chRules hc4
        have F4 := chFroz hc4
        obtain ⟨cb, co, cc, ecs, hcell, _, _⟩ := (HC.out.no (HCR.out.trans hc4)).cell HCS.out
        rw [HL.out] at ecs
        cases ecs
        have q8 := hcell.q8
        have q9 := hcell.q9
        clear hso hok hc3 hc4 R Z FR hcell
        go_wp2_with fail
        go_region
        go_wp2_with fail
        obtain ⟨wf, hwf, hfb, hfc⟩ := put3 (HC4.out.keep _ _ HRB.out (fun h => h)) (.int .i64 11) (.int .i64 c.line) (.int .i64 c.col)
        rw [hwf]
        have k0 := cellAt hfb 0
        have k1 := cellAt hfb 1
        have k2 := cellAt hfb 2
        refine bodyPost_ret (v := faultV (11, c.line, c.col)) (by simp [results, Tryd.results15, go_sem, faultV, k0, k1, k2]) rfl ?_
        refine FaultOut.mk (some k) ⟨by have := HL.out; omega, .inl ⟨HOK.out, HI.out⟩⟩ (faultSome HCS.out) ?_
        exact ((HCH.out.trans (HCR.out.trans HC4.out)).trans' hfc (fun j o ho e => by have e' : j = wa.heap.size := e; have := lt_size ho; omega)).drew
    | false =>
      have hkl : ¬ k < len := by simpa using hd
      have HSP := hid (soundOf (cs := cs) (fun j hj => HI.out j (by have := HL.out; omega)))
      have HC1 := hid hc
      clear hc HI
      go_wp2_with fail
      go_loopg [4] len (fun g s4 wr => ∃ (k : Nat), k ≤ len ∧ len - k ≤ g ∧ s4 = .int .i64 k ∧ Hid (∀ j, j < k → ¬ Gr.Reach (upsN cs) j j) ∧ Ch No wb wr)
      case atStart => exact ⟨0, Nat.zero_le _, by omega, rfl, hid (fun j h => absurd h (Nat.not_lt_zero _)), HC1.out⟩
      case round =>
        obtain ⟨k2, hk2, hg2, rfl, HI, hc⟩ := hrel
        obtain ⟨R2, Z2⟩ := chRules hc
        have FR2 := chFroz hc
        clear R Z FR
        cases hd2 : decide (k2 < len) with
        | true =>
          have hkl2 : k2 < len := by simpa using hd2
          obtain ⟨c, hcs⟩ : ∃ c, cs[k2]? = some c := ⟨_, List.getElem?_eq_getElem (by have := HL.out; omega)⟩
          have hso := rmarks (HP.out.no (HCR.out.trans hc)) HSP.out HM.out (i := k2) (by have := HL.out; omega)
          have HCS := hid hcs
          have HC2 := hid hc
          clear hc hcs
          go_wp2_with fail
          refine hso.mono ?_
          rintro e w3 ⟨g3, m3', rfl, hb3, hg3, hm3, hc3⟩
          rw [HL.out]
          obtain ⟨bk, hbk⟩ : ∃ bk, m3'[k2]? = some bk := ⟨_, List.getElem?_eq_getElem (by have := HL.out; have := hm3.1; omega)⟩
          have hqk := hb3.cell hbk
          have HBK := hid hbk
          have HM3 := hid hm3
          have hc4 := HC2.out.trans hc3
          have HC4 := hid hc4
          obtain ⟨R4, Z4⟩ := chRules hc4
          have F4 := chFroz hc4
          obtain ⟨cb, co, cc, ecs, hcell, _, _⟩ := (HC.out.no (HCR.out.trans hc4)).cell HCS.out
          rw [HL.out] at ecs
          cases ecs
          have q8 := hcell.q8
          have q9 := hcell.q9
          clear hso hbk hm3 hc3 hc4 R2 Z2 FR2 hcell hb3
          cases bk with
          | false =>
            go_wp2_with fail
            go_roundg (len - k2 - 1)
            case rel =>
              refine ⟨k2 + 1, by omega, by omega, by go_num, hid fun j hj => ?_, HC4.out⟩
              by_cases e : j = k2
              · subst e
                intro hr
                have := (HM3.out.2 j).2 hr
                rw [HBK.out] at this; cases this
              · exact HI.out j (by omega)
            case measure => omega
          | true =>
            go_wp2_with fail
            go_region
            go_wp2_with fail
            obtain ⟨wf, hwf, hfb, hfc⟩ := put3 (HC4.out.keep _ _ HRB.out (fun h => h)) (.int .i64 11) (.int .i64 c.line) (.int .i64 c.col)
            rw [hwf]
            have k0 := cellAt hfb 0
            have k1 := cellAt hfb 1
            have k2 := cellAt hfb 2
            refine bodyPost_ret (v := faultV (11, c.line, c.col)) (by simp [results, Tryd.results15, go_sem, faultV, k0, k1, k2]) rfl ?_
            refine FaultOut.mk (some _) ⟨by have := HL.out; omega, .inr ⟨HSP.out, (HM3.out.2 _).1 HBK.out, HI.out⟩⟩ (faultSome HCS.out) ?_
            exact ((HCH.out.trans (HCR.out.trans HC4.out)).trans' hfc (fun j o ho e => by have e' : j = wa.heap.size := e; have := lt_size ho; omega)).drew
        | false =>
          go_wp2_with fail
          have hkl2 : ¬ k2 < len := by simpa using hd2
          obtain ⟨wf, hwf, hfb, hfc⟩ := put3 (hc.keep _ _ HRB.out (fun h => h)) (.int .i64 0) (.int .i64 0) (.int .i64 0)
          rw [hwf]
          have k0 := cellAt hfb 0
          have k1 := cellAt hfb 1
          have k2' := cellAt hfb 2
          refine bodyPost_ret (v := faultV (0, 0, 0)) (by simp [results, Tryd.results15, go_sem, faultV, k0, k1, k2']) rfl ?_
          refine FaultOut.mk none ⟨HSP.out, fun j hj => HI.out j (by have := HL.out; omega)⟩ rfl ?_
          exact (HCH.out.trans (HCR.out.trans hc)).trans' hfc (fun j o ho e => by have e' : j = wa.heap.size := e; have := lt_size ho; omega)
end Go.Proofs.YtkffejgjpnnkmaaDoor
