/- Laid together: Ho Hq. -/
import Derived.Test.YtgjpgfedlgdjhaaGreatDoorHn
section
/- Marks of the reference 08: the walk. -/
set_option linter.unusedVariables false
set_option linter.unusedSimpArgs false
namespace Go.Proofs.YtgjpgfedlgdjhaaGreatDoor
open Go.RowKit Go.W

theorem intsCell {w : World} {ao : Option Addr} {n cap : Nat} {l : List Int} (h : IntsAt w (.slice ao n cap) l) {k : Nat} {x : Int} (hk : l[k]? = some x) :
    ∃ b off, ao = some ⟨b, off, none⟩ ∧ w.cell? ⟨b, off + k, none⟩ = some (.int .i64 x) := by
  obtain ⟨ao', cap', e, h1, h2, _, h3⟩ := h
  cases e
  obtain ⟨b, off, rfl, h4⟩ := h3 (by have := (List.getElem?_eq_some_iff.1 hk).1; omega)
  exact ⟨b, off, rfl, h4 k x hk⟩
theorem MkIn.skip {cs : List Cls} {i : Nat} {m0 m : List Bool} {k q x : Nat} {a : Bool} (h : MkIn cs i m0 m k q a) (hx : (upsN cs k)[q]? = some x) (hm : m[x]? = some true) : MkIn cs i m0 m k (q + 1) a := by
  obtain ⟨h1, h2, h3⟩ := h
  refine ⟨h1, h2, fun ha => ?_⟩
  obtain ⟨rfl, h4, h5⟩ := h3 ha
  refine ⟨rfl, h4, fun y hy => ?_⟩
  rw [List.take_add_one, hx] at hy
  rcases List.mem_append.1 hy with hy | hy
  · exact h5 y hy
  · simp at hy; subst hy; exact hm
theorem MkIn.set {cs : List Cls} {i : Nat} {m0 m : List Bool} {k q x : Nat} {a : Bool} (h : MkIn cs i m0 m k q a) (hx : (upsN cs k)[q]? = some x) (hm : m[x]? = some false) (hk : Gr.Reach (upsN cs) i x) :
    MkIn cs i m0 (m.set x true) k (q + 1) true := by
  obtain ⟨h1, h2, h3⟩ := h
  have hlt := nFset hm
  refine ⟨⟨by rw [List.length_set]; exact h1.1, fun j hj => ?_⟩, fun _ => ?_, fun h => by cases h⟩
  · rw [List.getElem?_set] at hj
    by_cases e : x = j
    · subst e; exact hk
    · rw [if_neg e] at hj; exact h1.2 j hj
  · cases a with
    | true => have := h2 rfl; omega
    | false => have := (h3 rfl).1; subst this; omega
theorem MkIn.start {cs : List Cls} {i : Nat} {m0 m : List Bool} {k : Nat} {a : Bool} (h : MkRd cs i m0 m k a) : MkIn cs i m0 m k 0 a :=
  ⟨h.1, h.2.1, fun ha => ⟨(h.2.2 ha).1, (h.2.2 ha).2, by simp⟩⟩
theorem MkIn.stop {cs : List Cls} {i : Nat} {m0 m : List Bool} {k q : Nat} {a : Bool} (h : MkIn cs i m0 m k q a) (hq : (upsN cs k).length ≤ q) : MkRd cs i m0 m (k + 1) a := by
  refine ⟨h.1, h.2.1, fun ha => ⟨(h.2.2 ha).1, fun k' hk' => ?_⟩⟩
  by_cases e : k' = k
  · subst e
    have := (h.2.2 ha).2.2
    rw [List.take_of_length_le hq] at this
    exact fun _ => this
  · exact (h.2.2 ha).2.1 k' (by omega)
theorem MkRd.pass {cs : List Cls} {i : Nat} {m0 m : List Bool} {k : Nat} {a : Bool} (h : MkRd cs i m0 m k a) (hk : k ≠ i) (hm : m[k]? = some false) : MkRd cs i m0 m (k + 1) a := by
  refine ⟨h.1, h.2.1, fun ha => ⟨(h.2.2 ha).1, fun k' hk' => ?_⟩⟩
  by_cases e : k' = k
  · subst e
    rintro (h' | h')
    · exact absurd h' hk
    · have := (h.2.2 ha).1; subst this; rw [hm] at h'; cases h'
  · exact (h.2.2 ha).2 k' (by omega)

/-- what is left of the rounds -/
def nM (m : List Bool) (a : Bool) : Nat := nF m + (if a then 1 else 0)
theorem nM_start (n : Nat) : nM (List.replicate n false) true ≤ n + 1 := by
  unfold nM nF
  have := List.countP_le_length (p := fun b : Bool => !b) (l := List.replicate n false)
  rw [List.length_replicate] at this
  simp only [if_true]
  omega
/-- at the head of a round -/
def MkHead (cs : List Cls) (i : Nat) (m : List Bool) (a : Bool) : Prop := MkInv cs i m ∧ (a = false → MarksP cs i m)
/-- what the call does -/
def MarksOut (cs : List Cls) (i : Nat) (w : World) (e : Ending) (w' : World) : Prop :=
  ∃ (g : Nat) (m : List Bool), e = .returned (.slice (some ⟨g, 0, none⟩) cs.length cs.length) ∧ BoolsB w' g m ∧ w.heap.size ≤ g ∧ MarksP cs i m ∧ Ch No w w'

set_option maxHeartbeats 8000000 in
theorem rmarks {w : World} {pv : Value} {cs : List Cls} (h : ProgAt w pv cs) (hS : SoundP cs) (hsm : SmallP cs) {i : Nat} (hi : i < cs.length) :
    Calls Tryz.prog 64 #[pv, .int .i64 i] w (MarksOut cs i w) := by
  have hmk := mkBools cs.length (by have := hsm.1; omega)
  have HS := hid hS
  have HM := hid hsm
  clear hS hsm
  have hp := h
  obtain ⟨cv, m0, m1, m2, m3, m4, m5, m6, m7, m8, rfl, h⟩ := h
  obtain ⟨ao, cap, rfl, hcap, hmax, _, _⟩ := h.row
  rw [List.length_map] at hcap h hp ⊢
  obtain ⟨len, hlen⟩ : ∃ len, cs.length = len := ⟨_, rfl⟩
  rw [hlen] at hcap h hp ⊢
  unfold maxLen at hmax
  obtain ⟨wa, hwa⟩ : ∃ wa, w.alloc (.cells #[.slice ao len cap, m0, m1, m2, m3, m4, m5, m6, m7, m8] 31) = wa := ⟨_, rfl⟩
  have hpb := heap_alloc_new w (.cells #[.slice ao len cap, m0, m1, m2, m3, m4, m5, m6, m7, m8] 31)
  have hch := (Ch.refl No w).alloc (.cells #[.slice ao len cap, m0, m1, m2, m3, m4, m5, m6, m7, m8] 31)
  rw [hwa] at hch hpb
  have HL := hid hlen
  have HP := hid (hp.no hch)
  have HC := hid (h.no hch)
  have HPB := hid hpb
  have HCH := hid hch
  have p0 := cellAt hpb 0
  have p1 := cellAt hpb 1
  have p2 := cellAt hpb 2
  have p3 := cellAt hpb 3
  have p4 := cellAt hpb 4
  have p5 := cellAt hpb 5
  have p6 := cellAt hpb 6
  have p7 := cellAt hpb 7
  have p8 := cellAt hpb 8
  have p9 := cellAt hpb 9
  have hz := lt_size hpb
  clear hlen h hp hpb hch
  have hl20 : len ≤ 20 := by have := HM.out.1; have := HL.out; omega
  have hil : i < len := by have := HL.out; omega
  rw [HL.out] at hmk
  have hgb : BoolsB (wa.alloc (.cells ((List.replicate len false).map Value.bool).toArray 4)) wa.heap.size (List.replicate len false) := heap_alloc_new wa _
  have hcg := (Ch.refl No wa).alloc (.cells ((List.replicate len false).map Value.bool).toArray 4)
  obtain ⟨wb, hwb⟩ : ∃ wb, wa.alloc (.cells ((List.replicate len false).map Value.bool).toArray 4) = wb := ⟨_, rfl⟩
  rw [hwb] at hgb hcg
  have hmk1 := hmk wa
  rw [hwb] at hmk1
  have HG := hid hgb
  have HCG := hid hcg
  clear hmk hgb hcg hi
  go_enter Tryz.func64, Tryz.ntmps64
  go_wp2_with fail
  clear hwa hwb hmk1
  go_loopg [6] (len + 1) (fun g s6 wr => ∃ (m : List Bool) (a : Bool), s6 = .bool a ∧ nM m a ≤ g ∧ Hid (MkHead cs i m a) ∧ BoolsB wr wa.heap.size m ∧ Ch No wa wr)
  case atStart => exact ⟨_, true, rfl, nM_start len, hid ⟨⟨by have := HL.out; simp [this], fun j hj => by rw [List.getElem?_replicate] at hj; split at hj <;> cases hj⟩, fun h => by cases h⟩, HG.out, HCG.out⟩
  case round =>
    obtain ⟨m, a, rfl, hg, HI, hb, hc⟩ := hrel
    cases a with
    | false =>
      go_wp2_with fail
      go_ret
      exact ⟨wa.heap.size, m, by rw [HL.out]; rfl, hb, by have := HCH.out.size; omega, HI.out.2 rfl, HCH.out.trans hc⟩
    | true =>
      have HB := hid hb
      have HC1 := hid hc
      clear hb hc
      go_wp2_with fail
      go_loopg [6, 7] len (fun g s6 s7 wr => ∃ (k : Nat) (m' : List Bool) (a : Bool), k ≤ len ∧ len - k ≤ g ∧ s6 = .bool a ∧ s7 = .int .i64 k ∧ Hid (MkRd cs i m m' k a) ∧ BoolsB wr wa.heap.size m' ∧ Ch No wa wr)
      case atStart => exact ⟨0, m, false, Nat.zero_le _, by omega, rfl, rfl, hid ⟨HI.out.1, (fun h => by cases h), fun _ => ⟨rfl, fun k hk => absurd hk (Nat.not_lt_zero _)⟩⟩, HB.out, HC1.out⟩
      case round =>
        obtain ⟨k, m', a, hk, hg2, rfl, rfl, HR, hb, hc⟩ := hrel
        cases hd : decide (k < len) with
        | false =>
          go_wp2_with fail
          go_roundg (nM m' a)
          case rel =>
            have hkl : ¬ k < len := by simpa using hd
            refine ⟨m', a, rfl, Nat.le_refl _, hid ⟨HR.out.1, fun ha => ?_⟩, hb, hc⟩
            subst ha
            exact (HR.out.done (by have := HL.out; omega)).1
          case measure =>
            cases a with
            | true => have := HR.out.2.1 rfl; simp only [nM] at hg ⊢; simp at hg ⊢; omega
            | false =>
              have := (HR.out.2.2 rfl).1
              simp only [nM] at hg ⊢; simp at hg ⊢; subst this; omega
        | true =>
          have hkl : k < len := by simpa using hd
          obtain ⟨c, hcs⟩ : ∃ c, cs[k]? = some c := ⟨_, List.getElem?_eq_getElem (by have := HL.out; omega)⟩
          obtain ⟨bk, hbk⟩ : ∃ bk, m'[k]? = some bk := ⟨_, List.getElem?_eq_getElem (by have := HL.out; have := HR.out.1.1; omega)⟩
          have hq := hb.cell hbk
          obtain ⟨R, Z⟩ := chRules hc
          have hrt := rright (HP.out.no hc) hcs (by have := HM.out.2 c (List.mem_of_getElem? hcs); omega)
          rw [rightZ_ups hcs (HS.out k c hcs)] at hrt
          have HB2 := hid hb
          have HC2 := hid hc
          have HBK := hid hbk
          have HCS := hid hcs
          clear hb hc hbk hcs
          by_cases hne : ((k : Int) != (i : Int)) = true ∧ bk = false
          · obtain ⟨hne, rfl⟩ := hne
            clear hrt R Z
            go_wp2_with fail
            go_roundg (len - k - 1)
            case rel => exact ⟨k + 1, m', a, by omega, by omega, rfl, by go_num, hid (HR.out.pass (by intro e; subst e; simp at hne) HBK.out), HB2.out, HC2.out⟩
            case measure => omega
          · have hor : k = i ∨ m'[k]? = some true := by
              by_cases e : k = i
              · exact .inl e
              · right
                rw [HBK.out]
                cases bk with
                | true => rfl
                | false => exact absurd ⟨by simp; omega, rfl⟩ hne
            have hgate : ((k : Int) != (i : Int)) = false ∨ (((k : Int) != (i : Int)) = true ∧ bk = true) := by
              cases h : ((k : Int) != (i : Int)) with
              | false => exact .inl rfl
              | true => cases bk with
                | true => exact .inr ⟨rfl, rfl⟩
                | false => exact absurd ⟨h, rfl⟩ hne
            have HO := hid hor
            clear hne hor
            rcases hgate with hne | ⟨hne, rfl⟩
            all_goals (
              go_wp2_with fail
              refine hrt.mono ?_
              rintro e w3 ⟨u, rfl, hu, hc3⟩
              have hz3 := HC2.out.size
              have HU := hid (fun b hb => (hu.lt b hb).1)
              have hua := hu.at_
              obtain ⟨ao2, cap2, rfl, hcap2, hmax2, _, hcell2⟩ := hu.at_
              rw [List.length_map] at hcap2 hcell2 HU hua ⊢
              obtain ⟨nu, hnu⟩ : ∃ nu, (upsN cs k).length = nu := ⟨_, rfl⟩
              rw [hnu] at hcap2 hcell2 HU hua ⊢
              unfold maxLen at hmax2
              have HNU := hid hnu
              have HUA := hid hua
              have HC4 := hid (HC2.out.trans hc3)
              have HB4 := hid (HB2.out.no hc3)
              clear hu hcell2 hnu hua hrt R Z hc3
              go_wp2_with fail
              go_loopg [6, 9] nu (fun g s6 s9 wr => ∃ (q : Nat) (m2 : List Bool) (a2 : Bool), q ≤ nu ∧ nu - q ≤ g ∧ s6 = .bool a2 ∧ s9 = .int .i64 q ∧ Hid (MkIn cs i m m2 k q a2) ∧ BoolsB wr wa.heap.size m2 ∧ Ch No wa wr ∧ IntsAt wr (.slice ao2 nu cap2) ((upsN cs k).map (fun j : Nat => (j : Int))))
              case atStart => exact ⟨0, m', a, Nat.zero_le _, by omega, rfl, rfl, hid (.start HR.out), HB4.out, HC4.out, HUA.out⟩
              case round =>
                obtain ⟨q, m2, a2, hq1, hgq, rfl, rfl, HQ, hb5, hc5, hu5⟩ := hrel
                cases hdq : decide (q < nu) with
                | false =>
                  go_wp2_with fail
                  go_roundg (len - k - 1)
                  case rel =>
                    have hql : ¬ q < nu := by simpa using hdq
                    exact ⟨k + 1, m2, a2, by omega, by omega, rfl, by go_num, hid (MkIn.stop HQ.out (by have := HNU.out; omega)), hb5, hc5⟩
                  case measure => omega
                | true =>
                  have hql : q < nu := by simpa using hdq
                  obtain ⟨x, hx⟩ : ∃ x, (upsN cs k)[q]? = some x := ⟨_, List.getElem?_eq_getElem (by have := HNU.out; omega)⟩
                  have hxl : x < len := by have := upsN_lt cs k x (List.mem_of_getElem? hx); have := HL.out; omega
                  obtain ⟨bx, hbx⟩ : ∃ bx, m2[x]? = some bx := ⟨_, List.getElem?_eq_getElem (by have := HL.out; have := HQ.out.1.1; omega)⟩
                  have hqx := hb5.cell hbx
                  have hfr := freeAt (show wr.heap[wa.heap.size]? = _ from hb5) x
                  have HU5 := hid hu5
                  obtain ⟨b2, off2, hao, hqc⟩ := intsCell hu5 (show ((upsN cs k).map (fun j : Nat => (j : Int)))[q]? = some (x : Int) by rw [List.getElem?_map, hx]; rfl)
                  subst hao
                  have HX := hid hx
                  have HBX := hid hbx
                  have HB5 := hid hb5
                  have HC5 := hid hc5
                  clear hx hbx hb5 hc5 hu5
                  cases bx with
                  | true =>
                    go_wp2_with fail
                    go_roundg (nu - q - 1)
                    case rel => exact ⟨q + 1, m2, a2, by omega, by omega, rfl, by go_num, hid (.skip HQ.out HX.out HBX.out), HB5.out, HC5.out, HU5.out⟩
                    case measure => omega
                  | false =>
                    go_wp2_with fail
                    go_roundg (nu - q - 1)
                    case rel =>
                      have hre : Gr.Reach (upsN cs) i x := by
                        rcases HO.out with e | e
                        · subst e; exact .one (List.mem_of_getElem? HX.out)
                        · exact (HR.out.1.2 k e).snoc (List.mem_of_getElem? HX.out)
                      refine ⟨q + 1, m2.set x true, true, by omega, by omega, rfl, by go_num, hid (.set HQ.out HX.out HBX.out hre), HB5.out.set x true, HC5.out.setNew (Nat.le_refl _) _, ?_⟩
                      refine HU5.out.ch (S := fun k _ => k = wa.heap.size) ((Ch.refl _ _).setCell (fun o ho => rfl) _) (fun j o hj ho e => ?_)
                      have e' : j = wa.heap.size := e
                      have := HU.out j hj
                      have := lt_size HB2.out
                      omega
                    case measure => omega)
end Go.Proofs.YtgjpgfedlgdjhaaGreatDoor
end
section
/- Fault of the reference 08. -/
set_option linter.unusedVariables false
set_option linter.unusedSimpArgs false
namespace Go.Proofs.YtgjpgfedlgdjhaaGreatDoor
open Go.RowKit Go.W

/-- class i is right, but that it may be above itself -/
def okI (cs : List Cls) (i : Nat) : Prop := ∀ c, cs[i]? = some c → okC cs i c
/-- the first fault's class -/
def FaultAt (cs : List Cls) : Option Nat → Prop
  | some i => i < cs.length ∧ (¬ okI cs i ∧ (∀ j, j < i → okI cs j) ∨ SoundP cs ∧ Gr.Reach (upsN cs) i i ∧ ∀ j, j < i → ¬ Gr.Reach (upsN cs) j j)
  | none => SoundP cs ∧ ∀ i, i < cs.length → ¬ Gr.Reach (upsN cs) i i
theorem SoundP.ok {cs : List Cls} (h : SoundP cs) (i : Nat) : okI cs i := fun c hc => h i c hc
theorem soundOf {cs : List Cls} (h : ∀ i, i < cs.length → okI cs i) : SoundP cs := fun i c hc => h i (List.getElem?_eq_some_iff.1 hc).1 c hc
theorem FaultAt.uniq {cs : List Cls} {a b : Option Nat} (h : FaultAt cs a) (h' : FaultAt cs b) : a = b := by
  cases a with
  | none => cases b with
    | none => rfl
    | some j =>
      exfalso
      rcases h'.2 with ⟨h1, _⟩ | ⟨_, h1, _⟩
      · exact h1 (h.1.ok j)
      · exact h.2 j h'.1 h1
  | some i => cases b with
    | none =>
      exfalso
      rcases h.2 with ⟨h1, _⟩ | ⟨_, h1, _⟩
      · exact h1 (h'.1.ok i)
      · exact h'.2 i h.1 h1
    | some j =>
      congr 1
      rcases Nat.lt_trichotomy i j with hij | hij | hij
      · exfalso
        rcases h.2 with ⟨h1, _⟩ | ⟨hs, h1, _⟩ <;> rcases h'.2 with ⟨g1, g2⟩ | ⟨gs, g1, g2⟩
        · exact h1 (g2 i hij)
        · exact h1 (gs.ok i)
        · exact g1 (hs.ok j)
        · exact g2 i hij h1
      · exact hij
      · exfalso
        rcases h.2 with ⟨h1, h2⟩ | ⟨hs, h1, h2⟩ <;> rcases h'.2 with ⟨g1, g2⟩ | ⟨gs, g1, g2⟩
        · exact g1 (h2 j hij)
        · exact h1 (gs.ok i)
        · exact g1 (hs.ok j)
        · exact h2 j hij g1
/-- a fault, as a value -/
def faultC (cs : List Cls) (o : Option Nat) : Int × Int × Int := match o with
  | some i => match cs[i]? with
    | some c => (11, c.line, c.col)
    | none => (11, 0, 0)
  | none => (0, 0, 0)
theorem faultSome {cs : List Cls} {i : Nat} {c : Cls} (h : cs[i]? = some c) : faultC cs (some i) = (11, c.line, c.col) := by simp [faultC, h]
def faultV (f : Int × Int × Int) : Value := .agg #[.int .i64 f.1, .int .i64 f.2.1, .int .i64 f.2.2]
def FaultOut (cs : List Cls) (w : World) (e : Ending) (w' : World) : Prop := ∃ o, FaultAt cs o ∧ e = .returned (faultV (faultC cs o)) ∧ Ch No w w'
theorem FaultOut.mk {cs : List Cls} {w w' : World} {a b c : Int} (o : Option Nat) (ho : FaultAt cs o) (he : faultC cs o = (a, b, c)) (hc : Ch No w w') : FaultOut cs w (.returned (.agg #[.int .i64 a, .int .i64 b, .int .i64 c])) w' :=
  ⟨o, ho, by rw [he]; rfl, hc⟩

theorem rsound {w : World} {pv : Value} {cs : List Cls} (h : ProgAt w pv cs) {i : Nat} {c : Cls} (hi : cs[i]? = some c) (hl : c.faces.length ≤ 1000) :
    Calls Tryz.prog 63 #[pv, .int .i64 i] w fun e w' => (okI cs i ∧ e = .returned (.bool true) ∨ ¬ okI cs i ∧ e = .returned (.bool false)) ∧ Ch No w w' := by
  refine (rsound_own h hi hl).mono fun e w' ⟨⟨r, he, hr⟩, hc⟩ => ⟨?_, hc⟩
  have key : okI cs i ↔ okC cs i c := ⟨fun h => h c hi, fun h d hd => by rw [hi] at hd; cases hd; exact h⟩
  cases r with
  | true => exact .inl ⟨key.2 (hr.1 rfl), he⟩
  | false => exact .inr ⟨fun h => Bool.noConfusion (hr.2 (key.1 h)), he⟩

/-- a struct of three cells, stored whole -/
theorem put3 {w : World} {b : Nat} {x0 x1 x2 : Value} {t : TypeId} (h : w.heap[b]? = some (.cells #[x0, x1, x2] t (0, 0))) (v0 v1 v2 : Value) :
    ∃ wf, ((w.setCell ⟨b, 0, none⟩ v0).setCell ⟨b, 1, none⟩ v1).setCell ⟨b, 2, none⟩ v2 = wf ∧ wf.heap[b]? = some (.cells #[v0, v1, v2] t (0, 0)) ∧ Ch (fun k _ => k = b) w wf := by
  refine ⟨_, rfl, ?_, (((Ch.refl _ _).setCell (fun _ _ => rfl) _).setCell (fun _ _ => rfl) _).setCell (fun _ _ => rfl) _⟩
  rw [setCell_heap (setCell_heap (setCell_heap h 0 v0) 1 v1) 2 v2]
  rfl

set_option maxHeartbeats 8000000 in
theorem rfault {w : World} {pv : Value} {cs : List Cls} (h : ProgAt w pv cs) (hsm : SmallP cs) :
    Calls Tryz.prog 37 #[pv] w (FaultOut cs w) := by
  have HM := hid hsm
  clear hsm
  have hp := h
  obtain ⟨cv, m0, m1, m2, m3, m4, m5, m6, m7, m8, rfl, h⟩ := h
  obtain ⟨ao, cap, rfl, hcap, hmax, _, _⟩ := h.row
  rw [List.length_map] at hcap h hp ⊢
  obtain ⟨len, hlen⟩ : ∃ len, cs.length = len := ⟨_, rfl⟩
  rw [hlen] at hcap h hp ⊢
  unfold maxLen at hmax
  obtain ⟨wa, hwa⟩ : ∃ wa, w.alloc (.cells #[.slice ao len cap, m0, m1, m2, m3, m4, m5, m6, m7, m8] 31) = wa := ⟨_, rfl⟩
  have hpb := heap_alloc_new w (.cells #[.slice ao len cap, m0, m1, m2, m3, m4, m5, m6, m7, m8] 31)
  have hch := (Ch.refl No w).alloc (.cells #[.slice ao len cap, m0, m1, m2, m3, m4, m5, m6, m7, m8] 31)
  rw [hwa] at hch hpb
  have HL := hid hlen
  have HP := hid (hp.no hch)
  have HC := hid (h.no hch)
  have HPB := hid hpb
  have HCH := hid hch
  have p0 := cellAt hpb 0
  have p1 := cellAt hpb 1
  have p2 := cellAt hpb 2
  have p3 := cellAt hpb 3
  have p4 := cellAt hpb 4
  have p5 := cellAt hpb 5
  have p6 := cellAt hpb 6
  have p7 := cellAt hpb 7
  have p8 := cellAt hpb 8
  have p9 := cellAt hpb 9
  have hz := lt_size hpb
  clear hlen h hp hpb hch
  have hl20 : len ≤ 20 := by have := HM.out.1; have := HL.out; omega
  have hrb := heap_alloc_new wa (.cells #[.int .i64 0, .int .i64 0, .int .i64 0] 34)
  have hcr := (Ch.refl No wa).alloc (.cells #[.int .i64 0, .int .i64 0, .int .i64 0] 34)
  obtain ⟨wb, hwb⟩ : ∃ wb, wa.alloc (.cells #[.int .i64 0, .int .i64 0, .int .i64 0] 34) = wb := ⟨_, rfl⟩
  rw [hwb] at hrb hcr
  have HRB := hid hrb
  have HCR := hid hcr
  have z1 := lt_size hrb
  have z2 : w.heap.size < wb.heap.size := by omega
  obtain ⟨R0, _⟩ := chRules hcr
  have g0 := cellAt hrb 0
  have g1 := cellAt hrb 1
  have g2 := cellAt hrb 2
  have f0 := freeAt hrb 0
  have f1 := freeAt hrb 1
  have f2 := freeAt hrb 2
  rw [← R0 _ _ hz] at p0 p1 p2 p3 p4 p5 p6 p7 p8 p9
  clear hrb hcr R0
  go_enter Tryz.func37, Tryz.ntmps37
  go_wp2_with fail
  clear hwa hwb
  go_loopg [3] len (fun g s3 wr => ∃ (k : Nat), k ≤ len ∧ len - k ≤ g ∧ s3 = .int .i64 k ∧ Hid (∀ j, j < k → okI cs j) ∧ Ch No wb wr)
  case atStart => exact ⟨0, Nat.zero_le _, by omega, rfl, hid (fun j h => absurd h (Nat.not_lt_zero _)), Ch.refl _ _⟩
  case round =>
    obtain ⟨k, hk, hg, rfl, HI, hc⟩ := hrel
    obtain ⟨R, Z⟩ := chRules hc
    have FR := chFroz hc
    cases hd : decide (k < len) with
    | true =>
      have hkl : k < len := by simpa using hd
      obtain ⟨c, hcs⟩ : ∃ c, cs[k]? = some c := ⟨_, List.getElem?_eq_getElem (by have := HL.out; omega)⟩
      have hso := rsound (HP.out.no (HCR.out.trans hc)) hcs (by have := HM.out.2 c (List.mem_of_getElem? hcs); omega)
      have HCS := hid hcs
      have HC1 := hid hc
      clear hc hcs
      go_wp2_with fail
      refine hso.mono ?_
      rintro e w3 ⟨⟨hok, rfl⟩ | ⟨hok, rfl⟩, hc3⟩
      · have HOK := hid hok
        have HC3 := hid hc3
        clear hso hok hc3
        go_wp2_with fail
        go_roundg (len - k - 1)
        case rel =>
          refine ⟨k + 1, by omega, by omega, by go_num, hid fun j hj => ?_, HC1.out.trans HC3.out⟩
          by_cases e : j = k
          · subst e; exact HOK.out
          · exact HI.out j (by omega)
        case measure => omega
      · have HOK := hid hok
        have hc4 := HC1.out.trans hc3
        have HC4 := hid hc4
        obtain ⟨R4, Z4⟩ := chRules hc4
        have F4 := chFroz hc4
        obtain ⟨cb, co, cc, ecs, hcell, _, _⟩ := (HC.out.no (HCR.out.trans hc4)).cell HCS.out
        rw [HL.out] at ecs
        cases ecs
        have q8 := hcell.q8
        have q9 := hcell.q9
        clear hso hok hc3 hc4 R Z FR hcell
        go_wp2_with fail
        go_region
        go_wp2_with fail
        obtain ⟨wf, hwf, hfb, hfc⟩ := put3 (HC4.out.keep _ _ HRB.out (fun h => h)) (.int .i64 11) (.int .i64 c.line) (.int .i64 c.col)
        rw [hwf]
        have k0 := cellAt hfb 0
        have k1 := cellAt hfb 1
        have k2 := cellAt hfb 2
        refine bodyPost_ret (v := faultV (11, c.line, c.col)) (by simp [results, Tryz.results37, go_sem, faultV, k0, k1, k2]) rfl ?_
        refine FaultOut.mk (some k) ⟨by have := HL.out; omega, .inl ⟨HOK.out, HI.out⟩⟩ (faultSome HCS.out) ?_
        exact ((HCH.out.trans (HCR.out.trans HC4.out)).trans' hfc (fun j o ho e => by have e' : j = wa.heap.size := e; have := lt_size ho; omega)).drew
    | false =>
      have hkl : ¬ k < len := by simpa using hd
      have HSP := hid (soundOf (cs := cs) (fun j hj => HI.out j (by have := HL.out; omega)))
      have HC1 := hid hc
      clear hc HI
      go_wp2_with fail
      go_loopg [4] len (fun g s4 wr => ∃ (k : Nat), k ≤ len ∧ len - k ≤ g ∧ s4 = .int .i64 k ∧ Hid (∀ j, j < k → ¬ Gr.Reach (upsN cs) j j) ∧ Ch No wb wr)
      case atStart => exact ⟨0, Nat.zero_le _, by omega, rfl, hid (fun j h => absurd h (Nat.not_lt_zero _)), HC1.out⟩
      case round =>
        obtain ⟨k2, hk2, hg2, rfl, HI, hc⟩ := hrel
        obtain ⟨R2, Z2⟩ := chRules hc
        have FR2 := chFroz hc
        clear R Z FR
        cases hd2 : decide (k2 < len) with
        | true =>
          have hkl2 : k2 < len := by simpa using hd2
          obtain ⟨c, hcs⟩ : ∃ c, cs[k2]? = some c := ⟨_, List.getElem?_eq_getElem (by have := HL.out; omega)⟩
          have hso := rmarks (HP.out.no (HCR.out.trans hc)) HSP.out HM.out (i := k2) (by have := HL.out; omega)
          have HCS := hid hcs
          have HC2 := hid hc
          clear hc hcs
          go_wp2_with fail
          refine hso.mono ?_
          rintro e w3 ⟨g3, m3', rfl, hb3, hg3, hm3, hc3⟩
          rw [HL.out]
          obtain ⟨bk, hbk⟩ : ∃ bk, m3'[k2]? = some bk := ⟨_, List.getElem?_eq_getElem (by have := HL.out; have := hm3.1; omega)⟩
          have hqk := hb3.cell hbk
          have HBK := hid hbk
          have HM3 := hid hm3
          have hc4 := HC2.out.trans hc3
          have HC4 := hid hc4
          obtain ⟨R4, Z4⟩ := chRules hc4
          have F4 := chFroz hc4
          obtain ⟨cb, co, cc, ecs, hcell, _, _⟩ := (HC.out.no (HCR.out.trans hc4)).cell HCS.out
          rw [HL.out] at ecs
          cases ecs
          have q8 := hcell.q8
          have q9 := hcell.q9
          clear hso hbk hm3 hc3 hc4 R2 Z2 FR2 hcell hb3
          cases bk with
          | false =>
            go_wp2_with fail
            go_roundg (len - k2 - 1)
            case rel =>
              refine ⟨k2 + 1, by omega, by omega, by go_num, hid fun j hj => ?_, HC4.out⟩
              by_cases e : j = k2
              · subst e
                intro hr
                have := (HM3.out.2 j).2 hr
                rw [HBK.out] at this; cases this
              · exact HI.out j (by omega)
            case measure => omega
          | true =>
            go_wp2_with fail
            go_region
            go_wp2_with fail
            obtain ⟨wf, hwf, hfb, hfc⟩ := put3 (HC4.out.keep _ _ HRB.out (fun h => h)) (.int .i64 11) (.int .i64 c.line) (.int .i64 c.col)
            rw [hwf]
            have k0 := cellAt hfb 0
            have k1 := cellAt hfb 1
            have k2 := cellAt hfb 2
            refine bodyPost_ret (v := faultV (11, c.line, c.col)) (by simp [results, Tryz.results37, go_sem, faultV, k0, k1, k2]) rfl ?_
            refine FaultOut.mk (some _) ⟨by have := HL.out; omega, .inr ⟨HSP.out, (HM3.out.2 _).1 HBK.out, HI.out⟩⟩ (faultSome HCS.out) ?_
            exact ((HCH.out.trans (HCR.out.trans HC4.out)).trans' hfc (fun j o ho e => by have e' : j = wa.heap.size := e; have := lt_size ho; omega)).drew
        | false =>
          go_wp2_with fail
          have hkl2 : ¬ k2 < len := by simpa using hd2
          obtain ⟨wf, hwf, hfb, hfc⟩ := put3 (hc.keep _ _ HRB.out (fun h => h)) (.int .i64 0) (.int .i64 0) (.int .i64 0)
          rw [hwf]
          have k0 := cellAt hfb 0
          have k1 := cellAt hfb 1
          have k2' := cellAt hfb 2
          refine bodyPost_ret (v := faultV (0, 0, 0)) (by simp [results, Tryz.results37, go_sem, faultV, k0, k1, k2']) rfl ?_
          refine FaultOut.mk none ⟨HSP.out, fun j hj => HI.out j (by have := HL.out; omega)⟩ rfl ?_
          exact (HCH.out.trans (HCR.out.trans hc)).trans' hfc (fun j o ho e => by have e' : j = wa.heap.size := e; have := lt_size ho; omega)
end Go.Proofs.YtgjpgfedlgdjhaaGreatDoor
end
