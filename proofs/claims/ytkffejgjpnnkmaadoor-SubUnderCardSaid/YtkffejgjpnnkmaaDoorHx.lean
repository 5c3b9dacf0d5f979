/- The next class of sort; the plain side of sort. -/
import Derived.Test.YtkffejgjpnnkmaaDoorHw
import Derived.Test.YtkffejgjpnnkmaaDoorHr
set_option linter.unusedVariables false
set_option linter.unusedSimpArgs false
namespace Go.Proofs.YtkffejgjpnnkmaaDoor
open Go.RowKit Go.W

/-- the first that may come next -/
def nextI (cs : List Cls) (ss : List SetP) : Option Nat := (List.range cs.length).find? (rdyB cs ss)
def optZ (o : Option Nat) : Int := match o with | some i => (i : Int) | none => -1
def NextOut (cs : List Cls) (ss : List SetP) (w : World) (e : Ending) (w' : World) : Prop := e = .returned (.int .i64 (optZ (nextI cs ss))) ∧ Ch No w w'
theorem nextYes {cs : List Cls} {ss : List SetP} {k : Nat} (hk : k < cs.length) (h : rdyB cs ss k = true) (hno : ∀ j, j < k → rdyB cs ss j = false) : nextI cs ss = some k := by
  unfold nextI
  rw [List.find?_range_eq_some]
  exact ⟨h, by simpa using hk, fun j hj => by rw [hno j hj]; rfl⟩
theorem nextNo {cs : List Cls} {ss : List SetP} (hno : ∀ j, j < cs.length → rdyB cs ss j = false) : nextI cs ss = none := by
  unfold nextI
  rw [List.find?_eq_none]
  intro x hx
  rw [hno x (List.mem_range.1 hx)]
  simp

set_option maxHeartbeats 4000000 in
theorem idxK {w : World} {tb bx : Nat} {T : TabD} {cs : List Cls} (h : TabAt w tb T) (hK : KsOf cs T) (hg : T.get = find cs) (hsz : SzP cs) (hS : SoundP cs) (hsm : SmallP cs) (hbx : w.cell? ⟨bx, 0, none⟩ = some (.pointer (some ⟨tb, 0, none⟩))) :
    Calls Tryd.prog 65 #[T.allv, .func (.func 66) #[] #[.pointer (some ⟨bx, 0, none⟩)]] w (NextOut cs T.ss w) := by
  obtain ⟨ao, cap, e0, hcap, hmax⟩ := h.all.slice
  have hlen := hK.len
  obtain ⟨len, hl⟩ : ∃ len, T.ks.length = len := ⟨_, rfl⟩
  rw [hl] at e0 hcap hlen
  rw [e0]
  unfold maxLen at hmax
  have H := hid h
  have HK := hid hK
  have HG := hid hg
  have HZ := hid hsz
  have HS := hid hS
  have HM := hid hsm
  have HBX := hid hbx
  have HL := hid hlen
  have HL2 := hid hl
  have HE := hid e0
  clear h hK hg hsz hS hsm hbx hlen hl e0
  go_enter Tryd.func65, Tryd.ntmps65
  go_wp2_with fail
  go_loopg [8] len (fun g s8 wr => ∃ (k : Nat), k ≤ len ∧ len - k ≤ g ∧ s8 = .int .i64 k ∧ Hid (∀ j, j < k → rdyB cs T.ss j = false) ∧ Ch No w wr)
  case atStart => exact ⟨0, Nat.zero_le _, by omega, rfl, hid (fun j h => absurd h (Nat.not_lt_zero _)), Ch.refl _ _⟩
  case round =>
    obtain ⟨k, hk, hg, rfl, HN, hch⟩ := hrel
    cases hd : decide (k < len) with
    | false =>
      go_wp2_with fail
      go_ret
      have hkl : ¬ k < len := by simpa using hd
      refine ⟨ret_int ?_, hch⟩
      rw [nextNo (fun j hj => HN.out j (by have := HL.out; omega))]; rfl
    | true =>
      have hkl : k < len := by simpa using hd
      obtain ⟨x, hx⟩ : ∃ x, T.ks[k]? = some x := ⟨_, List.getElem?_eq_getElem (by have := HL2.out; omega)⟩
      obtain ⟨c, hc⟩ : ∃ c, cs[k]? = some c := ⟨_, List.getElem?_eq_getElem (by have := HL.out; omega)⟩
      obtain ⟨b, off, cap', e, hcell, _, _⟩ := (H.out.all.no hch).cell hx
      rw [HE.out, HL2.out] at e
      cases e
      obtain ⟨q0, q1, q2, q3⟩ := hcell
      have hcl := hs1 (H.out.no hch) HK.out HG.out HZ.out HS.out HM.out (cell_ch HBX.out hch (fun _ _ h => h)) hc hx
      have HX := hid hx
      have HC := hid hc
      have HCH := hid hch
      clear hx hc hch
      cases hop : rdyB cs T.ss k with
      | true =>
        rw [hop] at hcl
        have HO := hid hop
        clear hop
        go_wp2_with fail
        refine hcl.mono ?_
        rintro e w1 ⟨rfl, hc1⟩
        go_wp2_with fail
        go_ret
        refine ⟨ret_int ?_, HCH.out.trans hc1⟩
        rw [nextYes (by have := HL.out; omega) HO.out HN.out]; rfl
      | false =>
        rw [hop] at hcl
        have HO := hid hop
        clear hop
        go_wp2_with fail
        refine hcl.mono ?_
        rintro e w1 ⟨rfl, hc1⟩
        go_wp2_with fail
        go_roundg (len - k - 1)
        case rel =>
          refine ⟨k + 1, by omega, by omega, by go_num, hid (fun j hj => ?_), HCH.out.trans hc1⟩
          by_cases e : j = k
          · subst e; exact HO.out
          · exact HN.out j (by omega)
        case measure => omega

/-- the sets tell what is done: d -/
structure SsOf (cs : List Cls) (ss : List SetP) (d : List Nat) : Prop where
  len : ss.length = cs.length
  ord : OrdSo cs d
  yes : ∀ j ∈ d, ∃ b, ss[j]? = some ⟨some b, abL cs [(j : Int)] cs.length⟩
  no : ∀ j, j < cs.length → j ∉ d → ss[j]? = some ⟨none, []⟩
theorem SsOf.opn {cs : List Cls} {ss : List SetP} {d : List Nat} (h : SsOf cs ss d) {j : Nat} (hj : j < cs.length) : opn ss j = !d.contains j := by
  unfold Go.Proofs.YtkffejgjpnnkmaaDoor.opn
  by_cases hd : j ∈ d
  · obtain ⟨b, hb⟩ := h.yes j hd
    rw [hb]; simp [hd]
  · rw [h.no j hj hd]; simp [hd]
theorem SsOf.rdy {cs : List Cls} {ss : List SetP} {d : List Nat} (h : SsOf cs ss d) {j : Nat} (hj : j < cs.length) : rdyB cs ss j = true ↔ RdyP cs d j := by
  unfold rdyB RdyP
  rw [h.opn hj, Bool.and_eq_true, Bool.not_eq_true', Bool.not_eq_true', List.any_eq_false]
  constructor
  · rintro ⟨h1, h2⟩
    refine ⟨by simpa using h1, fun u hu => ?_⟩
    have := h2 u hu
    rw [h.opn (upsN_lt cs j u hu)] at this
    simpa using this
  · rintro ⟨h1, h2⟩
    refine ⟨by simpa using h1, fun u hu => ?_⟩
    rw [h.opn (upsN_lt cs j u hu)]
    simpa using h2 u hu
theorem SsOf.next {cs : List Cls} {ss : List SetP} {d : List Nat} (h : SsOf cs ss d) : nextI cs ss = Gr.pick cs.length (upsN cs) d := by
  cases hn : nextI cs ss with
  | none =>
    unfold nextI at hn
    rw [List.find?_eq_none] at hn
    rw [pickNo]
    intro j hj hr
    exact hn j (List.mem_range.2 hj) ((h.rdy hj).2 hr)
  | some i =>
    unfold nextI at hn
    rw [List.find?_range_eq_some] at hn
    obtain ⟨h1, h2, h3⟩ := hn
    have hi : i < cs.length := by simpa using h2
    rw [pickIs hi ((h.rdy hi).1 h1)]
    intro j hj hr
    have := h3 j hj
    rw [(h.rdy (by omega)).2 hr] at this
    simp at this
theorem SsOf.step {cs : List Cls} {ss : List SetP} {d : List Nat} (h : SsOf cs ss d) {i b : Nat} (hp : Gr.pick cs.length (upsN cs) d = some i) : SsOf cs (ss.set i ⟨some b, abL cs [(i : Int)] cs.length⟩) (d ++ [i]) := by
  obtain ⟨h1, h2, _⟩ := Gr.pick_some hp
  refine ⟨by rw [List.length_set]; exact h.len, h.ord.step hp, fun j hj => ?_, fun j hj hd => ?_⟩
  · rcases List.mem_append.1 hj with hj | hj
    · have hne : i ≠ j := fun e => h2 (e ▸ hj)
      rw [List.getElem?_set, if_neg hne]
      exact h.yes j hj
    · have e : j = i := by simpa using hj
      subst e
      rw [List.getElem?_set, if_pos rfl, if_pos (by rw [h.len]; exact h1)]
      exact ⟨b, rfl⟩
  · have hne : i ≠ j := fun e => hd (by simp [e])
    rw [List.getElem?_set, if_neg hne]
    exact h.no j hj (fun h => hd (by simp [h]))
theorem SsOf.start (cs : List Cls) : SsOf cs (List.replicate cs.length ⟨none, []⟩) [] :=
  ⟨by simp, OrdSo.start cs, (fun j hj => by cases hj), (fun j hj _ => by rw [List.getElem?_replicate, if_pos hj])⟩

/-- what stands above a class, when the first q of those right above it are merged -/
noncomputable def accL (cs : List Cls) (i q : Nat) : List Int := ((upsN cs i).take q).foldl (fun (acc : List Int) (u : Nat) => (abL cs [(u : Int)] cs.length).foldl putS acc) [(i : Int)]
theorem accSnoc {cs : List Cls} {i q u : Nat} (h : (upsN cs i)[q]? = some u) : accL cs i (q + 1) = (abL cs [(u : Int)] cs.length).foldl putS (accL cs i q) := by
  unfold accL
  rw [List.take_add_one, h]
  simp
theorem abOne {cs : List Cls} {i : Nat} {z : Int} : z ∈ abL cs [(i : Int)] cs.length ↔ ∃ k : Nat, z = k ∧ k < cs.length ∧ i < cs.length ∧ (i = k ∨ Gr.Reach (upsN cs) i k) := by
  rw [mem_abL]
  unfold AbP AbX
  constructor
  · rintro ⟨k, rfl, h1, x, hx, h2, h3, h4⟩
    have : x = i := by simpa using hx
    subst this
    refine ⟨k, rfl, h1, by omega, ?_⟩
    rcases h4 with h | h
    · exact .inl (by omega)
    · exact .inr (by simpa using h)
  · rintro ⟨k, rfl, h1, h2, h3⟩
    refine ⟨k, rfl, h1, (i : Int), by simp, by omega, by omega, ?_⟩
    rcases h3 with h | h
    · exact .inl (by omega)
    · exact .inr (by simpa using h)
theorem accMem {cs : List Cls} {i : Nat} (hi : i < cs.length) (hn : cs.length ≤ 20) : ∀ (q : Nat), Good (accL cs i q) ∧ ∀ z, z ∈ accL cs i q ↔ z = i ∨ ∃ u ∈ (upsN cs i).take q, z ∈ abL cs [(u : Int)] cs.length
  | 0 => by
    unfold accL
    refine ⟨⟨by simp, fun x hx => by simp at hx; omega⟩, fun z => by simp⟩
  | q + 1 => by
    obtain ⟨h1, h2⟩ := accMem hi hn q
    cases hu : (upsN cs i)[q]? with
    | none =>
      have e : (upsN cs i).take (q + 1) = (upsN cs i).take q := by rw [List.take_add_one, hu]; simp
      unfold accL at h1 h2 ⊢
      rw [e]; exact ⟨h1, h2⟩
    | some u =>
      rw [accSnoc hu]
      refine ⟨h1.fold _, fun z => ?_⟩
      rw [mem_fold, h2, List.take_add_one, hu]
      constructor
      · rintro ((h | ⟨v, hv, h⟩) | ⟨h, _⟩)
        · exact .inl h
        · exact .inr ⟨v, List.mem_append.2 (.inl hv), h⟩
        · exact .inr ⟨u, by simp, h⟩
      · rintro (h | ⟨v, hv, h⟩)
        · exact .inl (.inl h)
        · rcases List.mem_append.1 hv with hv | hv
          · exact .inl (.inr ⟨v, hv, h⟩)
          · have : v = u := by simpa using hv
            subst this
            refine .inr ⟨h, ?_⟩
            obtain ⟨k, rfl, hk, _⟩ := abOne.1 h
            omega
theorem accAll {cs : List Cls} {i : Nat} (hi : i < cs.length) (hn : cs.length ≤ 20) : accL cs i (upsN cs i).length = abL cs [(i : Int)] cs.length := by
  obtain ⟨h1, h2⟩ := accMem hi hn (upsN cs i).length
  refine sorted_eq h1.1 (abSorted cs _ _) (fun z => ?_)
  rw [h2, abOne, List.take_length]
  constructor
  · rintro (rfl | ⟨u, hu, h⟩)
    · exact ⟨i, rfl, hi, hi, .inl rfl⟩
    · obtain ⟨k, rfl, hk, _, h⟩ := abOne.1 h
      refine ⟨k, rfl, hk, hi, .inr ?_⟩
      rcases h with rfl | h
      · exact .one hu
      · exact .step hu h
  · rintro ⟨k, rfl, hk, _, h⟩
    rcases h with rfl | h
    · exact .inl rfl
    · right
      cases h with
      | one h => exact ⟨k, h, abOne.2 ⟨k, rfl, hk, hk, .inl rfl⟩⟩
      | step h hh => exact ⟨_, h, abOne.2 ⟨k, rfl, hk, upsN_lt cs i _ h, .inr hh⟩⟩
end Go.Proofs.YtkffejgjpnnkmaaDoor
