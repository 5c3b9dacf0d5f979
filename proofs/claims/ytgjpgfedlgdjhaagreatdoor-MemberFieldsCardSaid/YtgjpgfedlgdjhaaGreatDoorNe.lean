/- Members, plain: what is right by the document is right by the program; the facts of the two laws. -/
import Derived.Test.YtgjpgfedlgdjhaaGreatDoorNd
import Derived.Test.YtgjpgfedlgdjhaaGreatDoorMl
import Derived.Test.YtgjpgfedlgdjhaaGreatDoorMu
import Derived.Test.YtgjpgfedlgdjhaaGreatDoorMv
set_option linter.unusedVariables false
set_option linter.unusedSimpArgs false
namespace Go.Proofs.YtgjpgfedlgdjhaaGreatDoor
open Go.RowKit Go.W

theorem upO_none {α : Type} {get : Nat → Option α} : ∀ {l : List Nat}, upO get l = none ↔ ∀ j ∈ l, get j = none
  | [] => by simp [upO]
  | j :: l => by
    rw [upO_cons]
    cases h : get j with
    | none =>
      simp only
      rw [upO_none]
      constructor
      · intro h1 k hk
        rcases List.mem_cons.1 hk with rfl | hk
        · exact h
        · exact h1 k hk
      · exact fun h1 k hk => h1 k (List.mem_cons_of_mem _ hk)
    | some x =>
      constructor
      · intro e; cases e
      · intro h1
        have := h1 j List.mem_cons_self
        rw [h] at this; cases this
theorem lkField_none {ms : List Mem} {nm : ByteArray} {j : Nat} : fieldO ms false nm j = none ↔ lkN lkField ms nm j = none := by
  unfold fieldO lkN lkField lkVr
  cases ms[j]? with
  | none => simp
  | some m =>
    show vrF m.fs nm = none ↔ _
    cases hv : vrF m.fs nm <;> simp [hv]
theorem lkStatic_none {ms : List Mem} {nm : ByteArray} {j : Nat} : fieldO ms true nm j = none ↔ lkN lkStatic ms nm j = none := by
  unfold fieldO lkN lkStatic lkVr
  cases ms[j]? with
  | none => simp
  | some m =>
    show vrF m.ss nm = none ↔ _
    cases hv : vrF m.ss nm <;> simp [hv]
theorem varsOkField {cs : List Cls} {ms : List Mem} {i : Nat} {l : List Vr} (h : VarsP cs ms false i l) : VarsOk cs lkField ms (supN cs i) l := by
  intro k hk v hv
  obtain ⟨h1, h2, h3⟩ := h k hk v hv
  refine ⟨h1, h2, ?_⟩
  unfold varUp at h3
  unfold upM
  rw [upO_none] at h3 ⊢
  exact fun j hj => lkField_none.1 (h3 j hj)
theorem varsOkStatic {cs : List Cls} {ms : List Mem} {i : Nat} {l : List Vr} (h : VarsP cs ms true i l) : VarsOk cs lkStatic ms (supN cs i) l := by
  intro k hk v hv
  obtain ⟨h1, h2, h3⟩ := h k hk v hv
  refine ⟨h1, h2, ?_⟩
  unfold varUp at h3
  unfold upM
  rw [upO_none] at h3 ⊢
  exact fun j hj => lkStatic_none.1 (h3 j hj)
theorem lkMethod_get {ms : List Mem} {nm : ByteArray} {u : Nat} {y : MbR} (h : lkN lkMethod ms nm u = some y) : ∃ m q x, ms[u]? = some m ∧ mtK m.ms nm = some q ∧ m.ms[q]? = some x ∧ x.nm = nm ∧ y = mbR u x := by
  unfold lkN at h
  cases hm : ms[u]? with
  | none => rw [hm] at h; cases h
  | some m =>
    rw [hm] at h
    simp only at h
    unfold lkMethod lkMt at h
    cases hk : mtK m.ms nm with
    | none => rw [hk] at h; cases h
    | some q =>
      obtain ⟨x, hx, hn⟩ := mtSome' hk
      rw [hk] at h
      simp [hx] at h
      exact ⟨m, q, x, rfl, hk, hx, hn, h.symm⟩
theorem mbOf_get {ms : List Mem} {c q : Nat} {x : Mt} (h : mtAt ms c q = some x) : mbOf ms (c, q) = some (mbR c x) := by
  unfold mtAt at h
  unfold mbOf
  cases hm : ms[c]? with
  | none => rw [hm] at h; cases h
  | some m =>
    rw [hm] at h
    simp only at h
    simp [h, mbR]
theorem goodR {cs : List Cls} {ms : List Mem} (hf : FaultAt cs none) (hln : ms.length = cs.length) (h : GoodM cs ms) : GoodR cs ms := by
  intro i c m hc hm
  have hg := h i c m hc hm
  have hi := (List.getElem?_eq_some_iff.1 hc).1
  refine ⟨varsOkField hg.fs, varsOkStatic hg.ss, ?_, hg.face, ?_⟩
  · intro k hk x hx
    have hs := hg.mts k x hx
    obtain ⟨_, _, _, h3⟩ := mtK_some hs.first
    refine ⟨h3, hs.bare, hs.ret, ?_, ?_⟩
    · intro p hp
      obtain ⟨v, hv, rfl⟩ := List.mem_map.1 hp
      exact hs.ps v hv
    · intro y hy
      obtain ⟨u, hu, hy'⟩ := List.mem_filterMap.1 hy
      unfold abM at hy'
      by_cases hui : u = i
      · rw [if_pos hui] at hy'; cases hy'
      · rw [if_neg hui] at hy'
        obtain ⟨m', q, x', h1, h2, h4, _, rfl⟩ := lkMethod_get hy'
        obtain ⟨_, hup⟩ := (upsAll_mem hi).1 hu
        have hr : Gr.Reach (upsN cs) i u := by
          rcases hup with e | hr
          · exact absurd e.symm hui
          · exact hr
        obtain ⟨g1, g2, g3⟩ := hs.up u hr q x' (by rw [ownK_get h1]; exact h2) (by rw [mtAt_get h1]; exact h4)
        rw [kindsEq] at g1
        exact ⟨g1, g2, g3⟩
  · intro hfc u hu nm x hx hb
    obtain ⟨m', q, x', h1, h2, h4, h5, rfl⟩ := lkMethod_get hx
    obtain ⟨_, hup⟩ := (upsAll_mem hi).1 hu
    obtain ⟨c', q', z, g1, g2, g3, g4, g5⟩ := hg.whole hfc u hup m' h1 q x' h4 hb (by rw [h5]; exact h2)
    rw [h5] at g1
    rw [kindsEq] at g5
    exact ⟨mbR c' z, by unfold methM; simp only; rw [g1]; exact mbOf_get g2, g3, g4, g5.1.symm, g5.2.symm⟩

/-! the facts of MemberFields -/
theorem vrSelf {l : List Vr} (h : ∀ (k : Nat) (v : Vr), l[k]? = some v → ∀ u ∈ l.take k, u.nm ≠ v.nm) : ∀ v ∈ l, vrF l v.nm = some v := by
  intro v hv
  obtain ⟨k, hk, rfl⟩ := List.mem_iff_getElem.1 hv
  exact vrTake (List.getElem?_eq_getElem hk) (h k _ (List.getElem?_eq_getElem hk)) rfl
theorem onceOf {cs : List Cls} {ms : List Mem} (hln : ms.length = cs.length) (h : GoodM cs ms) : OnceF ms := by
  intro m hm
  obtain ⟨i, hi, rfl⟩ := List.mem_iff_getElem.1 hm
  obtain ⟨c, hc⟩ : ∃ c, cs[i]? = some c := ⟨_, List.getElem?_eq_getElem (by omega)⟩
  have hg := h i c _ hc (List.getElem?_eq_getElem hi)
  exact vrSelf (fun k v hv => (hg.fs k (List.getElem?_eq_some_iff.1 hv).1 v hv).2.1)
/-- each of all fields is that of its name -/
theorem fields_told {cs : List Cls} {ms : List Mem} (hno : NoRing cs) (hln : ms.length = cs.length) (h : GoodM cs ms) : ∀ (N : Nat) (o : Option Nat), (∀ i, o = some i → rankN cs i ≤ N) → ∀ p ∈ fieldsM cs ms o, upM cs lkField ms p.2.nm o = some (p.1, ⟨p.1, p.2.nm, p.2.ty, [], false, false⟩) := by
  intro N
  induction N using Nat.strongRecOn with
  | ind N ih =>
  intro o ho p hp
  cases o with
  | none => exact absurd hp (by unfold fieldsM chainO; simp)
  | some i =>
    rw [fieldsM_step hno] at hp
    rw [upM_step hno]
    rcases List.mem_append.1 hp with hp | hp
    · cases hs : supN cs i with
      | none => rw [hs] at hp; exact absurd hp (by unfold fieldsM chainO; simp)
      | some j =>
        rw [hs] at hp
        have hr := rank_lt hno i j (supN_up hs)
        have hri := ho i rfl
        have h1 := ih (rankN cs j) (by omega) (some j) (fun i' e => by cases e; exact Nat.le_refl _) p hp
        cases hl : lkN lkField ms p.2.nm i with
        | none => exact h1
        | some x =>
          exfalso
          have hl0 : ¬ fieldO ms false p.2.nm i = none := fun e => by rw [lkField_none.1 e] at hl; cases hl
          unfold fieldO at hl0
          cases hm : ms[i]? with
          | none => rw [hm] at hl0; exact hl0 rfl
          | some m =>
            rw [hm] at hl0
            have hl1 : ¬ vrF m.fs p.2.nm = none := hl0
            cases hv : vrF m.fs p.2.nm with
            | none => exact hl1 hv
            | some v =>
              obtain ⟨hvn, k, hk, _⟩ := vrSome hv
              obtain ⟨c, hc⟩ : ∃ c, cs[i]? = some c := ⟨_, List.getElem?_eq_getElem (by have := (List.getElem?_eq_some_iff.1 hm).1; omega)⟩
              have hg := (h i c m hc hm).fs k (List.getElem?_eq_some_iff.1 hk).1 v hk
              have h2 := (varsOkField (h i c m hc hm).fs k (List.getElem?_eq_some_iff.1 hk).1 v hk).2.2
              rw [hvn, hs, h1] at h2
              cases h2
    · unfold fsOf at hp
      cases hm : ms[i]? with
      | none => rw [hm] at hp; cases hp
      | some m =>
        rw [hm] at hp
        obtain ⟨v, hv, rfl⟩ := List.mem_map.1 hp
        have h1 := onceOf hln h m (List.mem_of_getElem? hm) v hv
        have h2 : lkN lkField ms v.nm i = some ⟨i, v.nm, v.ty, [], false, false⟩ := by
          unfold lkN
          rw [hm]
          show (vrF m.fs v.nm).map _ = _
          rw [h1]
          rfl
        simp only
        rw [h2]

/-! the facts of MemberOwn -/
theorem methM_own {cs : List Cls} {ms : List Mem} (hno : NoRing cs) {i k : Nat} {m : Mem} {x : Mt} (hm : ms[i]? = some m) (hk : mtK m.ms x.nm = some k) (hx : m.ms[k]? = some x) : methN cs ms x.nm i = some (i, k) ∧ methM cs ms x.nm (some i) = some (mbR i x) := by
  have h1 : methN cs ms x.nm i = some (i, k) := by
    rw [methN_step hno, methUp_step hno, ownK_get hm, hk]
  refine ⟨h1, ?_⟩
  unfold methM
  simp only
  rw [h1]
  exact mbOf_get (by rw [mtAt_get hm]; exact hx)
/-- a class that tells a method itself has it for its objects -/
theorem own_disp {cs : List Cls} {ms : List Mem} (hno : NoRing cs) (h : GoodM cs ms) {i k : Nat} {c : Cls} {m : Mem} {x : Mt} (hc : cs[i]? = some c) (hm : ms[i]? = some m) (hx : m.ms[k]? = some x) (hcf : c.face = false) (hs : x.st = false) (hb : x.ba = false) :
    dispM cs ms x.nm (some i) = some (i : Int) := by
  unfold dispM
  simp only
  rw [(methM_own hno hm ((h i c m hc hm).mts k x hx).first hx).2, faceB_get hc, hcf]
  simp only [mbR, hs, hb]
  rfl
/-- .. and each class right below it -/
theorem own_below {cs : List Cls} {ms : List Mem} (hf : FaultAt cs none) (hpl : PlainP cs) (hln : ms.length = cs.length) (h : GoodM cs ms) {i k q : Nat} {c cq : Cls} {m : Mem} {x : Mt} (hc : cs[i]? = some c) (hm : ms[i]? = some m) (hx : m.ms[k]? = some x) (hcf : c.face = false) (hs : x.st = false) (hb : x.ba = false)
    (hq : cs[q]? = some cq) (hsup : cq.sup = c.name) (hqf : cq.face = false) :
    ∃ y, methM cs ms x.nm (some q) = some y ∧ dispM cs ms x.nm (some q) = some y.cls ∧ (y.cls = i ∨ y.cls = q) := by
  have hno : NoRing cs := hf.2
  have hfst := ((h i c m hc hm).mts k x hx).first
  have hfi : find cs c.name = some i := (hf.1 i c hc).own
  have he : cq.sup.toList.isEmpty = false := by
    cases he : cq.sup.toList.isEmpty with
    | false => rfl
    | true =>
      exfalso
      apply (hpl c (List.mem_of_getElem? hc)).ne
      rw [← hsup]
      have h1 : cq.sup.data.toList = [] := by rw [← toList_eq]; simpa using he
      have h2 : cq.sup.data = #[] := by
        apply Array.ext'
        simpa using h1
      cases hcs : cq.sup with
      | mk d => rw [hcs] at h2; simp at h2; rw [h2]
  have hup : supN cs q = some i := by
    unfold supN
    rw [hq]
    simp only [he, Bool.false_eq_true, if_false]
    rw [hsup]
    exact hfi
  obtain ⟨mq, hmq⟩ : ∃ mq, ms[q]? = some mq := ⟨_, List.getElem?_eq_getElem (by have := (List.getElem?_eq_some_iff.1 hq).1; omega)⟩
  have hm1 := methM_own hno hm hfst hx
  cases hok : mtK mq.ms x.nm with
  | none =>
    have hmu : methUp cs ms x.nm (some q) = some (i, k) := by
      rw [methUp_step hno, ownK_get hmq, hok]
      show methUp cs ms x.nm (supN cs q) = _
      rw [hup, methUp_step hno, ownK_get hm, hfst]
    have hmN : methN cs ms x.nm q = some (i, k) := by rw [methN_step hno, hmu]
    have hmM : methM cs ms x.nm (some q) = some (mbR i x) := by
      unfold methM
      simp only
      rw [hmN]
      exact mbOf_get (by rw [mtAt_get hm]; exact hx)
    refine ⟨_, hmM, ?_, .inl rfl⟩
    unfold dispM
    simp only
    rw [hmM, faceB_get hq, hqf]
    simp only [mbR, hs, hb]
    rfl
  | some k' =>
    obtain ⟨y, hy, hyn, _⟩ := mtK_some hok
    have hgq := h q cq mq hq hmq
    have hsy := hgq.mts k' y hy
    have hr : Gr.Reach (upsN cs) q i := .one (supN_up hup)
    obtain ⟨_, hys, _⟩ := hsy.up i hr k x (by rw [hyn, ownK_get hm]; exact hfst) (by rw [mtAt_get hm]; exact hx)
    have hmq1 := methM_own (cs := cs) hno hmq hsy.first hy
    rw [hyn] at hmq1
    have hyb : y.ba = false := by
      cases hyb : y.ba with
      | false => rfl
      | true =>
        exfalso
        obtain ⟨c0, q0, x0, g1, g2, g3, _⟩ := hgq.whole hqf q (.inl rfl) mq hmq k' y hy hyb hsy.first
        rw [hyn, hmq1.1] at g1
        cases g1
        rw [mtAt_get hmq, hy] at g2
        cases g2
        rw [hyb] at g3; cases g3
    refine ⟨_, hmq1.2, ?_, .inr rfl⟩
    unfold dispM
    simp only
    rw [hmq1.2, faceB_get hq, hqf]
    simp only [mbR, hys, hyb]
    rfl
end Go.Proofs.YtgjpgfedlgdjhaaGreatDoor
