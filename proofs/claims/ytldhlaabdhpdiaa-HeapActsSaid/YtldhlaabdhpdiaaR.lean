/- The two heaps of layer 13 tell the same: plain. -/
import Derived.Test.YtldhlaabdhpdiaaO
set_option linter.unusedVariables false
namespace Go.Proofs.Ytldhlaabdhpdiaa
open Go.RowKit Go.W

def keepL (L : List RCell) (ref place : Int) (elem : Bool) : List RCell := L.filter (fun c => !c.hit ref place elem)
def putL (L : List RCell) (c : RCell) : List RCell := c :: keepL L c.ref c.place c.elem

theorem hit_iff {c : RCell} {ref place : Int} {elem : Bool} : c.hit ref place elem = true ↔ c.ref = ref ∧ c.place = place ∧ c.elem = elem := by
  simp [RCell.hit, and_assoc]

theorem getL_keep {ref place ref' place' : Int} {elem elem' : Bool} (h : ¬ (ref' = ref ∧ place' = place ∧ elem' = elem)) : ∀ L : List RCell, getL (keepL L ref' place' elem') ref place elem = getL L ref place elem
  | [] => rfl
  | c :: r => by
    unfold keepL
    by_cases hc : c.hit ref' place' elem' = true
    · rw [List.filter_cons_of_neg (by simp [hc])]
      have hn : ¬ c.hit ref place elem = true := fun hh => by
        have a := hit_iff.1 hc
        have b := hit_iff.1 hh
        exact h ⟨a.1.symm.trans b.1, a.2.1.symm.trans b.2.1, a.2.2.symm.trans b.2.2⟩
      rw [show getL (c :: r) ref place elem = getL r ref place elem from by simp [getL, hn]]
      exact getL_keep h r
    · rw [List.filter_cons_of_pos (by simp [hc])]
      have := getL_keep h r
      unfold keepL at this
      simp only [getL, this]

theorem getL_put {L : List RCell} {c : RCell} {ref place : Int} {elem : Bool} : getL (putL L c) ref place elem = if c.ref = ref ∧ c.place = place ∧ c.elem = elem then c.v else getL L ref place elem := by
  unfold putL
  by_cases h : c.ref = ref ∧ c.place = place ∧ c.elem = elem
  · rw [if_pos h, getL, if_pos (hit_iff.2 h)]
  · rw [if_neg h, getL, if_neg (fun hh => h (hit_iff.1 hh)), getL_keep h]

structure Rel (ts : List Th) (sites : List Int) (types : List ByteArray) (L : List RCell) : Prop where
  sites : sites = ts.map Th.site
  types : types = ts.map Th.t
  none : ∀ ref, val ts ref = none → ∀ p e, getL L ref p e = (0, 0)
  fld : ∀ ref x, val ts ref = some x → ∀ p, getL L ref p false = (x.fs p).getD (0, 0)
  elm : ∀ ref x, val ts ref = some x → ∀ q : Int, 0 ≤ q → q < 4 → getL L ref q true = x.el q.toNat

theorem Rel.start : Rel [] [] [] [] :=
  ⟨rfl, rfl, fun _ _ _ _ => rfl, fun ref x h => by simp [val] at h, fun ref x h => by simp [val] at h⟩

theorem Rel.isRef {ts : List Th} {sites : List Int} {types : List ByteArray} {L : List RCell} (h : Rel ts sites types L) (ref : Int) : Ytldhlaabdhpdiaa.isRef sites ref = (val ts ref).isSome := by
  unfold Ytldhlaabdhpdiaa.isRef val
  rw [h.sites, List.length_map]
  by_cases h1 : 1 ≤ ref
  · rw [if_pos h1]
    by_cases h2 : ref ≤ ts.length
    · rw [List.getElem?_eq_getElem (by omega)]
      simp [h1, h2]
    · rw [List.getElem?_eq_none (by omega)]
      simp [h2]
  · rw [if_neg h1]
    simp [h1]

theorem val_append {ts : List Th} {y : Th} {ref : Int} : val (ts ++ [y]) ref = if ref = ts.length + 1 then some y else val ts ref := by
  unfold val
  by_cases h1 : 1 ≤ ref
  · rw [if_pos h1, if_pos h1, List.getElem?_append]
    by_cases h2 : ref = ts.length + 1
    · rw [if_pos h2, if_neg (by omega), show ref.toNat - 1 - ts.length = 0 by omega]; rfl
    · rw [if_neg h2]
      by_cases h3 : ref.toNat - 1 < ts.length
      · rw [if_pos h3]
      · rw [if_neg h3, List.getElem?_eq_none (by simp; omega), List.getElem?_eq_none (by omega)]
  · rw [if_neg h1, if_neg h1, if_neg (by omega)]

theorem Rel.make {ts : List Th} {sites : List Int} {types : List ByteArray} {L : List RCell} (h : Rel ts sites types L) (s : Int) (t : ByteArray) (mb : Nat) : Rel (ts ++ [newTh s t mb]) (sites ++ [s]) (types ++ [t]) L := by
  have h0 : val ts ((ts.length : Int) + 1) = Option.none := by
    unfold val
    rw [if_pos (by omega), List.getElem?_eq_none (by omega)]
  refine ⟨by rw [h.sites]; simp [newTh], by rw [h.types]; simp [newTh], ?_, ?_, ?_⟩
  · intro ref hr
    rw [val_append] at hr
    split at hr
    · cases hr
    · exact h.none ref hr
  · intro ref x hr p
    rw [val_append] at hr
    split at hr
    · rename_i e
      cases hr
      rw [e, h.none _ h0]; rfl
    · exact h.fld ref x hr p
  · intro ref x hr q h1 h2
    rw [val_append] at hr
    split at hr
    · rename_i e
      cases hr
      rw [e, h.none _ h0]; rfl
    · exact h.elm ref x hr q h1 h2

theorem val_modify {ts : List Th} {f : Th → Th} {ref ref' : Int} {x : Th} (h : val ts ref = some x) : val (ts.modify (ref.toNat - 1) f) ref' = if ref' = ref then some (f x) else val ts ref' := by
  obtain ⟨h1, h2, h3⟩ := val_some h
  unfold val
  by_cases h4 : 1 ≤ ref'
  · rw [if_pos h4, if_pos h4, modify_get]
    by_cases e : ref' = ref
    · subst e; rw [if_pos rfl, if_pos rfl, h3]; rfl
    · rw [if_neg e, if_neg (by omega)]
  · rw [if_neg h4, if_neg h4, if_neg (by omega)]

theorem Rel.put {ts : List Th} {sites : List Int} {types : List ByteArray} {L : List RCell} (h : Rel ts sites types L) {ref : Int} {x : Th} (hr : val ts ref = some x) (p : Int) (v : Int × Int) :
    Rel (putF ts (ref.toNat - 1) p v) sites types (putL L ⟨ref, p, false, v⟩) := by
  have hm : ∀ (g : Th → Th), (∀ y, (g y).site = y.site) → (ts.modify (ref.toNat - 1) g).map Th.site = ts.map Th.site := by
    intro g hg
    apply List.ext_getElem?
    intro i
    rw [List.getElem?_map, List.getElem?_map, modify_get]
    split <;> cases ts[i]? <;> simp [hg]
  have hm2 : ∀ (g : Th → Th), (∀ y, (g y).t = y.t) → (ts.modify (ref.toNat - 1) g).map Th.t = ts.map Th.t := by
    intro g hg
    apply List.ext_getElem?
    intro i
    rw [List.getElem?_map, List.getElem?_map, modify_get]
    split <;> cases ts[i]? <;> simp [hg]
  refine ⟨by rw [h.sites]; simp only [putF, setE]; refine (hm _ ?_).symm; intro y; rfl, by rw [h.types]; simp only [putF, setE]; refine (hm2 _ ?_).symm; intro y; rfl, ?_, ?_, ?_⟩
  · intro ref' hr' p' e'
    unfold putF at hr'
    rw [val_modify hr] at hr'
    split at hr'
    · cases hr'
    · rename_i hne
      rw [getL_put, if_neg (fun hh => hne hh.1.symm)]
      exact h.none ref' hr' p' e'
  · intro ref' y hr' p'
    unfold putF at hr'
    rw [val_modify hr] at hr'
    split at hr'
    · rename_i e
      subst e
      cases hr'
      rw [getL_put]
      by_cases hp : p' = p
      · subst hp; simp
      · rw [if_neg (fun hh => hp hh.2.1.symm)]
        simp only [if_neg hp]
        exact h.fld _ _ hr p'
    · rename_i hne
      rw [getL_put, if_neg (fun hh => hne hh.1.symm)]
      exact h.fld ref' y hr' p'
  · intro ref' y hr' q h1 h2
    unfold putF at hr'
    rw [val_modify hr] at hr'
    rw [getL_put, if_neg (fun hh => by cases hh.2.2)]
    split at hr'
    · rename_i e
      subst e
      cases hr'
      exact h.elm _ _ hr q h1 h2
    · exact h.elm ref' y hr' q h1 h2

theorem Rel.set {ts : List Th} {sites : List Int} {types : List ByteArray} {L : List RCell} (h : Rel ts sites types L) {ref : Int} {x : Th} (hr : val ts ref = some x) (p : Int) (v : Int × Int) :
    Rel (setE ts (ref.toNat - 1) (p % 4).toNat v) sites types (putL L ⟨ref, p % 4, true, v⟩) := by
  have hm : ∀ (g : Th → Th), (∀ y, (g y).site = y.site) → (ts.modify (ref.toNat - 1) g).map Th.site = ts.map Th.site := by
    intro g hg
    apply List.ext_getElem?
    intro i
    rw [List.getElem?_map, List.getElem?_map, modify_get]
    split <;> cases ts[i]? <;> simp [hg]
  have hm2 : ∀ (g : Th → Th), (∀ y, (g y).t = y.t) → (ts.modify (ref.toNat - 1) g).map Th.t = ts.map Th.t := by
    intro g hg
    apply List.ext_getElem?
    intro i
    rw [List.getElem?_map, List.getElem?_map, modify_get]
    split <;> cases ts[i]? <;> simp [hg]
  refine ⟨by rw [h.sites]; simp only [putF, setE]; refine (hm _ ?_).symm; intro y; rfl, by rw [h.types]; simp only [putF, setE]; refine (hm2 _ ?_).symm; intro y; rfl, ?_, ?_, ?_⟩
  · intro ref' hr' p' e'
    unfold setE at hr'
    rw [val_modify hr] at hr'
    split at hr'
    · cases hr'
    · rename_i hne
      rw [getL_put, if_neg (fun hh => hne hh.1.symm)]
      exact h.none ref' hr' p' e'
  · intro ref' y hr' p'
    unfold setE at hr'
    rw [val_modify hr] at hr'
    rw [getL_put, if_neg (fun hh => by cases hh.2.2)]
    split at hr'
    · rename_i e
      subst e
      cases hr'
      exact h.fld _ _ hr p'
    · exact h.fld ref' y hr' p'
  · intro ref' y hr' q h1 h2
    unfold setE at hr'
    rw [val_modify hr] at hr'
    split at hr'
    · rename_i e
      subst e
      cases hr'
      rw [getL_put]
      by_cases hp : q = p % 4
      · subst hp; simp
      · rw [if_neg (fun hh => hp hh.2.1.symm)]
        simp only
        rw [if_neg (by omega)]
        exact h.elm _ _ hr q h1 h2
    · rename_i hne
      rw [getL_put, if_neg (fun hh => hne hh.1.symm)]
      exact h.elm ref' y hr' q h1 h2
end Go.Proofs.Ytldhlaabdhpdiaa
