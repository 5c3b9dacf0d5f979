/- Members of the program: what a class tells: told$1, method. -/
import Derived.Test.YtgjpgfedlgdjhaaGreatDoorMb
import Derived.Test.YtgjpgfedlgdjhaaGreatDoorPk
set_option linter.unusedVariables false
set_option linter.unusedSimpArgs false
set_option maxRecDepth 8192
namespace Go.Proofs.YtgjpgfedlgdjhaaGreatDoor
open Go.RowKit Go.W

theorem zeroMem (w : World) : (zeroValue 54).run Tryz.prog w = .ok (.agg #[.int .i64 0, .string ⟨#[]⟩, .string ⟨#[]⟩, .slice none 0 0, .bool false, .bool false]) w := by kernel_rfl
/-- a member, as a value -/
def mbV (c : Int) (nm ty : ByteArray) (sa : Option Addr) (sn sc : Nat) (st ba : Bool) : Value := .agg #[.int .i64 c, .string nm, .string ty, .slice sa sn sc, .bool st, .bool ba]
def Is6 (u : Value) : Prop := ∃ c nm ty sa sn sc st ba, u = mbV c nm ty sa sn sc st ba
/-- the first one of a name counts -/
def putN (get : ByteArray → Option Value) (nm : ByteArray) (v : Value) : ByteArray → Option Value := fun l => match get l with | some u => some u | none => if l = nm then some v else none

theorem told1 {w : World} {mb n : Nat} {get : ByteArray → Option Value} (h : MapIs Tryz.prog 9 strK w mb n get) (hn : n < 1000000) {c : Int} {nm ty : ByteArray} {sa : Option Addr} {sn sc : Nat} {st ba : Bool} (hz : nm.size ≤ maxLen) (hg : ∀ u, get nm = some u → Is6 u) :
    Calls Tryz.prog 78 #[.map (some mb), mbV c nm ty sa sn sc st ba] w fun e w' => e = .returned (.tuple #[]) ∧ MapIs Tryz.prog 9 strK w' mb (n + 1) (putN get nm (mbV c nm ty sa sn sc st ba)) ∧ Ch (fun k _ => k = mb) w w' := by
  unfold mbV
  obtain ⟨w1, hw1⟩ : ∃ w1, w.alloc (.cells #[.int .i64 c, .string nm, .string ty, .slice sa sn sc, .bool st, .bool ba] 54) = w1 := ⟨_, rfl⟩
  have hb1 := heap_alloc_new w (.cells #[.int .i64 c, .string nm, .string ty, .slice sa sn sc, .bool st, .bool ba] 54)
  have hc1 := (Ch.refl No w).alloc (.cells #[.int .i64 c, .string nm, .string ty, .slice sa sn sc, .bool st, .bool ba] 54)
  rw [hw1] at hb1 hc1
  have h1 := h.ch hc1 (fun _ _ h => h)
  have HC1 := hid hc1
  have hlk := h1.lookOk lawS Tryz.underlying98 (zeroMem w1) (keyS hz)
  have hlt := lt_size hb1
  have d0 := cellAt hb1 0
  have d1 := cellAt hb1 1
  have d2 := cellAt hb1 2
  have d3 := cellAt hb1 3
  have d4 := cellAt hb1 4
  have d5 := cellAt hb1 5
  cases hgn : get nm with
  | some u =>
    obtain ⟨c', nm', ty', sa', sn', sc', st', ba', rfl⟩ := hg u hgn
    rw [hgn] at hlk
    have hlk' : (Instr.lookup 98 (.map (some mb)) (.string nm) true).run Tryz.prog w1 = .ok (.tuple #[.agg #[.int .i64 c', .string nm', .string ty', .slice sa' sn' sc', .bool st', .bool ba'], .bool true]) w1 := hlk
    have HG := hid hgn
    have H1 := hid h1
    clear h h1 hlk hgn hg hb1 hc1 hz
    go_enter Tryz.func78, Tryz.ntmps78
    go_wp2_with fail
    refine bodyPost_end (results_none rfl _ _ _) rfl ?_
    refine ⟨rfl, ?_, ((HC1.out.alloc _).mono (fun _ _ _ h => h.elim))⟩
    have e : putN get nm (.agg #[.int .i64 c, .string nm, .string ty, .slice sa sn sc, .bool st, .bool ba]) = get := by
      funext l
      unfold putN
      cases hl : get l with
      | some u => rfl
      | none =>
        by_cases e : l = nm
        · subst e; rw [HG.out] at hl; cases hl
        · simp [e]
    rw [e]
    exact (H1.out.alloc _).mono (by omega)
  | none =>
    rw [hgn] at hlk
    have hlk' : (Instr.lookup 98 (.map (some mb)) (.string nm) true).run Tryz.prog w1 = .ok (.tuple #[.agg #[.int .i64 0, .string ⟨#[]⟩, .string ⟨#[]⟩, .slice none 0 0, .bool false, .bool false], .bool false]) w1 := hlk
    obtain ⟨w2, hw2⟩ : ∃ w2, w1.alloc (.cells #[.int .i64 0, .string ⟨#[]⟩, .string ⟨#[]⟩, .slice none 0 0, .bool false, .bool false] 54) = w2 := ⟨_, rfl⟩
    have hc2 := (Ch.refl No w1).alloc (.cells #[.int .i64 0, .string ⟨#[]⟩, .string ⟨#[]⟩, .slice none 0 0, .bool false, .bool false] 54)
    rw [hw2] at hc2
    have hb2 := hc2.keep _ _ hb1 (fun h => h)
    have h2 := h1.ch hc2 (fun _ _ h => h)
    have g0 := cellAt hb2 0
    have g1 := cellAt hb2 1
    have g2 := cellAt hb2 2
    have g3 := cellAt hb2 3
    have g4 := cellAt hb2 4
    have g5 := cellAt hb2 5
    obtain ⟨w3, hrun, hm3, hg3⟩ := h2.store lawS Tryz.underlying98 (by unfold maxLen; omega) (keyS hz) (.agg #[.int .i64 c, .string nm, .string ty, .slice sa sn sc, .bool st, .bool ba])
    have hrun' : (Instr.mapUpdate 98 (.map (some mb)) (.string nm) (.agg #[.int .i64 c, .string nm, .string ty, .slice sa sn sc, .bool st, .bool ba])).run Tryz.prog w2 = .ok () w3 := hrun
    have HG := hid hgn
    have H3 := hid hm3
    have HC3 := hid (((HC1.out.trans hc2).mono (S' := fun k _ => k = mb) (fun _ _ _ h => h.elim)).trans ((Ch.refl (fun k _ => k = mb) w2).grown hg3 (fun _ _ h _ => by cases h; rfl)))
    clear h h1 h2 hlk hgn hg hb1 hb2 hc1 hc2 hz hrun hm3 hg3
    subst hw2
    go_enter Tryz.func78, Tryz.ntmps78
    go_wp2_with fail
    refine bodyPost_end (results_none rfl _ _ _) rfl ?_
    refine ⟨rfl, ?_, HC3.out⟩
    have e : putN get nm (.agg #[.int .i64 c, .string nm, .string ty, .slice sa sn sc, .bool st, .bool ba]) = fun l => if l = nm then some (.agg #[.int .i64 c, .string nm, .string ty, .slice sa sn sc, .bool st, .bool ba]) else get l := by
      funext l
      unfold putN
      by_cases e : l = nm
      · subst e; rw [HG.out]
      · cases hl : get l <;> simp [e]
    rw [e]
    exact H3.out

/-- the map of fields (statics): what stands at a name -/
def getVr (i : Int) (st : Bool) (l : List Vr) (nm : ByteArray) : Option Value := (vrF l nm).map (fun v => mbV i v.nm v.ty none 0 0 st false)
theorem getVr_is {i : Int} {st : Bool} {l : List Vr} {nm : ByteArray} : ∀ u, getVr i st l nm = some u → Is6 u := by
  intro u h
  unfold getVr at h
  cases hv : vrF l nm with
  | none => rw [hv] at h; cases h
  | some v => rw [hv] at h; cases h; exact ⟨_, _, _, _, _, _, _, _, rfl⟩
theorem vrSnoc {l : List Vr} {v : Vr} {nm : ByteArray} : vrF (l ++ [v]) nm = match vrF l nm with | some u => some u | none => if nm = v.nm then some v else none := by
  unfold vrF
  rw [List.find?_append]
  cases List.find? (fun v => decide (v.nm = nm)) l with
  | some u => rfl
  | none =>
    by_cases h : v.nm = nm
    · simp [h]
    · have : ¬ nm = v.nm := fun e => h e.symm
      simp [h, this]
theorem getVr_snoc {i : Int} {st : Bool} {l : List Vr} {v : Vr} : getVr i st (l ++ [v]) = putN (getVr i st l) v.nm (mbV i v.nm v.ty none 0 0 st false) := by
  funext nm
  unfold putN
  unfold getVr
  rw [vrSnoc]
  cases hv : vrF l nm with
  | some u => rfl
  | none =>
    by_cases h : nm = v.nm
    · subst h; simp
    · simp [h]
/-- the map of methods: pv k: the slice of method k's parameters' types -/
def getMt (i : Int) (pv : Nat → Option Addr × Nat × Nat) (l : List Mt) (nm : ByteArray) : Option Value :=
  match mtK l nm with
  | some k => match l[k]? with | some x => some (mbV i x.nm x.ret (pv k).1 (pv k).2.1 (pv k).2.2 x.st x.ba) | none => none
  | none => none
theorem getMt_is {i : Int} {pv : Nat → Option Addr × Nat × Nat} {l : List Mt} {nm : ByteArray} : ∀ u, getMt i pv l nm = some u → Is6 u := by
  intro u h
  unfold getMt at h
  cases hv : mtK l nm with
  | none => rw [hv] at h; cases h
  | some k =>
    rw [hv] at h
    cases hx : l[k]? with
    | none => simp [hx] at h
    | some x => simp [hx] at h; subst h; exact ⟨_, _, _, _, _, _, _, _, rfl⟩
theorem mtK_snoc {l : List Mt} {x : Mt} {nm : ByteArray} : mtK (l ++ [x]) nm = match mtK l nm with | some k => some k | none => if nm = x.nm then some l.length else none := by
  unfold mtK
  rw [List.findIdx?_append]
  cases List.findIdx? (fun x => decide (x.nm = nm)) l with
  | some u => simp
  | none =>
    by_cases h : x.nm = nm
    · simp [h, List.findIdx?_cons]
    · have : ¬ nm = x.nm := fun e => h e.symm
      simp [h, this, List.findIdx?_cons]
theorem mtK_lt {l : List Mt} {nm : ByteArray} {k : Nat} (h : mtK l nm = some k) : k < l.length := by
  unfold mtK at h
  exact (List.findIdx?_eq_some_iff_getElem.1 h).1
theorem getMt_snoc {i : Int} {pv pv' : Nat → Option Addr × Nat × Nat} {l : List Mt} {x : Mt} (hp : ∀ k, k < l.length → pv' k = pv k) : getMt i pv' (l ++ [x]) = putN (getMt i pv l) x.nm (mbV i x.nm x.ret (pv' l.length).1 (pv' l.length).2.1 (pv' l.length).2.2 x.st x.ba) := by
  funext nm
  unfold putN
  unfold getMt
  rw [mtK_snoc]
  cases hk : mtK l nm with
  | some k =>
    have hl := mtK_lt hk
    simp only
    rw [List.getElem?_append_left hl, List.getElem?_eq_getElem hl, hp k hl]
  | none =>
    by_cases h : nm = x.nm
    · subst h; simp
    · simp [h]

/-- the texts of a row, at the places pv -/
structure OwnAt (w : World) (ov : Value) (i : Nat) (m : Mem) : Prop where
  ex : ∃ b1 b2 b3 n1 n2 n3 pv, ov = .agg #[.map (some b1), .map (some b2), .map (some b3)] ∧ MapIs Tryz.prog 9 strK w b1 n1 (getVr i false m.fs) ∧ MapIs Tryz.prog 9 strK w b2 n2 (getVr i true m.ss) ∧ MapIs Tryz.prog 9 strK w b3 n3 (getMt i pv m.ms) ∧
    (n3 ≤ 100000) ∧ ∀ (k : Nat) (x : Mt), m.ms[k]? = some x → StrsOwn w 0 (.slice (pv k).1 (pv k).2.1 (pv k).2.2) (x.ps.map Vr.ty)
theorem OwnAt.no {w w' : World} {ov : Value} {i : Nat} {m : Mem} (h : OwnAt w ov i m) (hc : Ch No w w') : OwnAt w' ov i m := by
  obtain ⟨b1, b2, b3, n1, n2, n3, pv, e, h1, h2, h3, h4, h5⟩ := h.ex
  exact ⟨b1, b2, b3, n1, n2, n3, pv, e, h1.ch hc (fun _ _ h => h), h2.ch hc (fun _ _ h => h), h3.ch hc (fun _ _ h => h), h4, fun k x hx => (h5 k x hx).no hc⟩
end Go.Proofs.YtgjpgfedlgdjhaaGreatDoor
