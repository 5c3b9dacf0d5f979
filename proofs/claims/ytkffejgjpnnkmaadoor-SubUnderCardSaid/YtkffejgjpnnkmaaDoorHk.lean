/- The table of classes in memory; there, Len, Index, Name, Face, Super. -/
import Derived.Test.YtkffejgjpnnkmaaDoorHa
set_option linter.unusedVariables false
set_option linter.unusedSimpArgs false
namespace Go.Proofs.YtkffejgjpnnkmaaDoor
open Go.RowKit Go.W

/-- what a table has of a class -/
structure Knd where
  name : ByteArray
  face : Bool
  sup : Int
  fs : List Int
  fa : Option Addr
  fc : Nat
def Knd.cells (k : Knd) : List Value := [.string k.name, .bool k.face, .int .i64 k.sup, .slice k.fa k.fs.length k.fc]
structure KndsAt (w : World) (v : Value) (ks : List Knd) : Prop where
  row : RowAt w v 4 (ks.map Knd.cells)
  fs : ∀ k ∈ ks, IntsAt w (.slice k.fa k.fs.length k.fc) k.fs
theorem KndsAt.no {w w' : World} {v : Value} {ks : List Knd} (h : KndsAt w v ks) (hc : Ch No w w') : KndsAt w' v ks := ⟨h.row.no hc, fun k hk => (h.fs k hk).no hc⟩

/-- a set behind a pointer (none: nil) and its numbers -/
structure SetP where
  b : Option Nat
  l : List Int
def SetP.val (s : SetP) : Value := .pointer (s.b.map (fun b => ⟨b, 0, none⟩))
structure SetsAt (w : World) (v : Value) (ss : List SetP) : Prop where
  row : RowAt w v 1 (ss.map (fun s => [s.val]))
  sets : ∀ s ∈ ss, ∀ b, s.b = some b → ∃ ob, SetAt w b s.l ob
  nil : ∀ s ∈ ss, s.b = none → s.l = []
theorem SetsAt.no {w w' : World} {v : Value} {ss : List SetP} (h : SetsAt w v ss) (hc : Ch No w w') : SetsAt w' v ss :=
  ⟨h.row.no hc, fun s hs b hb => (h.sets s hs b hb).imp fun _ h => h.no hc, h.nil⟩

structure TabD where
  allv : Value
  abv : Value
  ordv : Value
  mb : Nat
  mn : Nat
  ks : List Knd
  get : ByteArray → Option Nat
  ss : List SetP
  ord : List Int
def getV (get : ByteArray → Option Nat) (s : ByteArray) : Option Value := (get s).map (fun i => .int .i64 (i : Int))
/-- block tb is the table T -/
structure TabAt (w : World) (tb : Nat) (T : TabD) : Prop where
  blk : w.heap[tb]? = some (.cells #[T.allv, .map (some T.mb), T.abv, T.ordv] 84 (0, 0))
  all : KndsAt w T.allv T.ks
  names : MapIs Tryd.prog 9 strK w T.mb T.mn (getV T.get)
  sets : SetsAt w T.abv T.ss
  ord : IntsAt w T.ordv T.ord
theorem TabAt.no {w w' : World} {tb : Nat} {T : TabD} (h : TabAt w tb T) (hc : Ch No w w') : TabAt w' tb T :=
  ⟨hc.keep _ _ h.blk (fun h => h), h.all.no hc, h.names.ch hc (fun _ _ h => h), h.sets.no hc, h.ord.no hc⟩

/-- the cells of row k, which begin at the place a of block b -/
structure KndCells (w : World) (b a : Nat) (k : Knd) : Prop where
  q0 : w.cell? ⟨b, a, none⟩ = some (.string k.name)
  q1 : w.cell? ⟨b, a + 1, none⟩ = some (.bool k.face)
  q2 : w.cell? ⟨b, a + 2, none⟩ = some (.int .i64 k.sup)
  q3 : w.cell? ⟨b, a + 3, none⟩ = some (.slice k.fa k.fs.length k.fc)
theorem KndsAt.slice {w : World} {v : Value} {ks : List Knd} (h : KndsAt w v ks) : ∃ ao cap, v = .slice ao ks.length cap ∧ ks.length ≤ cap ∧ cap ≤ maxLen := by
  obtain ⟨ao, cap, e, h1, h2, _⟩ := h.row
  rw [List.length_map] at e h1
  exact ⟨ao, cap, e, h1, h2⟩
theorem KndsAt.cell {w : World} {v : Value} {ks : List Knd} (h : KndsAt w v ks) {i : Nat} {k : Knd} (hk : ks[i]? = some k) :
    ∃ b off cap, v = .slice (some ⟨b, off, none⟩) ks.length cap ∧ KndCells w b (off + i * 4) k ∧ ks.length ≤ cap ∧ cap ≤ maxLen := by
  obtain ⟨ao, cap, e, h1, h2, h3, h4⟩ := h.row
  have hl : i < ks.length := (List.getElem?_eq_some_iff.1 hk).1
  obtain ⟨b, off, rfl, h5⟩ := h4 (by rw [List.length_map]; omega)
  have h6 := fun j hj => h5 i k.cells (by rw [List.getElem?_map, hk]; rfl) j hj
  exact ⟨b, off, cap, by rw [e, List.length_map], ⟨h6 0 (by omega), h6 1 (by omega), h6 2 (by omega), h6 3 (by omega)⟩, by rw [List.length_map] at h1; exact h1, h2⟩

set_option maxHeartbeats 1000000 in
theorem hlen {w : World} {tb : Nat} {T : TabD} (h : TabAt w tb T) :
    Calls Tryd.prog 20 #[.pointer (some ⟨tb, 0, none⟩)] w fun e w' => e = .returned (.int .i64 T.ks.length) ∧ w = w' := by
  obtain ⟨ao, cap, e, _, _⟩ := h.all.slice
  have c0 := cellAt h.blk 0
  rw [e] at c0
  clear h e
  go_enter Tryd.func20, Tryd.ntmps20
  go_wp2_with fail
  go_ret
  exact ⟨rfl, rfl⟩

set_option maxHeartbeats 1000000 in
theorem hthere {w : World} {tb : Nat} {T : TabD} (h : TabAt w tb T) (i : Int) :
    Calls Tryd.prog 54 #[.pointer (some ⟨tb, 0, none⟩), .int .i64 i] w fun e w' => e = .returned (.bool (decide (0 ≤ i ∧ i < T.ks.length))) ∧ w = w' := by
  obtain ⟨ao, cap, e, _, _⟩ := h.all.slice
  have c0 := cellAt h.blk 0
  rw [e] at c0
  clear h e
  cases h0 : decide (0 ≤ i) with
  | true =>
    have h0' : 0 ≤ i := by simpa using h0
    go_enter Tryd.func54, Tryd.ntmps54
    go_wp2_with fail
    go_ret
    exact ⟨ret_bool (by simp [h0']), rfl⟩
  | false =>
    have h0' : ¬ 0 ≤ i := by simpa using h0
    go_enter Tryd.func54, Tryd.ntmps54
    go_wp2_with fail
    go_ret
    exact ⟨ret_bool (by simp [h0']), rfl⟩

theorem hthere_yes {w : World} {tb : Nat} {T : TabD} (h : TabAt w tb T) {i : Nat} {k : Knd} (hk : T.ks[i]? = some k) :
    Calls Tryd.prog 54 #[.pointer (some ⟨tb, 0, none⟩), .int .i64 i] w fun e w' => e = .returned (.bool true) ∧ w = w' :=
  (hthere h i).mono fun e w' ⟨he, hw⟩ => ⟨he.trans (ret_bool (by have := (List.getElem?_eq_some_iff.1 hk).1; simp; omega)), hw⟩
theorem hthere_no {w : World} {tb : Nat} {T : TabD} (h : TabAt w tb T) {i : Int} (hi : ¬ (0 ≤ i ∧ i < T.ks.length)) :
    Calls Tryd.prog 54 #[.pointer (some ⟨tb, 0, none⟩), .int .i64 i] w fun e w' => e = .returned (.bool false) ∧ w = w' :=
  (hthere h i).mono fun e w' ⟨he, hw⟩ => ⟨he.trans (ret_bool (by simpa using hi)), hw⟩

theorem strKey {P : Program} {t : TypeId} (h : ∀ s, keyOf P t (.string s) = some (.string s.data.toList)) : True := trivial

/-- what is told of a number: the row, if there is one -/
def rowZ (ks : List Knd) (i : Int) : Option Knd := if 0 ≤ i then ks[i.toNat]? else none
theorem rowZ_none {ks : List Knd} {i : Int} (h : rowZ ks i = none) : ¬ (0 ≤ i ∧ i < ks.length) := by
  unfold rowZ at h
  rintro ⟨h0, h1⟩
  rw [if_pos h0] at h
  have := List.getElem?_eq_none_iff.1 h
  omega
theorem rowZ_some {ks : List Knd} {i : Int} {k : Knd} (h : rowZ ks i = some k) : ∃ n : Nat, i = n ∧ ks[n]? = some k := by
  unfold rowZ at h
  by_cases h0 : 0 ≤ i
  · rw [if_pos h0] at h
    exact ⟨i.toNat, by omega, h⟩
  · rw [if_neg h0] at h; cases h
theorem rowZ_nat {ks : List Knd} {n : Nat} : rowZ ks n = ks[n]? := by
  unfold rowZ
  rw [if_pos (by omega)]; simp

set_option maxHeartbeats 1000000 in
theorem hName {w : World} {tb : Nat} {T : TabD} (h : TabAt w tb T) (i : Int) :
    Calls Tryd.prog 25 #[.pointer (some ⟨tb, 0, none⟩), .int .i64 i] w fun e w' => e = .returned (.string (((rowZ T.ks i).map Knd.name).getD ByteArray.empty)) ∧ w = w' := by
  cases hr : rowZ T.ks i with
  | none =>
    have ht := hthere_no h (rowZ_none hr)
    clear h hr
    go_enter Tryd.func25, Tryd.ntmps25
    go_wp2_with fail
    refine ht.mono ?_
    rintro e w1 ⟨rfl, rfl⟩
    go_wp2_with fail
    go_ret
    exact ⟨rfl, rfl⟩
  | some k =>
    obtain ⟨n, rfl, hk⟩ := rowZ_some hr
    have ht := hthere_yes h hk
    obtain ⟨b, off, cap, e, hc, h1, h2⟩ := h.all.cell hk
    have hl := (List.getElem?_eq_some_iff.1 hk).1
    unfold maxLen at h2
    have c0 := cellAt h.blk 0
    rw [e] at c0
    have q := hc.q0
    clear h hr e hc hk
    go_enter Tryd.func25, Tryd.ntmps25
    go_wp2_with fail
    refine ht.mono ?_
    rintro e w1 ⟨rfl, rfl⟩
    go_wp2_with fail
    go_ret
    exact ⟨rfl, rfl⟩
set_option maxHeartbeats 1000000 in
theorem hFace {w : World} {tb : Nat} {T : TabD} (h : TabAt w tb T) (i : Int) :
    Calls Tryd.prog 26 #[.pointer (some ⟨tb, 0, none⟩), .int .i64 i] w fun e w' => e = .returned (.bool (((rowZ T.ks i).map Knd.face).getD false)) ∧ w = w' := by
  cases hr : rowZ T.ks i with
  | none =>
    have ht := hthere_no h (rowZ_none hr)
    clear h hr
    go_enter Tryd.func26, Tryd.ntmps26
    go_wp2_with fail
    refine ht.mono ?_
    rintro e w1 ⟨rfl, rfl⟩
    go_wp2_with fail
    go_ret
    exact ⟨rfl, rfl⟩
  | some k =>
    obtain ⟨n, rfl, hk⟩ := rowZ_some hr
    have ht := hthere_yes h hk
    obtain ⟨b, off, cap, e, hc, h1, h2⟩ := h.all.cell hk
    have hl := (List.getElem?_eq_some_iff.1 hk).1
    unfold maxLen at h2
    have c0 := cellAt h.blk 0
    rw [e] at c0
    have q := hc.q1
    clear h hr e hc hk
    go_enter Tryd.func26, Tryd.ntmps26
    go_wp2_with fail
    refine ht.mono ?_
    rintro e w1 ⟨rfl, rfl⟩
    go_wp2_with fail
    go_ret
    exact ⟨rfl, rfl⟩
set_option maxHeartbeats 1000000 in
theorem hSuper {w : World} {tb : Nat} {T : TabD} (h : TabAt w tb T) (i : Int) :
    Calls Tryd.prog 27 #[.pointer (some ⟨tb, 0, none⟩), .int .i64 i] w fun e w' => e = .returned (.int .i64 (((rowZ T.ks i).map Knd.sup).getD (-1))) ∧ w = w' := by
  cases hr : rowZ T.ks i with
  | none =>
    have ht := hthere_no h (rowZ_none hr)
    clear h hr
    go_enter Tryd.func27, Tryd.ntmps27
    go_wp2_with fail
    refine ht.mono ?_
    rintro e w1 ⟨rfl, rfl⟩
    go_wp2_with fail
    go_ret
    exact ⟨rfl, rfl⟩
  | some k =>
    obtain ⟨n, rfl, hk⟩ := rowZ_some hr
    have ht := hthere_yes h hk
    obtain ⟨b, off, cap, e, hc, h1, h2⟩ := h.all.cell hk
    have hl := (List.getElem?_eq_some_iff.1 hk).1
    unfold maxLen at h2
    have c0 := cellAt h.blk 0
    rw [e] at c0
    have q := hc.q2
    clear h hr e hc hk
    go_enter Tryd.func27, Tryd.ntmps27
    go_wp2_with fail
    refine ht.mono ?_
    rintro e w1 ⟨rfl, rfl⟩
    go_wp2_with fail
    go_ret
    exact ⟨rfl, rfl⟩
end Go.Proofs.YtkffejgjpnnkmaaDoor
