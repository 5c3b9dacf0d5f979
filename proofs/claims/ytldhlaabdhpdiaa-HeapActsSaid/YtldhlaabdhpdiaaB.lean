/- The heap in memory, as a list of things; of a thing by its number. No condition of its own. -/
import Derived.Test.YtldhlaabdhpdiaaRows
import Derived.Test.YtldhlaabdhpdiaaLib
set_option linter.unusedVariables false
namespace Go.Proofs.Ytldhlaabdhpdiaa
open Go.RowKit Go.W
open Go.Maps (Keyed)

theorem law3 : Keyed Try.prog 3 := Go.Maps.int_keyed Try.underlying3
def I64 (n : Int) : Prop := (Lit.int .i64 n).wf = true
theorem I64.mk {n : Int} (h1 : -9223372036854775808 ≤ n) (h2 : n ≤ 9223372036854775807) : I64 n := WalkArith.wf_i64 ⟨h1, h2⟩
theorem I64.key {n : Int} (h : I64 n) : keyOf Try.prog 3 (intK.val n) = some (intK.lit n) := Go.Maps.keyOf_int_mk Try.underlying3 h
theorem zero23 (w : World) : (zeroValue 23).run Try.prog w = .ok (.agg #[.int .i64 0, .int .i64 0]) w := by kernel_rfl
theorem info55 : (Try.prog.info? 55).map (fun i => (i.zero.map (fun z => z.cells.size), i.size, i.bytes)) = some (some 11, 11, 96) := by kernel_rfl

def vv (x : Int × Int) : Value := .agg #[.int .i64 x.1, .int .i64 x.2]

theorem place_any (i : Int) (w : World) :
    Calls Try.prog 24 #[.int .i64 i] w fun e w' => e = .returned (.int .i64 (i % 4)) ∧ w = w' := by
  go_enter Try.func24, Try.ntmps24
  go_wp2
  go_ret
  exact ⟨congrArg (fun n => Ending.returned (.int .i64 n)) (and3 i), rfl⟩

/-- a thing -/
structure Th where
  site : Int
  t : ByteArray
  mb : Nat
  el : Nat → Int × Int
  fs : Int → Option (Int × Int)

def Th.cells (x : Th) : List Value := [.int .i64 x.site, .string x.t, .map (some x.mb), .int .i64 (x.el 0).1, .int .i64 (x.el 0).2, .int .i64 (x.el 1).1, .int .i64 (x.el 1).2, .int .i64 (x.el 2).1, .int .i64 (x.el 2).2, .int .i64 (x.el 3).1, .int .i64 (x.el 3).2]
theorem Th.len (x : Th) : x.cells.length = 11 := rfl

/-- the blocks of a heap from hb on -/
abbrev HS (hb : Nat) : Nat → Obj → Prop := Tg hb [0, 52, 56]

structure HeapAt (w : World) (hb : Nat) (ts : List Th) (n : Nat) (v : Value) : Prop where
  head : w.heap[hb]? = some (.cells #[v] 51 (0, 0))
  row : w.ownsRow hb 55 11 v ts.length (ts.flatMap Th.cells)
  maps : ∀ (i : Nat) (x : Th), ts[i]? = some x → MapIs Try.prog 3 intK w x.mb n (fun k => (x.fs k).map vv) ∧ hb ≤ x.mb
  apart : ∀ (i j : Nat) (x y : Th), ts[i]? = some x → ts[j]? = some y → x.mb = y.mb → i = j

theorem HeapAt.ch {w w' : World} {hb : Nat} {ts : List Th} {n : Nat} {v : Value} {S : Nat → Obj → Prop} (h : HeapAt w hb ts n v) (hc : Ch S w w') (hS : ∀ k o, hb ≤ k → (tag o = 52 ∨ tag o = 56 ∨ tag o = 0) → ¬ S k o) : HeapAt w' hb ts n v :=
  ⟨hc.keep _ _ h.head (hS _ _ (Nat.le_refl _) (.inl rfl)), ownsRow_ch h.row hc (fun g cur _ hg _ => hS _ _ hg (.inr (.inl rfl))),
    fun i x hx => ⟨(h.maps i x hx).1.ch hc (fun _ _ => hS _ _ (h.maps i x hx).2 (.inr (.inr rfl))), (h.maps i x hx).2⟩, h.apart⟩

theorem HeapAt.mono {w : World} {hb : Nat} {ts : List Th} {n n' : Nat} {v : Value} (h : HeapAt w hb ts n v) (hn : n ≤ n') : HeapAt w hb ts n' v :=
  ⟨h.head, h.row, fun i x hx => ⟨(h.maps i x hx).1.mono hn, (h.maps i x hx).2⟩, h.apart⟩

/-- what the slice is: of as many things -/
theorem HeapAt.slice {w : World} {hb : Nat} {ts : List Th} {n : Nat} {v : Value} (h : HeapAt w hb ts n v) : ∃ ao cap, v = .slice ao ts.length cap ∧ ts.length ≤ maxLen ∧ (0 < ts.length → ∃ g, ao = some ⟨g, 0, none⟩) := by
  rcases h.row.2 with ⟨h1, h2⟩ | ⟨g, cap, cur, h1, _, _, h2, h3, _⟩
  · exact ⟨_, _, by rw [h1, h2], by rw [h2]; exact Nat.zero_le _, fun h => by omega⟩
  · exact ⟨_, _, h1, Nat.le_trans h2 h3, fun _ => ⟨g, rfl⟩⟩

theorem of_none {w : World} {hb : Nat} {ts : List Th} {n : Nat} {v : Value} (h : HeapAt w hb ts n v) (ref : Int) (hr : ref < 1 ∨ (ts.length : Int) < ref) :
    Calls Try.prog 23 #[.pointer (some ⟨hb, 0, none⟩), .int .i64 ref] w fun e w' => e = .returned (.pointer none) ∧ w = w' := by
  obtain ⟨ao, cap, rfl, hm, _⟩ := h.slice
  have hc := cellAt h.head 0
  simp only [List.getElem?_toArray, List.getElem?_cons_zero] at hc
  generalize ts.length = len at *
  clear h
  by_cases h : ref < 1
  · go_enter Try.func23, Try.ntmps23
    go_wp2
    go_ret
    exact ⟨rfl, rfl⟩
  · have h2 : (len : Int) < ref := by omega
    go_enter Try.func23, Try.ntmps23
    go_wp2
    go_ret
    exact ⟨rfl, rfl⟩

theorem of_some {w : World} {hb : Nat} {ts : List Th} {n : Nat} {v : Value} (h : HeapAt w hb ts n v) (ref : Int) (hr : 1 ≤ ref) (hr2 : ref ≤ (ts.length : Int)) :
    ∃ g cap x, v = .slice (some ⟨g, 0, none⟩) ts.length cap ∧ ts[ref.toNat - 1]? = some x ∧ (∀ j, j < 11 → w.cell? ⟨g, (ref.toNat - 1) * 11 + j, none⟩ = x.cells[j]?) ∧
    Calls Try.prog 23 #[.pointer (some ⟨hb, 0, none⟩), .int .i64 ref] w fun e w' => e = .returned (.pointer (some ⟨g, (ref.toNat - 1) * 11, none⟩)) ∧ w = w' := by
  obtain ⟨ao, cap, rfl, hm, hg⟩ := h.slice
  obtain ⟨g, rfl⟩ := hg (by omega)
  have hlt : ref.toNat - 1 < ts.length := by omega
  refine ⟨g, cap, ts[ref.toNat - 1], rfl, List.getElem?_eq_getElem hlt, ?_, ?_⟩
  · intro j hj
    rw [h.row.cellAt _ (by have : (ref.toNat - 1) * 11 + 11 ≤ ts.length * 11 := by omega
                           omega)]
    exact flat_get Th.cells 11 Th.len ts _ j _ (List.getElem?_eq_getElem hlt) hj
  · have hc := cellAt h.head 0
    simp only [List.getElem?_toArray, List.getElem?_cons_zero] at hc
    clear h hg hlt
    generalize ts.length = len at *
    unfold maxLen at hm
    go_enter Try.func23, Try.ntmps23
    go_wp2
    go_ret
    exact ⟨rfl, rfl⟩
end Go.Proofs.Ytldhlaabdhpdiaa
