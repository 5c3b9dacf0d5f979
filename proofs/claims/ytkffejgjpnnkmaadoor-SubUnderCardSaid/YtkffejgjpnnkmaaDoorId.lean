/- What Go's library answers for the sets: BinarySearch, Insert, TrailingZeros64, Clone, Equal. -/
import Derived.Test.YtkffejgjpnnkmaaDoorIc
import Derived.Shelf.Slices.SearchI
import Derived.Shelf.Slices.Empties
import Derived.Shelf.Spec.SlicesInsert
import Derived.Shelf.Spec.SlicesInsertGrow
import Derived.Shelf.Spec.TrailingZeros
set_option linter.unusedVariables false
set_option linter.unusedSimpArgs false
namespace Go.Proofs.YtkffejgjpnnkmaaDoor
open Go.RowKit Go.W Go.Shelf

def rho2 : Ren := ⟨fun n => match n with
  | 25 => 74 | 31 => 81 | 32 => 82 | 37 => 85 | 21 => 58 | 27 => 72 | 28 => 73 | 35 => 80 | 39 => 84 | n => n,
  fun t => match t with | 22 => 41 | 40 => 116 | t => t, fun g => g⟩

def rho7 : Ren := ⟨fun n => match n with | 29 => 71 | n => n,
  fun t => match t with | 5 => 5 | 22 => 109 | 25 => 116 | 54 => 115 | t => t, fun g => match g with | 1 => 0 | g => g⟩

theorem lays25 : Lays2.n25 Tryd.prog rho2 := by
  constructor <;> first | kernel_rfl | (intro w; kernel_rfl) | (intro w; rfl)
theorem lays21 : Lays2.n21 Tryd.prog rho2 := by
  constructor <;> first | kernel_rfl | (intro w; kernel_rfl) | (intro w; rfl)
theorem lays29 : Lays7.n29 Tryd.prog rho7 := by
  constructor <;> first | kernel_rfl | (intro w; kernel_rfl) | (intro w; rfl)

theorem binS {w : World} {v : Value} {l : List Int} (h : IntsAt w v l) (hs : l.Pairwise (· < ·)) (n : Int) (hl : l.length ≤ 2000000) :
    Calls Tryd.prog 74 #[v, .int .i64 n] w fun e w' => e = .returned (.tuple #[.int .i64 (l.countP (· < n) : Nat), .bool (decide (n ∈ l))]) ∧ ∃ q, w' = w.drewN q := by
  obtain ⟨ao, cap, rfl, h1, h2, h3, h4⟩ := h
  by_cases h0 : 0 < l.length
  · obtain ⟨b, off, rfl, h5⟩ := h4 h0
    have hq := Any.slices_BinarySearch_int lays25 b off l.length cap l n w (Nat.le_refl _) (by omega)
      (fun j hj => by
        have e : l[j]? = some (l.getD j 0) := by rw [List.getD_eq_getElem?_getD, List.getElem?_eq_getElem hj]; rfl
        exact h5 j _ e)
      (by rw [List.take_length]; exact hs.imp (fun h => by omega))
    rw [List.take_length] at hq
    refine Calls.mono hq ?_
    rintro e w' ⟨rfl, hw⟩
    exact ⟨by rw [List.contains_eq_mem], hw⟩
  · have : l = [] := List.length_eq_zero_iff.1 (by omega)
    subst this
    refine Calls.mono (Any.slices_BinarySearch_int_empty lays25 ao cap n w) ?_
    rintro e w' ⟨rfl, rfl⟩
    exact ⟨by simp, 0, rfl⟩

theorem tz64 (x : Nat) (hx : x < 18446744073709551616) (w : World) (hT : TabAt 0 Lib.deBruijn64tab w) :
    Calls Tryd.prog 71 #[.int .u64 x] w fun e w' => e = .returned (.int .i64 (Lib.ctz 64 x)) ∧ w' = w :=
  Any7.bits_TrailingZeros64 lays29 x hx w (fun _ => hT)

theorem setCells_heap {b : Nat} {t : TypeId} {fz : Nat × Nat} : ∀ (vs : List Value) (o : Nat) (w : World) (cur : Array Value), w.heap[b]? = some (.cells cur t fz) → o + vs.length ≤ cur.size →
    ∃ cur', (w.setCells b o vs).heap[b]? = some (.cells cur' t fz) ∧ cur'.size = cur.size ∧ cur'.toList = cur.toList.take o ++ vs ++ cur.toList.drop (o + vs.length)
  | [], o, w, cur, h, _ => ⟨cur, h, rfl, by simp⟩
  | v :: r, o, w, cur, h, hl => by
    simp only [List.length_cons] at hl
    have h1 : (w.setCell ⟨b, o, none⟩ v).heap[b]? = some (.cells (cur.setIfInBounds o v) t fz) := by
      simp [World.setCell, Array.getElem?_modify, h]
    obtain ⟨cur', h2, h3, h4⟩ := setCells_heap r (o + 1) _ _ h1 (by simp; omega)
    refine ⟨cur', h2, by simpa using h3, ?_⟩
    rw [h4]
    have ho : o < cur.toList.length := by simp; omega
    simp only [Array.toList_setIfInBounds, List.length_cons]
    rw [List.take_set, List.drop_set_of_lt (by omega), List.take_add_one, List.set_append]
    have e1 : cur.toList[o]?.toList = [cur.toList[o]] := by rw [List.getElem?_eq_getElem ho]; rfl
    have e2 : ¬ o < (cur.toList.take o).length := by rw [List.length_take]; omega
    rw [if_neg e2, e1]
    have e3 : o - (cur.toList.take o).length = 0 := by rw [List.length_take]; omega
    rw [e3, List.set_cons_zero, show o + 1 + r.length = o + (r.length + 1) by omega]
    simp

theorem setCells_ch {b : Nat} : ∀ (vs : List Value) (o : Nat) (w : World), Ch (fun k _ => k = b) w (w.setCells b o vs)
  | [], _, w => Ch.refl _ _
  | v :: r, o, w => ((Ch.refl _ w).setCell (p := ⟨b, o, none⟩) (fun _ _ => rfl) v).trans' (setCells_ch r (o + 1) _) (fun _ _ _ h => h)

theorem ins_take {α : Type} {cs cur : List α} {i n : Nat} {x : α} (hn : cs.length = n) (hc : cur.take n = cs) (hl : n < cur.length) (hi : i ≤ n) :
    (((cur.take (i + 1) ++ cs.drop i ++ cur.drop (i + 1 + (cs.drop i).length)).take i ++ [x] ++ (cur.take (i + 1) ++ cs.drop i ++ cur.drop (i + 1 + (cs.drop i).length)).drop (i + 1))).take (n + 1) = cs.take i ++ x :: cs.drop i := by
  have h1 : (cur.take (i + 1)).length = i + 1 := by rw [List.length_take]; omega
  have h2 : (cur.take (i + 1) ++ cs.drop i ++ cur.drop (i + 1 + (cs.drop i).length)).take i = cs.take i := by
    rw [List.append_assoc, List.take_append_of_le_length (by omega), List.take_take, ← hc, List.take_take]
    congr 1; omega
  have h3 : (cur.take (i + 1) ++ cs.drop i ++ cur.drop (i + 1 + (cs.drop i).length)).drop (i + 1) = cs.drop i ++ cur.drop (i + 1 + (cs.drop i).length) := by
    rw [List.append_assoc, List.drop_append_of_le_length (by omega), List.drop_of_length_le (by omega), List.nil_append]
  rw [h2, h3, List.append_assoc, List.singleton_append]
  have e : n + 1 = (cs.take i ++ x :: cs.drop i).length := by
    simp only [List.length_append, List.length_cons, List.length_take, List.length_drop]; omega
  have e2 : cs.take i ++ x :: (cs.drop i ++ cur.drop (i + 1 + (cs.drop i).length)) = (cs.take i ++ x :: cs.drop i) ++ cur.drop (i + 1 + (cs.drop i).length) := by simp
  rw [e2, e, List.take_left]
end Go.Proofs.YtkffejgjpnnkmaaDoor
