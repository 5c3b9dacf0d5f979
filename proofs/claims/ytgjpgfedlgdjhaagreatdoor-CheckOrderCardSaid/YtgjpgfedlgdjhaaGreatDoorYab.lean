/- Part 2. -/
import Derived.Test.YtgjpgfedlgdjhaaGreatDoorRows
import Derived.Test.YtgjpgfedlgdjhaaGreatDoorYaa
import Derived.Laws.AppendOwnNone
import Derived.Shelf.Slices.SearchI
import Derived.Shelf.Slices.Empties
import Derived.Shelf.Spec.SlicesInsert
import Derived.Shelf.Spec.SlicesInsertGrow
import Derived.Shelf.Spec.TrailingZeros
import Derived.Lib.AppendZerosOnto
import Derived.Deep.RegionLaw
import Derived.Deep.AppendSrc
import Derived.Lib.AppendZeros
set_option linter.unusedVariables false
set_option linter.unusedSimpArgs false
set_option maxHeartbeats 64000000
set_option maxRecDepth 8192
section
section
namespace Go.Proofs.YtgjpgfedlgdjhaaGreatDoor
open Go.RowKit Go.W
def A9 (w : World) (v : Value) (l : List Int) : Prop :=
 ∃ ao cap, v = .slice ao l.length cap ∧ l.length ≤ cap ∧ cap ≤ maxLen ∧ (ao = none → cap = 0) ∧
  (0 < l.length → ∃ b off, ao = some ⟨b, off, none⟩ ∧ ∀ (i : Nat) (x : Int), l[i]? = some x → w.cell? ⟨b, off + i, none⟩ = some (.int .i64 x))
theorem A9.nil (w : World) : A9 w (.slice none 0 0) [] := ⟨none, 0, rfl, Nat.le_refl _, Nat.zero_le _, fun _ => rfl, fun h => by simp at h⟩
theorem A9.ch {S : Nat → Obj → Prop} {w w' : World} {v : Value} {l : List Int} (h : A9 w v l) (hc : Ch S w w') (hS : ∀ k o, v.ownBlock = some k → w.heap[k]? = some o → ¬ S k o) : A9 w' v l := by
 obtain ⟨ao, cap, rfl, h2, h3, hn, h4⟩ := h
 refine ⟨ao, cap, rfl, h2, h3, hn, fun h0 => ?_⟩
 obtain ⟨b, off, rfl, h5⟩ := h4 h0
 exact ⟨b, off, rfl, fun i x hx => Ae (h5 i x hx) hc (fun o ho => hS b o rfl ho)⟩
theorem A9.no {w w' : World} {v : Value} {l : List Int} (h : A9 w v l) (hc : Ch No w w') : A9 w' v l := h.ch hc (fun _ _ _ _ h => h)
theorem A9.alloc {w : World} {v : Value} {l : List Int} (h : A9 w v l) (o : Obj) : A9 (w.alloc o) v l := h.no ((Ch.refl _ _).alloc o)
theorem A9.of_row {w : World} {base n : Nat} {v : Value} {l : List Int} (h : w.ownsRow base 3 1 v n (l.map (Value.int .i64))) : A9 w v l := by
 have hn : n = l.length := by have := h.1; simp at this; omega
 subst hn
 have h0 := h
 rcases h.2 with ⟨h1, h2⟩ | ⟨g, cap, cur, h1, _, _, h2, h3, _⟩
 {refine ⟨none, 0, by rw [h1, h2], by omega, Nat.zero_le _, fun _ => rfl, fun h => by omega⟩}
 {subst h1
  refine ⟨_, cap, rfl, h2, h3, (fun h => by cases h), fun _ => ⟨g, 0, rfl, fun i x hx => ?_⟩⟩
  have hi := (gL hx)
  rw [Nat.zero_add, h0.cellAt i (by omega), List.getElem?_map, hx]; rfl}
theorem Bn {a b : Bool} (h : a = b) : Ending.returned (.bool a) = .returned (.bool b) := by rw [h]
theorem Jh {k : IntKind} {a b : Int} (h : a = b) : Ending.returned (.int k a) = .returned (.int k b) := by rw [h]
def Al (w : World) (base : Nat) (v : Value) (l : List Int) : Prop := w.ownsRow base 3 1 v l.length (l.map (Value.int .i64))
theorem Al.at_ {w : World} {base : Nat} {v : Value} {l : List Int} (h : Al w base v l) : A9 w v l := A9.of_row h
theorem Al.nil (w : World) (base : Nat) : Al w base (.slice none 0 0) [] := World.ownsRow_nil _ _ _ _
theorem Al.ch {S : Nat → Obj → Prop} {w w' : World} {base : Nat} {v : Value} {l : List Int} (h : Al w base v l) (hc : Ch S w w')
 (hS : ∀ g o, v.ownBlock = some g → base ≤ g → w.heap[g]? = some o → ¬ S g o) : Al w' base v l :=
 An h hc (fun g cur h1 h2 h3 => hS g _ h1 h2 h3)
theorem Al.no {w w' : World} {base : Nat} {v : Value} {l : List Int} (h : Al w base v l) (hc : Ch No w w') : Al w' base v l := h.ch hc (fun _ _ _ _ _ h => h)
theorem Al.alloc {w : World} {base : Nat} {v : Value} {l : List Int} (h : Al w base v l) (o : Obj) : Al (w.alloc o) base v l := h.no ((Ch.refl _ _).alloc o)
theorem Al.base {w : World} {base base' : Nat} {v : Value} {l : List Int} (h : Al w base v l) (hb : base' ≤ base) : Al w base' v l := by
 obtain ⟨h1, h2⟩ := h
 refine ⟨h1, ?_⟩
 rcases h2 with h2 | ⟨g, cap, cur, a, b, c⟩
 {exact .inl h2}
 {exact .inr ⟨g, cap, cur, a, Nat.le_trans hb b, c⟩}
theorem Lc {w : World} {ops : Array Oper} {rest : List Oper} {o : Oper} {a : Act} {Q : Exit → Act → World → Prop} (hgd : o.guard = none) (s x : Operand)
 (ho : o.op = .call { callee := .builtin .append, args := #[s, x], argTypes := #[59, 59] })
 (base : Nat) (v : Value) (xs l : List Int) (hs : a.eval s = v) (hown : Al w base v xs) (u : Value) (hx : a.eval x = u) (hu : A9 w u l)
 (hb : xs.length + l.length ≤ 10000000) (hbase : base ≤ w.heap.size)
 (h : ∀ v' w', Al w' base v' (xs ++ l) → w.grownBy w' v.ownBlock → wpList Tryz.prog ops Q rest (a.put o.dst v') w') : wpList Tryz.prog ops Q (o :: rest) a w := by
 obtain ⟨ao, cap, rfl, h1, h2, h3, h4⟩ := hu
 obtain ⟨i, z, hi, hz, hc, hsz, hby⟩ := Hz (P := Tryz.prog) (t := 3) (a := 1) (s := 1) (b := 8) (by kernel_rfl)
 have hT : Tryz.prog.underlying 59 = some (.slice 3) := by kernel_rfl
 cases ao with
 | none =>
  obtain rfl := h3 rfl
  have hl : l.length = 0 := by omega
  obtain rfl := List.length_eq_zero_iff.1 hl
  refine wpList_append_own_none hgd s x _ ho base 3 i 1 hT hi v xs.length (xs.map (Value.int .i64)) hs hown hx ?_
  exact h v w (by rw [List.append_nil]; exact hown) (World.grownBy.refl _ _)
 | some ad =>
  have hm : maxLen = 9223372036854775807 := rfl
  refine wpList_append_own w hgd s x _ ho base 3 i z 1 8 hT hi hz hsz hby hc (by omega) v xs.length (xs.map (Value.int .i64)) hs hown ad l.length cap (l.map (Value.int .i64)) hx (by simp) ?_ ?_ ?_ ?_ hbase ?_
  {intro j u hj
   rw [List.getElem?_map, Option.map_eq_some_iff] at hj
   obtain ⟨y, hy, rfl⟩ := hj
   have hlt := (gL hy)
   obtain ⟨b, off, e, h5⟩ := h4 (by omega)
   cases e
   rw [Addr.add_lit]
   exact h5 j y hy}
  {intro u hu
   obtain ⟨y, _, rfl⟩ := List.mem_map.1 hu
   rfl}
  {have : l.length ≤ 10000000 := by omega
   rw [hm]; omega}
  {omega}
  {intro v' w' hown' hg _
   refine h v' w' ?_ hg
   unfold Al
   rw [List.length_append, List.map_append]
   exact hown'}
def Cq (l : List Int) (n : Int) : List Int :=
 if n < 0 ∨ 1048575 < n ∨ n ∈ l then l else l.takeWhile (· < n) ++ n :: l.dropWhile (· < n)
theorem Ga (w : World) (x : Int) : A9 (w.alloc (.cells #[.int .i64 x] 3)) (.slice (some ⟨w.heap.size, 0, none⟩) 1 1) [x] := by
 refine ⟨_, 1, rfl, Nat.le_refl _, by decide, (fun h => by cases h), fun _ => ⟨_, _, rfl, fun i y hy => ?_⟩⟩
 have hi := (gL hy)
 have : i = 0 := by simp at hi; omega
 subst this
 simp at hy; subst hy
 exact World.cell?_alloc_new ..
end Go.Proofs.YtgjpgfedlgdjhaaGreatDoor
end
section
namespace Go.Proofs.YtgjpgfedlgdjhaaGreatDoor
open Go.RowKit Go.W Go.Shelf
def Aba : Ren := ⟨fun n => match n with
 | 25 => 148 | 31 => 166 | 32 => 167 | 37 => 171 | 21 => 91 | 27 => 125 | 28 => 126 | 35 => 155 | 39 => 168 | n => n,
 fun t => match t with | 22 => 59 | 40 => 214 | t => t, fun g => g⟩
def Ae8 : Ren := ⟨fun n => match n with | 29 => 150 | n => n,
 fun t => match t with | 5 => 5 | 22 => 205 | 25 => 214 | 54 => 216 | t => t, fun g => match g with | 1 => 0 | g => g⟩
theorem S2 : Lays2.n25 Tryz.prog Aba := by
 constructor <;> first | kernel_rfl | (intro w; kernel_rfl) | (intro w; rfl)
theorem Lx : Lays2.n21 Tryz.prog Aba := by
 constructor <;> first | kernel_rfl | (intro w; kernel_rfl) | (intro w; rfl)
theorem Y7 : Lays7.n29 Tryz.prog Ae8 := by
 constructor <;> first | kernel_rfl | (intro w; kernel_rfl) | (intro w; rfl)
theorem Abb {w : World} {v : Value} {l : List Int} (h : A9 w v l) (hs : l.Pairwise (· < ·)) (n : Int) (hl : l.length ≤ 2000000) :
 Calls Tryz.prog 148 #[v, .int .i64 n] w fun e w' => e = .returned (.tuple #[.int .i64 (l.countP (· < n) : Nat), .bool (decide (n ∈ l))]) ∧ ∃ q, w' = w.drewN q := by
 obtain ⟨ao, cap, rfl, h1, h2, h3, h4⟩ := h
 by_cases h0 : 0 < l.length
 {obtain ⟨b, off, rfl, h5⟩ := h4 h0
  have hq := Any.slices_BinarySearch_int S2 b off l.length cap l n w (Nat.le_refl _) (by omega)
   (fun j hj => by
    have e : l[j]? = some (l.getD j 0) := by rw [List.getD_eq_getElem?_getD, List.getElem?_eq_getElem hj]; rfl
    exact h5 j _ e)
   (by rw [List.take_length]; exact hs.imp (fun h => by omega))
  rw [List.take_length] at hq
  refine Calls.mono hq ?_
  rintro e w' ⟨rfl, hw⟩
  exact ⟨by rw [List.contains_eq_mem], hw⟩}
 {have : l = [] := List.length_eq_zero_iff.1 (by omega)
  subst this
  refine Calls.mono (Any.slices_BinarySearch_int_empty S2 ao cap n w) ?_
  rintro e w' ⟨rfl, rfl⟩
  exact ⟨by simp, 0, rfl⟩}
theorem Ae9 (x : Nat) (hx : x < 18446744073709551616) (w : World) (hT : TabAt 0 Lib.deBruijn64tab w) :
 Calls Tryz.prog 150 #[.int .u64 x] w fun e w' => e = .returned (.int .i64 (Lib.ctz 64 x)) ∧ w' = w :=
 Any7.bits_TrailingZeros64 Y7 x hx w (fun _ => hT)
theorem B7 {b : Nat} {t : TypeId} {fz : Nat × Nat} : ∀ (vs : List Value) (o : Nat) (w : World) (cur : Array Value), w.heap[b]? = some (.cells cur t fz) → o + vs.length ≤ cur.size →
 ∃ cur', (w.setCells b o vs).heap[b]? = some (.cells cur' t fz) ∧ cur'.size = cur.size ∧ cur'.toList = cur.toList.take o ++ vs ++ cur.toList.drop (o + vs.length)
 | [], o, w, cur, h, _ => ⟨cur, h, rfl, by simp⟩
 | v :: r, o, w, cur, h, hl => by
  simp only [List.length_cons] at hl
  have h1 : (w.setCell ⟨b, o, none⟩ v).heap[b]? = some (.cells (cur.setIfInBounds o v) t fz) := by
   simp [World.setCell, Array.getElem?_modify, h]
  obtain ⟨cur', h2, h3, h4⟩ := B7 r (o + 1) _ _ h1 (by simp; omega)
  refine ⟨cur', h2, by simpa using h3, ?_⟩
  rw [h4]
  have ho : o < cur.toList.length := by simp; omega
  simp only [Array.toList_setIfInBounds, List.length_cons]
  rw [List.take_set, List.drop_set_of_lt (by omega), List.take_add_one, List.set_append]
  have e1 : cur.toList[o]?.toList = [cur.toList[o]] := by rw [List.getElem?_eq_getElem ho]; rfl
  have e2 : ¬ o < (cur.toList.take o).length := by rw [List.length_take]; omega
  rw [if_neg e2, e1]
  have e3 : o - (cur.toList.take o).length = 0 := by rw [List.length_take]; omega
  rw [e3, List.set_cons_zero, show o + 1 + r.length = o + (r.length + 1) by omega]
  simp
theorem Bq {b : Nat} : ∀ (vs : List Value) (o : Nat) (w : World), Ch (fun k _ => k = b) w (w.setCells b o vs)
 | [], _, w => Ch.refl _ _
 | v :: r, o, w => ((Ch.refl _ w).setCell (p := ⟨b, o, none⟩) (fun _ _ => rfl) v).trans' (Bq r (o + 1) _) (fun _ _ _ h => h)
theorem S3 {α : Type} {cs cur : List α} {i n : Nat} {x : α} (hn : cs.length = n) (hc : cur.take n = cs) (hl : n < cur.length) (hi : i ≤ n) :
 (((cur.take (i + 1) ++ cs.drop i ++ cur.drop (i + 1 + (cs.drop i).length)).take i ++ [x] ++ (cur.take (i + 1) ++ cs.drop i ++ cur.drop (i + 1 + (cs.drop i).length)).drop (i + 1))).take (n + 1) = cs.take i ++ x :: cs.drop i := by
 have h1 : (cur.take (i + 1)).length = i + 1 := by rw [List.length_take]; omega
 have h2 : (cur.take (i + 1) ++ cs.drop i ++ cur.drop (i + 1 + (cs.drop i).length)).take i = cs.take i := by
  rw [List.append_assoc, List.take_append_of_le_length (by omega), List.take_take, ← hc, List.take_take]
  congr 1; omega
 have h3 : (cur.take (i + 1) ++ cs.drop i ++ cur.drop (i + 1 + (cs.drop i).length)).drop (i + 1) = cs.drop i ++ cur.drop (i + 1 + (cs.drop i).length) := by
  rw [List.append_assoc, List.drop_append_of_le_length (by omega), List.drop_of_length_le (by omega), List.nil_append]
 rw [h2, h3, List.append_assoc, List.singleton_append]
 have e : n + 1 = (cs.take i ++ x :: cs.drop i).length := by
  simp only [List.length_append, List.length_cons, List.length_take, List.length_drop]; omega
 have e2 : cs.take i ++ x :: (cs.drop i ++ cur.drop (i + 1 + (cs.drop i).length)) = (cs.take i ++ x :: cs.drop i) ++ cur.drop (i + 1 + (cs.drop i).length) := by simp
 rw [e2, e, List.take_left]
end Go.Proofs.YtgjpgfedlgdjhaaGreatDoor
end
section
namespace Go.Proofs.YtgjpgfedlgdjhaaGreatDoor
open Go.RowKit Go.W Go.Shelf
theorem Ji (l : List Int) : ∀ v ∈ l.map (Value.int .i64), v.oneCell' = true := by
 intro v hv
 obtain ⟨y, _, rfl⟩ := List.mem_map.1 hv
 rfl
theorem Qb {w : World} {base : Nat} {v : Value} {l : List Int} (h : Al w base v l) (i : Nat) (hi : i ≤ l.length) (hl : l.length ≤ 1000000) (x : Int) (vb : Nat)
 (hvb : w.heap[vb]? = some (.cells #[.int .i64 x] 3 (0, 0))) (hne : v.ownBlock ≠ some vb) (hbase : base ≤ w.heap.size) :
 Calls Tryz.prog 91 #[v, .int .i64 i, .slice (some ⟨vb, 0, none⟩) 1 1] w fun e w' => ∃ v', e = .returned v' ∧ Al w' base v' (l.take i ++ x :: l.drop i) ∧
  Ch (fun k _ => v.ownBlock = some k) w w' ∧ (v'.ownBlock = v.ownBlock ∨ ∃ g, v'.ownBlock = some g ∧ w.heap.size ≤ g) := by
 have hvs : ∀ (j : Nat) (u : Value), [Value.int .i64 x][j]? = some u → w.cell? ⟨vb, 0 + j, none⟩ = some u := by
  intro j u hj
  rw [Ab hvb, Nat.zero_add]
  simpa using hj
 have h1v : ∀ u ∈ [Value.int .i64 x], u.oneCell' = true := by intro u hu; simp at hu; subst hu; rfl
 have hml : (l.map (Value.int .i64)).length = l.length := by simp
 have hr : (l.map (Value.int .i64)).take i ++ (Value.int .i64 x :: (l.map (Value.int .i64)).drop i) = (l.take i ++ x :: l.drop i).map (Value.int .i64) := by
  rw [List.map_append, List.map_cons, List.map_take, List.map_drop]
 have hrl : (l.take i ++ x :: l.drop i).length = l.length + 1 := by simp only [List.length_append, List.length_cons, List.length_take, List.length_drop]; omega
 have hm : maxLen = 9223372036854775807 := rfl
 have grow : ∀ (base' : Option Addr) (c : Nat), l.length ≤ c → c < l.length + 1 → i = l.length → (base' = none → l.length = 0) →
  (∀ a, base' = some a → ∀ j v, (l.map (Value.int .i64))[j]? = some v → w.cell? (a.add j) = some v) →
  Calls Tryz.prog 91 #[.slice base' l.length c, .int .i64 i, .slice (some ⟨vb, 0, none⟩) 1 1] w fun e w' => ∃ v', e = .returned v' ∧ Al w' base v' (l.take i ++ x :: l.drop i) ∧
  Ch (fun k _ => (Value.slice base' l.length c).ownBlock = some k) w w' ∧ (v'.ownBlock = (Value.slice base' l.length c).ownBlock ∨ ∃ g, v'.ownBlock = some g ∧ w.heap.size ≤ g) := by
  intro base' c h1 h2 h3 h4 h5
  subst h3
  refine Calls.mono (Any2.slices_Insert_int_end_grow Lx base' l.length c vb 0 1 1 _ _ w (by omega) h1 h2 (by omega) hml rfl h4 h5 hvs h1v) ?_
  rintro e w' ⟨rfl, rfl⟩
  show ∃ v', Ending.returned (.slice (some ⟨w.heap.size, 0, none⟩) (l.length + 1) (grownCap w (l.length + 1) c 3)) = .returned v' ∧ Al (w.drew.alloc (.cells ((l.map (Value.int .i64) ++ [Value.int .i64 x]).toArray ++ Builtin.zeroCells (Value.int .i64 0).cells (grownCap w (l.length + 1) c 3 - (l.length + 1))) 3)) base v' _ ∧ _ ∧ _
  have hG1 := grownCap_ge w (l.length + 1) c 3
  have hG2 := grownCap_le_maxLen w (l.length + 1) c 3 (by omega)
  generalize grownCap w (l.length + 1) c 3 = G at hG1 hG2
  refine ⟨_, rfl, ?_, ((Ch.refl _ _).drew).alloc _, .inr ⟨_, rfl, Nat.le_refl _⟩⟩
  refine ⟨by simp, .inr ⟨w.heap.size, _, _, by rw [hrl], hbase, heap_alloc_new w.drew _, by rw [hrl]; exact hG1, hG2, ?_, ?_⟩⟩
  {rw [Array.size_append, size_zeroCells]
   have e : (Value.int .i64 0).cells.size = 1 := rfl
   rw [e]
   simp
   omega}
  {rw [hrl, ← hr, Nat.mul_one]
   rw [List.take_of_length_le (i := l.length) (by simp), List.drop_of_length_le (by simp), Array.toList_append, List.take_append_of_le_length (by simp)]
   rw [List.take_of_length_le (by simp)]}
 rcases h.2 with ⟨rfl, hl0⟩ | ⟨g, cap, cur, rfl, hg, hh, hcap, hmax, hcs, hct⟩
 {obtain rfl := List.length_eq_zero_iff.1 hl0
  have hi0 : i = 0 := by simpa using hi
  exact grow none 0 (by simp) (by simp) hi0 (fun _ => rfl) (fun _ h => by cases h)}
 {rw [Nat.mul_one] at hct hcs
  have hcell : ∀ (j : Nat) (u : Value), (l.map (Value.int .i64))[j]? = some u → w.cell? ⟨g, 0 + j, none⟩ = some u := by
   intro j u hj
   have hj' := (gL hj)
   rw [hml] at hj'
   rw [Ab hh, Nat.zero_add, ← Array.getElem?_toList]
   rw [← hct, List.getElem?_take, if_pos hj'] at hj
   exact hj
  have hcurl : cur.toList.length = cap := by simpa using hcs
  have hgv : vb ≠ g := fun e => hne (by rw [e]; rfl)
  by_cases hroom : l.length + 1 ≤ cap
  {by_cases hil : i = l.length
   {subst hil
    refine Calls.mono (Any2.slices_Insert_int_end_room Lx g 0 l.length cap vb 0 1 1 [.int .i64 x] w (by omega) hroom (by omega) rfl
     (fun j hj => by rw [Ab hh, Array.getElem?_eq_getElem (by omega)]; rfl) (fun j hj => Ad hh _) hvs h1v) ?_
    rintro e w' ⟨rfl, rfl⟩
    obtain ⟨cur', h1, h2, h3⟩ := B7 [.int .i64 x] (0 + l.length) w cur hh (by simp; omega)
    refine ⟨_, rfl, ⟨by simp, .inr ⟨g, cap, cur', by rw [hrl], hg, h1, by rw [hrl]; exact hroom, hmax, by omega, ?_⟩⟩, ?_, .inl rfl⟩
    {rw [hrl, h3, Nat.zero_add, hct, Nat.mul_one, List.take_append_of_le_length (by simp)]
     rw [List.take_of_length_le (by simp)]
     simp}
    {exact (Bq _ _ _).mono (fun k o _ e => by rw [e]; rfl)}}
   {refine Calls.mono (Any2.slices_Insert_int_shift Lx g 0 l.length cap i vb 0 1 1 _ [.int .i64 x] w (by omega) (by omega) hroom (by omega) hgv hml rfl hcell
     (fun j hj => by rw [Ab hh, Array.getElem?_eq_getElem (by omega)]; rfl) (fun j hj => Ad hh _) hvs (Ji l) h1v
     3 3 1 cap (by simp [World.shape?, hvb]) (by simp [World.shape?, hh, hcs]) (by omega) (Ad hvb _) (Ad hvb _)) ?_
    rintro e w' ⟨rfl, rfl⟩
    have hdl : ((l.map (Value.int .i64)).drop i).length = l.length - i := by rw [List.length_drop, hml]
    obtain ⟨cur', h1, h2, h3⟩ := B7 ((l.map (Value.int .i64)).drop i) (0 + (i + 1)) w.drew cur hh (by rw [hdl]; omega)
    obtain ⟨cur2, h4, h5, h6⟩ := B7 [.int .i64 x] (0 + i) _ cur' h1 (by simp; omega)
    refine ⟨_, rfl, ⟨by simp, .inr ⟨g, cap, cur2, by rw [hrl], hg, h4, by rw [hrl]; exact hroom, hmax, by omega, ?_⟩⟩, ?_, .inl rfl⟩
    {rw [hrl, h6, h3, Nat.mul_one, ← hr]
     simp only [Nat.zero_add, List.length_singleton]
     exact S3 hml hct (by omega) hi}
    {exact (((Ch.refl _ w).drew.trans' (Bq _ _ _) (fun _ _ _ h => h)).trans' (Bq _ _ _) (fun _ _ _ h => h)).mono (fun k o _ e => by rw [e]; rfl)}}}
  {by_cases hil : i = l.length
   {exact grow (some ⟨g, 0, none⟩) cap hcap (by omega) hil (fun h => by cases h) (fun a ha j u hu => by cases ha; rw [Addr.add_lit]; exact hcell j u hu)}
   {refine Calls.mono (Any2.slices_Insert_int_grow Lx g 0 l.length cap i vb 0 1 1 _ [.int .i64 x] w (by omega) (by omega) hcap (by omega) (by omega) hml rfl hcell hvs (Ji l) h1v) ?_
    rintro e w' ⟨rfl, rfl⟩
    have hG1 := grownCap_ge w (l.length + 1) cap 3
    have hG2 := grownCap_le_maxLen w (l.length + 1) cap 3 (by omega)
    have hdl : ((l.map (Value.int .i64)).drop i).length = l.length - i := by rw [List.length_drop, hml]
    have e1 : (Value.int .i64 0).cells.size = 1 := rfl
    obtain ⟨cur0, hcur⟩ : ∃ cur0, cur0 = ((l.map (Value.int .i64)).take i).toArray ++ Builtin.zeroCells (Value.int .i64 0).cells (l.length + 1 - i) ++ Builtin.zeroCells (Value.int .i64 0).cells (grownCap w (l.length + 1) cap 3 - (l.length + 1)) := ⟨_, rfl⟩
    have hc0 : cur0.size = grownCap w (l.length + 1) cap 3 := by
     rw [hcur, Array.size_append, Array.size_append, size_zeroCells, size_zeroCells, e1]
     simp
     omega
    have hct0 : cur0.toList.take i = (l.map (Value.int .i64)).take i := by
     rw [hcur, Array.toList_append, Array.toList_append, List.append_assoc, List.take_append_of_le_length (by simp; omega), List.take_of_length_le (by simp; omega)]
    show ∃ v', Ending.returned (.slice (some ⟨w.heap.size, 0, none⟩) (l.length + 1) (grownCap w (l.length + 1) cap 3)) = .returned v' ∧ Al ((((w.alloc (.cells (((l.map (Value.int .i64)).take i).toArray ++ Builtin.zeroCells (Value.int .i64 0).cells (l.length + 1 - i) ++ Builtin.zeroCells (Value.int .i64 0).cells (grownCap w (l.length + 1) cap 3 - (l.length + 1))) 3)).drew.setCells w.heap.size i [Value.int .i64 x]).drew).setCells w.heap.size (i + 1) ((l.map (Value.int .i64)).drop i)) base v' _ ∧ Ch _ w ((((w.alloc (.cells (((l.map (Value.int .i64)).take i).toArray ++ Builtin.zeroCells (Value.int .i64 0).cells (l.length + 1 - i) ++ Builtin.zeroCells (Value.int .i64 0).cells (grownCap w (l.length + 1) cap 3 - (l.length + 1))) 3)).drew.setCells w.heap.size i [Value.int .i64 x]).drew).setCells w.heap.size (i + 1) ((l.map (Value.int .i64)).drop i)) ∧ _
    rw [← hcur]
    clear hcur
    generalize grownCap w (l.length + 1) cap 3 = G at hG1 hG2 hc0
    obtain ⟨cur', h1, h2, h3⟩ := B7 [.int .i64 x] i (w.alloc (.cells cur0 3)).drew cur0 (heap_alloc_new w _) (by simp; omega)
    obtain ⟨cur2, h4, h5, h6⟩ := B7 ((l.map (Value.int .i64)).drop i) (i + 1) ((w.alloc (.cells cur0 3)).drew.setCells w.heap.size i [.int .i64 x]).drew cur' h1 (by rw [hdl]; omega)
    refine ⟨_, rfl, ⟨by simp, .inr ⟨w.heap.size, G, cur2, by rw [hrl], hbase, h4, by rw [hrl]; exact hG1, hG2, by omega, ?_⟩⟩, ?_, .inr ⟨_, rfl, Nat.le_refl _⟩⟩
    {have hti : ((l.map (Value.int .i64)).take i).length = i := by rw [List.length_take]; omega
     have e3 : cur'.toList.take (i + 1) = (l.map (Value.int .i64)).take i ++ [Value.int .i64 x] := by
      rw [h3, hct0]
      rw [List.take_append_of_le_length (by simp; omega), List.take_of_length_le (by simp; omega)]
     rw [hrl, h6, Nat.mul_one, ← hr, e3]
     rw [List.take_append_of_le_length (by simp; omega), List.take_of_length_le (by simp; omega)]
     simp}
    {exact ((((Ch.refl _ w).alloc _).drew).trans' (Bq (b := w.heap.size) _ _ _) (fun k o ho h => absurd (Ac ho) (by omega))).drew.trans' (Bq (b := w.heap.size) _ _ _) (fun k o ho h => absurd (Ac ho) (by omega))}}}}
theorem Tryz.infoU64 : (Tryz.prog.info? 205).map (fun i => (i.zero, i.size, i.bytes)) = some (some (.int .u64 0), 1, 8) := by kernel_rfl
theorem G4 (n : Nat) : (Builtin.zeroCells (Value.int .u64 0).cells n).toList = List.replicate n (Value.int .u64 0) := by
 have e : (Value.int .u64 0).cells = #[Value.int .u64 0] := rfl
 rw [e]
 apply List.ext_getElem
 {simp [Builtin.zeroCells]}
 {intro i h1 h2
  simp [Builtin.zeroCells, Nat.mod_one]}
theorem Rx (w : World) (base : Nat) (v : Value) (n : Nat) (xs : List Value) (hown : w.ownsRow base 205 1 v n xs) (h0 : 0 < n) (hb : n ≤ 1000000) (hbase : base ≤ w.heap.size) (ty : TypeId) :
 ∃ v' w', (Builtin.append_ #[180, 3] ty #[v, .int .i64 n]).run Tryz.prog w = .ok v' w' ∧ w'.ownsRow base 205 1 v' (n + n) (xs ++ List.replicate n (Value.int .u64 0)) ∧ w.grownBy w' v.ownBlock ∧
  (∀ g, v'.ownBlock = some g → v.ownBlock = some g ∨ w.heap.size ≤ g) := by
 obtain ⟨i, hi, hz, hs, hby⟩ := info_parts Tryz.infoU64
 have ht : Tryz.prog.underlying 180 = some (.slice 205) := by kernel_rfl
 have htn : Tryz.prog.underlying 3 = some (.int .i64) := by kernel_rfl
 have hm : maxLen = 9223372036854775807 := rfl
 have hxl : xs.length = n := by have := hown.1; omega
 rcases hown.2 with ⟨rfl, rfl⟩ | ⟨g, cap, cur, rfl, hbg, hg, hnc, hcm, hcs, htake⟩
 {omega}
 {rw [Nat.mul_one] at hcs htake
  by_cases hroom : n + n ≤ cap
  {have hw : IntKind.i64.wrap (n : Int) = n := by rw [IntKind.wrap_i64]; omega
   have hneg : ¬ ((n : Int) < 0) := by omega
   have h48i : ¬ (281474976710656 < (n : Int) * 8) := by omega
   have hns : ¬ (n = 0) := by omega
   have hst := run_storeCells_at Tryz.prog g n 205 (List.replicate n (Value.int .u64 0)) 0 cur w hg (by simp; omega) (by intro u hu; rw [List.eq_of_mem_replicate hu]; rfl)
   simp only [Nat.add_zero] at hst
   have hr : (Builtin.append_ #[180, 3] ty #[.slice (some ⟨g, 0, none⟩) n cap, .int .i64 n]).run Tryz.prog w =
    .ok (.slice (some ⟨g, 0, none⟩) (n + n) cap) (w.setRow g (cur.toList.take n ++ List.replicate n (Value.int .u64 0) ++ cur.toList.drop (n + (List.replicate n (Value.int .u64 0)).length)).toArray) := by
    simp [Builtin.append_, run_underlying ht, run_underlying htn, sizeOf, typeInfo, zeroValue, hi, hz, hs, hby, asInt, asIntOf, hw, hneg, h48i, hns, hroom, G4, Addr.add_lit, hst]
   refine ⟨_, _, hr, ⟨by simp; omega, .inr ⟨g, cap, _, rfl, hbg, setRow_heap w g cur _ _ _ hg, hroom, hcm, ?_, ?_⟩⟩, ⟨rfl, rfl, rfl, by simp, fun k _ hk => setRow_other w g k _ (fun e => hk (by simp [Value.ownBlock, e]))⟩, fun g' h => .inl h⟩
   {simp only [List.size_toArray, List.length_append, List.length_take, List.length_drop, Array.length_toList, List.length_replicate]
    omega}
   {rw [htake, Nat.mul_one]
    have e : n + n = (xs ++ List.replicate n (Value.int .u64 0)).length := by simp; omega
    rw [e]
    exact List.take_left}}
  {have hold : (Builtin.firstCells i.size n (.slice (some ⟨g, 0, none⟩) n cap)).run Tryz.prog w.drew = .ok xs.toArray w.drew := by
    rw [hs]
    exact run_firstCells_some w.drew 1 n ⟨g, 0, none⟩ n cap xs (by omega) (fun j v hj => by
     have hj' := (gL hj)
     rw [Addr.add_lit]
     show w.cell? _ = _
     rw [Ab hg, Nat.zero_add, ← Array.getElem?_toList]
     rw [← htake, List.getElem?_take, if_pos (by omega)] at hj
     exact hj)
   have hr := Go.Lib.run_append_grow_zeros w 180 3 ty 205 i _ .i64 .i64 ht htn hi hz (some ⟨g, 0, none⟩) n cap xs hold n h0 (by omega) (by omega) (by omega) (by rw [hby]; omega) (by rw [hby]; exact growslice_fits (by omega) (by omega))
   have hG1 := grownCap_ge w (n + n) cap 205
   have hG2 := grownCap_le_maxLen w (n + n) cap 205 (by omega)
   generalize grownCap w (n + n) cap 205 = G at hr hG1 hG2
   refine ⟨_, _, hr, ⟨by simp; omega, .inr ⟨w.heap.size, G, _, rfl, hbase, heap_alloc_new w.drew _, hG1, hG2, ?_, ?_⟩⟩, ⟨rfl, rfl, rfl, by simp, fun k hk _ => Eg w.drew _ k hk⟩, fun g' h => .inr (by cases h; exact Nat.le_refl _)⟩
   {have e1 : (Value.int .u64 0).cells.size = 1 := rfl
    simp only [Array.size_append, size_zeroCells, e1, List.size_toArray]
    omega}
   {rw [Nat.mul_one, Array.toList_append, Array.toList_append, G4, G4]
    have e : n + n = (xs ++ List.replicate n (Value.int .u64 0)).length := by simp; omega
    rw [e]
    exact List.take_left}}}
theorem O6 {ops : Array Oper} {o : Oper} {a : Act} {w : World} {K : Act → World → Prop} {Q : Exit → Act → World → Prop} {E : Prop}
 (hg : o.guard = none) (s x : Operand) (hop : o.op = Op.call { callee := Callee.builtin Builtin.append, args := #[s, x], argTypes := #[180, 3] })
 (base : Nat) (v : Value) (n : Nat) (xs : List Value) (hs : a.eval s = v) (hx : a.eval x = .int .i64 n) (hown : w.ownsRow base 205 1 v n xs) (h0 : 0 < n) (hb : n ≤ 1000000) (hbase : base ≤ w.heap.size)
 (hK : ∀ v' w', w'.ownsRow base 205 1 v' (n + n) (xs ++ List.replicate n (Value.int .u64 0)) → w.grownBy w' v.ownBlock →
  (∀ g, v'.ownBlock = some g → v.ownBlock = some g ∨ w.heap.size ≤ g) → K (a.put o.dst v') w') :
 if Region.wanted o (yielded ops a.tmps) = true then Oper.wp Tryz.prog o a w K Q else E := by
 have hw : Region.wanted o (yielded ops a.tmps) = true := by simp [Region.wanted, hg]
 rw [if_pos hw]
 obtain ⟨v', w', hrun, h1, h2, h3⟩ := Rx w base v n xs hown h0 hb hbase o.type
 unfold Oper.wp
 simp [execOp, hop, resolve, invoke, builtin, hs, hx, hrun, Result.andThen]
 exact hK v' w' h1 h2 h3
def U (ws : List Nat) : List Value := ws.map fun (x : Nat) => Value.int .u64 x
theorem S4 {ws : List Nat} {i : Nat} {x : Nat} (h : ws[i]? = some x) : (U ws)[i]? = some (.int .u64 x) := by
 unfold U; rw [List.getElem?_map, h]; rfl
def Dn (w : World) (sb ob : Nat) (c : Int) (ws : List Nat) : Prop :=
 ob ≠ sb ∧ ∃ cap, w.heap[sb]? = some (.cells #[.slice none 0 0, .slice (some ⟨ob, 0, none⟩) ws.length cap, .int .i64 c] 182 (0, 0)) ∧
  w.ownsRow 0 205 1 (.slice (some ⟨ob, 0, none⟩) ws.length cap) ws.length (U ws)
def Fi (ws : List Nat) (n : Nat) : Bool := (ws.getD (n / 64) 0).testBit (n % 64)
def SO (sb ob : Nat) : Nat → Obj → Prop := fun k _ => k = sb ∨ k = ob
theorem Hf {k : Nat} (hk : k < 64) : 2 ^ k < 18446744073709551616 := by
 have h := @Nat.pow_lt_pow_right 2 k 64 (by omega) hk
 have e : 2 ^ 64 = 18446744073709551616 := by decide
 rwa [e] at h
theorem M7 (k : Nat) (hk : k < 64) : IntKind.u64.wrap (2 ^ k) = ((2 ^ k : Nat) : Int) := by
 have h := Hf hk
 have e : (2 : Int) ^ k = ((2 ^ k : Nat) : Int) := by simp
 rw [e, IntKind.wrap_u64]
 generalize 2 ^ k = p at h ⊢
 omega
theorem I6 (a b : Nat) (ha : a < 18446744073709551616) (hb : b < 18446744073709551616) : bits .or .u64 (a : Int) (b : Int) = ((a ||| b : Nat) : Int) := by
 have hx : a ||| b < 2 ^ 64 := Nat.or_lt_two_pow (by omega) (by omega)
 have h1 : (BitVec.ofInt 64 (a : Int)).toNat = a := by
  rw [BitVec.ofInt_natCast, BitVec.toNat_ofNat]; exact Nat.mod_eq_of_lt (by omega)
 have h2 : (BitVec.ofInt 64 (b : Int)).toNat = b := by
  rw [BitVec.ofInt_natCast, BitVec.toNat_ofNat]; exact Nat.mod_eq_of_lt (by omega)
 show IntKind.u64.wrap ((BitVec.ofInt 64 (a : Int) ||| BitVec.ofInt 64 (b : Int)).toNat : Int) = _
 rw [BitVec.toNat_or, h1, h2, IntKind.wrap_u64]
 omega
theorem Dp (a b : Nat) (ha : a < 18446744073709551616) (hb : b < 18446744073709551616) : bits .and .u64 (a : Int) (b : Int) = ((a &&& b : Nat) : Int) := by
 have hx : a &&& b < 2 ^ 64 := Nat.and_lt_two_pow _ (by omega)
 have h1 : (BitVec.ofInt 64 (a : Int)).toNat = a := by
  rw [BitVec.ofInt_natCast, BitVec.toNat_ofNat]; exact Nat.mod_eq_of_lt (by omega)
 have h2 : (BitVec.ofInt 64 (b : Int)).toNat = b := by
  rw [BitVec.ofInt_natCast, BitVec.toNat_ofNat]; exact Nat.mod_eq_of_lt (by omega)
 show IntKind.u64.wrap ((BitVec.ofInt 64 (a : Int) &&& BitVec.ofInt 64 (b : Int)).toNat : Int) = _
 rw [BitVec.toNat_and, h1, h2, IntKind.wrap_u64]
 omega
theorem We (x k : Nat) (hx : x < 18446744073709551616) (hk : k < 64) : (bits .and .u64 (x : Int) (IntKind.u64.wrap (2 ^ k)) != 0) = x.testBit k := by
 rw [M7 k hk, Dp x _ hx (Hf hk)]
 have e : x &&& 2 ^ k = if x.testBit k then 2 ^ k else 0 := by
  apply Nat.eq_of_testBit_eq
  intro j
  rw [Nat.testBit_and, Nat.testBit_two_pow]
  by_cases hj : k = j
  {subst hj
   cases hb : x.testBit k
   {simp}
   {simp [Nat.testBit_two_pow]}}
  {cases hb : x.testBit k <;> simp [Nat.testBit_two_pow, hj]}
 rw [e]
 cases hb : x.testBit k
 {simp}
 {have : 2 ^ k ≠ 0 := by have := Nat.two_pow_pos k; omega
  simp
  exact_mod_cast this}
theorem Y8 (x k : Nat) (hx : x < 18446744073709551616) (hk : k < 64) : bits .or .u64 (x : Int) (IntKind.u64.wrap (2 ^ k)) = ((x ||| 2 ^ k : Nat) : Int) := by
 rw [M7 k hk, I6 x _ hx (Hf hk)]
theorem Ly (ws : List Nat) (k n : Nat) : Fi (ws ++ List.replicate k 0) n = Fi ws n := by
 unfold Fi
 congr 1
 rw [List.getD_eq_getElem?_getD, List.getD_eq_getElem?_getD]
 by_cases h : n / 64 < ws.length
 {rw [List.getElem?_append_left h]}
 {rw [List.getElem?_append_right (by omega), List.getElem?_replicate, List.getElem?_eq_none (by omega)]
  split <;> rfl}
theorem Wf (ws : List Nat) (n m x : Nat) (hx : ws[n / 64]? = some x) : Fi (ws.set (n / 64) (x ||| 2 ^ (n % 64))) m = (Fi ws m || m == n) := by
 unfold Fi
 rw [List.getD_eq_getElem?_getD, List.getD_eq_getElem?_getD]
 have hl := (gL hx)
 by_cases h : n / 64 = m / 64
 {rw [h, List.getElem?_set_self (by omega), ← h, hx]
  simp only [Option.getD_some]
  rw [Nat.testBit_or, Nat.testBit_two_pow]
  congr 1
  by_cases h2 : n % 64 = m % 64
  {have : m = n := by omega
   simp [this]}
  {have : m ≠ n := by rintro rfl; exact h2 rfl
   simp [h2, this]}}
 {rw [List.getElem?_set_ne h]
  have : m ≠ n := by rintro rfl; exact h rfl
  simp [this]}
theorem O7 {ws : List Nat} {n x : Nat} (hx : ws[n / 64]? = some x) : Fi ws n = x.testBit (n % 64) := by
 unfold Fi; rw [List.getD_eq_getElem?_getD, hx]; rfl
def upC (b : Bool) (c : Int) : Int := if b then c else c + 1
theorem H7 {w : World} {sb ob : Nat} {c : Int} {ws : List Nat} (h : Dn w sb ob c ws) (n : Nat) (hn : n < 1048576) (hlen : 0 < ws.length) (hlen2 : ws.length ≤ 32768) (hc : 0 ≤ c ∧ c ≤ 2000000)
 (hws : ∀ x ∈ ws, x < 18446744073709551616) :
 Calls Tryz.prog 147 #[.pointer (some ⟨sb, 0, none⟩), .int .i64 n] w fun e w' => e = .returned (.bool (!Fi ws n)) ∧
  ∃ ob' ws', Dn w' sb ob' (upC (Fi ws n) c) ws' ∧ (∀ m, Fi ws' m = (Fi ws m || m == n)) ∧ 0 < ws'.length ∧ ws'.length ≤ 32768 ∧ (∀ x ∈ ws', x < 18446744073709551616) ∧
   Ch (SO sb ob) w w' ∧ (ob' = ob ∨ w.heap.size ≤ ob') := by
 go_in
 go_wp2
 go_loopg [] 40000 (fun g wr => ∃ (ob' : Nat) (ws' : List Nat), Dn wr sb ob' c ws' ∧ Hid (∃ k, ws' = ws ++ List.replicate k 0) ∧ ws'.length ≤ 32768 ∧ 0 < ws'.length ∧ n / 64 + 1 - ws'.length ≤ g ∧ Ch (SO sb ob) w wr ∧ (ob' = ob ∨ w.heap.size ≤ ob'))
 case atStart => exact ⟨ob, ws, h, Aa ⟨0, by simp⟩, hlen2, hlen, by omega, Ch.refl _ _, .inl rfl⟩
 case round =>
  obtain ⟨ob', ws', ⟨hne, cap, hsb, hown⟩, HW, hl1, hl2, hg, hch, hob⟩ := hrel
  obtain ⟨len, hlen'⟩ : ∃ len, ws'.length = len := ⟨_, rfl⟩
  rw [hlen'] at hl1 hl2 hg hsb hown
  have HL := Aa hlen'
  have HWS := Aa hws
  clear hlen' h hlen hlen2 hws
  have c1 := Ab hsb 1
  have f1 := Ad hsb 1
  have HSB := Aa hsb
  have HO := Aa hown
  clear hsb hown
  cases hd : decide ((len : Int) ≤ (n / 64 : Nat)) with
  | true =>
   have e1 : (len : Int) ≤ (n / 64 : Nat) := by simpa using hd
   go_wp2_with fail
   go_region_law (refine O6 rfl _ _ rfl 0 _ len (U ws') rfl rfl HO.out hl2 (by omega) (Nat.zero_le _) ?_; intro v1 w1 hown1 hgrow1 hob1; obtain ⟨g2, cap2, cur2, rfl, _, hh2, hcap2, hm2⟩ := Ix hown1 (Nat.add_pos_left hl2 len); have hs1 := Aa ((hgrow1.block sb (Ac HSB.out) (fun e => hne (Option.some.inj e).symm)).trans HSB.out); have c2 := Ab hs1.out 1; have f2 := Ad hs1.out 1)
   all_goals (
    go_wp2
    go_roundg (n / 64 + 1 - (len + len))
    case rel =>
     have hlen3 : (ws' ++ List.replicate len 0).length = len + len := by rw [List.length_append, List.length_replicate, HL.out]
     have hg2 : g2 ≠ sb := by
      rcases hob1 g2 rfl with e | e
      {cases e; exact hne}
      {have := Ac HSB.out; intro e2; subst e2; simp at e; omega}
     refine ⟨g2, ws' ++ List.replicate len 0, ⟨hg2, cap2, ?_, ?_⟩, Aa ?_, by omega, by omega, by omega, ?_, ?_⟩
     {rw [hlen3]; exact Af hs1.out 1 _}
     {rw [hlen3]
      have e : U (ws' ++ List.replicate len 0) = U ws' ++ List.replicate len (Value.int .u64 0) := by simp [U]
      rw [e]
      exact An hown1 (((Ch.refl (fun k _ => k = sb) _)).setCell (fun _ _ => rfl) _) (fun g cur h1 _ _ h2 => by cases h1; exact hg2 h2)}
     {obtain ⟨k, hk⟩ := HW.out
      exact ⟨k + len, by rw [hk, List.append_assoc, List.replicate_append_replicate]⟩}
     {refine ((hch.drew.grown hgrow1 (fun k o h1 h2 => ?_)).setCell (fun _ _ => .inl rfl) _)
      have e : ob' = k := Option.some.inj h1
      rw [← e] at h2 ⊢
      rcases hob with hob | hob
      {exact .inr hob}
      {exact absurd (Ac h2) (by omega)}}
     {rcases hob1 g2 rfl with e | e
      {cases e; exact hob}
      {have := hch.size; simp at e; exact .inr (by omega)}}
    case measure => omega)
  | false =>
   have e1 : ¬ (len : Int) ≤ (n / 64 : Nat) := by simpa using hd
   have hlt : n / 64 < len := by omega
   obtain ⟨x, hx⟩ : ∃ x, ws'[n / 64]? = some x := ⟨_, List.getElem?_eq_getElem (by have := HL.out; omega)⟩
   obtain ⟨h1, h2 | ⟨g, cap', cur, hv, _, hob2, hcap2, hm2, hcs, hct⟩⟩ := HO.out
   {exact absurd h2.2 (by omega)}
   cases hv
   rw [Nat.mul_one] at hct hcs
   have hcx : cur[n / 64]? = some (.int .u64 x) := by
    have := S4 hx
    rw [← hct, List.getElem?_take, if_pos hlt] at this
    rw [← Array.getElem?_toList]; exact this
   have c3 : wr.cell? ⟨ob', n / 64, none⟩ = some (.int .u64 x) := (Ab hob2 _).trans hcx
   have f3 := Ad hob2 (n / 64)
   have HB := Aa hob2
   have HCT := Aa hct
   have HX := Aa hx
   clear hob2 hct hcx h1 hx
   have hx64 : x < 18446744073709551616 := by
    obtain ⟨k, hk⟩ := HW.out
    have := mG HX.out
    rw [hk, List.mem_append] at this
    rcases this with h | h
    {exact HWS.out x h}
    {rw [List.eq_of_mem_replicate h]; decide}
   have hbit : Fi ws n = Fi ws' n := by obtain ⟨k, hk⟩ := HW.out; rw [hk, Ly]
   have hbs : ∀ m, Fi ws m = Fi ws' m := fun m => by obtain ⟨k, hk⟩ := HW.out; rw [hk, Ly]
   have HBS := Aa hbs
   have hball : ∀ y ∈ ws', y < 18446744073709551616 := fun y hy => by
    obtain ⟨k, hk⟩ := HW.out
    rw [hk, List.mem_append] at hy
    rcases hy with h | h
    {exact HWS.out y h}
    {rw [List.eq_of_mem_replicate h]; decide}
   have HALL := Aa hball
   have HBW := Aa (hbit.trans (O7 HX.out))
   have hk64 : n % 64 < 64 := Nat.mod_lt _ (by omega)
   have ht := We x (n % 64) hx64 hk64
   have c2 := Ab HSB.out 2
   have f2 := Ad HSB.out 2
   have e2 : decide ((len : Int) ≤ (n : Int) / 64) = false := by rw [decide_eq_false_iff_not]; omega
   clear hball hbs hbit
   cases htb : x.testBit (n % 64) with
   | true =>
    rw [htb] at ht
    go_wp2
    go_ret
    refine ⟨Bn (by rw [HBW.out, htb]; rfl), ob', ws', ⟨hne, cap, by rw [HBW.out, htb, HL.out]; exact HSB.out, by rw [HL.out]; exact HO.out⟩, fun m => ?_, by have := HL.out; omega, by have := HL.out; omega, HALL.out, hch, hob⟩
    rw [HBS.out]
    by_cases hm : m = n
    {subst hm; rw [O7 HX.out, htb]; simp}
    {simp [hm]}
   | false =>
    rw [htb] at ht
    go_wp2
    go_ret
    have hs3 := Af HB.out (n / 64) (.int .u64 (bits .or .u64 (x : Int) (IntKind.u64.wrap (2 ^ (n % 64)))))
    have hsb3 : (wr.setCell ⟨ob', n / 64, none⟩ (.int .u64 (bits .or .u64 (x : Int) (IntKind.u64.wrap (2 ^ (n % 64)))))).heap[sb]? = wr.heap[sb]? := heap_setCell_other _ _ _ _ (fun e => hne e.symm)
    have hsb4 := Af (hsb3.trans HSB.out) 2 (.int .i64 (c + 1))
    have hrow4 := (heap_setCell_other (wr.setCell ⟨ob', n / 64, none⟩ (.int .u64 (bits .or .u64 (x : Int) (IntKind.u64.wrap (2 ^ (n % 64)))))) ⟨sb, 2, none⟩ ob' (.int .i64 (c + 1)) hne).trans hs3
    rw [Y8 x _ hx64 hk64] at hrow4 hsb4 ⊢
    have hl3 : (ws'.set (n / 64) (x ||| 2 ^ (n % 64))).length = len := by rw [List.length_set, HL.out]
    refine ⟨Bn (by rw [HBW.out, htb]; rfl), ob', ws'.set (n / 64) (x ||| 2 ^ (n % 64)), ⟨hne, cap, ?_, ?_⟩, fun m => by rw [Wf _ _ _ _ HX.out, HBS.out], by omega, by omega, ?_, ?_, hob⟩
    {rw [hl3, hsb4, HBW.out, htb]; rfl}
    {rw [hl3]
     refine ⟨by simp [U, HL.out], .inr ⟨ob', cap, _, rfl, Nat.zero_le _, hrow4, hcap2, hm2, by simp; omega, ?_⟩⟩
     rw [Nat.mul_one, Array.toList_setIfInBounds, List.take_set, HCT.out]
     unfold U
     rw [← List.map_set]}
    {intro y hy
     rcases List.mem_or_eq_of_mem_set hy with h | h
     {exact HALL.out y h}
     {subst h; exact Nat.or_lt_two_pow (n := 64) hx64 (Hf hk64)}}
    {refine (hch.setCell (fun o ho => ?_) _).setCell (fun _ _ => .inl rfl) _
     rcases hob with hob | hob
     {exact .inr hob}
     {exact absurd (Ac ho) (by show ¬ ob' < _; omega)}}
def Eu (l : List Int) : Prop := l.Pairwise (· < ·) ∧ ∀ x ∈ l, 0 ≤ x ∧ x ≤ 1048575
theorem Gb : Eu [] := ⟨List.Pairwise.nil, by simp⟩
theorem S5 : ∀ (l : List Int) (a b : Int), l.Pairwise (· < ·) → (∀ x ∈ l, a ≤ x ∧ x ≤ b) → (l.length : Int) ≤ max 0 (b - a + 1)
 | [], a, b, _, _ => by simp; omega
 | x :: r, a, b, h, h2 => by
  obtain ⟨h3, h4⟩ := List.pairwise_cons.1 h
  have := h2 x (by simp)
  have := S5 r (x + 1) b h4 (fun y hy => ⟨by have := h3 y hy; omega, (h2 y (by simp [hy])).2⟩)
  simp only [List.length_cons]
  omega
theorem Eu.len {l : List Int} (h : Eu l) : l.length ≤ 1048576 := by
 have := S5 l 0 1048575 h.1 h.2
 omega
theorem Fa {l : List Int} {n m : Int} : m ∈ Cq l n ↔ m ∈ l ∨ (m = n ∧ 0 ≤ n ∧ n ≤ 1048575) := by
 unfold Cq
 split
 {rename_i h
  constructor
  {exact .inl}
  {rintro (h1 | ⟨rfl, h1, h2⟩)
   {exact h1}
   {rcases h with h | h | h
    {omega}
    {omega}
    {exact h}}}}
 {rename_i h
  have hl := List.takeWhile_append_dropWhile (p := (· < n)) (l := l)
  constructor
  {intro hm
   rcases List.mem_append.1 hm with hm | hm
   {exact .inl (by rw [← hl]; exact List.mem_append_left _ hm)}
   {rcases List.mem_cons.1 hm with rfl | hm
    {exact .inr ⟨rfl, by omega, by omega⟩}
    {exact .inl (by rw [← hl]; exact List.mem_append_right _ hm)}}}
  {rintro (hm | ⟨rfl, _, _⟩)
   {rw [← hl] at hm
    rcases List.mem_append.1 hm with hm | hm
    {exact List.mem_append_left _ hm}
    {exact List.mem_append_right _ (List.mem_cons_of_mem _ hm)}}
   {exact List.mem_append_right _ (List.mem_cons_self)}}}
theorem X4 {l : List Int} {n : Int} : ∀ x ∈ l.takeWhile (· < n), x < n := by
 induction l with
 | nil => simp
 | cons y r ih =>
  intro x hx
  by_cases hy : y < n
  {simp only [List.takeWhile, hy, decide_true] at hx
   rcases List.mem_cons.1 hx with rfl | hx
   {exact hy}
   {exact ih x hx}}
  {simp [List.takeWhile, hy] at hx}
theorem X5 {l : List Int} {n : Int} (h : l.Pairwise (· < ·)) : ∀ x ∈ l.dropWhile (· < n), n ≤ x := by
 induction l with
 | nil => simp
 | cons y r ih =>
  obtain ⟨h3, h4⟩ := List.pairwise_cons.1 h
  intro x hx
  by_cases hy : y < n
  {simp only [List.dropWhile, hy, decide_true] at hx
   exact ih h4 x hx}
  {simp only [List.dropWhile, hy, decide_false] at hx
   rcases List.mem_cons.1 hx with rfl | hx
   {omega}
   {have := h3 x hx; omega}}
theorem Eu.putS {l : List Int} (h : Eu l) (n : Int) : Eu (Cq l n) := by
 refine ⟨?_, fun x hx => ?_⟩
 {unfold Go.Proofs.YtgjpgfedlgdjhaaGreatDoor.Cq
  split
  {exact h.1}
  {rename_i hn
   have hl := List.takeWhile_append_dropWhile (p := (· < n)) (l := l)
   have h1 := h.1
   rw [← hl] at h1
   obtain ⟨ha, hb, hc⟩ := List.pairwise_append.1 h1
   refine List.pairwise_append.2 ⟨ha, List.pairwise_cons.2 ⟨fun y hy => ?_, hb⟩, fun x hx y hy => ?_⟩
   {have := X5 h.1 y hy
    have : y ≠ n := by
     rintro rfl
     exact hn (.inr (.inr (by rw [← hl]; exact List.mem_append_right _ hy)))
    omega}
   {rcases List.mem_cons.1 hy with rfl | hy
    {exact X4 x hx}
    {exact hc x hx y hy}}}}
 {rcases Fa.1 hx with hx | ⟨rfl, h1, h2⟩
  {exact h.2 x hx}
  {exact ⟨h1, h2⟩}}
theorem D2 : ∀ {l l' : List Int}, l.Pairwise (· < ·) → l'.Pairwise (· < ·) → (∀ m, m ∈ l ↔ m ∈ l') → l = l'
 | [], [], _, _, _ => rfl
 | [], y :: r, _, _, h => absurd ((h y).2 (by simp)) (by simp)
 | x :: r, [], _, _, h => absurd ((h x).1 (by simp)) (by simp)
 | x :: r, y :: s, h1, h2, h => by
  obtain ⟨a, b⟩ := List.pairwise_cons.1 h1
  obtain ⟨c, d⟩ := List.pairwise_cons.1 h2
  have hxy : x = y := by
   have e1 := (h x).1 (by simp)
   have e2 := (h y).2 (by simp)
   rcases List.mem_cons.1 e1 with e | e1
   {exact e}
   {rcases List.mem_cons.1 e2 with e | e2
    {exact e.symm}
    {have := c x e1; have := a y e2; omega}}
  subst hxy
  rw [D2 b d (fun m => ?_)]
  constructor
  {intro hm
   rcases List.mem_cons.1 ((h m).1 (by simp [hm])) with rfl | hm'
   {exact absurd (a m hm) (by omega)}
   {exact hm'}}
  {intro hm
   rcases List.mem_cons.1 ((h m).2 (by simp [hm])) with rfl | hm'
   {exact absurd (c m hm) (by omega)}
   {exact hm'}}
theorem Ry {l : List Int} {n : Int} (h : l.Pairwise (· < ·)) : l.takeWhile (· < n) = l.take (l.countP (· < n)) ∧ l.dropWhile (· < n) = l.drop (l.countP (· < n)) := by
 have hl := List.takeWhile_append_dropWhile (p := (· < n)) (l := l)
 have e : l.countP (· < n) = (l.takeWhile (· < n)).length := by
  conv => lhs; rw [← hl]
  rw [List.countP_append, List.countP_eq_length.2 (fun x hx => by simpa using X4 x hx), List.countP_eq_zero.2 (fun x hx => by have := X5 h x hx; simpa using this)]
  omega
 rw [e]
 constructor
 {have := @List.take_left _ (l.takeWhile (· < n)) (l.dropWhile (· < n))
  rw [hl] at this
  exact this.symm}
 {have := @List.drop_left _ (l.takeWhile (· < n)) (l.dropWhile (· < n))
  rw [hl] at this
  exact this.symm}
theorem S6 {l : List Int} {n : Int} (h : l.Pairwise (· < ·)) (h0 : 0 ≤ n) (h1 : n ≤ 1048575) (hn : n ∉ l) : Cq l n = l.take (l.countP (· < n)) ++ n :: l.drop (l.countP (· < n)) := by
 obtain ⟨a, b⟩ := Ry (n := n) h
 unfold Cq
 rw [if_neg (fun h => by rcases h with h | h | h <;> first | omega | exact hn h), a, b]
theorem Fb {l : List Int} {n : Int} (h0 : 0 ≤ n) (h1 : n ≤ 1048575) (hn : n ∉ l) : (Cq l n).length = l.length + 1 := by
 unfold Cq
 rw [if_neg (fun h => by rcases h with h | h | h <;> first | omega | exact hn h)]
 have := congrArg List.length (List.takeWhile_append_dropWhile (p := (· < n)) (l := l))
 simp only [List.length_append, List.length_cons] at this ⊢
 omega
theorem Fc {l : List Int} {n : Int} (h : ¬ (0 ≤ n ∧ n ≤ 1048575 ∧ n ∉ l)) : Cq l n = l := by
 unfold Cq
 rw [if_pos (by
  by_cases h1 : n < 0
  {exact .inl h1}
  {by_cases h2 : 1048575 < n
   {exact .inr (.inl h2)}
   {exact .inr (.inr (Classical.byContradiction fun h3 => h ⟨by omega, by omega, h3⟩))}})]
def Br (w : World) (sb : Nat) (l : List Int) (ob : Option Nat) : Prop :=
 Eu l ∧ ((∃ lv, w.heap[sb]? = some (.cells #[lv, .slice none 0 0, .int .i64 l.length] 182 (0, 0)) ∧ Al w 0 lv l ∧ lv.ownBlock = ob ∧ ob ≠ some sb ∧ l.length ≤ 16) ∨
  (∃ b ws, ob = some b ∧ Dn w sb b l.length ws ∧ 0 < ws.length ∧ ws.length ≤ 32768 ∧ (∀ x ∈ ws, x < 18446744073709551616) ∧ ∀ n : Nat, (n : Int) ∈ l ↔ Fi ws n = true))
def So (sb : Nat) (ob : Option Nat) : Nat → Obj → Prop := fun k _ => k = sb ∨ ob = some k
theorem Dn.ch {S : Nat → Obj → Prop} {w w' : World} {sb ob : Nat} {c : Int} {ws : List Nat} (h : Dn w sb ob c ws) (hc : Ch S w w') (h1 : ∀ o, ¬ S sb o) (h2 : ∀ o, ¬ S ob o) : Dn w' sb ob c ws := by
 obtain ⟨hne, cap, ha, hb⟩ := h
 exact ⟨hne, cap, hc.keep _ _ ha (h1 _), An hb hc (fun g cur e _ _ => by cases e; exact h2 _)⟩
theorem Br.ch {S : Nat → Obj → Prop} {w w' : World} {sb : Nat} {l : List Int} {ob : Option Nat} (h : Br w sb l ob) (hc : Ch S w w') (h1 : ∀ o, ¬ S sb o) (h2 : ∀ b o, ob = some b → ¬ S b o) : Br w' sb l ob := by
 obtain ⟨hg, h | ⟨b, ws, rfl, h, r⟩⟩ := h
 {obtain ⟨lv, ha, hb, hcb, r⟩ := h
  exact ⟨hg, .inl ⟨lv, hc.keep _ _ ha (h1 _), hb.ch hc (fun g o e _ _ => h2 g o (by rw [← hcb]; exact e)), hcb, r⟩⟩}
 {exact ⟨hg, .inr ⟨b, ws, rfl, h.ch hc h1 (fun o => h2 b o rfl), r⟩⟩}
theorem Br.no {w w' : World} {sb : Nat} {l : List Int} {ob : Option Nat} (h : Br w sb l ob) (hc : Ch No w w') : Br w' sb l ob := h.ch hc (fun _ h => h) (fun _ _ _ h => h)
theorem Br.lt {w : World} {sb : Nat} {l : List Int} {ob : Option Nat} (h : Br w sb l ob) : sb < w.heap.size ∧ ∀ b, ob = some b → b < w.heap.size := by
 obtain ⟨hg, h | ⟨b, ws, rfl, ⟨hne, cap, ha, hb⟩, r⟩⟩ := h
 {obtain ⟨lv, ha, hb, hcb, r⟩ := h
  exact ⟨Ac ha, fun b e => (hb.lt b (hcb.trans e)).2⟩}
 {exact ⟨Ac ha, fun b' e => by cases e; exact (hb.lt b rfl).2⟩}
theorem H8 {w : World} {sb : Nat} {lv : Value} {c : Int} (h : w.heap[sb]? = some (.cells #[lv, .slice none 0 0, .int .i64 c] 182 (0, 0))) :
 Calls Tryz.prog 146 #[.pointer (some ⟨sb, 0, none⟩)] w fun e w' => e = .returned (.bool false) ∧ w' = w := by
 have c1 := Ab h 1
 have H := Aa h
 clear h
 go_in
 go_wp2
 go_ret
 exact ⟨rfl, rfl⟩
theorem H9 {w : World} {sb b : Nat} {c : Int} {ws : List Nat} (h : Dn w sb b c ws) :
 Calls Tryz.prog 146 #[.pointer (some ⟨sb, 0, none⟩)] w fun e w' => e = .returned (.bool true) ∧ w' = w := by
 obtain ⟨_, cap, h, _⟩ := h
 have c1 := Ab h 1
 have H := Aa h
 clear h
 go_in
 go_wp2
 go_ret
 exact ⟨rfl, rfl⟩
def Jr (ws : List Nat) (l : List Int) : Prop := 0 < ws.length ∧ ws.length ≤ 32768 ∧ (∀ x ∈ ws, x < 18446744073709551616) ∧ ∀ n : Nat, (n : Int) ∈ l ↔ Fi ws n = true
theorem Jr.zero : Jr [0] [] := ⟨by simp, by simp, by simp, fun n => by
 have : Fi [0] n = false := (Ly [] 1 n).trans (by simp [Fi])
 simp [this]⟩
theorem M8 {w : World} {sb : Nat} {lv : Value} {l : List Int} (hsb : w.heap[sb]? = some (.cells #[lv, .slice none 0 0, .int .i64 l.length] 182 (0, 0))) (hown : Al w 0 lv l) (hne : lv.ownBlock ≠ some sb)
 (hg : Eu l) (hlen : l.length ≤ 16) :
 Calls Tryz.prog 149 #[.pointer (some ⟨sb, 0, none⟩)] w fun e w' => e = .returned (.tuple #[]) ∧ ∃ ob' ws', Dn w' sb ob' l.length ws' ∧ Jr ws' l ∧ Ch (fun k _ => k = sb) w w' ∧ w.heap.size ≤ ob' := by
 have hat := hown.at_
 obtain ⟨ao, cap, rfl, hcap, hmax, hnc, hcell⟩ := hat
 obtain ⟨len, hlen'⟩ : ∃ len, l.length = len := ⟨_, rfl⟩
 rw [hlen'] at hcap hcell hlen hsb hown hne ⊢
 unfold maxLen at hmax
 have HL := Aa hlen'
 have HG := Aa hg
 have HSB := Aa hsb
 have hlt := Ac hsb
 have c0 := Ab hsb 0
 obtain ⟨i, hi, hz, hs, hby⟩ := info_parts Tryz.infoU64
 have ht : Tryz.prog.underlying 180 = some (.slice 205) := by kernel_rfl
 have HI := Aa (show i.bytes * 1 ≤ 281474976710656 by rw [hby]; decide)
 have HZ := Aa hz
 have HS := Aa hs
 have HT := Aa ht
 have hi' := Aa hi
 have HN := Aa hne
 have HO := Aa hown
 clear hlen' hg hsb hown hnc hz hs ht hi hby hne
 go_in
 go_wp2_with (at_make; go_must (refine wpList_make_full _ rfl _ _ 180 rfl 0 205 i _ 1 HT.out hi'.out HZ.out HS.out .i64 .i64 1 1 1 rfl rfl rfl rfl HI.out (by decide) (Nat.zero_le _) ?_))
 intro w1 hown1 hgrow1
 have HSB1 := Aa ((hgrow1.block sb hlt (by simp)).trans HSB.out)
 obtain ⟨d0, d1, d2⟩ := Dy HSB1.out
 obtain ⟨f0, f1, f2⟩ := I5 HSB1.out
 have HO1 := Aa hown1
 clear hown1
 go_wp2_with fail
 have hst : (((w1.setCell ⟨sb, 1, none⟩ (.slice (some ⟨w.heap.size, 0, none⟩) 1 1)).setCell ⟨sb, 0, none⟩ (.slice none 0 0)).setCell ⟨sb, 2, none⟩ (.int .i64 0)).heap[sb]? = some (.cells #[.slice none 0 0, .slice (some ⟨w.heap.size, 0, none⟩) 1 1, .int .i64 0] 182 (0, 0)) :=
  Af (Af (Af HSB1.out 1 _) 0 _) 2 _
 have hch0 : Ch (fun k _ => k = sb) w (((w1.setCell ⟨sb, 1, none⟩ (.slice (some ⟨w.heap.size, 0, none⟩) 1 1)).setCell ⟨sb, 0, none⟩ (.slice none 0 0)).setCell ⟨sb, 2, none⟩ (.int .i64 0)) :=
  ((((Ch.refl _ w).grown hgrow1 (fun _ _ h => by cases h)).setCell (fun _ _ => rfl) _).setCell (fun _ _ => rfl) _).setCell (fun _ _ => rfl) _
 have hrow0 : Dn (((w1.setCell ⟨sb, 1, none⟩ (.slice (some ⟨w.heap.size, 0, none⟩) 1 1)).setCell ⟨sb, 0, none⟩ (.slice none 0 0)).setCell ⟨sb, 2, none⟩ (.int .i64 0)) sb w.heap.size 0 [0] := by
  refine ⟨by omega, 1, hst, ?_⟩
  have hz2 : (madeCells (Value.int .u64 0).cells (1 * 1)).toList = U [0] := by
   have e : (Value.int .u64 0).cells = #[Value.int .u64 0] := rfl
   rw [e]; simp [madeCells, U, List.range_succ]
  rw [← hz2]
  have hne2 : ∀ g cur, (Value.slice (some ⟨w.heap.size, 0, none⟩) 1 1).ownBlock = some g → 0 ≤ g → ∀ w : World, w.heap[g]? = some (.cells cur 205 (0, 0)) → ¬ g = sb := fun g cur h _ _ _ => by have e : w.heap.size = g := Option.some.inj h; omega
  exact An HO1.out ((((Ch.refl (fun k _ => k = sb) w1).setCell (fun _ _ => rfl) _).setCell (fun _ _ => rfl) _).setCell (fun _ _ => rfl) _) (fun g cur h h2 h3 => hne2 g cur h h2 _ h3)
 generalize (((w1.setCell ⟨sb, 1, none⟩ (.slice (some ⟨w.heap.size, 0, none⟩) 1 1)).setCell ⟨sb, 0, none⟩ (.slice none 0 0)).setCell ⟨sb, 2, none⟩ (.int .i64 0)) = w2 at hst hch0 hrow0 ⊢
 clear hst HO1 hgrow1 d0 d1 d2 f0 f1 f2 HSB1 HI HZ HS HT hi' c0
 go_loopg [21] len (fun g s21 wr => ∃ (k : Nat) (ob' : Nat) (ws' : List Nat), k ≤ len ∧ len - k ≤ g ∧ s21 = .int .i64 k ∧ Dn wr sb ob' k ws' ∧ Hid (Jr ws' (l.take k)) ∧ Ch (fun k _ => k = sb) w wr ∧ w.heap.size ≤ ob')
 case atStart => exact ⟨0, w.heap.size, [0], Nat.zero_le _, by omega, rfl, hrow0, Aa Jr.zero, hch0, Nat.le_refl _⟩
 case round =>
  obtain ⟨k, ob', ws', hk, hg, rfl, hrow, HH, hch, hob⟩ := hrel
  cases hd : decide (k < len) with
  | true =>
   have hkl : k < len := by simpa using hd
   obtain ⟨b, off, rfl, hc⟩ := hcell (by omega)
   obtain ⟨x, hx⟩ := gE (l := l) (i := k) (by have := HL.out; omega)
   have hxl := mG hx
   obtain ⟨m, rfl⟩ : ∃ m : Nat, x = (m : Int) := ⟨x.toNat, by have := (HG.out.2 x hxl).1; omega⟩
   have hm := (HG.out.2 _ hxl).2
   have hq := Ae (hc k _ hx) hch (fun o _ h => HN.out (congrArg some (show b = sb from h)))
   have HX := Aa hx
   clear hc hcell hx hrow0 hch0
   have hcall := H7 hrow m (by omega) HH.out.1 HH.out.2.1 (by omega) HH.out.2.2.1
   have hnew : Fi ws' m = false := by
    cases hb : Fi ws' m with
    | false => rfl
    | true =>
     have := (HH.out.2.2.2 m).2 hb
     have hp := HG.out.1
     rw [← List.take_append_drop k l] at hp
     have h3 := (List.pairwise_append.1 hp).2.2 m this m (by
      have := HX.out
      rw [← Nat.add_zero k, ← List.getElem?_drop] at this
      exact mG this)
     omega
   rw [hnew] at hcall
   go_wp2_with fail
   refine hcall.mono ?_
   rintro e w' ⟨rfl, ob2, ws2, hrow2, hbit2, hl2, hl3, hall2, hch2, hob2⟩
   go_wp2
   go_roundg (len - k - 1)
   case rel =>
    refine ⟨k + 1, ob2, ws2, by omega, by omega, by go_num, hrow2, Aa ⟨hl2, hl3, hall2, fun n => ?_⟩, hch.trans' hch2 (fun k o ho h => ?_), ?_⟩
    {rw [hbit2, List.take_add_one, HX.out]
     have := HH.out.2.2.2 n
     cases hb : Fi ws' n with
     | true => rw [hb] at this; simp [this.2 rfl]
     | false =>
      have h0 : ¬ (n : Int) ∈ l.take k := fun h => by have := this.1 h; rw [hb] at this; cases this
      simp [h0]
      omega}
    {rcases h with h | h
     {exact h}
     {have := Ac ho; omega}}
    {rcases hob2 with h | h
     {omega}
     {have := hch.size; omega}}
   case measure => omega
  | false =>
   go_wp2_with fail
   refine bodyPost_end (results_none rfl _ _ _) rfl ?_
   have hkl : ¬ k < len := by simpa using hd
   have hkk : k = len := by omega
   subst hkk
   have := HH.out
   rw [List.take_of_length_le (by have := HL.out; omega)] at this
   exact ⟨rfl, ob', ws', hrow, this, hch, hob⟩
def O8 (w : World) (sb : Nat) (l : List Int) (ob : Option Nat) (n : Int) (e : Ending) (w' : World) : Prop :=
 e = .returned (.bool (decide (0 ≤ n ∧ n ≤ 1048575 ∧ n ∉ l))) ∧ ∃ ob', Br w' sb (Cq l n) ob' ∧ Ch (So sb ob) w w' ∧ (ob' = ob ∨ ∃ g, ob' = some g ∧ w.heap.size ≤ g)
theorem Wg {w : World} {sb : Nat} {l : List Int} {ob : Option Nat} (h : Br w sb l ob) (n : Int) (hn : ¬ (0 ≤ n ∧ n ≤ 1048575)) :
 Calls Tryz.prog 112 #[.pointer (some ⟨sb, 0, none⟩), .int .i64 n] w (O8 w sb l ob n) := by
 have fin : O8 w sb l ob n (.returned (.bool false)) w :=
  ⟨Bn (by symm; rw [decide_eq_false_iff_not]; exact fun h => hn ⟨h.1, h.2.1⟩), ob, by rw [Fc (fun h => hn ⟨h.1, h.2.1⟩)]; exact h, Ch.refl _ _, .inl rfl⟩
 have FIN := Aa fin
 clear fin h
 cases e1 : decide (n < 0) with
 | true =>
  go_in
  go_wp2
  go_ret
  exact FIN.out
 | false =>
  have e2 : decide (1048576 ≤ n) = true := by simp at e1 ⊢; omega
  go_in
  go_wp2
  go_ret
  exact FIN.out
theorem S7 {w : World} {sb b : Nat} {l : List Int} {ws : List Nat} (hg : Eu l) (h : Dn w sb b l.length ws) (hh : Jr ws l) (m : Nat) (hm : m < 1048576) :
 Calls Tryz.prog 112 #[.pointer (some ⟨sb, 0, none⟩), .int .i64 m] w (O8 w sb l (some b) m) := by
 have hmk := H7 h m hm hh.1 hh.2.1 ⟨by omega, by have := hg.len; omega⟩ hh.2.2.1
 have hmy := H9 h
 have fin : ∀ w' ob' ws', Dn w' sb ob' (upC (Fi ws m) l.length) ws' → (∀ k, Fi ws' k = (Fi ws k || k == m)) → 0 < ws'.length → ws'.length ≤ 32768 → (∀ x ∈ ws', x < 18446744073709551616) →
  Ch (SO sb b) w w' → (ob' = b ∨ w.heap.size ≤ ob') → O8 w sb l (some b) m (.returned (.bool (!Fi ws m))) w' := by
  intro w' ob' ws' h1 h2 h3 h4 h5 h6 h7
  have hiff := hh.2.2.2 m
  refine ⟨Bn ?_, some ob', ⟨hg.putS _, .inr ⟨ob', ws', rfl, ?_, h3, h4, h5, fun k => ?_⟩⟩, h6.mono (fun k o _ h => h.imp id (fun h => by rw [h])), ?_⟩
  {symm
   cases hb : Fi ws m with
   | true => rw [hb] at hiff; simp [hiff.2 rfl]
   | false =>
    have : ¬ (m : Int) ∈ l := fun h => by have := hiff.1 h; rw [hb] at this; cases this
    simp [this]; omega}
  {cases hb : Fi ws m with
   | true =>
    rw [hb] at h1 hiff
    rw [Fc (fun h => h.2.2 (hiff.2 rfl))]; exact h1
   | false =>
    have : ¬ (m : Int) ∈ l := fun h => by have := hiff.1 h; rw [hb] at this; cases this
    rw [hb] at h1
    rw [Fb (by omega) (by omega) this]
    exact h1}
  {rw [Fa, h2]
   have := hh.2.2.2 k
   by_cases hk : k = m
   {subst hk; simp; omega}
   {have hk' : ¬ (k : Int) = (m : Int) := by omega
    simp [hk, hk', this]}}
  {rcases h7 with h7 | h7
   {exact .inl (by rw [h7])}
   {exact .inr ⟨ob', rfl, h7⟩}}
 have FIN := Aa fin
 have e1 : decide ((m : Int) < 0) = false := by rw [decide_eq_false_iff_not]; omega
 have e2 : decide (1048576 ≤ (m : Int)) = false := by rw [decide_eq_false_iff_not]; omega
 clear fin h hh hg
 go_in
 go_wp2_with fail
 refine hmy.mono ?_
 rintro e w' ⟨rfl, rfl⟩
 go_wp2_with fail
 refine hmk.mono ?_
 rintro e w2 ⟨rfl, ob2, ws2, h1, h2, h3, h4, h5, h6, h7⟩
 go_wp2
 go_ret
 exact FIN.out _ _ _ h1 h2 h3 h4 h5 h6 h7
theorem S8 {w : World} {sb : Nat} {l : List Int} {lv : Value} (hg : Eu l) (hsb : w.heap[sb]? = some (.cells #[lv, .slice none 0 0, .int .i64 l.length] 182 (0, 0))) (hown : Al w 0 lv l)
 (hne : lv.ownBlock ≠ some sb) (hlen : l.length ≤ 16) (n : Int) (h0 : 0 ≤ n) (h1 : n ≤ 1048575) :
 Calls Tryz.prog 112 #[.pointer (some ⟨sb, 0, none⟩), .int .i64 n] w (O8 w sb l lv.ownBlock n) := by
 have hat := hown.at_
 have hmy := H8 hsb
 have hbs := Abb hat hg.1 n (by omega)
 obtain ⟨ao, cap, rfl, hcap, hmax, hnc, hcell⟩ := hat
 obtain ⟨len, hlen'⟩ : ∃ len, l.length = len := ⟨_, rfl⟩
 rw [hlen'] at hcap hcell hlen hsb hown hne hbs ⊢
 unfold maxLen at hmax
 have HL := Aa hlen'
 have HG := Aa hg
 have HSB := Aa hsb
 have hlt := Ac hsb
 obtain ⟨c0, c1, c2⟩ := Dy hsb
 obtain ⟨f0, f1, f2⟩ := I5 hsb
 have HO := Aa hown
 have HN := Aa hne
 have e1 : decide (n < 0) = false := by rw [decide_eq_false_iff_not]; omega
 have e2 : decide (1048576 ≤ n) = false := by rw [decide_eq_false_iff_not]; omega
 clear hlen' hg hsb hown hnc hne hcell
 cases hin : decide (n ∈ l) with
 | true =>
  rw [hin] at hbs
  go_in
  go_wp2_with fail
  refine hmy.mono ?_
  rintro e w' ⟨rfl, rfl⟩
  go_wp2_with fail
  refine hbs.mono ?_
  rintro e w' ⟨rfl, q, rfl⟩
  go_wp2
  go_ret
  have hm : n ∈ l := by simpa using hin
  refine ⟨Bn (by simp [hm]), _, ?_, (Ch.refl _ _).drewN _, .inl rfl⟩
  rw [Fc (fun h => h.2.2 hm)]
  exact ⟨HG.out, .inl ⟨_, by rw [HL.out]; exact HSB.out, HO.out, rfl, HN.out, by rw [HL.out]; exact hlen⟩⟩
 | false =>
  have hm : n ∉ l := by simpa using hin
  rw [hin] at hbs
  cases e5 : ((len : Int) == 16) with
  | true =>
   go_in
   go_wp2_with fail
   refine hmy.mono ?_
   rintro e w0 ⟨rfl, rfl⟩
   go_wp2_with fail
   refine hbs.mono ?_
   rintro e w' ⟨rfl, q, rfl⟩
   go_wp2_with fail
   have hl16 : len = 16 := by simp at e5; omega
   have hsp := M8 (w := w0.drewN q) (sb := sb) (lv := .slice ao len cap) (l := l) (by rw [HL.out]; exact HSB.out) HO.out HN.out HG.out (by rw [HL.out]; exact hlen)
   clear c0 c1 c2 f0 f1 f2 hmy hbs
   refine hsp.mono ?_
   rintro e w1 ⟨rfl, ob1, ws1, hr1, hh1, hc1, ho1⟩
   go_wp2_with fail
   obtain ⟨m, rfl⟩ : ∃ m : Nat, n = (m : Int) := ⟨n.toNat, by omega⟩
   have hbm : Fi ws1 m = false := by
    cases hb : Fi ws1 m with
    | false => rfl
    | true => exact absurd ((hh1.2.2.2 m).2 hb) hm
   have hmk := H7 hr1 m (by omega) hh1.1 hh1.2.1 (by rw [HL.out]; omega) hh1.2.2.1
   rw [hbm] at hmk
   refine hmk.mono ?_
   rintro e w2 ⟨rfl, ob2, ws2, g1, g2, g3, g4, g5, g6, g7⟩
   go_wp2
   go_ret
   refine ⟨Bn (by simp [hm]; omega), some ob2, ⟨HG.out.putS _, .inr ⟨ob2, ws2, rfl, ?_, g3, g4, g5, fun k => ?_⟩⟩, ?_, .inr ⟨ob2, rfl, ?_⟩⟩
   {rw [Fb (by omega) (by omega) hm]
    exact g1}
   {rw [Fa, g2]
    have := hh1.2.2.2 k
    by_cases hk : k = m
    {subst hk; simp; omega}
    {have hk' : ¬ (k : Int) = (m : Int) := by omega
     simp [hk, hk', this]}}
   {refine ((((Ch.refl (fun k _ => k = sb) w0).drewN q).trans hc1).trans' g6 (fun k o ho h => ?_)).mono (fun k o _ h => .inl h)
    rcases h with h | h
    {exact h}
    {have := Ac ho
     have : w0.heap.size ≤ ob1 := ho1
     omega}}
   {have : w0.heap.size ≤ ob1 := ho1
    have : w0.heap.size ≤ w1.heap.size := hc1.size
    rcases g7 with h | h <;> omega}
  | false =>
   go_in
   go_wp2_with fail
   refine hmy.mono ?_
   rintro e w0 ⟨rfl, rfl⟩
   go_wp2_with fail
   refine hbs.mono ?_
   rintro e w' ⟨rfl, q, rfl⟩
   go_wp2_with fail
   have hin1 := Qb (w := (w0.drewN q).alloc (.cells #[.int .i64 n] 3)) (base := 0) (v := .slice ao len cap) (l := l) (HO.out.alloc (w := w0.drewN q) _) (l.countP (· < n)) List.countP_le_length (by rw [HL.out]; omega) n w0.heap.size (heap_alloc_new (w0.drewN q) _)
    (fun e => by have := (HO.out.lt _ e).2; omega) (Nat.zero_le _)
   refine hin1.mono ?_
   rintro e w1 ⟨v1, rfl, hown1, hch1, hob1⟩
   have hcnt : l.countP (· < n) ≤ len := by rw [← HL.out]; exact List.countP_le_length
   have hl1 : (l.take (l.countP (· < n)) ++ n :: l.drop (l.countP (· < n))).length = len + 1 := by
    simp only [List.length_append, List.length_cons, List.length_take, List.length_drop, HL.out]; omega
   have HS1 := Aa (hch1.keep sb _ (Bh (w := w0.drewN q) HSB.out _) (fun h => HN.out h))
   obtain ⟨g1, cap1, cur1, hv1, _, _, _, hcm1⟩ := Ix hown1 (by omega)
   rw [hl1] at hv1
   subst hv1
   have HOW := Aa hown1
   clear c0 c1 c2 f0 f1 f2 hmy hbs hown1
   have c0 := Ab HS1.out 0
   have c2 := Ab HS1.out 2
   have f0 := Ad HS1.out 0
   have f2 := Ad HS1.out 2
   go_wp2
   go_ret
   have hst := Af (Af HS1.out 0 (.slice (some ⟨g1, 0, none⟩) (len + 1) cap1)) 2 (.int .i64 ((len : Int) + 1))
   have hg1 : g1 ≠ sb := by
    rcases hob1 with h | ⟨g, h, h2⟩
    {intro e; subst e; exact HN.out h.symm}
    {cases h; intro e; simp at h2; omega}
   have hps := S6 HG.out.1 h0 h1 hm
   have hpl : (((Cq l n).length : Nat) : Int) = (len : Int) + 1 := by rw [Fb h0 h1 hm, HL.out]; omega
   have hch2 : Ch (fun k _ => k = sb) w1 ((w1.setCell ⟨sb, 0, none⟩ (.slice (some ⟨g1, 0, none⟩) (len + 1) cap1)).setCell ⟨sb, 2, none⟩ (.int .i64 ((len : Int) + 1))) :=
    ((Ch.refl _ _).setCell (fun _ _ => rfl) _).setCell (fun _ _ => rfl) _
   refine ⟨Bn (by simp [hm]; omega), some g1, ⟨HG.out.putS _, .inl ⟨.slice (some ⟨g1, 0, none⟩) (len + 1) cap1, ?_, ?_, rfl, fun h => hg1 (Option.some.inj h), ?_⟩⟩, ?_, ?_⟩
   {rw [hpl]; exact hst}
   {rw [hps]
    exact HOW.out.ch hch2 (fun g o h _ _ h2 => by cases h; exact hg1 h2)}
   {rw [Fb h0 h1 hm, HL.out]; simp at e5; omega}
   {refine ((((Ch.refl (So sb (Value.slice ao len cap).ownBlock) w0).drewN q).alloc _).trans' hch1 (fun k o ho h => .inr h)).trans' hch2 (fun k o ho h => .inl h)}
   {rcases hob1 with h | ⟨g, h, h2⟩
    {exact .inl h}
    {refine .inr ⟨g, h, ?_⟩
     have : ((w0.drewN q).alloc (.cells #[.int .i64 n] 3)).heap.size = w0.heap.size + 1 := by simp
     omega}}
theorem Rz {w : World} {sb : Nat} {l : List Int} {ob : Option Nat} (h : Br w sb l ob) (n : Int) :
 Calls Tryz.prog 112 #[.pointer (some ⟨sb, 0, none⟩), .int .i64 n] w (O8 w sb l ob n) := by
 by_cases hn : 0 ≤ n ∧ n ≤ 1048575
 {obtain ⟨hg, h | ⟨b, ws, rfl, hr, hh⟩⟩ := h
  {obtain ⟨lv, h1, h2, rfl, h4, h5⟩ := h
   exact S8 hg h1 h2 h4 h5 n hn.1 hn.2}
  {obtain ⟨m, rfl⟩ : ∃ m : Nat, n = (m : Int) := ⟨n.toNat, by omega⟩
   exact S7 hg hr hh m (by omega)}}
 {exact Wg h n hn}
def Gc (w : World) (pv : Value) (l : List Int) (sb ob : Option Nat) : Prop :=
 (pv = .pointer none ∧ l = [] ∧ sb = none ∧ ob = none) ∨ ∃ s, pv = .pointer (some ⟨s, 0, none⟩) ∧ sb = some s ∧ Br w s l ob
theorem Br.v {w : World} {s : Nat} {l : List Int} {ob : Option Nat} (h : Br w s l ob) : Gc w (.pointer (some ⟨s, 0, none⟩)) l (some s) ob := .inr ⟨s, rfl, rfl, h⟩
theorem Gc.nil (w : World) : Gc w (.pointer none) [] none none := .inl ⟨rfl, rfl, rfl, rfl⟩
theorem Gc.good {w : World} {pv : Value} {l : List Int} {sb ob : Option Nat} (h : Gc w pv l sb ob) : Eu l := by
 rcases h with ⟨_, rfl, _, _⟩ | ⟨s, _, _, h⟩
 {exact Gb}
 {exact h.1}
theorem Gc.ch {S : Nat → Obj → Prop} {w w' : World} {pv : Value} {l : List Int} {sb ob : Option Nat} (h : Gc w pv l sb ob) (hc : Ch S w w') (h1 : ∀ b o, sb = some b → ¬ S b o) (h2 : ∀ b o, ob = some b → ¬ S b o) : Gc w' pv l sb ob := by
 rcases h with h | ⟨s, hp, rfl, h⟩
 {exact .inl h}
 {exact .inr ⟨s, hp, rfl, h.ch hc (fun o => h1 s o rfl) h2⟩}
theorem Gc.no {w w' : World} {pv : Value} {l : List Int} {sb ob : Option Nat} (h : Gc w pv l sb ob) (hc : Ch No w w') : Gc w' pv l sb ob := h.ch hc (fun _ _ _ h => h) (fun _ _ _ h => h)
theorem Wh (x k : Nat) (hx : x < 18446744073709551616) : (bits .and .u64 ((x : Int) / 2 ^ k) 1 == 1) = x.testBit k := by
 have e : (x : Int) / 2 ^ k = ((x / 2 ^ k : Nat) : Int) := by simp
 rw [e]
 have h1 : x / 2 ^ k < 18446744073709551616 := Nat.lt_of_le_of_lt (Nat.div_le_self _ _) hx
 have := Dp (x / 2 ^ k) 1 h1 (by decide)
 rw [show ((1 : Nat) : Int) = 1 from rfl] at this
 rw [this, Nat.and_one_is_mod, Nat.testBit_eq_decide_div_mod_eq]
 by_cases h : x / 2 ^ k % 2 = 1
 {simp [h]}
 {have : x / 2 ^ k % 2 = 0 := by omega
  simp [this]}
theorem Afa {w : World} {pv : Value} {l : List Int} {sb ob : Option Nat} (h : Gc w pv l sb ob) (n : Int) :
 Calls Tryz.prog 161 #[pv, .int .i64 n] w fun e w' => e = .returned (.bool (decide (n ∈ l))) ∧ ∃ q, w' = w.drewN q := by
 rcases h with ⟨rfl, rfl, _, _⟩ | ⟨s, rfl, rfl, hs⟩
 {go_in
  go_wp2
  go_ret
  exact ⟨Bn (by simp), 0, rfl⟩}
 {by_cases hn : 0 ≤ n ∧ n ≤ 1048575
  {have e1 : decide (n < 0) = false := by rw [decide_eq_false_iff_not]; omega
   have e2 : decide (1048576 ≤ n) = false := by rw [decide_eq_false_iff_not]; omega
   obtain ⟨hg, h | ⟨b, ws, rfl, hr, hh⟩⟩ := hs
   {obtain ⟨lv, h1, h2, rfl, h4, h5⟩ := h
    have hmy := H8 h1
    have hbs := Abb h2.at_ hg.1 n (by omega)
    have c0 := Ab h1 0
    have hat := h2.at_
    obtain ⟨ao, cap, rfl, _⟩ := hat
    clear h1 h2 h4 h5 hg
    go_in
    go_wp2_with fail
    refine hmy.mono ?_
    rintro e w0 ⟨rfl, rfl⟩
    go_wp2_with fail
    refine hbs.mono ?_
    rintro e w' ⟨rfl, q, rfl⟩
    go_wp2
    go_ret
    exact ⟨rfl, q, rfl⟩}
   {obtain ⟨m, rfl⟩ : ∃ m : Nat, n = (m : Int) := ⟨n.toNat, by omega⟩
    have hmy := H9 hr
    have HI := Aa (hh.2.2.2 m)
    obtain ⟨hne, cap, h1, h2⟩ := hr
    have c1 := Ab h1 1
    obtain ⟨len, hlen⟩ := Ax ws.length
    rw [hlen] at c1 h2
    have hll : len ≤ 32768 := by rw [← hlen]; exact hh.2.1
    by_cases hlt : m / 64 < len
    {obtain ⟨x, hx⟩ : ∃ x, ws[m / 64]? = some x := ⟨_, List.getElem?_eq_getElem (by omega)⟩
     obtain ⟨_, h2 | ⟨g, cap', cur, hv, _, hob2, hcap2, hm2, hcs, hct⟩⟩ := h2
     {cases h2.1}
     cases hv
     rw [Nat.mul_one] at hct
     have hcx : cur[m / 64]? = some (.int .u64 x) := by
      have := S4 hx
      rw [← hct, List.getElem?_take, if_pos hlt] at this
      rw [← Array.getElem?_toList]; exact this
     have c3 : w.cell? ⟨b, m / 64, none⟩ = some (.int .u64 x) := (Ab hob2 _).trans hcx
     have e3 : decide ((m : Int) / 64 < (len : Int)) = true := by rw [decide_eq_true_eq]; omega
     have hb := Wh x (m % 64) (hh.2.2.1 x (mG hx))
     have HB := Aa ((O7 hx).trans hb.symm)
     clear hcx hct hob2 h1 hh hx
     go_in
     go_wp2_with fail
     refine hmy.mono ?_
     rintro e w0 ⟨rfl, rfl⟩
     go_wp2
     go_ret
     refine ⟨Bn ?_, 0, rfl⟩
     have e4 := HI.out
     rw [HB.out] at e4
     rw [← hb]
     cases hbb : (bits .and .u64 ((x : Int) / 2 ^ (m % 64)) 1 == 1) with
     | true => rw [hbb] at e4; simp [e4]
     | false => rw [hbb] at e4; simp [e4]}
    {have e3 : decide ((m : Int) / 64 < (len : Int)) = false := by rw [decide_eq_false_iff_not]; omega
     have hb : Fi ws m = false := by
      unfold Fi
      rw [List.getD_eq_getElem?_getD, List.getElem?_eq_none (by omega)]
      simp
     have HB := Aa hb
     clear h1 h2 hh hb
     go_in
     go_wp2_with fail
     refine hmy.mono ?_
     rintro e w0 ⟨rfl, rfl⟩
     go_wp2
     go_ret
     refine ⟨Bn ?_, 0, rfl⟩
     have e4 := HI.out
     rw [HB.out] at e4
     simp [e4]}}}
  {have fin : decide (n ∈ l) = false := by
    rw [decide_eq_false_iff_not]
    intro h
    have := hs.1.2 n h
    exact hn this
   rw [fin]
   clear hs fin
   cases e1 : decide (n < 0) with
   | true =>
    go_in
    go_wp2
    go_ret
    exact ⟨rfl, 0, rfl⟩
   | false =>
    have e2 : decide (1048576 ≤ n) = true := by simp at e1 ⊢; omega
    go_in
    go_wp2
    go_ret
    exact ⟨rfl, 0, rfl⟩}}
def wb (i x : Nat) : List Int := ((List.range 64).filter (x.testBit ·)).map (fun j => ((64 * i + j : Nat) : Int))
def rl (ws : List Nat) (k : Nat) : List Int := ((List.range (64 * k)).filter (Fi ws ·)).map (fun j => ((j : Nat) : Int))
theorem Wi (ws : List Nat) (k : Nat) : rl ws (k + 1) = rl ws k ++ wb k (ws.getD k 0) := by
 unfold rl wb
 rw [show 64 * (k + 1) = 64 * k + 64 by omega, List.range_add, List.filter_append, List.map_append, List.filter_map, List.map_map]
 congr 1
 have e : (List.range 64).filter ((Fi ws ·) ∘ (64 * k + ·)) = (List.range 64).filter ((ws.getD k 0).testBit ·) := by
  apply List.filter_congr
  intro j hj
  have hj' : j < 64 := by simpa using hj
  show Fi ws (64 * k + j) = _
  unfold Fi
  rw [show (64 * k + j) / 64 = k by omega, show (64 * k + j) % 64 = j by omega]
 rw [e]
 rfl
theorem R0 {l l' : List Nat} (h : l.Pairwise (· < ·)) (h' : l'.Pairwise (· < ·)) (hm : ∀ m, m ∈ l ↔ m ∈ l') : l = l' := by
 have hs : ∀ l : List Nat, l.Pairwise (· < ·) → (l.map (fun (n : Nat) => (n : Int))).Pairwise (· < ·) := fun l h => by
  rw [List.pairwise_map]; exact h.imp (fun h => by omega)
 have := D2 (hs l h) (hs l' h') (fun m => by
  constructor
  {intro hx
   obtain ⟨n, hn, rfl⟩ := List.mem_map.1 hx
   exact List.mem_map.2 ⟨n, (hm n).1 hn, rfl⟩}
  {intro hx
   obtain ⟨n, hn, rfl⟩ := List.mem_map.1 hx
   exact List.mem_map.2 ⟨n, (hm n).2 hn, rfl⟩})
 exact List.map_inj_right (fun a b h => by exact_mod_cast h) |>.1 this
theorem M9 (x : Nat) (h0 : x ≠ 0) (hx : x < 18446744073709551616) :
 (List.range 64).filter (x.testBit ·) = Go.Lib.ctz 64 x :: (List.range 64).filter ((x &&& (x - 1)).testBit ·) ∧ Go.Lib.ctz 64 x < 64 ∧ x &&& (x - 1) < x := by
 obtain ⟨m, hm, hk⟩ := Go.Lib.ctzFrom_spec 64 x (by omega) hx
 have e : Go.Lib.ctz 64 x = Go.Lib.ctzFrom 64 x := by simp [Go.Lib.ctz, h0]
 rw [e]
 generalize Go.Lib.ctzFrom 64 x = c at hm hk ⊢
 have hp : 0 < 2 ^ c := Nat.two_pow_pos c
 have h1 : x = 2 ^ c * (2 * m + 1) + 0 := by omega
 have h2 : x - 1 = 2 ^ c * (2 * m) + (2 ^ c - 1) := by
  rw [hm, Nat.mul_add, Nat.mul_one]; omega
 have t1 : ∀ j, x.testBit j = if j < c then false else (2 * m + 1).testBit (j - c) := fun j => by
  rw [h1, Nat.testBit_two_pow_mul_add _ hp]; simp
 have t2 : ∀ j, (x - 1).testBit j = if j < c then (2 ^ c - 1).testBit j else (2 * m).testBit (j - c) := fun j => by
  rw [h2, Nat.testBit_two_pow_mul_add _ (by omega)]
 have t3 : ∀ j, (x &&& (x - 1)).testBit j = (x.testBit j && j != c) := fun j => by
  rw [Nat.testBit_and, t1, t2]
  by_cases hj : j < c
  {simp [hj]}
  {simp only [if_neg hj]
   by_cases hjc : j = c
   {subst hjc; simp}
   {obtain ⟨d, hd⟩ : ∃ d, j - c = d + 1 := ⟨j - c - 1, by omega⟩
    rw [hd, Nat.testBit_succ, Nat.testBit_succ, show (2 * m + 1) / 2 = m by omega, show 2 * m / 2 = m by omega]
    simp [hjc]}}
 have tc : x.testBit c = true := by rw [t1]; simp
 have tlow : ∀ j, x.testBit j = true → c ≤ j := fun j hj => by
  rw [t1] at hj
  by_cases h : j < c
  {simp [h] at hj}
  {omega}
 refine ⟨?_, hk, ?_⟩
 {refine R0 (List.pairwise_lt_range.sublist List.filter_sublist) (List.pairwise_cons.2 ⟨fun j hj => ?_, List.pairwise_lt_range.sublist List.filter_sublist⟩) (fun j => ?_)
  {rw [List.mem_filter, t3] at hj
   have := hj.2
   simp only [Bool.and_eq_true, bne_iff_ne] at this
   have := tlow j this.1
   omega}
  {rw [List.mem_cons, List.mem_filter, List.mem_filter, t3]
   constructor
   {rintro ⟨a, b⟩
    by_cases hjc : j = c
    {exact .inl hjc}
    {exact .inr ⟨a, by simp [b, hjc]⟩}}
   {rintro (rfl | ⟨a, b⟩)
    {exact ⟨by simpa using hk, tc⟩}
    {simp only [Bool.and_eq_true] at b
     exact ⟨a, b.1⟩}}}}
 {have hle : x &&& (x - 1) ≤ x := Nat.and_le_left
  have hne : x &&& (x - 1) ≠ x := fun h => by
   have := t3 c
   rw [h, tc] at this
   simp at this
  omega}
theorem Wj (i : Nat) : wb i 0 = [] := by simp [wb]
theorem Y9 (i x : Nat) (h0 : x ≠ 0) (hx : x < 18446744073709551616) : wb i x = ((64 * i + Go.Lib.ctz 64 x : Nat) : Int) :: wb i (x &&& (x - 1)) := by
 unfold wb
 rw [(M9 x h0 hx).1]
 rfl
theorem Wk {ws : List Nat} {l : List Int} (hg : Eu l) (hh : Jr ws l) : rl ws ws.length = l := by
 refine D2 ?_ hg.1 (fun m => ?_)
 {unfold rl
  rw [List.pairwise_map]
  exact (List.pairwise_lt_range.sublist List.filter_sublist).imp (fun h => by omega)}
 {unfold rl
  constructor
  {intro h
   obtain ⟨n, hn, rfl⟩ := List.mem_map.1 h
   exact (hh.2.2.2 n).2 (List.mem_filter.1 hn).2}
  {intro h
   have h2 := hg.2 m h
   obtain ⟨n, rfl⟩ : ∃ n : Nat, m = (n : Int) := ⟨m.toNat, by omega⟩
   have hb := (hh.2.2.2 n).1 h
   refine List.mem_map.2 ⟨n, List.mem_filter.2 ⟨?_, hb⟩, rfl⟩
   rw [List.mem_range]
   apply Classical.byContradiction
   intro hn
   have : Fi ws n = false := by
    unfold Fi
    rw [List.getD_eq_getElem?_getD, List.getElem?_eq_none (by omega)]
    simp
   rw [this] at hb
   cases hb}}
theorem Za (i x : Nat) : (wb i x).length ≤ 64 := by
 unfold wb
 rw [List.length_map]
 have := List.length_filter_le (x.testBit ·) (List.range 64)
 simpa using this
theorem Zb (ws : List Nat) (k : Nat) : (rl ws k).length ≤ 64 * k := by
 unfold rl
 rw [List.length_map]
 have := List.length_filter_le (Fi ws ·) (List.range (64 * k))
 simpa using this
theorem S9 {w : World} {v : Value} {l : List Int} (h : A9 w v l) (hl : l.length ≤ 5000000) :
 Calls Tryz.prog 90 #[v] w fun e w' => ∃ u, e = .returned u ∧ Al w' w.heap.size u l ∧ Ch No w w' := by
 have h' := h
 obtain ⟨ao, cap, rfl, hcap, hmax, hnc, hcell⟩ := h
 have ht : Tryz.prog.underlying 59 = some (.slice 3) := by kernel_rfl
 have q22 : ∀ (w : World) (a : Option Addr) (n c n' c' : Nat), (binOp .eql 59 (.slice a n c) (.slice none n' c')).run Tryz.prog w = .ok (.bool a.isNone) w := fun w a n c n' c' => Go.Lib.run_eql_slice_nil w _ _ a n c n' c' ht
 clear ht
 cases ao with
 | none =>
  obtain rfl := hnc rfl
  obtain rfl := List.length_eq_zero_iff.1 (Nat.le_zero.1 hcap)
  clear h' hcell hnc
  go_in
  go_wp2
  go_ret
  exact ⟨_, rfl, Al.nil _ _, Ch.refl _ _⟩
 | some ad =>
  have ha := h'.alloc (.cells #[] 3)
  have hb : ([] : List Int).length + l.length ≤ 10000000 := by simp; omega
  have ho : Al (w.alloc (.cells #[] 3)) w.heap.size (.slice (some ⟨w.heap.size, 0, none⟩) 0 0) [] := World.ownsRow_made w #[] 0 (Nat.le_refl _) (Nat.zero_le _) rfl
  have hsz : w.heap.size ≤ (w.alloc (.cells #[] 3)).heap.size := ((Ch.refl No w).alloc _).size
  clear h' hcell hnc
  go_in
  go_wp2_with (at_builtin; go_must (refine Lc rfl _ _ rfl w.heap.size _ [] l rfl ho _ rfl ha hb hsz ?_))
  intro v1 w1 hown1 hgrow1
  go_wp2
  go_ret
  refine ⟨_, rfl, ?_, ((Ch.refl No w).alloc _).grown hgrow1 (fun k o h1 h2 => ?_)⟩
  {simpa using hown1}
  {have e : w.heap.size = k := Option.some.inj h1
   have := Ac h2
   omega}
def Ia (w : World) : Prop := TabAt 0 Go.Lib.deBruijn64tab w
theorem Ia.ch {S : Nat → Obj → Prop} {w w' : World} (h : Ia w) (hc : Ch S w w') (hS : ∀ o, ¬ S 0 o) : Ia w' :=
 fun j hj => Ae (h j hj) hc (fun o _ => hS o)
theorem Ia.no {w w' : World} (h : Ia w) (hc : Ch No w w') : Ia w' := h.ch hc (fun _ h => h)
theorem Ta (x : Nat) (h0 : x ≠ 0) (hx : x < 18446744073709551616) : bits .and .u64 (x : Int) ((x : Int) - 1) = ((x &&& (x - 1) : Nat) : Int) := by
 have := Dp x (x - 1) hx (by omega)
 rw [show (((x - 1 : Nat) : Int)) = (x : Int) - 1 by omega] at this
 exact this
theorem O9 {w : World} {sb b : Nat} {c : Int} {ws : List Nat} (hT : Ia w) (h : Dn w sb b c ws) (hl : ws.length ≤ 32768) (hws : ∀ x ∈ ws, x < 18446744073709551616) :
 Calls Tryz.prog 113 #[.pointer (some ⟨sb, 0, none⟩)] w fun e w' => ∃ u, e = .returned u ∧ Al w' w.heap.size u (rl ws ws.length) ∧ Ch No w w' := by
 have hmy := H9 h
 obtain ⟨hne, cap, h1, h2⟩ := h
 have c1 := Ab h1 1
 obtain ⟨len, hlen⟩ := Ax ws.length
 rw [hlen] at c1 h2 hl ⊢
 have hcells : ∀ (i : Nat) (x : Nat), ws[i]? = some x → w.cell? ⟨b, i, none⟩ = some (.int .u64 x) := by
  intro i x hx
  have hi := (gL hx)
  have := h2.cellAt i (by omega)
  rw [S4 hx] at this
  exact this
 have hm : len ≤ 9223372036854775807 := by omega
 have HL := Aa hlen
 have HC := Aa hcells
 have HWS := Aa hws
 have HT := Aa hT
 clear hlen h1 h2 hcells hws hT
 go_in
 go_wp2_with fail
 refine hmy.mono ?_
 rintro e w0 ⟨rfl, rfl⟩
 clear hmy
 go_wp2
 go_loopg [3, 21] len (fun g s3 s21 wr => ∃ (k : Nat), k ≤ len ∧ len - k ≤ g ∧ s21 = .int .i64 k ∧ Al wr w0.heap.size s3 (rl ws k) ∧ Ch No w0 wr)
 case atStart => exact ⟨0, Nat.zero_le _, by omega, rfl, Al.nil _ _, Ch.refl _ _⟩
 case round =>
  obtain ⟨k, hk, hg, rfl, hown, hch⟩ := hrel
  cases hd : decide (k < len) with
  | false =>
   go_wp2
   go_ret
   have hkl : ¬ k < len := by simpa using hd
   have hkk : k = len := by omega
   subst hkk
   exact ⟨_, rfl, hown, hch⟩
  | true =>
   have hkl : k < len := by simpa using hd
   obtain ⟨x, hx⟩ := gE (l := ws) (i := k) (by have := HL.out; omega)
   have hq := Ae (HC.out k x hx) hch (fun _ _ h => h)
   have hx64 := HWS.out x (mG hx)
   have hxd : ws.getD k 0 = x := by rw [List.getD_eq_getElem?_getD, hx]; rfl
   have HXD := Aa hxd
   clear hx hxd
   go_wp2
   go_loopg [3, 5] x (fun g s3 s5 wr => ∃ (y : Nat) (done : List Int), y ≤ g ∧ y < 18446744073709551616 ∧ s5 = .int .u64 y ∧ Al wr w0.heap.size s3 (rl ws k ++ done) ∧ Ch No w0 wr ∧ Hid (wb k x = done ++ wb k y))
   case atStart => exact ⟨x, [], Nat.le_refl _, hx64, rfl, by simpa using hown, hch, Aa (by simp)⟩
   case round =>
    clear hown hch hq hx64
    obtain ⟨y, done, hyg, hy64, rfl, hown2, hch2, HD⟩ := hrel
    cases e0 : ((y : Int) != 0) with
    | false =>
     go_wp2
     go_roundg (len - k - 1)
     case rel =>
      have hy0 : y = 0 := by simp at e0; omega
      refine ⟨k + 1, by omega, by omega, by go_num, ?_, hch2⟩
      rw [Wi, HXD.out, HD.out, hy0, Wj, List.append_nil]
      exact hown2
     case measure => omega
    | true =>
     have hy0 : y ≠ 0 := by rintro rfl; simp at e0
     have htz := Ae9 y hy64 wr (HT.out.no hch2)
     obtain ⟨z, hz⟩ := Ax (Go.Lib.ctz 64 y)
     have hlow := M9 y hy0 hy64
     have hw := Y9 k y hy0 hy64
     have hap := Ta y hy0 hy64
     rw [hz] at htz hlow hw
     have hz64 : z < 64 := hlow.2.1
     have hlt := hlow.2.2
     have HW := Aa hw
     have hdl : (rl ws k ++ done).length ≤ 5000000 := by
      have h1 := Zb ws k
      have h2 := congrArg List.length HD.out
      have h3 := Za k x
      rw [List.length_append] at h2
      rw [List.length_append]
      omega
     have hb1 : (rl ws k ++ done).length + [(k : Int) * 64 + (z : Int)].length ≤ 10000000 := by simp only [List.length_singleton]; omega
     clear hlow hw hz
     go_wp2_with fail
     refine htz.mono ?_
     rintro e w2 ⟨rfl, rfl⟩
     go_wp2_with (at_builtin; go_must (refine Lc rfl _ _ rfl w0.heap.size _ _ [(k : Int) * 64 + (z : Int)] rfl (hown2.alloc _) (.slice (some ⟨w2.heap.size, 0, none⟩) 1 1) rfl (Ga w2 _) hb1 (hch2.alloc _).size ?_))
     intro v1 w1 hown1 hgrow1
     go_wp2
     go_roundg (y &&& (y - 1))
     case rel =>
      refine ⟨y &&& (y - 1), done ++ [(k : Int) * 64 + (z : Int)], Nat.le_refl _, by omega, ?_, ?_, ?_, Aa ?_⟩
      {rfl}
      {simpa using hown1}
      {exact (hch2.alloc _).grown hgrow1 (fun k o hk ho => by
        have := hown2.lt k hk
        have := Ac ho
        omega)}
      {rw [HD.out, HW.out]
       have e : ((64 * k + z : Nat) : Int) = (k : Int) * 64 + (z : Int) := by omega
       rw [e]; simp}
     case measure => omega
theorem X6 {w : World} {pv : Value} {l : List Int} {sb ob : Option Nat} (hT : Ia w) (h : Gc w pv l sb ob) :
 Calls Tryz.prog 113 #[pv] w fun e w' => ∃ u, e = .returned u ∧ Al w' w.heap.size u l ∧ Ch No w w' := by
 rcases h with ⟨rfl, rfl, _, _⟩ | ⟨s, rfl, rfl, hg, h | ⟨b, ws, rfl, hr, hh⟩⟩
 {clear hT
  go_in
  go_wp2
  go_ret
  exact ⟨_, rfl, Al.nil _ _, Ch.refl _ _⟩}
 {obtain ⟨lv, h1, h2, rfl, h4, h5⟩ := h
  have hmy := H8 h1
  have c0 := Ab h1 0
  have hcl := S9 h2.at_ (by omega)
  have hat := h2.at_
  obtain ⟨ao, cap, rfl, _⟩ := hat
  clear h1 h2 h4 h5 hg hT
  go_in
  go_wp2_with fail
  refine hmy.mono ?_
  rintro e w0 ⟨rfl, rfl⟩
  go_wp2_with fail
  refine hcl.mono ?_
  rintro e w1 ⟨u, rfl, hu, hch⟩
  go_wp2
  go_ret
  exact ⟨_, rfl, hu, hch⟩}
 {have := O9 hT hr hh.2.1 hh.2.2.1
  rw [Wk hg hh] at this
  exact this}
theorem Tryz.infoInt0 : (Tryz.prog.info? 3).map (fun i => (i.zero, i.size, i.bytes)) = some (some (.int .i64 0), 1, 8) := by kernel_rfl
theorem Hg (w : World) (base : Nat) (v : Value) (xs : List Int) (hown : Al w base v xs) (u : Value) (l : List Int) (hu : A9 w u l) (h0 : 0 < l.length) (hb : xs.length + l.length ≤ 10000000)
 (hbase : base ≤ w.heap.size) (ty : TypeId) :
 ∃ v' w', (Builtin.append_ #[59, 59] ty #[v, u]).run Tryz.prog w = .ok v' w' ∧ Al w' base v' (xs ++ l) ∧ w.grownBy w' v.ownBlock ∧ (v'.ownBlock = v.ownBlock ∨ v'.ownBlock = some w.heap.size) := by
 obtain ⟨i, hi, hz, hs, hby⟩ := info_parts Tryz.infoInt0
 have ht : Tryz.prog.underlying 59 = some (.slice 3) := by kernel_rfl
 have hm : maxLen = 9223372036854775807 := rfl
 obtain ⟨ao, c, rfl, h1, h2, h3, h4⟩ := hu
 obtain ⟨b, off, rfl, h5⟩ := h4 h0
 have hlm : (l.map (Value.int .i64)).length = l.length := by simp
 have hsrc : Src Tryz.prog i.size 59 (.slice (some ⟨b, off, none⟩) l.length c) l.length (l.map (Value.int .i64)) w := by
  rw [hs]
  exact Src.ofSlice w ht ⟨b, off, none⟩ l.length c _ (by simp) (fun j u hj => by
   rw [List.getElem?_map, Option.map_eq_some_iff] at hj
   obtain ⟨y, hy, rfl⟩ := hj
   rw [Addr.add_lit]
   exact h5 j y hy) (Ji l)
 have hxl : (xs.map (Value.int .i64) ++ l.map (Value.int .i64)).length = xs.length + l.length := by simp
 have grow : ∀ (base' : Option Addr) (cap : Nat), cap < xs.length + l.length → (Builtin.firstCells i.size xs.length (.slice base' xs.length cap)).run Tryz.prog w.drew = .ok (xs.map (Value.int .i64)).toArray w.drew → xs.length ≤ cap →
  ∃ v' w', (Builtin.append_ #[59, 59] ty #[.slice base' xs.length cap, .slice (some ⟨b, off, none⟩) l.length c]).run Tryz.prog w = .ok v' w' ∧ Al w' base v' (xs ++ l) ∧ w.grownBy w' (Value.slice base' xs.length cap).ownBlock ∧
   (v'.ownBlock = (Value.slice base' xs.length cap).ownBlock ∨ v'.ownBlock = some w.heap.size) := by
  intro base' cap hc hold hnc
  have hr := run_append_grow_src w 59 59 ty 3 i _ ht hi hz base' xs.length cap _ hold _ l.length _ hsrc hc (by omega) (by rw [hby]; exact growslice_fits (by omega) (by omega))
  have hG1 := grownCap_ge w (xs.length + l.length) cap 3
  have hG2 := grownCap_le_maxLen w (xs.length + l.length) cap 3 (by omega)
  generalize grownCap w (xs.length + l.length) cap 3 = G at hr hG1 hG2
  have e1 : (Value.int .i64 0).cells.size = 1 := rfl
  refine ⟨_, _, hr, ⟨by simp, .inr ⟨w.heap.size, G, _, by rw [List.length_append], hbase, heap_alloc_new w.drew _, by rw [List.length_append]; exact hG1, hG2, ?_, ?_⟩⟩, ⟨rfl, rfl, rfl, by simp, fun k hk _ => Eg w.drew _ k hk⟩, .inr rfl⟩
  {rw [Array.size_append, size_zeroCells, e1]
   simp
   omega}
  {rw [List.length_append, Nat.mul_one, Array.toList_append, List.map_append]
   show List.take _ ((xs.map (Value.int .i64) ++ l.map (Value.int .i64)) ++ _) = _
   rw [← hxl, List.take_left]}
 rcases hown.2 with ⟨rfl, hl0⟩ | ⟨g, cap, cur, rfl, hg, hh, hcap, hmax, hcs, hct⟩
 {obtain rfl := List.length_eq_zero_iff.1 hl0
  exact grow none 0 (by simpa using h0) (run_firstCells_none w.drew i.size 0 0 0) (Nat.le_refl _)}
 {rw [Nat.mul_one] at hcs hct
  by_cases hroom : xs.length + l.length ≤ cap
  {have hr := run_append_room_src w 59 59 ty 3 i ht hi g 0 xs.length cap _ l.length _ hsrc hroom
    (fun j hj => by rw [hs, Ab hh, Array.getElem?_eq_getElem (by rw [hlm] at hj; omega)]; rfl) (fun j hj => Ad hh _)
   rw [hs, Nat.mul_one, Nat.zero_add] at hr
   obtain ⟨cur', k1, k2, k3⟩ := B7 (l.map (Value.int .i64)) xs.length w cur hh (by rw [hlm]; omega)
   refine ⟨_, _, hr, ⟨by simp, .inr ⟨g, cap, cur', by rw [List.length_append], hg, k1, by rw [List.length_append]; exact hroom, hmax, by omega, ?_⟩⟩, ⟨?_, ?_, ?_, ?_, ?_⟩, .inl rfl⟩
   {rw [List.length_append, Nat.mul_one, k3, hct, List.map_append, ← hxl, List.take_left]}
   {exact (Bq _ _ _).os}
   {exact (Bq _ _ _).tape}
   {exact (Bq _ _ _).output}
   {exact (Bq (b := g) _ _ _).size}
   {intro k hk hne
    have ho : w.heap[k]? = some w.heap[k] := Array.getElem?_eq_getElem hk
    rw [ho]
    exact (Bq (b := g) _ _ _).keep k _ ho (fun e => hne (by rw [e]; rfl))}}
  {refine grow (some ⟨g, 0, none⟩) cap (by omega) ?_ hcap
   rw [hs]
   exact run_firstCells_some w.drew 1 xs.length ⟨g, 0, none⟩ xs.length cap _ (by simp) (fun j v hj => by
    have hj' := (gL hj)
    rw [List.length_map] at hj'
    rw [Addr.add_lit]
    show w.cell? _ = _
    rw [Ab hh, Nat.zero_add, ← Array.getElem?_toList]
    rw [← hct, List.getElem?_take, if_pos hj'] at hj
    exact hj)}}
theorem Js {w : World} {ops : Array Oper} {rest : List Oper} {o : Oper} {a : Act} {Q : Exit → Act → World → Prop} (hgd : o.guard = none) (s x : Operand)
 (ho : o.op = .call { callee := .builtin .append, args := #[s, x], argTypes := #[59, 59] })
 (base : Nat) (v : Value) (xs l : List Int) (hs : a.eval s = v) (hown : Al w base v xs) (u : Value) (hx : a.eval x = u) (hu : A9 w u l) (h0 : 0 < l.length)
 (hb : xs.length + l.length ≤ 10000000) (hbase : base ≤ w.heap.size)
 (h : ∀ v' w', Al w' base v' (xs ++ l) → w.grownBy w' v.ownBlock → (v'.ownBlock = v.ownBlock ∨ v'.ownBlock = some w.heap.size) → wpList Tryz.prog ops Q rest (a.put o.dst v') w') : wpList Tryz.prog ops Q (o :: rest) a w := by
 obtain ⟨v', w', hr, h1, h2, h3⟩ := Hg w base v xs hown u l hu h0 hb hbase o.type
 exact Go.Lib.wpList_append_run w hgd s x _ _ ho _ _ hs hx _ _ hr (h v' w' h1 h2 h3)
def Lz (B : Nat) (w : World) (pv : Value) (l : List Int) : Prop :=
 ∃ sb ob, pv = .pointer (some ⟨sb, 0, none⟩) ∧ Br w sb l ob ∧ B ≤ sb ∧ ∀ b, ob = some b → B ≤ b
theorem Tc (w : World) : Br (w.alloc (.cells #[.slice none 0 0, .slice none 0 0, .int .i64 0] 182)) w.heap.size [] none :=
 ⟨Gb, .inl ⟨.slice none 0 0, heap_alloc_new w _, Al.nil _ _, rfl, (fun h => by cases h), by simp⟩⟩
theorem sof {w : World} {v : Value} {ns : List Int} (h : A9 w v ns) :
 Calls Tryz.prog 76 #[v] w fun e w' => ∃ u, e = .returned u ∧ Lz w.heap.size w' u (ns.foldl Cq []) ∧ Ch No w w' := by
 obtain ⟨ao, cap, rfl, hcap, hmax, hnc, hcell⟩ := h
 obtain ⟨len, hlen⟩ := Ax ns.length
 rw [hlen] at hcap hcell ⊢
 unfold maxLen at hmax
 have HL := Aa hlen
 have HZ := Aa (Tc w)
 have HCZ := Aa ((Ch.refl No w).alloc (.cells #[.slice none 0 0, .slice none 0 0, .int .i64 0] 182))
 clear hlen hnc
 go_in
 go_wp2
 go_loopg [10] len (fun g s10 wr => ∃ (k : Nat) (ob : Option Nat), k ≤ len ∧ len - k ≤ g ∧ s10 = .int .i64 k ∧ Br wr w.heap.size ((ns.take k).foldl Cq []) ob ∧ Ch No w wr ∧ (∀ b, ob = some b → w.heap.size ≤ b))
 case atStart => exact ⟨0, none, Nat.zero_le _, by omega, rfl, HZ.out, HCZ.out, fun _ h => by cases h⟩
 case round =>
  obtain ⟨k, ob, hk, hg, rfl, hset, hch, hob⟩ := hrel
  cases hd : decide (k < len) with
  | false =>
   go_wp2
   go_ret
   have hkl : ¬ k < len := by simpa using hd
   rw [List.take_of_length_le (by have := HL.out; omega)] at hset
   exact ⟨_, rfl, ⟨_, ob, rfl, hset, Nat.le_refl _, hob⟩, hch⟩
  | true =>
   have hkl : k < len := by simpa using hd
   obtain ⟨b, off, rfl, hc⟩ := hcell (by omega)
   obtain ⟨x, hx⟩ := gE (l := ns) (i := k) (by have := HL.out; omega)
   have hq := Ae (hc k x hx) hch (fun _ _ h => h)
   have HX := Aa hx
   have hcall := Rz hset x
   clear hc hcell hx hset
   go_wp2_with fail
   refine hcall.mono ?_
   rintro e w' ⟨rfl, ob', hset', hch', hob'⟩
   go_wp2
   go_roundg (len - k - 1)
   case rel =>
    refine ⟨k + 1, ob', by omega, by omega, by go_num, ?_, hch.trans' hch' (fun j o ho h => ?_), fun b hb => ?_⟩
    {rw [List.take_add_one, HX.out, List.foldl_append]
     exact hset'}
    {have := Ac ho
     rcases h with h | h
     {omega}
     {have := hob j h; omega}}
    {rcases hob' with h | ⟨g, h, h2⟩
     {exact hob b (h ▸ hb)}
     {rw [h] at hb; cases hb
      have := hch.size; omega}}
   case measure => omega
theorem Na {w w' : World} {o : Obj} {row : Option Nat} (hg : (w.alloc o).grownBy w' row) : Ch (fun j _ => row = some j) w w' := ((Ch.refl _ w).alloc o).grown hg (fun _ _ h _ => h)
def Jt (l l' : List Int) : List Int := l'.filter (fun x => !decide (x ∈ l))
theorem Hh {l l' : List Int} {m : Int} : m ∈ l'.foldl Cq l ↔ m ∈ l ∨ (m ∈ l' ∧ 0 ≤ m ∧ m ≤ 1048575) := by
 induction l' generalizing l with
 | nil => simp
 | cons x r ih =>
  simp only [List.foldl_cons]
  rw [ih, Fa, List.mem_cons]
  constructor
  {rintro ((h | ⟨rfl, h⟩) | ⟨h, h2⟩)
   {exact .inl h}
   {exact .inr ⟨.inl rfl, h⟩}
   {exact .inr ⟨.inr h, h2⟩}}
  {rintro (h | ⟨rfl | h, h2⟩)
   {exact .inl (.inl h)}
   {exact .inl (.inr ⟨rfl, h2⟩)}
   {exact .inr ⟨h, h2⟩}}
theorem Eu.fold {l : List Int} (h : Eu l) (l' : List Int) : Eu (l'.foldl Go.Proofs.YtgjpgfedlgdjhaaGreatDoor.Cq l) := by
 induction l' generalizing l with
 | nil => exact h
 | cons x r ih => exact ih (h.putS x)
theorem Pa {l : List Int} (h : Eu l) {k : Nat} {x : Int} (hx : l[k]? = some x) : x ∉ l.take k := by
 intro hm
 have hp := h.1
 rw [← List.take_append_drop k l] at hp
 have h3 := (List.pairwise_append.1 hp).2.2 x hm x (by
  rw [← Nat.add_zero k, ← List.getElem?_drop] at hx
  exact mG hx)
 omega
theorem Td {w : World} {sb : Nat} {l : List Int} {ob : Option Nat} {tv : Value} {l' : List Int} {tsb tob : Option Nat} (hT : Ia w) (h : Br w sb l ob) (h' : Gc w tv l' tsb tob) :
 Calls Tryz.prog 111 #[.pointer (some ⟨sb, 0, none⟩), tv] w fun e w' => ∃ u ob', e = .returned u ∧ Al w' w.heap.size u (Jt l l') ∧ Br w' sb (l'.foldl Cq l) ob' ∧
  Ch (So sb ob) w w' ∧ (ob' = ob ∨ ∃ g, ob' = some g ∧ w.heap.size ≤ g) := by
 have hli := X6 hT h'
 have hg' := h'.good
 have hlt := h.lt
 have hl2 := hg'.len
 clear h' hT
 go_in
 go_wp2_with fail
 refine hli.mono ?_
 rintro e w0 ⟨u0, rfl, hu0, hch0⟩
 have hlt0 := fun k => hu0.lt k
 have hat := hu0.at_
 obtain ⟨ao, cap, rfl, hcap, hmax, hnc, hcell⟩ := hat
 obtain ⟨len, hlen⟩ := Ax (l'.length)
 rw [hlen] at hcap hcell hlt0 hl2 ⊢
 unfold maxLen at hmax
 have HL := Aa hlen
 have HG := Aa hg'
 have hs0 := h.no hch0
 have hsz0 := hch0.size
 clear hlen hnc hli h hg' hu0
 go_wp2
 go_loopg [5, 13] len (fun g s5 s13 wr => ∃ (k : Nat) (ob' : Option Nat), k ≤ len ∧ len - k ≤ g ∧ s13 = .int .i64 k ∧ Al wr w0.heap.size s5 (Jt l (l'.take k)) ∧ Br wr sb ((l'.take k).foldl Cq l) ob' ∧
  Ch (So sb ob) w0 wr ∧ (ob' = ob ∨ ∃ g, ob' = some g ∧ w0.heap.size ≤ g) ∧ (∀ g, s5.ownBlock = some g → ob' ≠ some g))
 case atStart => exact ⟨0, ob, Nat.zero_le _, by omega, rfl, Al.nil _ _, hs0, Ch.refl _ _, .inl rfl, fun _ h => by cases h⟩
 case round =>
  obtain ⟨k, ob', hk, hg, rfl, hown, hset, hch, hob, hdis⟩ := hrel
  cases hd : decide (k < len) with
  | false =>
   go_wp2
   go_ret
   have hkl : ¬ k < len := by simpa using hd
   rw [List.take_of_length_le (by have := HL.out; omega)] at hset hown
   refine ⟨_, ob', rfl, hown.base hsz0, hset, (hch0.mono (fun _ _ _ h => False.elim h)).trans hch, ?_⟩
   rcases hob with h | ⟨g, h, h2⟩
   {exact .inl h}
   {exact .inr ⟨g, h, by omega⟩}
  | true =>
   have hkl : k < len := by simpa using hd
   obtain ⟨b, off, rfl, hc⟩ := hcell (by omega)
   obtain ⟨x, hx⟩ : ∃ x, l'[k]? = some x := ⟨_, List.getElem?_eq_getElem (by have := HL.out; omega)⟩
   have hb0 := hlt0 b rfl
   have hq := Ae (hc k x hx) hch (fun o _ h => by
    rcases h with h | h
    {have : b = sb := h
     omega}
    {have := hlt.2 _ h
     have : b < w.heap.size := this
     omega})
   have HX := Aa hx
   have hxr := HG.out.2 x (mG hx)
   have hcall := Rz hset x
   have hnb := Pa HG.out hx
   have hmx : x ∈ (l'.take k).foldl Cq l ↔ x ∈ l := by
    rw [Hh]
    exact ⟨fun h => h.elim id (fun h => absurd h.1 hnb), .inl⟩
   have hdec : decide (0 ≤ x ∧ x ≤ 1048575 ∧ x ∉ (l'.take k).foldl Cq l) = !decide (x ∈ l) := by
    cases hxl : decide (x ∈ l) with
    | true => have : x ∈ l := by simpa using hxl
              simp [hmx.2 this]
    | false => have : x ∉ l := by simpa using hxl
               have h2 : x ∉ (l'.take k).foldl Cq l := fun h => this (hmx.1 h)
               simp [h2, hxr.1, hxr.2]
   unfold O8 at hcall
   rw [hdec] at hcall
   have HM := Aa hmx
   have hfl : (Jt l (l'.take k)).length ≤ 1048576 := Nat.le_trans (List.length_filter_le _ _) (by rw [List.length_take]; omega)
   have hb1 : (Jt l (l'.take k)).length + [x].length ≤ 10000000 := by simp only [List.length_singleton]; omega
   have hsetlt := hset.lt
   clear hc hcell hx hset hdec hmx hnb
   go_wp2_with fail
   refine hcall.mono ?_
   rintro e w1 ⟨rfl, ob1, hset1, hch1, hob1⟩
   have hown1 := hown.ch hch1 (fun g o h1 h2 _ h => by
    rcases h with h | h
    {omega}
    {exact hdis g h1 h})
   have hlt5 := fun j h => hown1.lt j h
   have hlt6 := fun j h => hown.lt j h
   have hch2 : Ch (So sb ob) w0 w1 := hch.trans' hch1 (fun j o ho h => by
    rcases h with h | h
    {exact .inl h}
    {rcases hob with h2 | ⟨g, h2, h3⟩
     {exact .inr (h2 ▸ h)}
     {rw [h2] at h; cases h
      have := Ac ho; omega}})
   have hob2 : ob1 = ob ∨ ∃ g, ob1 = some g ∧ w0.heap.size ≤ g := by
    rcases hob1 with h | ⟨g, h, h2⟩
    {rw [h]; exact hob}
    {have := hch.size
     exact .inr ⟨g, h, by omega⟩}
   have htk : l'.take (k + 1) = l'.take k ++ [x] := by rw [List.take_add_one, HX.out]; rfl
   have hset2 : Br w1 sb ((l'.take (k + 1)).foldl Cq l) ob1 := by
    rw [htk, List.foldl_append]; exact hset1
   have hfr : Jt l (l'.take (k + 1)) = Jt l (l'.take k) ++ (if decide (x ∈ l) = true then [] else [x]) := by
    unfold Jt
    rw [htk, List.filter_append]
    congr 1
    cases h : decide (x ∈ l) <;> simp [h]
   have dis1 := fun g (h : _ = some g) (e : ob1 = some g) => show False from by
    rcases hob1 with h2 | ⟨g2, h2, h3⟩
    {exact hdis g h (h2.symm.trans e)}
    {have := hlt6 g h
     rw [h2] at e; cases e
     omega}
   cases hxl : decide (x ∈ l) with
   | true =>
    rw [hxl] at hfr
    go_wp2
    go_roundg (len - k - 1)
    case rel =>
     refine ⟨k + 1, ob1, by omega, by omega, by go_num, ?_, hset2, hch2, hob2, dis1⟩
     rw [hfr]; simpa using hown1
    case measure => omega
   | false =>
    rw [hxl] at hfr
    have hsz1 : w0.heap.size ≤ w1.heap.size := hch2.size
    have hch3 := (Ch.refl No w1).alloc (.cells #[.int .i64 x] 3)
    go_wp2_with (at_builtin; go_must (refine Js rfl _ _ rfl w0.heap.size _ _ [x] rfl (hown1.alloc _) (.slice (some ⟨w1.heap.size, 0, none⟩) 1 1) rfl (Ga w1 x) Nat.zero_lt_one hb1 (Nat.le_trans hsz1 hch3.size) ?_))
    intro v2 w2 hown2 hgrow2 hblk2
    go_wp2
    go_roundg (len - k - 1)
    case rel =>
     have hsetlt1 := hset1.lt
     have hgc := Na hgrow2
     refine ⟨k + 1, ob1, by omega, by omega, by go_num, ?_, ?_, ?_, hob2, fun g h e => ?_⟩
     {rw [hfr]; simpa using hown2}
     {exact hset2.ch hgc (fun o h => by have := (hlt5 _ h).1; omega) (fun b o h1 h2 => dis1 b h2 h1)}
     {exact hch2.trans' hgc (fun j o ho h => by have := (hlt5 _ h).1; have := Ac ho; omega)}
     {rcases hblk2 with h2 | h2
      {exact dis1 g (h2.symm.trans h) e}
      {rw [h2] at h; cases h
       have := hsetlt1.2 _ e
       have := hch3.size
       omega}}
    case measure => omega
theorem R1 {l : List Int} (h : Eu l) : l.foldl Cq [] = l :=
 D2 (Gb.fold l).1 h.1 (fun m => by
  rw [Hh]
  exact ⟨fun h2 => h2.elim (fun h => by cases h) (fun h => h.1), fun h2 => .inr ⟨h2, h.2 m h2⟩⟩)
theorem Lz.openIt {B : Nat} {w : World} {pv : Value} {l : List Int} (h : Lz B w pv l) :
 ∃ sb ob, pv = .pointer (some ⟨sb, 0, none⟩) ∧ Br w sb l ob ∧ (B ≤ sb ∧ sb < w.heap.size) ∧ ∀ b, ob = some b → B ≤ b ∧ b < w.heap.size := by
 obtain ⟨sb, ob, h0, h, h1, h2⟩ := h
 exact ⟨sb, ob, h0, h, ⟨h1, h.lt.1⟩, fun b hb => ⟨h2 b hb, h.lt.2 b hb⟩⟩
theorem Abc {w : World} {pv : Value} {l : List Int} {sb ob : Option Nat} (h : Gc w pv l sb ob) (n : Int) :
 Calls Tryz.prog 161 #[pv, .int .i64 n] w fun e w' => e = .returned (.bool (decide (n ∈ l))) ∧ Ch No w w' :=
 (Afa h n).mono fun e w' ⟨he, q, hw⟩ => ⟨he, by rw [hw]; exact (Ch.refl _ _).drewN q⟩
theorem Qc (bs : ByteArray) : ∀ (n i : Nat) (r : List UInt8), i + n = bs.size → ByteArray.toList.loop bs i r = r.reverse ++ bs.data.toList.drop i
 | 0, i, r, h => by
  unfold ByteArray.toList.loop
  rw [if_neg (by omega)]
  have : bs.data.toList.drop i = [] := List.drop_of_length_le (by show bs.data.size ≤ i; have : bs.size = bs.data.size := rfl; omega)
  rw [this]; simp
 | n + 1, i, r, h => by
  unfold ByteArray.toList.loop
  rw [if_pos (by omega), Qc bs n (i + 1) _ (by omega)]
  have hi : i < bs.data.size := by have : bs.size = bs.data.size := rfl; omega
  have e : bs.get! i = bs.data[i] := by
   show bs.data[i]! = _
   rw [getElem!_pos bs.data i hi]
  rw [e, List.reverse_cons, List.append_assoc, List.singleton_append]
  congr 1
  rw [List.drop_eq_getElem_cons (i := i) (by simpa using hi), Array.getElem_toList]
theorem Gp (bs : ByteArray) : bs.toList = bs.data.toList := by
 unfold ByteArray.toList
 rw [Qc bs bs.size 0 [] (by omega)]
 simp
theorem Hi (a b : ByteArray) : (a.toList == b.toList) = decide (a = b) := by
 rw [Gp, Gp]
 by_cases h : a = b
 {subst h; simp}
 {have : a.data.toList ≠ b.data.toList := fun e => h (by cases a; cases b; simp_all [Array.ext_iff])
  rw [decide_eq_false h]
  simpa using this}
def Ah (w : World) (v : Value) (l : List ByteArray) : Prop :=
 ∃ ao cap, v = .slice ao l.length cap ∧ l.length ≤ cap ∧ cap ≤ maxLen ∧
  (0 < l.length → ∃ b off, ao = some ⟨b, off, none⟩ ∧ ∀ (i : Nat) (x : ByteArray), l[i]? = some x → w.cell? ⟨b, off + i, none⟩ = some (.string x))
theorem Ah.no {w w' : World} {v : Value} {l : List ByteArray} (h : Ah w v l) (hc : Ch No w w') : Ah w' v l := by
 obtain ⟨ao, cap, rfl, h2, h3, h4⟩ := h
 refine ⟨ao, cap, rfl, h2, h3, fun h0 => ?_⟩
 obtain ⟨b, off, rfl, h5⟩ := h4 h0
 exact ⟨b, off, rfl, fun i x hx => Ae (h5 i x hx) hc (fun _ _ h => h)⟩
structure Aj where
 name : ByteArray
 sup : ByteArray
 face : Bool
 faces : List ByteArray
 fa : Option Addr
 fc : Nat
 s4 : Option Addr × Nat × Nat
 s5 : Option Addr × Nat × Nat
 s6 : Option Addr × Nat × Nat
 p7 : Option Addr
 line : Int
 col : Int
def Aj.cells (c : Aj) : List Value := [.string c.name, .string c.sup, .bool c.face, .slice c.fa c.faces.length c.fc, .slice c.s4.1 c.s4.2.1 c.s4.2.2, .slice c.s5.1 c.s5.2.1 c.s5.2.2, .slice c.s6.1 c.s6.2.1 c.s6.2.2, .pointer c.p7, .int .i64 c.line, .int .i64 c.col]
structure Ek (w : World) (cv : Value) (cs : List Aj) : Prop where
 row : B5 w cv 10 (cs.map Aj.cells)
 faces : ∀ c ∈ cs, Ah w (.slice c.fa c.faces.length c.fc) c.faces
theorem Ek.no {w w' : World} {cv : Value} {cs : List Aj} (h : Ek w cv cs) (hc : Ch No w w') : Ek w' cv cs := ⟨h.row.no hc, fun c hm => (h.faces c hm).no hc⟩
def Cz (w : World) (pv : Value) (cs : List Aj) : Prop :=
 ∃ cv m0 m1 m2 m3 m4 m5 m6 m7 m8, pv = .agg #[cv, m0, m1, m2, m3, m4, m5, m6, m7, m8] ∧ Ek w cv cs
theorem Cz.no {w w' : World} {pv : Value} {cs : List Aj} (h : Cz w pv cs) (hc : Ch No w w') : Cz w' pv cs := by
 obtain ⟨cv, m0, m1, m2, m3, m4, m5, m6, m7, m8, rfl, h⟩ := h
 exact ⟨cv, m0, m1, m2, m3, m4, m5, m6, m7, m8, rfl, h.no hc⟩
def As (cs : List Aj) (nm : ByteArray) : Option Nat := cs.findIdx? (fun c => decide (c.name = nm))
def Cs (cs : List Aj) (nm : ByteArray) : Int := match As cs nm with | some i => (i : Int) | none => -1
structure Te (w : World) (b a : Nat) (c : Aj) : Prop where
 q0 : w.cell? ⟨b, a, none⟩ = some (.string c.name)
 q1 : w.cell? ⟨b, a + 1, none⟩ = some (.string c.sup)
 q2 : w.cell? ⟨b, a + 2, none⟩ = some (.bool c.face)
 q3 : w.cell? ⟨b, a + 3, none⟩ = some (.slice c.fa c.faces.length c.fc)
 q4 : w.cell? ⟨b, a + 4, none⟩ = some (.slice c.s4.1 c.s4.2.1 c.s4.2.2)
 q5 : w.cell? ⟨b, a + 5, none⟩ = some (.slice c.s5.1 c.s5.2.1 c.s5.2.2)
 q6 : w.cell? ⟨b, a + 6, none⟩ = some (.slice c.s6.1 c.s6.2.1 c.s6.2.2)
 q7 : w.cell? ⟨b, a + 7, none⟩ = some (.pointer c.p7)
 q8 : w.cell? ⟨b, a + 8, none⟩ = some (.int .i64 c.line)
 q9 : w.cell? ⟨b, a + 9, none⟩ = some (.int .i64 c.col)
theorem Ek.cell {w : World} {cv : Value} {cs : List Aj} (h : Ek w cv cs) {k : Nat} {c : Aj} (hk : cs[k]? = some c) :
 ∃ b off cap, cv = .slice (some ⟨b, off, none⟩) cs.length cap ∧ Te w b (off + k * 10) c ∧ cs.length ≤ cap ∧ cap ≤ maxLen := by
 obtain ⟨ao, cap, e, h1, h2, h3, h4⟩ := h.row
 have hl : k < cs.length := (gL hk)
 obtain ⟨b, off, rfl, h5⟩ := h4 (by rw [List.length_map]; omega)
 have h6 := fun j hj => h5 k c.cells (by rw [List.getElem?_map, hk]; rfl) j hj
 exact ⟨b, off, cap, by rw [e, List.length_map], ⟨h6 0 (by omega), h6 1 (by omega), h6 2 (by omega), h6 3 (by omega), h6 4 (by omega), h6 5 (by omega), h6 6 (by omega), h6 7 (by omega), h6 8 (by omega), h6 9 (by omega)⟩, by rw [List.length_map] at h1; exact h1, h2⟩
theorem R2 {cs : List Aj} {nm : ByteArray} {k : Nat} {c : Aj} (hk : cs[k]? = some c) (hno : ∀ x ∈ cs.take k, x.name ≠ nm) (hc : c.name = nm) : As cs nm = some k := by
 unfold As
 rw [List.findIdx?_eq_some_iff_getElem]
 obtain ⟨hl, e⟩ := List.getElem?_eq_some_iff.1 hk
 refine ⟨hl, by rw [e]; simpa using hc, fun j hj => ?_⟩
 have : cs[j] ∈ cs.take k := List.mem_take_iff_getElem.2 ⟨j, by omega, rfl⟩
 simpa using hno _ this
theorem R3 {cs : List Aj} {nm : ByteArray} (hno : ∀ x ∈ cs, x.name ≠ nm) : As cs nm = none := by
 unfold As
 rw [List.findIdx?_eq_none_iff]
 intro x hx
 simpa using hno x hx
theorem C5 {cs : List Aj} {nm : ByteArray} {k : Nat} (h : As cs nm = some k) : ∃ c, cs[k]? = some c ∧ c.name = nm ∧ ∀ x ∈ cs.take k, x.name ≠ nm := by
 unfold As at h
 rw [List.findIdx?_eq_some_iff_getElem] at h
 obtain ⟨hl, h1, h2⟩ := h
 refine ⟨cs[k], List.getElem?_eq_getElem hl, by simpa using h1, fun x hx => ?_⟩
 obtain ⟨j, hj, rfl⟩ := List.mem_take_iff_getElem.1 hx
 have := h2 j (by omega)
 simpa using this
theorem Agb {w : World} {pv : Value} {cs : List Aj} (h : Cz w pv cs) (nm : ByteArray) :
 Calls Tryz.prog 92 #[pv, .string nm] w fun e w' => e = .returned (.int .i64 (Cs cs nm)) ∧ Ch No w w' := by
 obtain ⟨cv, m0, m1, m2, m3, m4, m5, m6, m7, m8, rfl, h⟩ := h
 have hch := (Ch.refl No w).alloc (.cells #[cv, m0, m1, m2, m3, m4, m5, m6, m7, m8] 31)
 have h' := h.no hch
 obtain ⟨ao, cap, rfl, hcap, hmax, _, _⟩ := h.row
 rw [List.length_map] at hcap h' ⊢
 obtain ⟨len, hlen⟩ := Ax cs.length
 rw [hlen] at hcap h' ⊢
 unfold maxLen at hmax
 have HL := Aa hlen
 have HC := Aa h'
 obtain ⟨wa, hwa⟩ := Ax (w.alloc (.cells #[.slice ao len cap, m0, m1, m2, m3, m4, m5, m6, m7, m8] 31))
 have c0 := Ab (heap_alloc_new w (.cells #[.slice ao len cap, m0, m1, m2, m3, m4, m5, m6, m7, m8] 31)) 0
 rw [List.length_map, hlen] at hch
 rw [hwa] at hch HC c0
 have HCH := Aa hch
 clear hlen h h' hch
 go_in
 go_wp2_with fail
 clear hwa
 go_loop [5] (fun s5 => ∃ k : Nat, k ≤ len ∧ s5 = .int .i64 k ∧ Hid (∀ x ∈ cs.take k, x.name ≠ nm)) (fun s5 => len - (intOf s5).toNat)
 case atStart => exact ⟨0, Nat.zero_le _, rfl, Aa (by simp)⟩
 case round =>
  obtain ⟨k, hk, rfl, HN⟩ := hrel
  cases hd : decide (k < len) with
  | true =>
   have hkl : k < len := by simpa using hd
   obtain ⟨c, hc⟩ := gE (l := cs) (i := k) (by have := HL.out; omega)
   obtain ⟨b, off, cap', e, hcell, _, _⟩ := HC.out.cell hc
   rw [HL.out] at e
   cases e
   have q0 := hcell.q0
   have HX := Aa hc
   clear hc hcell
   cases e0 : (c.name.toList == nm.toList) with
   | true =>
    go_wp2
    go_ret
    have hcn : c.name = nm := by rw [Hi] at e0; simpa using e0
    refine ⟨Jh ?_, HCH.out⟩
    unfold Cs
    rw [R2 HX.out HN.out hcn]
   | false =>
    go_wp2_with fail
    go_round
    case rel =>
     have hcn : c.name ≠ nm := by rw [Hi] at e0; simpa using e0
     refine ⟨k + 1, by omega, by go_num, Aa fun x hx => ?_⟩
     rw [List.take_add_one, HX.out] at hx
     rcases List.mem_append.1 hx with hx | hx
     {exact HN.out x hx}
     {simp at hx; subst hx; exact hcn}
    case measure => simp [intOf]; omega
  | false =>
   go_wp2
   go_ret
   have hkl : ¬ k < len := by simpa using hd
   have := HN.out
   rw [List.take_of_length_le (by have := HL.out; omega)] at this
   refine ⟨Jh ?_, HCH.out⟩
   unfold Cs
   rw [R3 this]
theorem Kt {ops : Array Oper} {o : Oper} {a : Act} {w : World} {K : Act → World → Prop} {Q : Exit → Act → World → Prop} {E : Prop}
 (hg : o.guard = none) (s x : Operand) (hop : o.op = Op.call { callee := Callee.builtin Builtin.append, args := #[s, x], argTypes := #[59, 59] })
 (base : Nat) (v : Value) (xs l : List Int) (hs : a.eval s = v) (hown : Al w base v xs) (u : Value) (hx : a.eval x = u) (hu : A9 w u l) (h0 : 0 < l.length)
 (hb : xs.length + l.length ≤ 10000000) (hbase : base ≤ w.heap.size)
 (hK : ∀ v' w', Al w' base v' (xs ++ l) → w.grownBy w' v.ownBlock → (v'.ownBlock = v.ownBlock ∨ v'.ownBlock = some w.heap.size) → K (a.put o.dst v') w') :
 if Region.wanted o (yielded ops a.tmps) = true then Oper.wp Tryz.prog o a w K Q else E := by
 have hw : Region.wanted o (yielded ops a.tmps) = true := by simp [Region.wanted, hg]
 rw [if_pos hw]
 obtain ⟨v', w', hr, h1, h2, h3⟩ := Hg w base v xs hown u l hu h0 hb hbase o.type
 unfold Oper.wp
 simp [execOp, hop, resolve, invoke, builtin, hs, hx, hr, Result.andThen]
 exact hK v' w' h1 h2 h3
def Aj.ups (c : Aj) : List ByteArray := (if c.sup.toList.isEmpty then [] else [c.sup]) ++ c.faces
def L0 (cs : List Aj) (c : Aj) : List Int := c.ups.map (Cs cs)
theorem Ah.cell {w : World} {ao : Option Addr} {n cap : Nat} {l : List ByteArray} (h : Ah w (.slice ao n cap) l) {k : Nat} {x : ByteArray} (hk : l[k]? = some x) :
 n = l.length ∧ ∃ b off, ao = some ⟨b, off, none⟩ ∧ w.cell? ⟨b, off + k, none⟩ = some (.string x) := by
 obtain ⟨ao', cap', e, h1, h2, h3⟩ := h
 cases e
 obtain ⟨b, off, rfl, h4⟩ := h3 (by have := (gL hk); omega)
 exact ⟨rfl, b, off, rfl, h4 k x hk⟩
def Am (P : Prop) (e : Ending) : Prop := ∃ r : Bool, e = .returned (.bool r) ∧ (r = true ↔ P)
theorem Am.t {P : Prop} (h : P) : Am P (.returned (.bool true)) := ⟨true, rfl, fun _ => h, fun _ => rfl⟩
theorem Am.f {P : Prop} (h : ¬ P) : Am P (.returned (.bool false)) := ⟨false, rfl, (fun h => by cases h), fun h' => absurd h' h⟩
def Df (cs : List Aj) : Prop := cs.length ≤ 20 ∧ ∀ c ∈ cs, c.faces.length ≤ 10
theorem Zc {w : World} {pv : Value} {cs : List Aj} (h : Cz w pv cs) :
 Calls Tryz.prog 35 #[pv] w fun e w' => Am (Df cs) e ∧ Ch No w w' := by
 obtain ⟨cv, m0, m1, m2, m3, m4, m5, m6, m7, m8, rfl, h⟩ := h
 have hch := (Ch.refl No w).alloc (.cells #[cv, m0, m1, m2, m3, m4, m5, m6, m7, m8] 31)
 have h' := h.no hch
 obtain ⟨ao, cap, rfl, hcap, hmax, _, _⟩ := h.row
 rw [List.length_map] at hcap h' ⊢
 obtain ⟨len, hlen⟩ := Ax cs.length
 rw [hlen] at hcap h' ⊢
 unfold maxLen at hmax
 have HL := Aa hlen
 have HC := Aa h'
 obtain ⟨wa, hwa⟩ := Ax (w.alloc (.cells #[.slice ao len cap, m0, m1, m2, m3, m4, m5, m6, m7, m8] 31))
 have c0 := Ab (heap_alloc_new w (.cells #[.slice ao len cap, m0, m1, m2, m3, m4, m5, m6, m7, m8] 31)) 0
 rw [List.length_map, hlen] at hch
 rw [hwa] at hch HC c0
 have HCH := Aa hch
 clear hlen h h' hch
 cases e1 : decide ((len : Int) > 20) with
 | true =>
  go_in
  go_wp2
  go_ret
  refine ⟨Am.f fun h => ?_, HCH.out⟩
  have := h.1
  have := HL.out
  have : (len : Int) > 20 := by simpa using e1
  omega
 | false =>
 go_in
 go_wp2_with fail
 clear hwa
 go_loop [3] (fun s3 => ∃ k : Nat, k ≤ len ∧ s3 = .int .i64 k ∧ Hid (∀ x ∈ cs.take k, x.faces.length ≤ 10)) (fun s3 => len - (intOf s3).toNat)
 case atStart => exact ⟨0, Nat.zero_le _, rfl, Aa (by simp)⟩
 case round =>
  obtain ⟨k, hk, rfl, HN⟩ := hrel
  cases hd : decide (k < len) with
  | true =>
   have hkl : k < len := by simpa using hd
   obtain ⟨c, hc⟩ := gE (l := cs) (i := k) (by have := HL.out; omega)
   obtain ⟨b, off, cap', e, hcell, _, _⟩ := HC.out.cell hc
   rw [HL.out] at e
   cases e
   have q3 := hcell.q3
   have HX := Aa hc
   clear hc hcell
   cases e0 : decide ((c.faces.length : Int) > 10) with
   | true =>
    go_wp2
    go_ret
    refine ⟨Am.f fun h => ?_, HCH.out⟩
    have := h.2 c (mG HX.out)
    have : (c.faces.length : Int) > 10 := by simpa using e0
    omega
   | false =>
    go_wp2_with fail
    go_round
    case rel =>
     refine ⟨k + 1, by omega, by go_num, Aa fun x hx => ?_⟩
     rw [List.take_add_one, HX.out] at hx
     rcases List.mem_append.1 hx with hx | hx
     {exact HN.out x hx}
     {simp at hx; subst hx
      have : ¬ (x.faces.length : Int) > 10 := by simpa using e0
      omega}
    case measure => simp [intOf]; omega
  | false =>
   go_wp2
   go_ret
   have hkl : ¬ k < len := by simpa using hd
   have := HN.out
   rw [List.take_of_length_le (by have := HL.out; omega)] at this
   refine ⟨Am.t ⟨?_, this⟩, HCH.out⟩
   have : ¬ (len : Int) > 20 := by simpa using e1
   have := HL.out
   omega
end Go.Proofs.YtgjpgfedlgdjhaaGreatDoor
end
end
section
namespace Go.Proofs.YtgjpgfedlgdjhaaGreatDoor
open Go.RowKit Go.W
def X7 (cs : List Aj) (c : Aj) (n : Nat) : Prop :=
 ∀ (k : Nat) (f : ByteArray), k < n → c.faces[k]? = some f → (∃ j d, As cs f = some j ∧ cs[j]? = some d ∧ d.face = true) ∧ ∀ (q : Nat) (g : ByteArray), q < k → c.faces[q]? = some g → g ≠ f
structure V9 (cs : List Aj) (i : Nat) (c : Aj) : Prop where
 own : As cs c.name = some i
 sup : c.sup.toList.isEmpty = false → ∃ s d, As cs c.sup = some s ∧ cs[s]? = some d ∧ d.face = false
 faces : X7 cs c c.faces.length
theorem Dg {cs : List Aj} {nm : ByteArray} {s : Nat} (h : As cs nm = some s) : Cs cs nm = (s : Int) := by unfold Cs; rw [h]
end Go.Proofs.YtgjpgfedlgdjhaaGreatDoor
end
