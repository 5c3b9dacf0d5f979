/- What the claim uses: part 12. -/
import Derived.Test.YtgjpgfedlgdjhaaGreatDoorRows
import Derived.Test.YtgjpgfedlgdjhaaGreatDoorZaa
import Derived.Laws.AppendOwnNone
import Derived.Shelf.Slices.SearchI
import Derived.Shelf.Slices.Empties
import Derived.Shelf.Spec.SlicesInsert
import Derived.Shelf.Spec.SlicesInsertGrow
import Derived.Shelf.Spec.TrailingZeros
import Derived.Lib.AppendZerosOnto
import Derived.Deep.RegionLaw
section
section
set_option linter.unusedVariables false
set_option linter.unusedSimpArgs false
namespace Go.Proofs.YtgjpgfedlgdjhaaGreatDoor
open Go.RowKit Go.W
def IntsAt (w : World) (v : Value) (l : List Int) : Prop :=
 ∃ ao cap, v = .slice ao l.length cap ∧ l.length ≤ cap ∧ cap ≤ maxLen ∧ (ao = none → cap = 0) ∧
   (0 < l.length → ∃ b off, ao = some ⟨b, off, none⟩ ∧ ∀ (i : Nat) (x : Int), l[i]? = some x → w.cell? ⟨b, off + i, none⟩ = some (.int .i64 x))
theorem IntsAt.nil (w : World) : IntsAt w (.slice none 0 0) [] := ⟨none, 0, rfl, Nat.le_refl _, Nat.zero_le _, fun _ => rfl, fun h => by simp at h⟩
theorem IntsAt.ch {S : Nat → Obj → Prop} {w w' : World} {v : Value} {l : List Int} (h : IntsAt w v l) (hc : Ch S w w') (hS : ∀ k o, v.ownBlock = some k → w.heap[k]? = some o → ¬ S k o) : IntsAt w' v l := by
 obtain ⟨ao, cap, rfl, h2, h3, hn, h4⟩ := h
 refine ⟨ao, cap, rfl, h2, h3, hn, fun h0 => ?_⟩
 obtain ⟨b, off, rfl, h5⟩ := h4 h0
 exact ⟨b, off, rfl, fun i x hx => cell_ch (h5 i x hx) hc (fun o ho => hS b o rfl ho)⟩
theorem IntsAt.no {w w' : World} {v : Value} {l : List Int} (h : IntsAt w v l) (hc : Ch No w w') : IntsAt w' v l := h.ch hc (fun _ _ _ _ h => h)
theorem IntsAt.alloc {w : World} {v : Value} {l : List Int} (h : IntsAt w v l) (o : Obj) : IntsAt (w.alloc o) v l := h.no ((Ch.refl _ _).alloc o)
theorem IntsAt.of_row {w : World} {base n : Nat} {v : Value} {l : List Int} (h : w.ownsRow base 3 1 v n (l.map (Value.int .i64))) : IntsAt w v l := by
 have hn : n = l.length := by have := h.1; simp at this; omega
 subst hn
 have h0 := h
 rcases h.2 with ⟨h1, h2⟩ | ⟨g, cap, cur, h1, _, _, h2, h3, _⟩
 · refine ⟨none, 0, by rw [h1, h2], by omega, Nat.zero_le _, fun _ => rfl, fun h => by omega⟩
 · subst h1
   refine ⟨_, cap, rfl, h2, h3, (fun h => by cases h), fun _ => ⟨g, 0, rfl, fun i x hx => ?_⟩⟩
   have hi := (List.getElem?_eq_some_iff.1 hx).1
   rw [Nat.zero_add, h0.cellAt i (by omega), List.getElem?_map, hx]; rfl
theorem ret_bool {a b : Bool} (h : a = b) : Ending.returned (.bool a) = .returned (.bool b) := by rw [h]
theorem ret_int {k : IntKind} {a b : Int} (h : a = b) : Ending.returned (.int k a) = .returned (.int k b) := by rw [h]
def IntsOwn (w : World) (base : Nat) (v : Value) (l : List Int) : Prop := w.ownsRow base 3 1 v l.length (l.map (Value.int .i64))
theorem IntsOwn.at_ {w : World} {base : Nat} {v : Value} {l : List Int} (h : IntsOwn w base v l) : IntsAt w v l := IntsAt.of_row h
theorem IntsOwn.nil (w : World) (base : Nat) : IntsOwn w base (.slice none 0 0) [] := World.ownsRow_nil _ _ _ _
theorem IntsOwn.ch {S : Nat → Obj → Prop} {w w' : World} {base : Nat} {v : Value} {l : List Int} (h : IntsOwn w base v l) (hc : Ch S w w')
   (hS : ∀ g o, v.ownBlock = some g → base ≤ g → w.heap[g]? = some o → ¬ S g o) : IntsOwn w' base v l :=
 ownsRow_ch h hc (fun g cur h1 h2 h3 => hS g _ h1 h2 h3)
theorem IntsOwn.no {w w' : World} {base : Nat} {v : Value} {l : List Int} (h : IntsOwn w base v l) (hc : Ch No w w') : IntsOwn w' base v l := h.ch hc (fun _ _ _ _ _ h => h)
theorem IntsOwn.alloc {w : World} {base : Nat} {v : Value} {l : List Int} (h : IntsOwn w base v l) (o : Obj) : IntsOwn (w.alloc o) base v l := h.no ((Ch.refl _ _).alloc o)
theorem IntsOwn.base {w : World} {base base' : Nat} {v : Value} {l : List Int} (h : IntsOwn w base v l) (hb : base' ≤ base) : IntsOwn w base' v l := by
 obtain ⟨h1, h2⟩ := h
 refine ⟨h1, ?_⟩
 rcases h2 with h2 | ⟨g, cap, cur, a, b, c⟩
 · exact .inl h2
 · exact .inr ⟨g, cap, cur, a, Nat.le_trans hb b, c⟩
theorem wpAppendI {w : World} {ops : Array Oper} {rest : List Oper} {o : Oper} {a : Act} {Q : Exit → Act → World → Prop} (hgd : o.guard = none) (s x : Operand)
   (ho : o.op = .call { callee := .builtin .append, args := #[s, x], argTypes := #[59, 59] })
   (base : Nat) (v : Value) (xs l : List Int) (hs : a.eval s = v) (hown : IntsOwn w base v xs) (u : Value) (hx : a.eval x = u) (hu : IntsAt w u l)
   (hb : xs.length + l.length ≤ 10000000) (hbase : base ≤ w.heap.size)
   (h : ∀ v' w', IntsOwn w' base v' (xs ++ l) → w.grownBy w' v.ownBlock → wpList Tryz.prog ops Q rest (a.put o.dst v') w') : wpList Tryz.prog ops Q (o :: rest) a w := by
 obtain ⟨ao, cap, rfl, h1, h2, h3, h4⟩ := hu
 obtain ⟨i, z, hi, hz, hc, hsz, hby⟩ := infoOf (P := Tryz.prog) (t := 3) (a := 1) (s := 1) (b := 8) (by kernel_rfl)
 have hT : Tryz.prog.underlying 59 = some (.slice 3) := by kernel_rfl
 cases ao with
 | none =>
   obtain rfl := h3 rfl
   have hl : l.length = 0 := by omega
   obtain rfl := List.length_eq_zero_iff.1 hl
   refine wpList_append_own_none hgd s x _ ho base 3 i 1 hT hi v xs.length (xs.map (Value.int .i64)) hs hown hx ?_
   exact h v w (by rw [List.append_nil]; exact hown) (World.grownBy.refl _ _)
 | some ad =>
   have hm : maxLen = 9223372036854775807 := rfl
   refine wpList_append_own w hgd s x _ ho base 3 i z 1 8 hT hi hz hsz hby hc (by omega) v xs.length (xs.map (Value.int .i64)) hs hown ad l.length cap (l.map (Value.int .i64)) hx (by simp) ?_ ?_ ?_ ?_ hbase ?_
   · intro j u hj
     rw [List.getElem?_map, Option.map_eq_some_iff] at hj
     obtain ⟨y, hy, rfl⟩ := hj
     have hlt := (List.getElem?_eq_some_iff.1 hy).1
     obtain ⟨b, off, e, h5⟩ := h4 (by omega)
     cases e
     rw [Addr.add_lit]
     exact h5 j y hy
   · intro u hu
     obtain ⟨y, _, rfl⟩ := List.mem_map.1 hu
     rfl
   · have : l.length ≤ 10000000 := by omega
     rw [hm]; omega
   · omega
   · intro v' w' hown' hg _
     refine h v' w' ?_ hg
     unfold IntsOwn
     rw [List.length_append, List.map_append]
     exact hown'
end Go.Proofs.YtgjpgfedlgdjhaaGreatDoor
end
section
set_option linter.unusedVariables false
set_option linter.unusedSimpArgs false
namespace Go.Proofs.YtgjpgfedlgdjhaaGreatDoor
open Go.RowKit Go.W
def putS (l : List Int) (n : Int) : List Int :=
 if n < 0 ∨ 1048575 < n ∨ n ∈ l then l else l.takeWhile (· < n) ++ n :: l.dropWhile (· < n)
theorem one_at (w : World) (x : Int) : IntsAt (w.alloc (.cells #[.int .i64 x] 3)) (.slice (some ⟨w.heap.size, 0, none⟩) 1 1) [x] := by
 refine ⟨_, 1, rfl, Nat.le_refl _, by decide, (fun h => by cases h), fun _ => ⟨_, _, rfl, fun i y hy => ?_⟩⟩
 have hi := (List.getElem?_eq_some_iff.1 hy).1
 have : i = 0 := by simp at hi; omega
 subst this
 simp at hy; subst hy
 exact World.cell?_alloc_new ..
end Go.Proofs.YtgjpgfedlgdjhaaGreatDoor
end
section
set_option linter.unusedVariables false
set_option linter.unusedSimpArgs false
namespace Go.Proofs.YtgjpgfedlgdjhaaGreatDoor
open Go.RowKit Go.W Go.Shelf
def rho2 : Ren := ⟨fun n => match n with
 | 25 => 148 | 31 => 166 | 32 => 167 | 37 => 171 | 21 => 91 | 27 => 125 | 28 => 126 | 35 => 155 | 39 => 168 | n => n,
 fun t => match t with | 22 => 59 | 40 => 214 | t => t, fun g => g⟩
def rho7 : Ren := ⟨fun n => match n with | 29 => 150 | n => n,
 fun t => match t with | 5 => 5 | 22 => 205 | 25 => 214 | 54 => 216 | t => t, fun g => match g with | 1 => 0 | g => g⟩
theorem lays25 : Lays2.n25 Tryz.prog rho2 := by
 constructor <;> first | kernel_rfl | (intro w; kernel_rfl) | (intro w; rfl)
theorem lays21 : Lays2.n21 Tryz.prog rho2 := by
 constructor <;> first | kernel_rfl | (intro w; kernel_rfl) | (intro w; rfl)
theorem lays29 : Lays7.n29 Tryz.prog rho7 := by
 constructor <;> first | kernel_rfl | (intro w; kernel_rfl) | (intro w; rfl)
theorem binS {w : World} {v : Value} {l : List Int} (h : IntsAt w v l) (hs : l.Pairwise (· < ·)) (n : Int) (hl : l.length ≤ 2000000) :
   Calls Tryz.prog 148 #[v, .int .i64 n] w fun e w' => e = .returned (.tuple #[.int .i64 (l.countP (· < n) : Nat), .bool (decide (n ∈ l))]) ∧ ∃ q, w' = w.drewN q := by
 obtain ⟨ao, cap, rfl, h1, h2, h3, h4⟩ := h
 by_cases h0 : 0 < l.length
 · obtain ⟨b, off, rfl, h5⟩ := h4 h0
   have hq := Any.slices_BinarySearch_int lays25 b off l.length cap l n w (Nat.le_refl _) (by omega)
     (fun j hj => by
       have e : l[j]? = some (l.getD j 0) := by rw [List.getD_eq_getElem?_getD, List.getElem?_eq_getElem hj]; rfl
       exact h5 j _ e)
     (by rw [List.take_length]; exact hs.imp (fun h => by omega))
   rw [List.take_length] at hq
   refine Calls.mono hq ?_
   rintro e w' ⟨rfl, hw⟩
   exact ⟨by rw [List.contains_eq_mem], hw⟩
 · have : l = [] := List.length_eq_zero_iff.1 (by omega)
   subst this
   refine Calls.mono (Any.slices_BinarySearch_int_empty lays25 ao cap n w) ?_
   rintro e w' ⟨rfl, rfl⟩
   exact ⟨by simp, 0, rfl⟩
theorem tz64 (x : Nat) (hx : x < 18446744073709551616) (w : World) (hT : TabAt 0 Lib.deBruijn64tab w) :
   Calls Tryz.prog 150 #[.int .u64 x] w fun e w' => e = .returned (.int .i64 (Lib.ctz 64 x)) ∧ w' = w :=
 Any7.bits_TrailingZeros64 lays29 x hx w (fun _ => hT)
theorem setCells_heap {b : Nat} {t : TypeId} {fz : Nat × Nat} : ∀ (vs : List Value) (o : Nat) (w : World) (cur : Array Value), w.heap[b]? = some (.cells cur t fz) → o + vs.length ≤ cur.size →
   ∃ cur', (w.setCells b o vs).heap[b]? = some (.cells cur' t fz) ∧ cur'.size = cur.size ∧ cur'.toList = cur.toList.take o ++ vs ++ cur.toList.drop (o + vs.length)
 | [], o, w, cur, h, _ => ⟨cur, h, rfl, by simp⟩
 | v :: r, o, w, cur, h, hl => by
   simp only [List.length_cons] at hl
   have h1 : (w.setCell ⟨b, o, none⟩ v).heap[b]? = some (.cells (cur.setIfInBounds o v) t fz) := by
     simp [World.setCell, Array.getElem?_modify, h]
   obtain ⟨cur', h2, h3, h4⟩ := setCells_heap r (o + 1) _ _ h1 (by simp; omega)
   refine ⟨cur', h2, by simpa using h3, ?_⟩
   rw [h4]
   have ho : o < cur.toList.length := by simp; omega
   simp only [Array.toList_setIfInBounds, List.length_cons]
   rw [List.take_set, List.drop_set_of_lt (by omega), List.take_add_one, List.set_append]
   have e1 : cur.toList[o]?.toList = [cur.toList[o]] := by rw [List.getElem?_eq_getElem ho]; rfl
   have e2 : ¬ o < (cur.toList.take o).length := by rw [List.length_take]; omega
   rw [if_neg e2, e1]
   have e3 : o - (cur.toList.take o).length = 0 := by rw [List.length_take]; omega
   rw [e3, List.set_cons_zero, show o + 1 + r.length = o + (r.length + 1) by omega]
   simp
theorem setCells_ch {b : Nat} : ∀ (vs : List Value) (o : Nat) (w : World), Ch (fun k _ => k = b) w (w.setCells b o vs)
 | [], _, w => Ch.refl _ _
 | v :: r, o, w => ((Ch.refl _ w).setCell (p := ⟨b, o, none⟩) (fun _ _ => rfl) v).trans' (setCells_ch r (o + 1) _) (fun _ _ _ h => h)
theorem ins_take {α : Type} {cs cur : List α} {i n : Nat} {x : α} (hn : cs.length = n) (hc : cur.take n = cs) (hl : n < cur.length) (hi : i ≤ n) :
   (((cur.take (i + 1) ++ cs.drop i ++ cur.drop (i + 1 + (cs.drop i).length)).take i ++ [x] ++ (cur.take (i + 1) ++ cs.drop i ++ cur.drop (i + 1 + (cs.drop i).length)).drop (i + 1))).take (n + 1) = cs.take i ++ x :: cs.drop i := by
 have h1 : (cur.take (i + 1)).length = i + 1 := by rw [List.length_take]; omega
 have h2 : (cur.take (i + 1) ++ cs.drop i ++ cur.drop (i + 1 + (cs.drop i).length)).take i = cs.take i := by
   rw [List.append_assoc, List.take_append_of_le_length (by omega), List.take_take, ← hc, List.take_take]
   congr 1; omega
 have h3 : (cur.take (i + 1) ++ cs.drop i ++ cur.drop (i + 1 + (cs.drop i).length)).drop (i + 1) = cs.drop i ++ cur.drop (i + 1 + (cs.drop i).length) := by
   rw [List.append_assoc, List.drop_append_of_le_length (by omega), List.drop_of_length_le (by omega), List.nil_append]
 rw [h2, h3, List.append_assoc, List.singleton_append]
 have e : n + 1 = (cs.take i ++ x :: cs.drop i).length := by
   simp only [List.length_append, List.length_cons, List.length_take, List.length_drop]; omega
 have e2 : cs.take i ++ x :: (cs.drop i ++ cur.drop (i + 1 + (cs.drop i).length)) = (cs.take i ++ x :: cs.drop i) ++ cur.drop (i + 1 + (cs.drop i).length) := by simp
 rw [e2, e, List.take_left]
end Go.Proofs.YtgjpgfedlgdjhaaGreatDoor
end
section
set_option linter.unusedVariables false
set_option linter.unusedSimpArgs false
namespace Go.Proofs.YtgjpgfedlgdjhaaGreatDoor
open Go.RowKit Go.W Go.Shelf
theorem map_one (l : List Int) : ∀ v ∈ l.map (Value.int .i64), v.oneCell' = true := by
 intro v hv
 obtain ⟨y, _, rfl⟩ := List.mem_map.1 hv
 rfl
set_option maxHeartbeats 2000000 in
theorem insertS {w : World} {base : Nat} {v : Value} {l : List Int} (h : IntsOwn w base v l) (i : Nat) (hi : i ≤ l.length) (hl : l.length ≤ 1000000) (x : Int) (vb : Nat)
   (hvb : w.heap[vb]? = some (.cells #[.int .i64 x] 3 (0, 0))) (hne : v.ownBlock ≠ some vb) (hbase : base ≤ w.heap.size) :
   Calls Tryz.prog 91 #[v, .int .i64 i, .slice (some ⟨vb, 0, none⟩) 1 1] w fun e w' => ∃ v', e = .returned v' ∧ IntsOwn w' base v' (l.take i ++ x :: l.drop i) ∧
     Ch (fun k _ => v.ownBlock = some k) w w' ∧ (v'.ownBlock = v.ownBlock ∨ ∃ g, v'.ownBlock = some g ∧ w.heap.size ≤ g) := by
 have hvs : ∀ (j : Nat) (u : Value), [Value.int .i64 x][j]? = some u → w.cell? ⟨vb, 0 + j, none⟩ = some u := by
   intro j u hj
   rw [cellAt hvb, Nat.zero_add]
   simpa using hj
 have h1v : ∀ u ∈ [Value.int .i64 x], u.oneCell' = true := by intro u hu; simp at hu; subst hu; rfl
 have hml : (l.map (Value.int .i64)).length = l.length := by simp
 have hr : (l.map (Value.int .i64)).take i ++ (Value.int .i64 x :: (l.map (Value.int .i64)).drop i) = (l.take i ++ x :: l.drop i).map (Value.int .i64) := by
   rw [List.map_append, List.map_cons, List.map_take, List.map_drop]
 have hrl : (l.take i ++ x :: l.drop i).length = l.length + 1 := by simp only [List.length_append, List.length_cons, List.length_take, List.length_drop]; omega
 have hm : maxLen = 9223372036854775807 := rfl
 have grow : ∀ (base' : Option Addr) (c : Nat), l.length ≤ c → c < l.length + 1 → i = l.length → (base' = none → l.length = 0) →
     (∀ a, base' = some a → ∀ j v, (l.map (Value.int .i64))[j]? = some v → w.cell? (a.add j) = some v) →
     Calls Tryz.prog 91 #[.slice base' l.length c, .int .i64 i, .slice (some ⟨vb, 0, none⟩) 1 1] w fun e w' => ∃ v', e = .returned v' ∧ IntsOwn w' base v' (l.take i ++ x :: l.drop i) ∧
     Ch (fun k _ => (Value.slice base' l.length c).ownBlock = some k) w w' ∧ (v'.ownBlock = (Value.slice base' l.length c).ownBlock ∨ ∃ g, v'.ownBlock = some g ∧ w.heap.size ≤ g) := by
   intro base' c h1 h2 h3 h4 h5
   subst h3
   refine Calls.mono (Any2.slices_Insert_int_end_grow lays21 base' l.length c vb 0 1 1 _ _ w (by omega) h1 h2 (by omega) hml rfl h4 h5 hvs h1v) ?_
   rintro e w' ⟨rfl, rfl⟩
   show ∃ v', Ending.returned (.slice (some ⟨w.heap.size, 0, none⟩) (l.length + 1) (grownCap w (l.length + 1) c 3)) = .returned v' ∧ IntsOwn (w.drew.alloc (.cells ((l.map (Value.int .i64) ++ [Value.int .i64 x]).toArray ++ Builtin.zeroCells (Value.int .i64 0).cells (grownCap w (l.length + 1) c 3 - (l.length + 1))) 3)) base v' _ ∧ _ ∧ _
   have hG1 := grownCap_ge w (l.length + 1) c 3
   have hG2 := grownCap_le_maxLen w (l.length + 1) c 3 (by omega)
   generalize grownCap w (l.length + 1) c 3 = G at hG1 hG2
   refine ⟨_, rfl, ?_, ((Ch.refl _ _).drew).alloc _, .inr ⟨_, rfl, Nat.le_refl _⟩⟩
   refine ⟨by simp, .inr ⟨w.heap.size, _, _, by rw [hrl], hbase, heap_alloc_new w.drew _, by rw [hrl]; exact hG1, hG2, ?_, ?_⟩⟩
   · rw [Array.size_append, size_zeroCells]
     have e : (Value.int .i64 0).cells.size = 1 := rfl
     rw [e]
     simp
     omega
   · rw [hrl, ← hr, Nat.mul_one]
     rw [List.take_of_length_le (i := l.length) (by simp), List.drop_of_length_le (by simp), Array.toList_append, List.take_append_of_le_length (by simp)]
     rw [List.take_of_length_le (by simp)]
 rcases h.2 with ⟨rfl, hl0⟩ | ⟨g, cap, cur, rfl, hg, hh, hcap, hmax, hcs, hct⟩
 · obtain rfl := List.length_eq_zero_iff.1 hl0
   have hi0 : i = 0 := by simpa using hi
   exact grow none 0 (by simp) (by simp) hi0 (fun _ => rfl) (fun _ h => by cases h)
 · rw [Nat.mul_one] at hct hcs
   have hcell : ∀ (j : Nat) (u : Value), (l.map (Value.int .i64))[j]? = some u → w.cell? ⟨g, 0 + j, none⟩ = some u := by
     intro j u hj
     have hj' := (List.getElem?_eq_some_iff.1 hj).1
     rw [hml] at hj'
     rw [cellAt hh, Nat.zero_add, ← Array.getElem?_toList]
     rw [← hct, List.getElem?_take, if_pos hj'] at hj
     exact hj
   have hcurl : cur.toList.length = cap := by simpa using hcs
   have hgv : vb ≠ g := fun e => hne (by rw [e]; rfl)
   by_cases hroom : l.length + 1 ≤ cap
   · by_cases hil : i = l.length
     · subst hil
       refine Calls.mono (Any2.slices_Insert_int_end_room lays21 g 0 l.length cap vb 0 1 1 [.int .i64 x] w (by omega) hroom (by omega) rfl
         (fun j hj => by rw [cellAt hh, Array.getElem?_eq_getElem (by omega)]; rfl) (fun j hj => freeAt hh _) hvs h1v) ?_
       rintro e w' ⟨rfl, rfl⟩
       obtain ⟨cur', h1, h2, h3⟩ := setCells_heap [.int .i64 x] (0 + l.length) w cur hh (by simp; omega)
       refine ⟨_, rfl, ⟨by simp, .inr ⟨g, cap, cur', by rw [hrl], hg, h1, by rw [hrl]; exact hroom, hmax, by omega, ?_⟩⟩, ?_, .inl rfl⟩
       · rw [hrl, h3, Nat.zero_add, hct, Nat.mul_one, List.take_append_of_le_length (by simp)]
         rw [List.take_of_length_le (by simp)]
         simp
       · exact (setCells_ch _ _ _).mono (fun k o _ e => by rw [e]; rfl)
     · refine Calls.mono (Any2.slices_Insert_int_shift lays21 g 0 l.length cap i vb 0 1 1 _ [.int .i64 x] w (by omega) (by omega) hroom (by omega) hgv hml rfl hcell
         (fun j hj => by rw [cellAt hh, Array.getElem?_eq_getElem (by omega)]; rfl) (fun j hj => freeAt hh _) hvs (map_one l) h1v
         3 3 1 cap (by simp [World.shape?, hvb]) (by simp [World.shape?, hh, hcs]) (by omega) (freeAt hvb _) (freeAt hvb _)) ?_
       rintro e w' ⟨rfl, rfl⟩
       have hdl : ((l.map (Value.int .i64)).drop i).length = l.length - i := by rw [List.length_drop, hml]
       obtain ⟨cur', h1, h2, h3⟩ := setCells_heap ((l.map (Value.int .i64)).drop i) (0 + (i + 1)) w.drew cur hh (by rw [hdl]; omega)
       obtain ⟨cur2, h4, h5, h6⟩ := setCells_heap [.int .i64 x] (0 + i) _ cur' h1 (by simp; omega)
       refine ⟨_, rfl, ⟨by simp, .inr ⟨g, cap, cur2, by rw [hrl], hg, h4, by rw [hrl]; exact hroom, hmax, by omega, ?_⟩⟩, ?_, .inl rfl⟩
       · rw [hrl, h6, h3, Nat.mul_one, ← hr]
         simp only [Nat.zero_add, List.length_singleton]
         exact ins_take hml hct (by omega) hi
       · exact (((Ch.refl _ w).drew.trans' (setCells_ch _ _ _) (fun _ _ _ h => h)).trans' (setCells_ch _ _ _) (fun _ _ _ h => h)).mono (fun k o _ e => by rw [e]; rfl)
   · by_cases hil : i = l.length
     · exact grow (some ⟨g, 0, none⟩) cap hcap (by omega) hil (fun h => by cases h) (fun a ha j u hu => by cases ha; rw [Addr.add_lit]; exact hcell j u hu)
     · refine Calls.mono (Any2.slices_Insert_int_grow lays21 g 0 l.length cap i vb 0 1 1 _ [.int .i64 x] w (by omega) (by omega) hcap (by omega) (by omega) hml rfl hcell hvs (map_one l) h1v) ?_
       rintro e w' ⟨rfl, rfl⟩
       have hG1 := grownCap_ge w (l.length + 1) cap 3
       have hG2 := grownCap_le_maxLen w (l.length + 1) cap 3 (by omega)
       have hdl : ((l.map (Value.int .i64)).drop i).length = l.length - i := by rw [List.length_drop, hml]
       have e1 : (Value.int .i64 0).cells.size = 1 := rfl
       obtain ⟨cur0, hcur⟩ : ∃ cur0, cur0 = ((l.map (Value.int .i64)).take i).toArray ++ Builtin.zeroCells (Value.int .i64 0).cells (l.length + 1 - i) ++ Builtin.zeroCells (Value.int .i64 0).cells (grownCap w (l.length + 1) cap 3 - (l.length + 1)) := ⟨_, rfl⟩
       have hc0 : cur0.size = grownCap w (l.length + 1) cap 3 := by
         rw [hcur, Array.size_append, Array.size_append, size_zeroCells, size_zeroCells, e1]
         simp
         omega
       have hct0 : cur0.toList.take i = (l.map (Value.int .i64)).take i := by
         rw [hcur, Array.toList_append, Array.toList_append, List.append_assoc, List.take_append_of_le_length (by simp; omega), List.take_of_length_le (by simp; omega)]
       show ∃ v', Ending.returned (.slice (some ⟨w.heap.size, 0, none⟩) (l.length + 1) (grownCap w (l.length + 1) cap 3)) = .returned v' ∧ IntsOwn ((((w.alloc (.cells (((l.map (Value.int .i64)).take i).toArray ++ Builtin.zeroCells (Value.int .i64 0).cells (l.length + 1 - i) ++ Builtin.zeroCells (Value.int .i64 0).cells (grownCap w (l.length + 1) cap 3 - (l.length + 1))) 3)).drew.setCells w.heap.size i [Value.int .i64 x]).drew).setCells w.heap.size (i + 1) ((l.map (Value.int .i64)).drop i)) base v' _ ∧ Ch _ w ((((w.alloc (.cells (((l.map (Value.int .i64)).take i).toArray ++ Builtin.zeroCells (Value.int .i64 0).cells (l.length + 1 - i) ++ Builtin.zeroCells (Value.int .i64 0).cells (grownCap w (l.length + 1) cap 3 - (l.length + 1))) 3)).drew.setCells w.heap.size i [Value.int .i64 x]).drew).setCells w.heap.size (i + 1) ((l.map (Value.int .i64)).drop i)) ∧ _
       rw [← hcur]
       clear hcur
       generalize grownCap w (l.length + 1) cap 3 = G at hG1 hG2 hc0
       obtain ⟨cur', h1, h2, h3⟩ := setCells_heap [.int .i64 x] i (w.alloc (.cells cur0 3)).drew cur0 (heap_alloc_new w _) (by simp; omega)
       obtain ⟨cur2, h4, h5, h6⟩ := setCells_heap ((l.map (Value.int .i64)).drop i) (i + 1) ((w.alloc (.cells cur0 3)).drew.setCells w.heap.size i [.int .i64 x]).drew cur' h1 (by rw [hdl]; omega)
       refine ⟨_, rfl, ⟨by simp, .inr ⟨w.heap.size, G, cur2, by rw [hrl], hbase, h4, by rw [hrl]; exact hG1, hG2, by omega, ?_⟩⟩, ?_, .inr ⟨_, rfl, Nat.le_refl _⟩⟩
       · have hti : ((l.map (Value.int .i64)).take i).length = i := by rw [List.length_take]; omega
         have e3 : cur'.toList.take (i + 1) = (l.map (Value.int .i64)).take i ++ [Value.int .i64 x] := by
           rw [h3, hct0]
           rw [List.take_append_of_le_length (by simp; omega), List.take_of_length_le (by simp; omega)]
         rw [hrl, h6, Nat.mul_one, ← hr, e3]
         rw [List.take_append_of_le_length (by simp; omega), List.take_of_length_le (by simp; omega)]
         simp
       · exact ((((Ch.refl _ w).alloc _).drew).trans' (setCells_ch (b := w.heap.size) _ _ _) (fun k o ho h => absurd (lt_size ho) (by omega))).drew.trans' (setCells_ch (b := w.heap.size) _ _ _) (fun k o ho h => absurd (lt_size ho) (by omega))
end Go.Proofs.YtgjpgfedlgdjhaaGreatDoor
end
section
set_option linter.unusedVariables false
set_option linter.unusedSimpArgs false
namespace Go.Proofs.YtgjpgfedlgdjhaaGreatDoor
open Go.RowKit Go.W
theorem Tryz.infoU64 : (Tryz.prog.info? 205).map (fun i => (i.zero, i.size, i.bytes)) = some (some (.int .u64 0), 1, 8) := by kernel_rfl
theorem zeros_list (n : Nat) : (Builtin.zeroCells (Value.int .u64 0).cells n).toList = List.replicate n (Value.int .u64 0) := by
 have e : (Value.int .u64 0).cells = #[Value.int .u64 0] := rfl
 rw [e]
 apply List.ext_getElem
 · simp [Builtin.zeroCells]
 · intro i h1 h2
   simp [Builtin.zeroCells, Nat.mod_one]
theorem run_zeros (w : World) (base : Nat) (v : Value) (n : Nat) (xs : List Value) (hown : w.ownsRow base 205 1 v n xs) (h0 : 0 < n) (hb : n ≤ 1000000) (hbase : base ≤ w.heap.size) (ty : TypeId) :
   ∃ v' w', (Builtin.append_ #[180, 3] ty #[v, .int .i64 n]).run Tryz.prog w = .ok v' w' ∧ w'.ownsRow base 205 1 v' (n + n) (xs ++ List.replicate n (Value.int .u64 0)) ∧ w.grownBy w' v.ownBlock ∧
     (∀ g, v'.ownBlock = some g → v.ownBlock = some g ∨ w.heap.size ≤ g) := by
 obtain ⟨i, hi, hz, hs, hby⟩ := info_parts Tryz.infoU64
 have ht : Tryz.prog.underlying 180 = some (.slice 205) := by kernel_rfl
 have htn : Tryz.prog.underlying 3 = some (.int .i64) := by kernel_rfl
 have hm : maxLen = 9223372036854775807 := rfl
 have hxl : xs.length = n := by have := hown.1; omega
 rcases hown.2 with ⟨rfl, rfl⟩ | ⟨g, cap, cur, rfl, hbg, hg, hnc, hcm, hcs, htake⟩
 · omega
 · rw [Nat.mul_one] at hcs htake
   by_cases hroom : n + n ≤ cap
   · have hw : IntKind.i64.wrap (n : Int) = n := by rw [IntKind.wrap_i64]; omega
     have hneg : ¬ ((n : Int) < 0) := by omega
     have h48i : ¬ (281474976710656 < (n : Int) * 8) := by omega
     have hns : ¬ (n = 0) := by omega
     have hst := run_storeCells_at Tryz.prog g n 205 (List.replicate n (Value.int .u64 0)) 0 cur w hg (by simp; omega) (by intro u hu; rw [List.eq_of_mem_replicate hu]; rfl)
     simp only [Nat.add_zero] at hst
     have hr : (Builtin.append_ #[180, 3] ty #[.slice (some ⟨g, 0, none⟩) n cap, .int .i64 n]).run Tryz.prog w =
         .ok (.slice (some ⟨g, 0, none⟩) (n + n) cap) (w.setRow g (cur.toList.take n ++ List.replicate n (Value.int .u64 0) ++ cur.toList.drop (n + (List.replicate n (Value.int .u64 0)).length)).toArray) := by
       simp [Builtin.append_, run_underlying ht, run_underlying htn, sizeOf, typeInfo, zeroValue, hi, hz, hs, hby, asInt, asIntOf, hw, hneg, h48i, hns, hroom, zeros_list, Addr.add_lit, hst]
     refine ⟨_, _, hr, ⟨by simp; omega, .inr ⟨g, cap, _, rfl, hbg, setRow_heap w g cur _ _ _ hg, hroom, hcm, ?_, ?_⟩⟩, ⟨rfl, rfl, rfl, by simp, fun k _ hk => setRow_other w g k _ (fun e => hk (by simp [Value.ownBlock, e]))⟩, fun g' h => .inl h⟩
     · simp only [List.size_toArray, List.length_append, List.length_take, List.length_drop, Array.length_toList, List.length_replicate]
       omega
     · rw [htake, Nat.mul_one]
       have e : n + n = (xs ++ List.replicate n (Value.int .u64 0)).length := by simp; omega
       rw [e]
       exact List.take_left
   · have hold : (Builtin.firstCells i.size n (.slice (some ⟨g, 0, none⟩) n cap)).run Tryz.prog w.drew = .ok xs.toArray w.drew := by
       rw [hs]
       exact run_firstCells_some w.drew 1 n ⟨g, 0, none⟩ n cap xs (by omega) (fun j v hj => by
         have hj' := (List.getElem?_eq_some_iff.1 hj).1
         rw [Addr.add_lit]
         show w.cell? _ = _
         rw [cellAt hg, Nat.zero_add, ← Array.getElem?_toList]
         rw [← htake, List.getElem?_take, if_pos (by omega)] at hj
         exact hj)
     have hr := Go.Lib.run_append_grow_zeros w 180 3 ty 205 i _ .i64 .i64 ht htn hi hz (some ⟨g, 0, none⟩) n cap xs hold n h0 (by omega) (by omega) (by omega) (by rw [hby]; omega) (by rw [hby]; exact growslice_fits (by omega) (by omega))
     have hG1 := grownCap_ge w (n + n) cap 205
     have hG2 := grownCap_le_maxLen w (n + n) cap 205 (by omega)
     generalize grownCap w (n + n) cap 205 = G at hr hG1 hG2
     refine ⟨_, _, hr, ⟨by simp; omega, .inr ⟨w.heap.size, G, _, rfl, hbase, heap_alloc_new w.drew _, hG1, hG2, ?_, ?_⟩⟩, ⟨rfl, rfl, rfl, by simp, fun k hk _ => heapAllocOld w.drew _ k hk⟩, fun g' h => .inr (by cases h; exact Nat.le_refl _)⟩
     · have e1 : (Value.int .u64 0).cells.size = 1 := rfl
       simp only [Array.size_append, size_zeroCells, e1, List.size_toArray]
       omega
     · rw [Nat.mul_one, Array.toList_append, Array.toList_append, zeros_list, zeros_list]
       have e : n + n = (xs ++ List.replicate n (Value.int .u64 0)).length := by simp; omega
       rw [e]
       exact List.take_left
theorem step_zeros {ops : Array Oper} {o : Oper} {a : Act} {w : World} {K : Act → World → Prop} {Q : Exit → Act → World → Prop} {E : Prop}
   (hg : o.guard = none) (s x : Operand) (hop : o.op = Op.call { callee := Callee.builtin Builtin.append, args := #[s, x], argTypes := #[180, 3] })
   (base : Nat) (v : Value) (n : Nat) (xs : List Value) (hs : a.eval s = v) (hx : a.eval x = .int .i64 n) (hown : w.ownsRow base 205 1 v n xs) (h0 : 0 < n) (hb : n ≤ 1000000) (hbase : base ≤ w.heap.size)
   (hK : ∀ v' w', w'.ownsRow base 205 1 v' (n + n) (xs ++ List.replicate n (Value.int .u64 0)) → w.grownBy w' v.ownBlock →
     (∀ g, v'.ownBlock = some g → v.ownBlock = some g ∨ w.heap.size ≤ g) → K (a.put o.dst v') w') :
   if Region.wanted o (yielded ops a.tmps) = true then Oper.wp Tryz.prog o a w K Q else E := by
 have hw : Region.wanted o (yielded ops a.tmps) = true := by simp [Region.wanted, hg]
 rw [if_pos hw]
 obtain ⟨v', w', hrun, h1, h2, h3⟩ := run_zeros w base v n xs hown h0 hb hbase o.type
 unfold Oper.wp
 simp [execOp, hop, resolve, invoke, builtin, hs, hx, hrun, Result.andThen]
 exact hK v' w' h1 h2 h3
end Go.Proofs.YtgjpgfedlgdjhaaGreatDoor
end
end
