/- Part 1. -/
import Derived.WalkKit
import Derived.WalkLawsBesides
import Derived.WalkSpells
import Derived.BigQuiet
import Derived.Deep.QuietTactic
import Derived.Deep.RegionWith
import Derived.Deep.LoopGhost
import Derived.Deep.DeepMust
import Derived.Maps.OwnSet
import Derived.OrdersHeld
import Derived.Laws.Rows
set_option linter.unusedVariables false
set_option linter.unusedSimpArgs false
set_option maxHeartbeats 64000000
set_option maxRecDepth 8192
section
namespace Go.W
open Go.RowKit
open Go.Maps (Keyed)
theorem Aa {p : Prop} (h : p) : Hid p := h
structure Ch (S : Nat → Obj → Prop) (w w' : World) : Prop where
 os : w'.os = w.os
 tape : w'.tape = w.tape
 output : w'.output = w.output
 size : w.heap.size ≤ w'.heap.size
 keep : ∀ k o, w.heap[k]? = some o → ¬ S k o → w'.heap[k]? = some o
def No : Nat → Obj → Prop := fun _ _ => False
theorem Ch.refl (S : Nat → Obj → Prop) (w : World) : Ch S w w := ⟨rfl, rfl, rfl, Nat.le_refl _, fun _ _ h _ => h⟩
theorem Ch.trans {S : Nat → Obj → Prop} {a b c : World} (h : Ch S a b) (h' : Ch S b c) : Ch S a c :=
 ⟨h'.os.trans h.os, h'.tape.trans h.tape, h'.output.trans h.output, Nat.le_trans h.size h'.size, fun k o ho hs => h'.keep k o (h.keep k o ho hs) hs⟩
theorem Ch.trans' {S S' : Nat → Obj → Prop} {a b c : World} (h : Ch S a b) (h' : Ch S' b c) (hs : ∀ k o, a.heap[k]? = some o → S' k o → S k o) : Ch S a c :=
 ⟨h'.os.trans h.os, h'.tape.trans h.tape, h'.output.trans h.output, Nat.le_trans h.size h'.size, fun k o ho hn => h'.keep k o (h.keep k o ho hn) (fun hx => hn (hs k o ho hx))⟩
theorem Ch.mono {S S' : Nat → Obj → Prop} {a b : World} (h : Ch S a b) (hs : ∀ k o, a.heap[k]? = some o → S k o → S' k o) : Ch S' a b :=
 ⟨h.os, h.tape, h.output, h.size, fun k o ho hn => h.keep k o ho (fun hx => hn (hs k o ho hx))⟩
theorem Ac {w : World} {k : Nat} {o : Obj} (h : w.heap[k]? = some o) : k < w.heap.size := (Array.getElem?_eq_some_iff.1 h).1
theorem Eg (w : World) (o : Obj) (k : Nat) (h : k < w.heap.size) : (w.alloc o).heap[k]? = w.heap[k]? := by
 show (w.heap.push o)[k]? = _
 rw [Array.getElem?_push, if_neg (by omega)]
theorem Ch.alloc {S : Nat → Obj → Prop} {a w : World} (h : Ch S a w) (o : Obj) : Ch S a (w.alloc o) :=
 h.trans ⟨rfl, rfl, rfl, by simp, fun k o' ho _ => by rw [Eg w o k (Ac ho)]; exact ho⟩
theorem Ch.drew {S : Nat → Obj → Prop} {a w : World} (h : Ch S a w) : Ch S a w.drew := ⟨h.os, h.tape, h.output, h.size, h.keep⟩
theorem Ch.drewN {S : Nat → Obj → Prop} {a w : World} (h : Ch S a w) (n : Nat) : Ch S a (w.drewN n) := ⟨h.os, h.tape, h.output, h.size, h.keep⟩
theorem Ch.setCell {S : Nat → Obj → Prop} {a w : World} (h : Ch S a w) {p : Addr} (hp : ∀ o, a.heap[p.block]? = some o → S p.block o) (u : Value) : Ch S a (w.setCell p u) :=
 h.trans' (S' := fun k _ => k = p.block) ⟨rfl, rfl, rfl, by simp [World.setCell], fun k o ho hn => by rw [heap_setCell_other w p k u hn]; exact ho⟩
  (fun k o ho e => by subst e; exact hp o ho)
theorem Ch.setNew {S : Nat → Obj → Prop} {a w : World} (h : Ch S a w) {p : Addr} (hp : a.heap.size ≤ p.block) (u : Value) : Ch S a (w.setCell p u) :=
 h.setCell (fun o ho => absurd (Ac ho) (by omega)) u
theorem Ch.grown {S : Nat → Obj → Prop} {a w w' : World} {row : Option Nat} (h : Ch S a w) (hg : w.grownBy w' row) (hr : ∀ k o, row = some k → a.heap[k]? = some o → S k o) : Ch S a w' :=
 h.trans' (S' := fun k _ => row = some k) ⟨hg.os, hg.tape, hg.output, hg.size, fun k o ho hn => by rw [hg.block k (Ac ho) (fun e => hn e.symm)]; exact ho⟩
  (fun k o ho e => hr k o e ho)
theorem Ch.below {S : Nat → Obj → Prop} {w w' : World} {B : Nat} (h : Ch S w w') (hS : ∀ k o, w.heap[k]? = some o → S k o → B ≤ k) (hB : B ≤ w.heap.size) : Below B w w' :=
 ⟨h.os, h.tape, h.output, h.size, fun k hk => by
  have hlt : k < w.heap.size := by omega
  have ho : w.heap[k]? = some w.heap[k] := Array.getElem?_eq_getElem hlt
  rw [ho]; exact h.keep k _ ho (fun hs => by have := hS k _ ho hs; omega)⟩
theorem Ab {w : World} {b : Nat} {cs : Array Value} {t : TypeId} {fz : Nat × Nat} (h : w.heap[b]? = some (.cells cs t fz)) (i : Nat) : w.cell? ⟨b, i, none⟩ = cs[i]? := by
 simp [World.cell?, h]
theorem Ad {w : World} {b : Nat} {cs : Array Value} {t : TypeId} (h : w.heap[b]? = some (.cells cs t (0, 0))) (i : Nat) : w.frozen? ⟨b, i, none⟩ = false := by
 simp [World.frozen?, h]
theorem Bh {w : World} {k : Nat} {o : Obj} (h : w.heap[k]? = some o) (o' : Obj) : (w.alloc o').heap[k]? = some o := by
 rw [Eg w o' k (Ac h)]; exact h
theorem Af {w : World} {g : Nat} {cs : Array Value} {t : TypeId} (h : w.heap[g]? = some (.cells cs t (0, 0))) (i : Nat) (v : Value) :
 (w.setCell ⟨g, i, none⟩ v).heap[g]? = some (.cells (cs.setIfInBounds i v) t (0, 0)) := by
 simp [World.setCell, Array.getElem?_modify, h]
theorem An {S : Nat → Obj → Prop} {w w' : World} {base : Nat} {e : TypeId} {size : Nat} {v : Value} {n : Nat} {xs : List Value} (h : w.ownsRow base e size v n xs)
 (hc : Ch S w w') (hS : ∀ g cur, v.ownBlock = some g → base ≤ g → w.heap[g]? = some (.cells cur e (0, 0)) → ¬ S g (.cells cur e (0, 0))) : w'.ownsRow base e size v n xs := by
 obtain ⟨h1, h2⟩ := h
 refine ⟨h1, ?_⟩
 rcases h2 with h2 | ⟨g, cap, cur, hv, hg, hh, r⟩
 {exact Or.inl h2}
 {exact Or.inr ⟨g, cap, cur, hv, hg, hc.keep g _ hh (hS g cur (by rw [hv]; rfl) hg hh), r⟩}
theorem O4 {H : Type} {P : Program} {k : TypeId} {R : Value → Option (DataW H × List MemPlace)} {S : Nat → Obj → Prop} {w w' : World} {b n : Nat} {D : DataW H} (h : w.ownsMap P k R b n D)
 (hc : Ch S w w') (hS : ∀ es clock, ¬ S b (.map es clock)) : w'.ownsMap P k R b n D := by
 obtain ⟨es, clock, hb, r⟩ := h
 exact ⟨es, clock, hc.keep b _ hb (hS es clock), r⟩
def RV (v : Value) : Option (DataW Value × List MemPlace) := some (.held v, [])
structure Wb (κ : Type) where
 val : κ → Value
 lit : κ → Lit
 inj : ∀ a b, lit a = lit b → a = b
def Bx : Wb ByteArray := ⟨.string, fun s => .string s.data.toList, fun a b h => by
 simp only [Lit.string.injEq] at h
 cases a; cases b; simp_all [Array.ext_iff]⟩
def A1 {κ : Type} (P : Program) (kt : TypeId) (E : Wb κ) (w : World) (mb n : Nat) (get : κ → Option Value) : Prop :=
 ∃ D, w.ownsMap P kt RV mb n D ∧ (∀ k : κ, keyOf P kt (E.val k) = some (E.lit k) → Go.Maps.has D (E.lit k) = (get k).isSome ∧ ∀ z, D.atKey (E.lit k) (.held z) = .held ((get k).getD z))
section
variable {κ : Type} {P : Program} {kt : TypeId} {E : Wb κ} {w : World} {mb n : Nat} {get : κ → Option Value}
theorem A1.ch {S : Nat → Obj → Prop} {w' : World} (h : A1 P kt E w mb n get) (hc : Ch S w w') (hS : ∀ es clock, ¬ S mb (.map es clock)) : A1 P kt E w' mb n get := by
 obtain ⟨D, h1, h2⟩ := h
 exact ⟨D, O4 h1 hc hS, h2⟩
theorem A1.mono {n' : Nat} (h : A1 P kt E w mb n get) (hn : n ≤ n') : A1 P kt E w mb n' get := by
 obtain ⟨D, h1, h2⟩ := h
 exact ⟨D, h1.mono hn, h2⟩
theorem A1.alloc (h : A1 P kt E w mb n get) (o : Obj) : A1 P kt E (w.alloc o) mb n get :=
 h.ch (S := No) ((Ch.refl _ _).alloc o) (fun _ _ h => h)
theorem A1.drew (h : A1 P kt E w mb n get) : A1 P kt E w.drew mb n get := h
theorem A1.made (P : Program) (kt : TypeId) (E : Wb κ) (w : World) : A1 P kt E (w.alloc (.map #[] 0)) w.heap.size 0 (fun _ => none) :=
 ⟨.map [], World.ownsMap_made _ _ _ _, fun _ _ => ⟨rfl, fun _ => rfl⟩⟩
theorem A1.isMap (h : A1 P kt E w mb n get) : ∃ es c, w.heap[mb]? = some (.map es c) := by
 obtain ⟨D, ⟨es, c, hb, _⟩, _⟩ := h
 exact ⟨es, c, hb⟩
theorem A1.store [DecidableEq κ] (h : A1 P kt E w mb n get) (K : Keyed P kt) {t e : TypeId} (ht : P.underlying t = some (.map kt e)) (hn : n < maxLen)
 {key : κ} (hkey : keyOf P kt (E.val key) = some (E.lit key)) (val : Value) :
 ∃ w', (Instr.mapUpdate t (.map (some mb)) (E.val key) val).run P w = .ok () w' ∧ A1 P kt E w' mb (n + 1) (fun l => if l = key then some val else get l) ∧ w.grownBy w' (some mb) := by
 obtain ⟨D, h1, h2⟩ := h
 obtain ⟨w', hr, h', hg⟩ := h1.update K ht hn hkey (val := val) (d := .held val) (ps := []) rfl
 refine ⟨w', hr, ⟨_, h', fun k hk => ?_⟩, hg⟩
 have hD : Go.Maps.IsMap D := (h1.tidy K).isMap
 by_cases hl : k = key
 {subst hl
  simp only [if_pos]
  exact ⟨Go.Maps.has_put_same hD (K.key hkey) _, fun z => Go.Maps.atKey_put_same hD (K.key hkey) _ _⟩}
 {have hl' : E.lit k ≠ E.lit key := fun e => hl (E.inj _ _ e)
  simp only [if_neg hl]
  exact ⟨(Go.Maps.has_put_other hl' _).trans (h2 k hk).1, fun z => (Go.Maps.atKey_put_other hl' _ _).trans ((h2 k hk).2 z)⟩}
theorem A1.look (h : A1 P kt E w mb n get) (K : Keyed P kt) {t e : TypeId} (ht : P.underlying t = some (.map kt e))
 {z : Value} (hz : (zeroValue e).run P w = .ok z w) {key : κ} (hkey : keyOf P kt (E.val key) = some (E.lit key)) :
 (Instr.lookup t (.map (some mb)) (E.val key) false).run P w = .ok ((get key).getD z) w := by
 obtain ⟨D, h1, h2⟩ := h
 obtain ⟨v, ps, hr, hv⟩ := h1.lookup K ht hz (zd := .held z) (zp := []) rfl hkey
 rw [hr]
 have := (h2 key hkey).2 z
 rw [this] at hv
 simp only [RV, Option.some.injEq, Prod.mk.injEq, DataW.held.injEq] at hv
 rw [hv.1]
theorem A1.lookOk (h : A1 P kt E w mb n get) (K : Keyed P kt) {t e : TypeId} (ht : P.underlying t = some (.map kt e))
 {z : Value} (hz : (zeroValue e).run P w = .ok z w) {key : κ} (hkey : keyOf P kt (E.val key) = some (E.lit key)) :
 (Instr.lookup t (.map (some mb)) (E.val key) true).run P w = .ok (.tuple #[(get key).getD z, .bool (get key).isSome]) w := by
 obtain ⟨D, h1, h2⟩ := h
 obtain ⟨v, ps, hr, hv⟩ := h1.look_ok K ht hz (zd := .held z) (zp := []) rfl hkey
 rw [hr]
 have := (h2 key hkey).2 z
 rw [this] at hv
 simp only [RV, Option.some.injEq, Prod.mk.injEq, DataW.held.injEq] at hv
 rw [hv.1, (h2 key hkey).1]
end
theorem E9 {α : Type} (f : α → List Value) (n : Nat) (hf : ∀ x, (f x).length = n) : ∀ (l : List α) (i j : Nat) (x : α), l[i]? = some x → j < n → (l.flatMap f)[i * n + j]? = (f x)[j]?
 | [], i, j, x, h, _ => by simp at h
 | y :: r, 0, j, x, h, hj => by
  simp only [List.getElem?_cons_zero, Option.some.injEq] at h
  subst h
  rw [List.flatMap_cons, List.getElem?_append_left (by rw [hf]; omega)]
  simp
 | y :: r, i + 1, j, x, h, hj => by
  simp only [List.getElem?_cons_succ] at h
  rw [List.flatMap_cons, List.getElem?_append_right (by rw [hf, Nat.succ_mul]; omega), hf, show (i + 1) * n + j - n = i * n + j from by rw [Nat.succ_mul]; omega]
  exact E9 f n hf r i j x h hj
theorem Hz {P : Program} {t : TypeId} {a s b : Nat} (h : (P.info? t).map (fun i => (i.zero.map (fun z => z.cells.size), i.size, i.bytes)) = some (some a, s, b)) :
 ∃ i z, P.info? t = some i ∧ i.zero = some z ∧ z.cells.size = a ∧ i.size = s ∧ i.bytes = b := by
 cases hi : P.info? t with
 | none => rw [hi] at h; cases h
 | some i =>
  rw [hi] at h
  simp only [Option.map_some, Option.some.injEq, Prod.mk.injEq, Option.map_eq_some_iff] at h
  obtain ⟨⟨z, hz, hc⟩, h2, h3⟩ := h
  exact ⟨i, z, rfl, hz, hc, h2, h3⟩
theorem Ix {w : World} {base : Nat} {e : TypeId} {size : Nat} {v : Value} {n : Nat} {xs : List Value} (h : w.ownsRow base e size v n xs) (hn : 0 < n) :
 ∃ g cap cur, v = .slice (some ⟨g, 0, none⟩) n cap ∧ base ≤ g ∧ w.heap[g]? = some (.cells cur e (0, 0)) ∧ n ≤ cap ∧ cap ≤ maxLen := by
 rcases h.2 with ⟨_, h2⟩ | ⟨g, cap, cur, h1, h2, h3, h4, h5, _⟩
 {omega}
 {exact ⟨g, cap, cur, h1, h2, h3, h4, h5⟩}
def B5 (w : World) (v : Value) (n : Nat) (css : List (List Value)) : Prop :=
 ∃ ao cap, v = .slice ao css.length cap ∧ css.length ≤ cap ∧ cap ≤ maxLen ∧ (∀ c ∈ css, c.length = n) ∧
  (0 < css.length → ∃ b off, ao = some ⟨b, off, none⟩ ∧ ∀ (i : Nat) (c : List Value), css[i]? = some c → ∀ j, j < n → w.cell? ⟨b, off + i * n + j, none⟩ = c[j]?)
theorem Ae {S : Nat → Obj → Prop} {w w' : World} {a : Addr} {v : Value} (h : w.cell? a = some v) (hc : Ch S w w') (hS : ∀ o, w.heap[a.block]? = some o → ¬ S a.block o) : w'.cell? a = some v := by
 have hlt := block_lt_of_cell h
 have ho : w.heap[a.block]? = some w.heap[a.block] := Array.getElem?_eq_getElem hlt
 rw [World.cell?_of_block (w := w) (by rw [ho]; exact hc.keep _ _ ho (hS _ ho))]
 exact h
theorem B5.no {w w' : World} {v : Value} {n : Nat} {css : List (List Value)} (h : B5 w v n css) (hc : Ch No w w') : B5 w' v n css := by
 obtain ⟨ao, cap, h1, h2, h3, h4, h5⟩ := h
 refine ⟨ao, cap, h1, h2, h3, h4, fun h0 => ?_⟩
 obtain ⟨b, off, h6, h7⟩ := h5 h0
 refine ⟨b, off, h6, fun i c hi j hj => ?_⟩
 have hl : c.length = n := h4 c (List.mem_of_getElem? hi)
 have e : c[j]? = some (c[j]'(by omega)) := List.getElem?_eq_getElem (by omega)
 have := h7 i c hi j hj
 rw [e] at this ⊢
 exact Ae this hc (fun _ _ h => h)
end Go.W
end
section
namespace Go.Proofs.YtgjpgfedlgdjhaaGreatDoor
open Go.RowKit Go.W
theorem s1 {α : Type _} {xs : List α} {i : Nat} (h : i < xs.toArray.size) : xs.toArray[i] = xs[i] := List.getElem_toArray h
theorem s2 {α : Type _} (a : α) (l : List α) (i : Nat) (h : i + 1 < (a :: l).length) : (a :: l)[i + 1] = l[i]'(Nat.lt_of_succ_lt_succ h) := List.getElem_cons_succ a l i h
theorem s3 {α : Type _} (a : α) (l : List α) (h : 0 < (a :: l).length) : (a :: l)[0] = a := List.getElem_cons_zero a l h
theorem s4 {α : Type _} (l : List α) (i : Nat) (a : α) : l.toArray.setIfInBounds i a = (l.set i a).toArray := List.setIfInBounds_toArray l i a
theorem s5 {α : Type _} {x : α} {xs : List α} {a : α} : (x :: xs).set 0 a = a :: xs := List.set_cons_zero
theorem s6 {α : Type _} {x : α} {xs : List α} {i : Nat} {a : α} : (x :: xs).set (i + 1) a = x :: xs.set i a := List.set_cons_succ
theorem tk {P : Program} {ops : Array Oper} {Q : Exit → Act → World → Prop} {md : Region.Mode} {S : World → Prop} (i : Nat) {oi : Oper} {v : Value} {fuel : Nat} {listed l' : Array Bool} {a a' : Act} {w : World} (hi : ops[i]? = some oi)
 (h : wpAnyH P md ops Q S fuel l' a' w)
 (hv : ∀ w, S w → Sem.run P (execOp a.eval oi) w = Result.ok (Next.value v) w := by (intro wz hSw; (try dsimp only at hSw); go_simp; try rfl))
 (hl : listed.setIfInBounds i true = l' := by ((try simp only [s1, s2, s3, s4, s5, s6]); rfl)) (ha : a.put oi.dst v = a' := by ((try simp only [Act.put, s1, s2, s3, s4, s5, s6]); rfl))
 (hs : Region.noSelect ops = true := by kernel_rfl) (hf : Region.free md ops listed i = true := by kernel_rfl) (hr : (Region.ready md ops listed).contains i = true := by kernel_rfl)
 (hQ : ∀ c a w, Q (Exit.panic c) (a.put oi.dst v) w → Q (Exit.panic c) a w := by exact fun _ _ _ h => h) (hw : Region.wanted oi (yielded ops a.tmps) = true := by kernel_rfl) (hS : S w := by assumption) : wpAnyH P md ops Q S (fuel + 1) listed a w :=
 wpAnyH_take hi hs hf hr hQ (Or.inl ⟨hw, hv⟩) hS (by rw [hl, ha]; exact h)
theorem tn {P : Program} {ops : Array Oper} {Q : Exit → Act → World → Prop} {md : Region.Mode} {S : World → Prop} (i : Nat) {oi : Oper} {fuel : Nat} {listed l' : Array Bool} {a a' : Act} {w : World} (hi : ops[i]? = some oi)
 (h : wpAnyH P md ops Q S fuel l' a' w)
 (hl : listed.setIfInBounds i true = l' := by ((try simp only [s1, s2, s3, s4, s5, s6]); rfl)) (ha : a.put oi.dst undef = a' := by ((try simp only [Act.put, s1, s2, s3, s4, s5, s6]); rfl))
 (hs : Region.noSelect ops = true := by kernel_rfl) (hf : Region.free md ops listed i = true := by kernel_rfl) (hr : (Region.ready md ops listed).contains i = true := by kernel_rfl)
 (hQ : ∀ c a w, Q (Exit.panic c) (a.put oi.dst undef) w → Q (Exit.panic c) a w := by exact fun _ _ _ h => h) (hw : Region.wanted oi (yielded ops a.tmps) = false := by kernel_rfl) (hS : S w := by assumption) : wpAnyH P md ops Q S (fuel + 1) listed a w :=
 wpAnyH_take hi hs hf hr hQ (Or.inr ⟨hw, rfl⟩) hS (by rw [hl, ha]; exact h)
theorem cZ {w : World} {b : Nat} {x0 x1 x2 x3 x4 x5 x6 x7 x8 x9 x10 x11 : Value} {t : TypeId} {fz : Nat × Nat} (h : w.heap[b]? = some (.cells #[x0, x1, x2, x3, x4, x5, x6, x7, x8, x9, x10, x11] t fz)) : w.cell? ⟨b, 0, none⟩ = some x0 ∧ w.cell? ⟨b, 1, none⟩ = some x1 ∧ w.cell? ⟨b, 2, none⟩ = some x2 ∧ w.cell? ⟨b, 3, none⟩ = some x3 ∧ w.cell? ⟨b, 4, none⟩ = some x4 ∧ w.cell? ⟨b, 5, none⟩ = some x5 ∧ w.cell? ⟨b, 6, none⟩ = some x6 ∧ w.cell? ⟨b, 7, none⟩ = some x7 ∧ w.cell? ⟨b, 8, none⟩ = some x8 ∧ w.cell? ⟨b, 9, none⟩ = some x9 ∧ w.cell? ⟨b, 10, none⟩ = some x10 ∧ w.cell? ⟨b, 11, none⟩ = some x11 := ⟨Ab h 0, Ab h 1, Ab h 2, Ab h 3, Ab h 4, Ab h 5, Ab h 6, Ab h 7, Ab h 8, Ab h 9, Ab h 10, Ab h 11⟩
theorem Ax {α : Sort _} (a : α) : ∃ b, a = b := ⟨_, rfl⟩
theorem G3 {P : Program} (fn : Fn) (first cap : Array Value) (w : World) : (Instr.makeFunc fn first cap).run P w = .ok (.func fn first cap) w := rfl
theorem gE {α : Type _} {l : List α} {i : Nat} (h : i < l.length) : ∃ x, l[i]? = some x := ⟨_, List.getElem?_eq_getElem h⟩
theorem gL {α : Type _} {l : List α} {i : Nat} {x : α} (h : l[i]? = some x) : i < l.length := (List.getElem?_eq_some_iff.1 h).1
theorem mG {α : Type _} {l : List α} {i : Nat} {x : α} (h : l[i]? = some x) : x ∈ l := List.mem_of_getElem? h
theorem Eb {w : World} {n x : Nat} (h : n ≤ x) : ∀ k (o : Obj), w.heap[k]? = some o → k = x → n ≤ k := fun _ _ _ e => e ▸ h
theorem Jg {t : ByteArray} (h : t.size + 2 ≤ maxLen) : (t ++ (⟨#[91, 93]⟩ : ByteArray)).size ≤ maxLen := by rw [ByteArray.size_append]; exact h
theorem A2 (w : World) (o : Obj) : ∃ wa, w.alloc o = wa ∧ wa.heap[w.heap.size]? = some o ∧ Ch No w wa := ⟨_, rfl, heap_alloc_new w o, (Ch.refl No w).alloc o⟩
theorem Bm {a b : Nat} (h : a ≠ b) : a = b → False := h
theorem lb {a b : Nat} (h : Nat.ble a b = true) : a ≤ b := Nat.le_of_ble_eq_true h
theorem S1 {w w' : World} {a0 a1 : Addr} {v0 v1 : Value} (h : w.cell? a0 = some v0 ∧ w.cell? a1 = some v1) (hc : Ch No w w') : w'.cell? a0 = some v0 ∧ w'.cell? a1 = some v1 := ⟨Ae h.1 hc (fun _ _ h => h), Ae h.2 hc (fun _ _ h => h)⟩
theorem ch3 {w w' : World} {a0 a1 a2 : Addr} {v0 v1 v2 : Value} (h : w.cell? a0 = some v0 ∧ w.cell? a1 = some v1 ∧ w.cell? a2 = some v2) (hc : Ch No w w') : w'.cell? a0 = some v0 ∧ w'.cell? a1 = some v1 ∧ w'.cell? a2 = some v2 := ⟨Ae h.1 hc (fun _ _ h => h), Ae h.2.1 hc (fun _ _ h => h), Ae h.2.2 hc (fun _ _ h => h)⟩
theorem F7 {w w' : World} {a0 a1 a2 a3 a4 a5 a6 a7 : Addr} {v0 v1 v2 v3 v4 v5 v6 v7 : Value} (h : w.cell? a0 = some v0 ∧ w.cell? a1 = some v1 ∧ w.cell? a2 = some v2 ∧ w.cell? a3 = some v3 ∧ w.cell? a4 = some v4 ∧ w.cell? a5 = some v5 ∧ w.cell? a6 = some v6 ∧ w.cell? a7 = some v7) (hc : Ch No w w') : w'.cell? a0 = some v0 ∧ w'.cell? a1 = some v1 ∧ w'.cell? a2 = some v2 ∧ w'.cell? a3 = some v3 ∧ w'.cell? a4 = some v4 ∧ w'.cell? a5 = some v5 ∧ w'.cell? a6 = some v6 ∧ w'.cell? a7 = some v7 := ⟨Ae h.1 hc (fun _ _ h => h), Ae h.2.1 hc (fun _ _ h => h), Ae h.2.2.1 hc (fun _ _ h => h), Ae h.2.2.2.1 hc (fun _ _ h => h), Ae h.2.2.2.2.1 hc (fun _ _ h => h), Ae h.2.2.2.2.2.1 hc (fun _ _ h => h), Ae h.2.2.2.2.2.2.1 hc (fun _ _ h => h), Ae h.2.2.2.2.2.2.2 hc (fun _ _ h => h)⟩
theorem Aa9 {w w' : World} {a0 a1 a2 a3 a4 a5 a6 a7 a8 a9 a10 : Addr} {v0 v1 v2 v3 v4 v5 v6 v7 v8 v9 v10 : Value} (h : w.cell? a0 = some v0 ∧ w.cell? a1 = some v1 ∧ w.cell? a2 = some v2 ∧ w.cell? a3 = some v3 ∧ w.cell? a4 = some v4 ∧ w.cell? a5 = some v5 ∧ w.cell? a6 = some v6 ∧ w.cell? a7 = some v7 ∧ w.cell? a8 = some v8 ∧ w.cell? a9 = some v9 ∧ w.cell? a10 = some v10) (hc : Ch No w w') : w'.cell? a0 = some v0 ∧ w'.cell? a1 = some v1 ∧ w'.cell? a2 = some v2 ∧ w'.cell? a3 = some v3 ∧ w'.cell? a4 = some v4 ∧ w'.cell? a5 = some v5 ∧ w'.cell? a6 = some v6 ∧ w'.cell? a7 = some v7 ∧ w'.cell? a8 = some v8 ∧ w'.cell? a9 = some v9 ∧ w'.cell? a10 = some v10 := ⟨Ae h.1 hc (fun _ _ h => h), Ae h.2.1 hc (fun _ _ h => h), Ae h.2.2.1 hc (fun _ _ h => h), Ae h.2.2.2.1 hc (fun _ _ h => h), Ae h.2.2.2.2.1 hc (fun _ _ h => h), Ae h.2.2.2.2.2.1 hc (fun _ _ h => h), Ae h.2.2.2.2.2.2.1 hc (fun _ _ h => h), Ae h.2.2.2.2.2.2.2.1 hc (fun _ _ h => h), Ae h.2.2.2.2.2.2.2.2.1 hc (fun _ _ h => h), Ae h.2.2.2.2.2.2.2.2.2.1 hc (fun _ _ h => h), Ae h.2.2.2.2.2.2.2.2.2.2 hc (fun _ _ h => h)⟩
theorem Kr {w w' : World} {a0 a1 a2 a3 a4 a5 a6 a7 a8 a9 a10 a11 a12 a13 a14 : Addr} {v0 v1 v2 v3 v4 v5 v6 v7 v8 v9 v10 v11 v12 v13 v14 : Value} (h : w.cell? a0 = some v0 ∧ w.cell? a1 = some v1 ∧ w.cell? a2 = some v2 ∧ w.cell? a3 = some v3 ∧ w.cell? a4 = some v4 ∧ w.cell? a5 = some v5 ∧ w.cell? a6 = some v6 ∧ w.cell? a7 = some v7 ∧ w.cell? a8 = some v8 ∧ w.cell? a9 = some v9 ∧ w.cell? a10 = some v10 ∧ w.cell? a11 = some v11 ∧ w.cell? a12 = some v12 ∧ w.cell? a13 = some v13 ∧ w.cell? a14 = some v14) (hc : Ch No w w') : w'.cell? a0 = some v0 ∧ w'.cell? a1 = some v1 ∧ w'.cell? a2 = some v2 ∧ w'.cell? a3 = some v3 ∧ w'.cell? a4 = some v4 ∧ w'.cell? a5 = some v5 ∧ w'.cell? a6 = some v6 ∧ w'.cell? a7 = some v7 ∧ w'.cell? a8 = some v8 ∧ w'.cell? a9 = some v9 ∧ w'.cell? a10 = some v10 ∧ w'.cell? a11 = some v11 ∧ w'.cell? a12 = some v12 ∧ w'.cell? a13 = some v13 ∧ w'.cell? a14 = some v14 := ⟨Ae h.1 hc (fun _ _ h => h), Ae h.2.1 hc (fun _ _ h => h), Ae h.2.2.1 hc (fun _ _ h => h), Ae h.2.2.2.1 hc (fun _ _ h => h), Ae h.2.2.2.2.1 hc (fun _ _ h => h), Ae h.2.2.2.2.2.1 hc (fun _ _ h => h), Ae h.2.2.2.2.2.2.1 hc (fun _ _ h => h), Ae h.2.2.2.2.2.2.2.1 hc (fun _ _ h => h), Ae h.2.2.2.2.2.2.2.2.1 hc (fun _ _ h => h), Ae h.2.2.2.2.2.2.2.2.2.1 hc (fun _ _ h => h), Ae h.2.2.2.2.2.2.2.2.2.2.1 hc (fun _ _ h => h), Ae h.2.2.2.2.2.2.2.2.2.2.2.1 hc (fun _ _ h => h), Ae h.2.2.2.2.2.2.2.2.2.2.2.2.1 hc (fun _ _ h => h), Ae h.2.2.2.2.2.2.2.2.2.2.2.2.2.1 hc (fun _ _ h => h), Ae h.2.2.2.2.2.2.2.2.2.2.2.2.2.2 hc (fun _ _ h => h)⟩
theorem dr2 {w : World} {a0 a1 : Addr} {v0 v1 : Value} (h : w.cell? a0 = some v0 ∧ w.cell? a1 = some v1) : w.drew.cell? a0 = some v0 ∧ w.drew.cell? a1 = some v1 := h
theorem dr3 {w : World} {a0 a1 a2 : Addr} {v0 v1 v2 : Value} (h : w.cell? a0 = some v0 ∧ w.cell? a1 = some v1 ∧ w.cell? a2 = some v2) : w.drew.cell? a0 = some v0 ∧ w.drew.cell? a1 = some v1 ∧ w.drew.cell? a2 = some v2 := h
theorem dr8 {w : World} {a0 a1 a2 a3 a4 a5 a6 a7 : Addr} {v0 v1 v2 v3 v4 v5 v6 v7 : Value} (h : w.cell? a0 = some v0 ∧ w.cell? a1 = some v1 ∧ w.cell? a2 = some v2 ∧ w.cell? a3 = some v3 ∧ w.cell? a4 = some v4 ∧ w.cell? a5 = some v5 ∧ w.cell? a6 = some v6 ∧ w.cell? a7 = some v7) : w.drew.cell? a0 = some v0 ∧ w.drew.cell? a1 = some v1 ∧ w.drew.cell? a2 = some v2 ∧ w.drew.cell? a3 = some v3 ∧ w.drew.cell? a4 = some v4 ∧ w.drew.cell? a5 = some v5 ∧ w.drew.cell? a6 = some v6 ∧ w.drew.cell? a7 = some v7 := h
theorem Wc {w : World} {a0 a1 a2 a3 a4 a5 a6 a7 a8 a9 : Addr} {v0 v1 v2 v3 v4 v5 v6 v7 v8 v9 : Value} (h : w.cell? a0 = some v0 ∧ w.cell? a1 = some v1 ∧ w.cell? a2 = some v2 ∧ w.cell? a3 = some v3 ∧ w.cell? a4 = some v4 ∧ w.cell? a5 = some v5 ∧ w.cell? a6 = some v6 ∧ w.cell? a7 = some v7 ∧ w.cell? a8 = some v8 ∧ w.cell? a9 = some v9) : w.drew.cell? a0 = some v0 ∧ w.drew.cell? a1 = some v1 ∧ w.drew.cell? a2 = some v2 ∧ w.drew.cell? a3 = some v3 ∧ w.drew.cell? a4 = some v4 ∧ w.drew.cell? a5 = some v5 ∧ w.drew.cell? a6 = some v6 ∧ w.drew.cell? a7 = some v7 ∧ w.drew.cell? a8 = some v8 ∧ w.drew.cell? a9 = some v9 := h
theorem O5 {w : World} {a0 a1 a2 a3 a4 a5 a6 a7 a8 a9 a10 a11 : Addr} {v0 v1 v2 v3 v4 v5 v6 v7 v8 v9 v10 v11 : Value} (h : w.cell? a0 = some v0 ∧ w.cell? a1 = some v1 ∧ w.cell? a2 = some v2 ∧ w.cell? a3 = some v3 ∧ w.cell? a4 = some v4 ∧ w.cell? a5 = some v5 ∧ w.cell? a6 = some v6 ∧ w.cell? a7 = some v7 ∧ w.cell? a8 = some v8 ∧ w.cell? a9 = some v9 ∧ w.cell? a10 = some v10 ∧ w.cell? a11 = some v11) : w.drew.cell? a0 = some v0 ∧ w.drew.cell? a1 = some v1 ∧ w.drew.cell? a2 = some v2 ∧ w.drew.cell? a3 = some v3 ∧ w.drew.cell? a4 = some v4 ∧ w.drew.cell? a5 = some v5 ∧ w.drew.cell? a6 = some v6 ∧ w.drew.cell? a7 = some v7 ∧ w.drew.cell? a8 = some v8 ∧ w.drew.cell? a9 = some v9 ∧ w.drew.cell? a10 = some v10 ∧ w.drew.cell? a11 = some v11 := h
theorem Co {w : World} {b : Nat} {cs : Array Value} {t : TypeId} {fz : Nat × Nat} (h : w.heap[b]? = some (.cells cs t fz)) : w.cell? ⟨b, 0, none⟩ = cs[0]? ∧ w.cell? ⟨b, 1, none⟩ = cs[1]? := ⟨Ab h 0, Ab h 1⟩
theorem Dy {w : World} {b : Nat} {cs : Array Value} {t : TypeId} {fz : Nat × Nat} (h : w.heap[b]? = some (.cells cs t fz)) : w.cell? ⟨b, 0, none⟩ = cs[0]? ∧ w.cell? ⟨b, 1, none⟩ = cs[1]? ∧ w.cell? ⟨b, 2, none⟩ = cs[2]? := ⟨Ab h 0, Ab h 1, Ab h 2⟩
theorem F9 {w : World} {b : Nat} {cs : Array Value} {t : TypeId} {fz : Nat × Nat} (h : w.heap[b]? = some (.cells cs t fz)) : w.cell? ⟨b, 0, none⟩ = cs[0]? ∧ w.cell? ⟨b, 1, none⟩ = cs[1]? ∧ w.cell? ⟨b, 2, none⟩ = cs[2]? ∧ w.cell? ⟨b, 3, none⟩ = cs[3]? := ⟨Ab h 0, Ab h 1, Ab h 2, Ab h 3⟩
theorem Dm {w : World} {b : Nat} {cs : Array Value} {t : TypeId} {fz : Nat × Nat} (h : w.heap[b]? = some (.cells cs t fz)) : w.cell? ⟨b, 0, none⟩ = cs[0]? ∧ w.cell? ⟨b, 1, none⟩ = cs[1]? ∧ w.cell? ⟨b, 2, none⟩ = cs[2]? ∧ w.cell? ⟨b, 3, none⟩ = cs[3]? ∧ w.cell? ⟨b, 4, none⟩ = cs[4]? ∧ w.cell? ⟨b, 5, none⟩ = cs[5]? := ⟨Ab h 0, Ab h 1, Ab h 2, Ab h 3, Ab h 4, Ab h 5⟩
theorem Y4 {w : World} {b : Nat} {cs : Array Value} {t : TypeId} {fz : Nat × Nat} (h : w.heap[b]? = some (.cells cs t fz)) : w.cell? ⟨b, 0, none⟩ = cs[0]? ∧ w.cell? ⟨b, 1, none⟩ = cs[1]? ∧ w.cell? ⟨b, 2, none⟩ = cs[2]? ∧ w.cell? ⟨b, 3, none⟩ = cs[3]? ∧ w.cell? ⟨b, 4, none⟩ = cs[4]? ∧ w.cell? ⟨b, 5, none⟩ = cs[5]? ∧ w.cell? ⟨b, 6, none⟩ = cs[6]? ∧ w.cell? ⟨b, 7, none⟩ = cs[7]? ∧ w.cell? ⟨b, 8, none⟩ = cs[8]? := ⟨Ab h 0, Ab h 1, Ab h 2, Ab h 3, Ab h 4, Ab h 5, Ab h 6, Ab h 7, Ab h 8⟩
theorem Cp {w : World} {b : Nat} {cs : Array Value} {t : TypeId} {fz : Nat × Nat} (h : w.heap[b]? = some (.cells cs t fz)) : w.cell? ⟨b, 0, none⟩ = cs[0]? ∧ w.cell? ⟨b, 1, none⟩ = cs[1]? ∧ w.cell? ⟨b, 2, none⟩ = cs[2]? ∧ w.cell? ⟨b, 3, none⟩ = cs[3]? ∧ w.cell? ⟨b, 4, none⟩ = cs[4]? ∧ w.cell? ⟨b, 5, none⟩ = cs[5]? ∧ w.cell? ⟨b, 6, none⟩ = cs[6]? ∧ w.cell? ⟨b, 7, none⟩ = cs[7]? ∧ w.cell? ⟨b, 8, none⟩ = cs[8]? ∧ w.cell? ⟨b, 9, none⟩ = cs[9]? := ⟨Ab h 0, Ab h 1, Ab h 2, Ab h 3, Ab h 4, Ab h 5, Ab h 6, Ab h 7, Ab h 8, Ab h 9⟩
theorem Ay {w : World} {b : Nat} {cs : Array Value} {t : TypeId} {fz : Nat × Nat} (h : w.heap[b]? = some (.cells cs t fz)) : w.cell? ⟨b, 0, none⟩ = cs[0]? ∧ w.cell? ⟨b, 1, none⟩ = cs[1]? ∧ w.cell? ⟨b, 2, none⟩ = cs[2]? ∧ w.cell? ⟨b, 3, none⟩ = cs[3]? ∧ w.cell? ⟨b, 4, none⟩ = cs[4]? ∧ w.cell? ⟨b, 5, none⟩ = cs[5]? ∧ w.cell? ⟨b, 6, none⟩ = cs[6]? ∧ w.cell? ⟨b, 7, none⟩ = cs[7]? ∧ w.cell? ⟨b, 8, none⟩ = cs[8]? ∧ w.cell? ⟨b, 9, none⟩ = cs[9]? ∧ w.cell? ⟨b, 10, none⟩ = cs[10]? ∧ w.cell? ⟨b, 11, none⟩ = cs[11]? := ⟨Ab h 0, Ab h 1, Ab h 2, Ab h 3, Ab h 4, Ab h 5, Ab h 6, Ab h 7, Ab h 8, Ab h 9, Ab h 10, Ab h 11⟩
theorem Lb {w : World} {b : Nat} {cs : Array Value} {t : TypeId} (h : w.heap[b]? = some (.cells cs t (0, 0))) : w.frozen? ⟨b, 0, none⟩ = false ∧ w.frozen? ⟨b, 1, none⟩ = false := ⟨Ad h 0, Ad h 1⟩
theorem I5 {w : World} {b : Nat} {cs : Array Value} {t : TypeId} (h : w.heap[b]? = some (.cells cs t (0, 0))) : w.frozen? ⟨b, 0, none⟩ = false ∧ w.frozen? ⟨b, 1, none⟩ = false ∧ w.frozen? ⟨b, 2, none⟩ = false := ⟨Ad h 0, Ad h 1, Ad h 2⟩
theorem Y5 {w : World} {b : Nat} {cs : Array Value} {t : TypeId} (h : w.heap[b]? = some (.cells cs t (0, 0))) : w.frozen? ⟨b, 0, none⟩ = false ∧ w.frozen? ⟨b, 1, none⟩ = false ∧ w.frozen? ⟨b, 2, none⟩ = false ∧ w.frozen? ⟨b, 3, none⟩ = false := ⟨Ad h 0, Ad h 1, Ad h 2, Ad h 3⟩
theorem M4 {w : World} {b : Nat} {cs : Array Value} {t : TypeId} (h : w.heap[b]? = some (.cells cs t (0, 0))) : w.frozen? ⟨b, 0, none⟩ = false ∧ w.frozen? ⟨b, 1, none⟩ = false ∧ w.frozen? ⟨b, 2, none⟩ = false ∧ w.frozen? ⟨b, 3, none⟩ = false ∧ w.frozen? ⟨b, 4, none⟩ = false ∧ w.frozen? ⟨b, 5, none⟩ = false := ⟨Ad h 0, Ad h 1, Ad h 2, Ad h 3, Ad h 4, Ad h 5⟩
theorem Y6 {w : World} {b : Nat} {cs : Array Value} {t : TypeId} (h : w.heap[b]? = some (.cells cs t (0, 0))) : w.frozen? ⟨b, 0, none⟩ = false ∧ w.frozen? ⟨b, 1, none⟩ = false ∧ w.frozen? ⟨b, 2, none⟩ = false ∧ w.frozen? ⟨b, 3, none⟩ = false ∧ w.frozen? ⟨b, 4, none⟩ = false ∧ w.frozen? ⟨b, 5, none⟩ = false ∧ w.frozen? ⟨b, 6, none⟩ = false ∧ w.frozen? ⟨b, 7, none⟩ = false ∧ w.frozen? ⟨b, 8, none⟩ = false ∧ w.frozen? ⟨b, 9, none⟩ = false := ⟨Ad h 0, Ad h 1, Ad h 2, Ad h 3, Ad h 4, Ad h 5, Ad h 6, Ad h 7, Ad h 8, Ad h 9⟩
theorem De {w : World} {b : Nat} {cs : Array Value} {t : TypeId} (h : w.heap[b]? = some (.cells cs t (0, 0))) : w.frozen? ⟨b, 0, none⟩ = false ∧ w.frozen? ⟨b, 1, none⟩ = false ∧ w.frozen? ⟨b, 2, none⟩ = false ∧ w.frozen? ⟨b, 3, none⟩ = false ∧ w.frozen? ⟨b, 4, none⟩ = false ∧ w.frozen? ⟨b, 5, none⟩ = false ∧ w.frozen? ⟨b, 6, none⟩ = false ∧ w.frozen? ⟨b, 7, none⟩ = false ∧ w.frozen? ⟨b, 8, none⟩ = false ∧ w.frozen? ⟨b, 9, none⟩ = false ∧ w.frozen? ⟨b, 10, none⟩ = false ∧ w.frozen? ⟨b, 11, none⟩ = false := ⟨Ad h 0, Ad h 1, Ad h 2, Ad h 3, Ad h 4, Ad h 5, Ad h 6, Ad h 7, Ad h 8, Ad h 9, Ad h 10, Ad h 11⟩
end Go.Proofs.YtgjpgfedlgdjhaaGreatDoor
end
