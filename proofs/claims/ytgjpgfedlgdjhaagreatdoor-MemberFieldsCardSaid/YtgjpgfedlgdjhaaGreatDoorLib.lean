/- General lemmas: the frame of a call, cells, maps whose elements are values, bits, lists of cells. -/
import Derived.WalkKit
import Derived.WalkLawsBesides
import Derived.WalkSpells
import Derived.BigQuiet
import Derived.Deep.QuietTactic
import Derived.Deep.RegionWith
import Derived.Deep.LoopGhost
import Derived.Deep.DeepMust
import Derived.Maps.OwnSet
set_option linter.unusedVariables false
set_option linter.unusedSimpArgs false
namespace Go.W
open Go.RowKit
open Go.Maps (Keyed)

theorem hid {p : Prop} (h : p) : Hid p := h

/-- the kind of a block: the type of its cells, or a map -/
def tag : Obj → Nat
  | .cells _ t _ => t + 1
  | .map _ _ => 0
  | _ => 1000000

/-- w' is w, but for the blocks that S lets change, and new ones -/
structure Ch (S : Nat → Obj → Prop) (w w' : World) : Prop where
  os : w'.os = w.os
  tape : w'.tape = w.tape
  output : w'.output = w.output
  size : w.heap.size ≤ w'.heap.size
  keep : ∀ k o, w.heap[k]? = some o → ¬ S k o → w'.heap[k]? = some o

/-- blocks from B on, of the kinds T -/
def Tg (B : Nat) (T : List Nat) : Nat → Obj → Prop := fun k o => B ≤ k ∧ tag o ∈ T
/-- nothing changes -/
def No : Nat → Obj → Prop := fun _ _ => False
/-- blocks from B on -/
def From (B : Nat) : Nat → Obj → Prop := fun k _ => B ≤ k

theorem Ch.refl (S : Nat → Obj → Prop) (w : World) : Ch S w w := ⟨rfl, rfl, rfl, Nat.le_refl _, fun _ _ h _ => h⟩

theorem Ch.trans {S : Nat → Obj → Prop} {a b c : World} (h : Ch S a b) (h' : Ch S b c) : Ch S a c :=
  ⟨h'.os.trans h.os, h'.tape.trans h.tape, h'.output.trans h.output, Nat.le_trans h.size h'.size, fun k o ho hs => h'.keep k o (h.keep k o ho hs) hs⟩

theorem Ch.trans' {S S' : Nat → Obj → Prop} {a b c : World} (h : Ch S a b) (h' : Ch S' b c) (hs : ∀ k o, a.heap[k]? = some o → S' k o → S k o) : Ch S a c :=
  ⟨h'.os.trans h.os, h'.tape.trans h.tape, h'.output.trans h.output, Nat.le_trans h.size h'.size, fun k o ho hn => h'.keep k o (h.keep k o ho hn) (fun hx => hn (hs k o ho hx))⟩

theorem Ch.mono {S S' : Nat → Obj → Prop} {a b : World} (h : Ch S a b) (hs : ∀ k o, a.heap[k]? = some o → S k o → S' k o) : Ch S' a b :=
  ⟨h.os, h.tape, h.output, h.size, fun k o ho hn => h.keep k o ho (fun hx => hn (hs k o ho hx))⟩

theorem lt_size {w : World} {k : Nat} {o : Obj} (h : w.heap[k]? = some o) : k < w.heap.size := (Array.getElem?_eq_some_iff.1 h).1

theorem heapAllocOld (w : World) (o : Obj) (k : Nat) (h : k < w.heap.size) : (w.alloc o).heap[k]? = w.heap[k]? := by
  show (w.heap.push o)[k]? = _
  rw [Array.getElem?_push, if_neg (by omega)]

theorem Ch.alloc {S : Nat → Obj → Prop} {a w : World} (h : Ch S a w) (o : Obj) : Ch S a (w.alloc o) :=
  h.trans ⟨rfl, rfl, rfl, by simp, fun k o' ho _ => by rw [heapAllocOld w o k (lt_size ho)]; exact ho⟩

theorem Ch.drew {S : Nat → Obj → Prop} {a w : World} (h : Ch S a w) : Ch S a w.drew := ⟨h.os, h.tape, h.output, h.size, h.keep⟩
theorem Ch.drewN {S : Nat → Obj → Prop} {a w : World} (h : Ch S a w) (n : Nat) : Ch S a (w.drewN n) := ⟨h.os, h.tape, h.output, h.size, h.keep⟩

theorem Ch.setCell {S : Nat → Obj → Prop} {a w : World} (h : Ch S a w) {p : Addr} (hp : ∀ o, a.heap[p.block]? = some o → S p.block o) (u : Value) : Ch S a (w.setCell p u) :=
  h.trans' (S' := fun k _ => k = p.block) ⟨rfl, rfl, rfl, by simp [World.setCell], fun k o ho hn => by rw [heap_setCell_other w p k u hn]; exact ho⟩
    (fun k o ho e => by subst e; exact hp o ho)

/-- a store into a block that is new since a -/
theorem Ch.setNew {S : Nat → Obj → Prop} {a w : World} (h : Ch S a w) {p : Addr} (hp : a.heap.size ≤ p.block) (u : Value) : Ch S a (w.setCell p u) :=
  h.setCell (fun o ho => absurd (lt_size ho) (by omega)) u

theorem Ch.grown {S : Nat → Obj → Prop} {a w w' : World} {row : Option Nat} (h : Ch S a w) (hg : w.grownBy w' row) (hr : ∀ k o, row = some k → a.heap[k]? = some o → S k o) : Ch S a w' :=
  h.trans' (S' := fun k _ => row = some k) ⟨hg.os, hg.tape, hg.output, hg.size, fun k o ho hn => by rw [hg.block k (lt_size ho) (fun e => hn e.symm)]; exact ho⟩
    (fun k o ho e => hr k o e ho)

theorem Ch.below {S : Nat → Obj → Prop} {w w' : World} {B : Nat} (h : Ch S w w') (hS : ∀ k o, w.heap[k]? = some o → S k o → B ≤ k) (hB : B ≤ w.heap.size) : Below B w w' :=
  ⟨h.os, h.tape, h.output, h.size, fun k hk => by
    have hlt : k < w.heap.size := by omega
    have ho : w.heap[k]? = some w.heap[k] := Array.getElem?_eq_getElem hlt
    rw [ho]; exact h.keep k _ ho (fun hs => by have := hS k _ ho hs; omega)⟩

theorem Ch.of_below {S : Nat → Obj → Prop} {w w' : World} (h : Below w.heap.size w w') : Ch S w w' :=
  ⟨h.os, h.tape, h.output, h.size, fun k o ho _ => by rw [h.block k (lt_size ho)]; exact ho⟩

theorem cellAt {w : World} {b : Nat} {cs : Array Value} {t : TypeId} {fz : Nat × Nat} (h : w.heap[b]? = some (.cells cs t fz)) (i : Nat) : w.cell? ⟨b, i, none⟩ = cs[i]? := by
  simp [World.cell?, h]
theorem freeAt {w : World} {b : Nat} {cs : Array Value} {t : TypeId} (h : w.heap[b]? = some (.cells cs t (0, 0))) (i : Nat) : w.frozen? ⟨b, i, none⟩ = false := by
  simp [World.frozen?, h]

theorem cellOld {w : World} {a : Addr} {v : Value} (h : w.cell? a = some v) (o : Obj) : (w.alloc o).cell? a = some v := by
  rw [World.cell?_alloc_lt _ _ _ (block_lt_of_cell h)]; exact h

theorem heapOld {w : World} {k : Nat} {o : Obj} (h : w.heap[k]? = some o) (o' : Obj) : (w.alloc o').heap[k]? = some o := by
  rw [heapAllocOld w o' k (lt_size h)]; exact h

theorem setCell_heap {w : World} {g : Nat} {cs : Array Value} {t : TypeId} (h : w.heap[g]? = some (.cells cs t (0, 0))) (i : Nat) (v : Value) :
    (w.setCell ⟨g, i, none⟩ v).heap[g]? = some (.cells (cs.setIfInBounds i v) t (0, 0)) := by
  simp [World.setCell, Array.getElem?_modify, h]

theorem ownsRow_ch {S : Nat → Obj → Prop} {w w' : World} {base : Nat} {e : TypeId} {size : Nat} {v : Value} {n : Nat} {xs : List Value} (h : w.ownsRow base e size v n xs)
    (hc : Ch S w w') (hS : ∀ g cur, v.ownBlock = some g → base ≤ g → w.heap[g]? = some (.cells cur e (0, 0)) → ¬ S g (.cells cur e (0, 0))) : w'.ownsRow base e size v n xs := by
  obtain ⟨h1, h2⟩ := h
  refine ⟨h1, ?_⟩
  rcases h2 with h2 | ⟨g, cap, cur, hv, hg, hh, r⟩
  · exact Or.inl h2
  · exact Or.inr ⟨g, cap, cur, hv, hg, hc.keep g _ hh (hS g cur (by rw [hv]; rfl) hg hh), r⟩

theorem ownsMap_ch {H : Type} {P : Program} {k : TypeId} {R : Value → Option (DataW H × List MemPlace)} {S : Nat → Obj → Prop} {w w' : World} {b n : Nat} {D : DataW H} (h : w.ownsMap P k R b n D)
    (hc : Ch S w w') (hS : ∀ es clock, ¬ S b (.map es clock)) : w'.ownsMap P k R b n D := by
  obtain ⟨es, clock, hb, r⟩ := h
  exact ⟨es, clock, hc.keep b _ hb (hS es clock), r⟩

/-! maps whose elements are values -/
/-- the elements' reader: the value itself -/
def RV (v : Value) : Option (DataW Value × List MemPlace) := some (.held v, [])

/-- keys: as values, as literals -/
structure KEnc (κ : Type) where
  val : κ → Value
  lit : κ → Lit
  inj : ∀ a b, lit a = lit b → a = b
def intK : KEnc Int := ⟨.int .i64, .int .i64, fun _ _ h => by cases h; rfl⟩
def strK : KEnc ByteArray := ⟨.string, fun s => .string s.data.toList, fun a b h => by
  simp only [Lit.string.injEq] at h
  cases a; cases b; simp_all [Array.ext_iff]⟩

/-- block mb is a map of at most n entries: at the key k stands the value (get k); none: there is no entry -/
def MapIs {κ : Type} (P : Program) (kt : TypeId) (E : KEnc κ) (w : World) (mb n : Nat) (get : κ → Option Value) : Prop :=
  ∃ D, w.ownsMap P kt RV mb n D ∧ (∀ k : κ, keyOf P kt (E.val k) = some (E.lit k) → Go.Maps.has D (E.lit k) = (get k).isSome ∧ ∀ z, D.atKey (E.lit k) (.held z) = .held ((get k).getD z))

section
variable {κ : Type} {P : Program} {kt : TypeId} {E : KEnc κ} {w : World} {mb n : Nat} {get : κ → Option Value}

theorem MapIs.ch {S : Nat → Obj → Prop} {w' : World} (h : MapIs P kt E w mb n get) (hc : Ch S w w') (hS : ∀ es clock, ¬ S mb (.map es clock)) : MapIs P kt E w' mb n get := by
  obtain ⟨D, h1, h2⟩ := h
  exact ⟨D, ownsMap_ch h1 hc hS, h2⟩

theorem MapIs.mono {n' : Nat} (h : MapIs P kt E w mb n get) (hn : n ≤ n') : MapIs P kt E w mb n' get := by
  obtain ⟨D, h1, h2⟩ := h
  exact ⟨D, h1.mono hn, h2⟩

theorem MapIs.alloc (h : MapIs P kt E w mb n get) (o : Obj) : MapIs P kt E (w.alloc o) mb n get :=
  h.ch (S := No) ((Ch.refl _ _).alloc o) (fun _ _ h => h)
theorem MapIs.drew (h : MapIs P kt E w mb n get) : MapIs P kt E w.drew mb n get := h

theorem MapIs.made (P : Program) (kt : TypeId) (E : KEnc κ) (w : World) : MapIs P kt E (w.alloc (.map #[] 0)) w.heap.size 0 (fun _ => none) :=
  ⟨.map [], World.ownsMap_made _ _ _ _, fun _ _ => ⟨rfl, fun _ => rfl⟩⟩

theorem MapIs.isMap (h : MapIs P kt E w mb n get) : ∃ es c, w.heap[mb]? = some (.map es c) := by
  obtain ⟨D, ⟨es, c, hb, _⟩, _⟩ := h
  exact ⟨es, c, hb⟩

theorem MapIs.store [DecidableEq κ] (h : MapIs P kt E w mb n get) (K : Keyed P kt) {t e : TypeId} (ht : P.underlying t = some (.map kt e)) (hn : n < maxLen)
    {key : κ} (hkey : keyOf P kt (E.val key) = some (E.lit key)) (val : Value) :
    ∃ w', (Instr.mapUpdate t (.map (some mb)) (E.val key) val).run P w = .ok () w' ∧ MapIs P kt E w' mb (n + 1) (fun l => if l = key then some val else get l) ∧ w.grownBy w' (some mb) := by
  obtain ⟨D, h1, h2⟩ := h
  obtain ⟨w', hr, h', hg⟩ := h1.update K ht hn hkey (val := val) (d := .held val) (ps := []) rfl
  refine ⟨w', hr, ⟨_, h', fun k hk => ?_⟩, hg⟩
  have hD : Go.Maps.IsMap D := (h1.tidy K).isMap
  by_cases hl : k = key
  · subst hl
    simp only [if_pos]
    exact ⟨Go.Maps.has_put_same hD (K.key hkey) _, fun z => Go.Maps.atKey_put_same hD (K.key hkey) _ _⟩
  · have hl' : E.lit k ≠ E.lit key := fun e => hl (E.inj _ _ e)
    simp only [if_neg hl]
    exact ⟨(Go.Maps.has_put_other hl' _).trans (h2 k hk).1, fun z => (Go.Maps.atKey_put_other hl' _ _).trans ((h2 k hk).2 z)⟩

theorem MapIs.look (h : MapIs P kt E w mb n get) (K : Keyed P kt) {t e : TypeId} (ht : P.underlying t = some (.map kt e))
    {z : Value} (hz : (zeroValue e).run P w = .ok z w) {key : κ} (hkey : keyOf P kt (E.val key) = some (E.lit key)) :
    (Instr.lookup t (.map (some mb)) (E.val key) false).run P w = .ok ((get key).getD z) w := by
  obtain ⟨D, h1, h2⟩ := h
  obtain ⟨v, ps, hr, hv⟩ := h1.lookup K ht hz (zd := .held z) (zp := []) rfl hkey
  rw [hr]
  have := (h2 key hkey).2 z
  rw [this] at hv
  simp only [RV, Option.some.injEq, Prod.mk.injEq, DataW.held.injEq] at hv
  rw [hv.1]

theorem MapIs.lookOk (h : MapIs P kt E w mb n get) (K : Keyed P kt) {t e : TypeId} (ht : P.underlying t = some (.map kt e))
    {z : Value} (hz : (zeroValue e).run P w = .ok z w) {key : κ} (hkey : keyOf P kt (E.val key) = some (E.lit key)) :
    (Instr.lookup t (.map (some mb)) (E.val key) true).run P w = .ok (.tuple #[(get key).getD z, .bool (get key).isSome]) w := by
  obtain ⟨D, h1, h2⟩ := h
  obtain ⟨v, ps, hr, hv⟩ := h1.look_ok K ht hz (zd := .held z) (zp := []) rfl hkey
  rw [hr]
  have := (h2 key hkey).2 z
  rw [this] at hv
  simp only [RV, Option.some.injEq, Prod.mk.injEq, DataW.held.injEq] at hv
  rw [hv.1, (h2 key hkey).1]
end

/-! bits -/
theorem and3 (i : Int) : bits .and .i64 i 3 = i % 4 := by
  have e : (BitVec.ofInt 64 i &&& BitVec.ofInt 64 3).toNat = (i % 18446744073709551616).toNat % 4 := by
    rw [BitVec.toNat_and, BitVec.toNat_ofInt, BitVec.toNat_ofInt]
    exact Nat.and_two_pow_sub_one_eq_mod _ 2
  show IntKind.i64.wrap ((BitVec.ofInt 64 i &&& BitVec.ofInt 64 3).toNat : Int) = _
  rw [e, IntKind.wrap_i64]
  omega
theorem wrapMod (z x : Nat) (h : z % 4 = x % 4) : ((z : Int) + 9223372036854775808) % 18446744073709551616 - 9223372036854775808 ≤ 9223372036854775807 ∧ -9223372036854775808 ≤ ((z : Int) + 9223372036854775808) % 18446744073709551616 - 9223372036854775808 ∧
   (((z : Int) + 9223372036854775808) % 18446744073709551616 - 9223372036854775808) % 4 = x % 4 := by omega
theorem toNatInt (c : Nat) (hc2 : c < 18446744073709551616) : (BitVec.ofInt 64 (c : Int)).toNat = c := by
  rw [BitVec.toNat_ofInt]
  have : ((2 ^ 64 : Nat) : Int) = 18446744073709551616 := by decide
  rw [this]
  omega
theorem xorEq (i : Int) (c : Nat) (hc2 : c < 18446744073709551616) : bits .xor .i64 i c = IntKind.i64.wrap (((BitVec.ofInt 64 i).toNat ^^^ c : Nat) : Int) := by
  have e : (BitVec.ofInt 64 i ^^^ BitVec.ofInt 64 c).toNat = (BitVec.ofInt 64 i).toNat ^^^ c := by
    rw [BitVec.toNat_xor, toNatInt c hc2]
  show IntKind.i64.wrap ((BitVec.ofInt 64 i ^^^ BitVec.ofInt 64 c).toNat : Int) = _
  rw [e]
theorem ofIntMod (i : Int) : ((BitVec.ofInt 64 i).toNat : Int) % 4 = i % 4 := by
  have e0 : ((BitVec.ofInt 64 i).toNat : Int) = i % 18446744073709551616 := by
    rw [BitVec.toNat_ofInt]
    have : ((2 ^ 64 : Nat) : Int) = 18446744073709551616 := by decide
    rw [this]
    omega
  rw [e0]
  omega
theorem xorMod4 (x c : Nat) (hc : c % 4 = 0) : (x ^^^ c) % 4 = x % 4 := by
  have := @Nat.xor_mod_two_pow x c 2
  rw [show (2:Nat)^2 = 4 from rfl] at this
  rw [this, hc, Nat.xor_zero]
theorem xorMod (i : Int) (c : Nat) (hc : c % 4 = 0) (hc2 : c < 18446744073709551616) : bits .xor .i64 i c ≤ 9223372036854775807 ∧ -9223372036854775808 ≤ bits .xor .i64 i c ∧ bits .xor .i64 i c % 4 = i % 4 := by
  rw [xorEq i c hc2, IntKind.wrap_i64]
  obtain ⟨a, b, d⟩ := wrapMod _ _ (xorMod4 (BitVec.ofInt 64 i).toNat c hc)
  exact ⟨a, b, d.trans (ofIntMod i)⟩
theorem tmod4 (i : Int) : i.tmod 4 = i % 4 ∨ (i.tmod 4 + 4 = i % 4 ∧ i.tmod 4 < 0 ∧ -4 < i.tmod 4) ∧ ¬ 0 ≤ i.tmod 4 := by
  by_cases h : 0 ≤ i
  · exact .inl (Int.tmod_eq_emod_of_nonneg h)
  · by_cases h4 : (4 : Int) ∣ i
    · left
      rw [Int.tmod_eq_emod, if_pos (.inr h4)]; simp
    · right
      have e := Int.tmod_eq_emod (a := i) (b := 4)
      rw [if_neg (by intro hh; rcases hh with h1 | h1 <;> contradiction)] at e
      have := Int.emod_nonneg i (b := 4) (by omega)
      have := Int.emod_lt_of_pos i (b := 4) (by omega)
      have : i % 4 ≠ 0 := fun hh => h4 (Int.dvd_of_emod_eq_zero hh)
      have e4 : ((Int.natAbs 4 : Nat) : Int) = 4 := rfl
      rw [e4] at e
      omega

/-! lists of cells -/
theorem flat_length {α : Type} (f : α → List Value) (n : Nat) (hf : ∀ x, (f x).length = n) : ∀ l : List α, (l.flatMap f).length = l.length * n
  | [] => by simp
  | x :: r => by rw [List.flatMap_cons, List.length_append, hf, flat_length f n hf r, List.length_cons, Nat.succ_mul]; omega

theorem flat_get {α : Type} (f : α → List Value) (n : Nat) (hf : ∀ x, (f x).length = n) : ∀ (l : List α) (i j : Nat) (x : α), l[i]? = some x → j < n → (l.flatMap f)[i * n + j]? = (f x)[j]?
  | [], i, j, x, h, _ => by simp at h
  | y :: r, 0, j, x, h, hj => by
    simp only [List.getElem?_cons_zero, Option.some.injEq] at h
    subst h
    rw [List.flatMap_cons, List.getElem?_append_left (by rw [hf]; omega)]
    simp
  | y :: r, i + 1, j, x, h, hj => by
    simp only [List.getElem?_cons_succ] at h
    rw [List.flatMap_cons, List.getElem?_append_right (by rw [hf, Nat.succ_mul]; omega), hf, show (i + 1) * n + j - n = i * n + j from by rw [Nat.succ_mul]; omega]
    exact flat_get f n hf r i j x h hj

theorem flat_set {α : Type} (f : α → List Value) (n : Nat) (hf : ∀ x, (f x).length = n) : ∀ (l : List α) (i j : Nat) (x y : α) (v : Value), l[i]? = some x → j < n → f y = (f x).set j v → (l.flatMap f).set (i * n + j) v = (l.set i y).flatMap f
  | [], i, j, x, _, _, h, _, _ => by simp at h
  | z :: r, 0, j, x, y, v, h, hj, hy => by
    simp only [List.getElem?_cons_zero, Option.some.injEq] at h
    subst h
    rw [List.flatMap_cons, List.set_cons_zero, List.flatMap_cons, hy, List.set_append, if_pos (by rw [hf]; omega)]
    simp
  | z :: r, i + 1, j, x, y, v, h, hj, hy => by
    simp only [List.getElem?_cons_succ] at h
    rw [List.flatMap_cons, List.set_cons_succ, List.flatMap_cons, List.set_append, if_neg (by rw [hf, Nat.succ_mul]; omega), hf, show (i + 1) * n + j - n = i * n + j from by rw [Nat.succ_mul]; omega,
      flat_set f n hf r i j x y v h hj hy]


theorem modify_get {α : Type} (f : α → α) (l : List α) (i j : Nat) : (l.modify i f)[j]? = if i = j then l[j]?.map f else l[j]? := by
  rw [List.getElem?_modify]
  by_cases h : i = j <;> cases l[j]? <;> simp [h]

theorem flat_modify {α : Type} (f : α → List Value) (g : α → α) (hg : ∀ x, f (g x) = f x) : ∀ (l : List α) (i : Nat), (l.modify i g).flatMap f = l.flatMap f
  | [], i => by cases i <;> rfl
  | x :: r, 0 => by simp [List.modify, hg]
  | x :: r, i + 1 => by simp [flat_modify f g hg r i]

theorem modify_set {α : Type} (f : α → α) : ∀ (l : List α) (i : Nat) (x : α), l[i]? = some x → l.modify i f = l.set i (f x)
  | [], i, x, h => by simp at h
  | y :: r, 0, x, h => by simp at h; subst h; rfl
  | y :: r, i + 1, x, h => by
    simp only [List.getElem?_cons_succ] at h
    simp [modify_set f r i x h]


theorem infoOf {P : Program} {t : TypeId} {a s b : Nat} (h : (P.info? t).map (fun i => (i.zero.map (fun z => z.cells.size), i.size, i.bytes)) = some (some a, s, b)) :
    ∃ i z, P.info? t = some i ∧ i.zero = some z ∧ z.cells.size = a ∧ i.size = s ∧ i.bytes = b := by
  cases hi : P.info? t with
  | none => rw [hi] at h; cases h
  | some i =>
    rw [hi] at h
    simp only [Option.map_some, Option.some.injEq, Prod.mk.injEq, Option.map_eq_some_iff] at h
    obtain ⟨⟨z, hz, hc⟩, h2, h3⟩ := h
    exact ⟨i, z, rfl, hz, hc, h2, h3⟩

theorem ownsRow_pos {w : World} {base : Nat} {e : TypeId} {size : Nat} {v : Value} {n : Nat} {xs : List Value} (h : w.ownsRow base e size v n xs) (hn : 0 < n) :
    ∃ g cap cur, v = .slice (some ⟨g, 0, none⟩) n cap ∧ base ≤ g ∧ w.heap[g]? = some (.cells cur e (0, 0)) ∧ n ≤ cap ∧ cap ≤ maxLen := by
  rcases h.2 with ⟨_, h2⟩ | ⟨g, cap, cur, h1, h2, h3, h4, h5, _⟩
  · omega
  · exact ⟨g, cap, cur, h1, h2, h3, h4, h5⟩


/-- v is a slice whose elements, of n cells each, are css -/
def RowAt (w : World) (v : Value) (n : Nat) (css : List (List Value)) : Prop :=
  ∃ ao cap, v = .slice ao css.length cap ∧ css.length ≤ cap ∧ cap ≤ maxLen ∧ (∀ c ∈ css, c.length = n) ∧
    (0 < css.length → ∃ b off, ao = some ⟨b, off, none⟩ ∧ ∀ (i : Nat) (c : List Value), css[i]? = some c → ∀ j, j < n → w.cell? ⟨b, off + i * n + j, none⟩ = c[j]?)

theorem cell_ch {S : Nat → Obj → Prop} {w w' : World} {a : Addr} {v : Value} (h : w.cell? a = some v) (hc : Ch S w w') (hS : ∀ o, w.heap[a.block]? = some o → ¬ S a.block o) : w'.cell? a = some v := by
  have hlt := block_lt_of_cell h
  have ho : w.heap[a.block]? = some w.heap[a.block] := Array.getElem?_eq_getElem hlt
  rw [World.cell?_of_block (w := w) (by rw [ho]; exact hc.keep _ _ ho (hS _ ho))]
  exact h

theorem RowAt.no {w w' : World} {v : Value} {n : Nat} {css : List (List Value)} (h : RowAt w v n css) (hc : Ch No w w') : RowAt w' v n css := by
  obtain ⟨ao, cap, h1, h2, h3, h4, h5⟩ := h
  refine ⟨ao, cap, h1, h2, h3, h4, fun h0 => ?_⟩
  obtain ⟨b, off, h6, h7⟩ := h5 h0
  refine ⟨b, off, h6, fun i c hi j hj => ?_⟩
  have hl : c.length = n := h4 c (List.mem_of_getElem? hi)
  have e : c[j]? = some (c[j]'(by omega)) := List.getElem?_eq_getElem (by omega)
  have := h7 i c hi j hj
  rw [e] at this ⊢
  exact cell_ch this hc (fun _ _ h => h)

theorem exists_map {α β : Type} (f : α → β) (Q : α → Prop) : ∀ l : List β, (∀ c ∈ l, ∃ x, c = f x ∧ Q x) → ∃ xs : List α, l = xs.map f ∧ ∀ x ∈ xs, Q x
  | [], _ => ⟨[], rfl, by simp⟩
  | c :: r, h => by
    obtain ⟨x, hx, hq⟩ := h c (by simp)
    obtain ⟨xs, hxs, hqs⟩ := exists_map f Q r (fun c' hc' => h c' (by simp [hc']))
    refine ⟨x :: xs, by rw [hx, hxs]; rfl, fun y hy => ?_⟩
    rcases List.mem_cons.1 hy with rfl | hy
    · exact hq
    · exact hqs y hy

end Go.W
