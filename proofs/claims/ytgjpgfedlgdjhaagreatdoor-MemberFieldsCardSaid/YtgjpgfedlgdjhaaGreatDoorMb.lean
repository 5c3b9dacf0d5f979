/- Laid together: Ma Mb. -/
import Derived.Test.YtgjpgfedlgdjhaaGreatDoorPk
section
/- Members in memory: fields, statics, methods; the general fixed point along what stands right above. -/
set_option linter.unusedVariables false
set_option linter.unusedSimpArgs false
namespace Go.Proofs.YtgjpgfedlgdjhaaGreatDoor
open Go.RowKit Go.W

/-- a field, a static, a parameter -/
structure Vr where
  ty : ByteArray
  nm : ByteArray
  line : Int
  col : Int
def Vr.cells (x : Vr) : List Value := [.string x.ty, .string x.nm, .int .i64 x.line, .int .i64 x.col]
def VarsAt (w : World) (v : Value) (l : List Vr) : Prop := RowAt w v 4 (l.map Vr.cells)
theorem VarsAt.no {w w' : World} {v : Value} {l : List Vr} (h : VarsAt w v l) (hc : Ch No w w') : VarsAt w' v l := RowAt.no h hc

/-- a method -/
structure Mt where
  ret : ByteArray
  nm : ByteArray
  st : Bool
  ba : Bool
  ps : List Vr
  pa : Option Addr
  pc : Nat
  s5 : Option Addr × Nat × Nat
  s6 : Option Addr × Nat × Nat
  line : Int
  col : Int
def Mt.cells (m : Mt) : List Value := [.string m.ret, .string m.nm, .bool m.st, .bool m.ba, .slice m.pa m.ps.length m.pc, .slice m.s5.1 m.s5.2.1 m.s5.2.2, .slice m.s6.1 m.s6.2.1 m.s6.2.2, .int .i64 m.line, .int .i64 m.col]
structure MtsAt (w : World) (v : Value) (l : List Mt) : Prop where
  row : RowAt w v 9 (l.map Mt.cells)
  ps : ∀ m ∈ l, VarsAt w (.slice m.pa m.ps.length m.pc) m.ps
theorem MtsAt.no {w w' : World} {v : Value} {l : List Mt} (h : MtsAt w v l) (hc : Ch No w w') : MtsAt w' v l := ⟨h.row.no hc, fun m hm => (h.ps m hm).no hc⟩

/-- what a class tells itself -/
structure Mem where
  fs : List Vr
  ss : List Vr
  ms : List Mt
structure MemAt (w : World) (c : Cls) (m : Mem) : Prop where
  fs : VarsAt w (.slice c.s4.1 c.s4.2.1 c.s4.2.2) m.fs
  ss : VarsAt w (.slice c.s5.1 c.s5.2.1 c.s5.2.2) m.ss
  ms : MtsAt w (.slice c.s6.1 c.s6.2.1 c.s6.2.2) m.ms
theorem MemAt.no {w w' : World} {c : Cls} {m : Mem} (h : MemAt w c m) (hc : Ch No w w') : MemAt w' c m := ⟨h.fs.no hc, h.ss.no hc, h.ms.no hc⟩
/-- what the classes tell -/
structure MemsAt (w : World) (cs : List Cls) (ms : List Mem) : Prop where
  len : ms.length = cs.length
  at_ : ∀ (i : Nat) (c : Cls) (m : Mem), cs[i]? = some c → ms[i]? = some m → MemAt w c m
theorem MemsAt.no {w w' : World} {cs : List Cls} {ms : List Mem} (h : MemsAt w cs ms) (hc : Ch No w w') : MemsAt w' cs ms := ⟨h.len, fun i c m h1 h2 => (h.at_ i c m h1 h2).no hc⟩
theorem MemsAt.get {w : World} {cs : List Cls} {ms : List Mem} (h : MemsAt w cs ms) {i : Nat} {c : Cls} (hc : cs[i]? = some c) : ∃ m, ms[i]? = some m ∧ MemAt w c m := by
  have hi := (List.getElem?_eq_some_iff.1 hc).1
  obtain ⟨m, hm⟩ : ∃ m, ms[i]? = some m := ⟨_, List.getElem?_eq_getElem (by rw [h.len]; exact hi)⟩
  exact ⟨m, hm, h.at_ i c m hc hm⟩

theorem VarsAt.shape {w : World} {ao : Option Addr} {n cap : Nat} {l : List Vr} (h : VarsAt w (.slice ao n cap) l) : n = l.length ∧ l.length ≤ cap ∧ cap ≤ maxLen := by
  obtain ⟨ao', cap', e, h1, h2, _⟩ := h
  rw [List.length_map] at e h1
  cases e
  exact ⟨rfl, h1, h2⟩
/-- the cells of variable k -/
structure VrCells (w : World) (b a : Nat) (x : Vr) : Prop where
  q0 : w.cell? ⟨b, a, none⟩ = some (.string x.ty)
  q1 : w.cell? ⟨b, a + 1, none⟩ = some (.string x.nm)
  q2 : w.cell? ⟨b, a + 2, none⟩ = some (.int .i64 x.line)
  q3 : w.cell? ⟨b, a + 3, none⟩ = some (.int .i64 x.col)
theorem VarsAt.cell {w : World} {ao : Option Addr} {n cap : Nat} {l : List Vr} (h : VarsAt w (.slice ao n cap) l) {k : Nat} {x : Vr} (hk : l[k]? = some x) :
    ∃ b off, ao = some ⟨b, off, none⟩ ∧ VrCells w b (off + k * 4) x := by
  obtain ⟨ao', cap', e, h1, h2, h3, h4⟩ := h
  have hl : k < l.length := (List.getElem?_eq_some_iff.1 hk).1
  obtain ⟨b, off, rfl, h5⟩ := h4 (by rw [List.length_map]; omega)
  have h6 := fun j hj => h5 k x.cells (by rw [List.getElem?_map, hk]; rfl) j hj
  cases e
  exact ⟨b, off, rfl, ⟨h6 0 (by omega), h6 1 (by omega), h6 2 (by omega), h6 3 (by omega)⟩⟩
theorem MtsAt.shape {w : World} {ao : Option Addr} {n cap : Nat} {l : List Mt} (h : MtsAt w (.slice ao n cap) l) : n = l.length ∧ l.length ≤ cap ∧ cap ≤ maxLen := by
  obtain ⟨ao', cap', e, h1, h2, _⟩ := h.row
  rw [List.length_map] at e h1
  cases e
  exact ⟨rfl, h1, h2⟩
/-- the cells of method k -/
structure MtCells (w : World) (b a : Nat) (x : Mt) : Prop where
  q0 : w.cell? ⟨b, a, none⟩ = some (.string x.ret)
  q1 : w.cell? ⟨b, a + 1, none⟩ = some (.string x.nm)
  q2 : w.cell? ⟨b, a + 2, none⟩ = some (.bool x.st)
  q3 : w.cell? ⟨b, a + 3, none⟩ = some (.bool x.ba)
  q4 : w.cell? ⟨b, a + 4, none⟩ = some (.slice x.pa x.ps.length x.pc)
  q5 : w.cell? ⟨b, a + 5, none⟩ = some (.slice x.s5.1 x.s5.2.1 x.s5.2.2)
  q6 : w.cell? ⟨b, a + 6, none⟩ = some (.slice x.s6.1 x.s6.2.1 x.s6.2.2)
  q7 : w.cell? ⟨b, a + 7, none⟩ = some (.int .i64 x.line)
  q8 : w.cell? ⟨b, a + 8, none⟩ = some (.int .i64 x.col)
theorem MtsAt.cell {w : World} {ao : Option Addr} {n cap : Nat} {l : List Mt} (h : MtsAt w (.slice ao n cap) l) {k : Nat} {x : Mt} (hk : l[k]? = some x) :
    ∃ b off, ao = some ⟨b, off, none⟩ ∧ MtCells w b (off + k * 9) x := by
  obtain ⟨ao', cap', e, h1, h2, h3, h4⟩ := h.row
  have hl : k < l.length := (List.getElem?_eq_some_iff.1 hk).1
  obtain ⟨b, off, rfl, h5⟩ := h4 (by rw [List.length_map]; omega)
  have h6 := fun j hj => h5 k x.cells (by rw [List.getElem?_map, hk]; rfl) j hj
  cases e
  exact ⟨b, off, rfl, ⟨h6 0 (by omega), h6 1 (by omega), h6 2 (by omega), h6 3 (by omega), h6 4 (by omega), h6 5 (by omega), h6 6 (by omega), h6 7 (by omega), h6 8 (by omega)⟩⟩

/-- the names and the types are no longer than texts can be -/
structure SzMem (m : Mem) : Prop where
  fs : ∀ v ∈ m.fs, v.nm.size ≤ maxLen ∧ v.ty.size ≤ maxLen
  ss : ∀ v ∈ m.ss, v.nm.size ≤ maxLen ∧ v.ty.size ≤ maxLen
  ms : ∀ x ∈ m.ms, x.nm.size ≤ maxLen ∧ x.ret.size ≤ maxLen ∧ ∀ v ∈ x.ps, v.ty.size ≤ maxLen
def SzM (ms : List Mem) : Prop := ∀ m ∈ ms, SzMem m

/-! a fixed point along what stands right above -/
section
variable {α : Type}
def iterF (F : (Nat → α) → Nat → α) (d : α) : Nat → Nat → α
  | 0 => fun _ => d
  | k + 1 => F (iterF F d k)

theorem iterEq {up : Nat → List Nat} {F : (Nat → α) → Nat → α} (d : α) (rank : Nat → Nat) (hr : ∀ i, ∀ j ∈ up i, rank j < rank i)
    (hF : ∀ g g' i, (∀ j ∈ up i, g j = g' j) → F g i = F g' i) : ∀ (k k' i : Nat), rank i < k → rank i < k' → iterF F d k i = iterF F d k' i
  | 0, _, _, h, _ => by omega
  | _, 0, _, _, h => by omega
  | k + 1, k' + 1, i, h, h' => by
    show F _ i = F _ i
    refine hF _ _ i (fun j hj => iterEq d rank hr hF k k' j ?_ ?_) <;> have := hr i j hj <;> omega
end

/-- how late a class comes -/
def rankN (cs : List Cls) (i : Nat) : Nat := (ordN cs).idxOf i
theorem noReach {cs : List Cls} (hno : NoRing cs) : ∀ i, ¬ Gr.Reach (upsN cs) i i := by
  intro i h
  exact hno i (h.lt (upsN_lt cs)) h
theorem ordN_ord (cs : List Cls) : Gr.Ord cs.length (upsN cs) (ordN cs) := Gr.order_ord _ _ .nil
theorem ordN_mem {cs : List Cls} (hno : NoRing cs) {i : Nat} (hi : i < cs.length) : i ∈ ordN cs :=
  Gr.all_done (upsN_lt cs) hno (Gr.order_none cs.length [] .nil (by simp)) i hi
theorem Ord.before {n : Nat} {up : Nat → List Nat} {l : List Nat} (h : Gr.Ord n up l) : ∀ i ∈ l, ∀ j ∈ up i, l.idxOf j < l.idxOf i := by
  induction h with
  | nil => simp
  | snoc h hi hn hu ih =>
    rename_i l k
    intro i him j hj
    rcases List.mem_append.1 him with hl | hl
    · have hjl := h.closed i hl j hj
      rw [List.idxOf_append, List.idxOf_append, if_pos hjl, if_pos hl]
      exact ih i hl j hj
    · obtain rfl : i = k := by simpa using hl
      have hjl := hu j hj
      rw [List.idxOf_append, List.idxOf_append, if_pos hjl, if_neg hn]
      have := List.idxOf_lt_length_of_mem hjl
      omega
theorem upsN_out {cs : List Cls} {i : Nat} (h : cs.length ≤ i) : upsN cs i = [] := by
  unfold upsN
  rw [List.getElem?_eq_none h]
theorem rank_lt {cs : List Cls} (hno : NoRing cs) : ∀ i, ∀ j ∈ upsN cs i, rankN cs j < rankN cs i := by
  intro i j hj
  by_cases hi : i < cs.length
  · exact Ord.before (ordN_ord cs) i (ordN_mem hno hi) j hj
  · rw [upsN_out (by omega)] at hj
    cases hj
theorem rank_le {cs : List Cls} (i : Nat) : rankN cs i ≤ cs.length := by
  have h1 : rankN cs i ≤ (ordN cs).length := List.idxOf_le_length
  have h2 := Gr.nodup_len (ordN_ord cs).nodup (ordN_ord cs).lt
  omega
/-- the fixed point -/
def fixN {α : Type} (cs : List Cls) (F : (Nat → α) → Nat → α) (d : α) : Nat → α := iterF F d (cs.length + 1)
theorem fixEq {α : Type} {cs : List Cls} (hno : NoRing cs) {F : (Nat → α) → Nat → α} {d : α} (hF : ∀ g g' i, (∀ j ∈ upsN cs i, g j = g' j) → F g i = F g' i) (i : Nat) : fixN cs F d i = F (fixN cs F d) i := by
  have h := iterEq d (rankN cs) (rank_lt hno) hF (cs.length + 1) (cs.length + 2) i (by have := rank_le (cs := cs) i; omega) (by have := rank_le (cs := cs) i; omega)
  exact h
end Go.Proofs.YtgjpgfedlgdjhaaGreatDoor
end
section
/- Members: what the document says of them, without memory: chains, lookups, which programs' members are right. -/
set_option linter.unusedVariables false
set_option linter.unusedSimpArgs false
namespace Go.Proofs.YtgjpgfedlgdjhaaGreatDoor
open Go.RowKit Go.W

/-- the class right above -/
def supN (cs : List Cls) (i : Nat) : Option Nat := match cs[i]? with | some c => if c.sup.toList.isEmpty then none else find cs c.sup | none => none
theorem supN_up {cs : List Cls} {i j : Nat} (h : supN cs i = some j) : j ∈ upsN cs i := by
  unfold supN at h
  unfold upsN
  cases hc : cs[i]? with
  | none => rw [hc] at h; cases h
  | some c =>
    rw [hc] at h
    simp only at h ⊢
    cases he : c.sup.toList.isEmpty with
    | true => rw [he] at h; simp at h
    | false =>
      rw [he] at h
      simp only [Bool.false_eq_true, if_false] at h
      unfold Cls.ups
      rw [he]
      simp [h]
/-- a class, and those above it by extends -/
def chainN (cs : List Cls) : Nat → List Nat := fixN cs (fun g i => i :: match supN cs i with | some j => g j | none => []) []
def chainO (cs : List Cls) : Option Nat → List Nat | none => [] | some i => chainN cs i
theorem chainEq {cs : List Cls} (hno : NoRing cs) (i : Nat) : chainN cs i = i :: chainO cs (supN cs i) := by
  unfold chainN
  rw [fixEq hno (fun g g' i h => by
    cases hs : supN cs i with
    | none => rfl
    | some j => simp only; rw [h j (supN_up hs)])]
  congr 1
  cases supN cs i <;> rfl
theorem chainLen {cs : List Cls} (hno : NoRing cs) (i : Nat) : (chainN cs i).length = (chainO cs (supN cs i)).length + 1 := by rw [chainEq hno i]; rfl

/-- a class's own field (static) of a name -/
def Mem.vs (m : Mem) (st : Bool) : List Vr := if st then m.ss else m.fs
def vrF (l : List Vr) (nm : ByteArray) : Option Vr := l.find? (fun v => decide (v.nm = nm))
def mtK (l : List Mt) (nm : ByteArray) : Option Nat := l.findIdx? (fun x => decide (x.nm = nm))
def fieldO (ms : List Mem) (st : Bool) (nm : ByteArray) (i : Nat) : Option Vr := match ms[i]? with | some m => vrF (m.vs st) nm | none => none
def ownK (ms : List Mem) (nm : ByteArray) (i : Nat) : Option Nat := match ms[i]? with | some m => mtK m.ms nm | none => none
/-- which class of a chain has something -/
def upO {α : Type} (get : Nat → Option α) : List Nat → Option (Nat × α)
  | [] => none
  | j :: r => match get j with | some x => some (j, x) | none => upO get r
theorem upO_cons {α : Type} (get : Nat → Option α) (j : Nat) (r : List Nat) : upO get (j :: r) = match get j with | some x => some (j, x) | none => upO get r := by
  rw [upO]
def varUp (cs : List Cls) (ms : List Mem) (st : Bool) (nm : ByteArray) (o : Option Nat) : Option (Nat × Vr) := upO (fieldO ms st nm) (chainO cs o)
def methUp (cs : List Cls) (ms : List Mem) (nm : ByteArray) (o : Option Nat) : Option (Nat × Nat) := upO (ownK ms nm) (chainO cs o)
theorem varUp_step {cs : List Cls} {ms : List Mem} (hno : NoRing cs) (st : Bool) (nm : ByteArray) (i : Nat) :
    varUp cs ms st nm (some i) = match fieldO ms st nm i with | some x => some (i, x) | none => varUp cs ms st nm (supN cs i) := by
  unfold varUp
  show upO _ (chainN cs i) = _
  rw [chainEq hno i]
  rw [upO_cons]
  cases fieldO ms st nm i <;> rfl
theorem methUp_step {cs : List Cls} {ms : List Mem} (hno : NoRing cs) (nm : ByteArray) (i : Nat) :
    methUp cs ms nm (some i) = match ownK ms nm i with | some x => some (i, x) | none => methUp cs ms nm (supN cs i) := by
  unfold methUp
  show upO _ (chainN cs i) = _
  rw [chainEq hno i]
  rw [upO_cons]
  cases ownK ms nm i <;> rfl

def faceB (cs : List Cls) (i : Nat) : Bool := match cs[i]? with | some c => c.face | none => false
def facesN (cs : List Cls) (i : Nat) : List Nat := match cs[i]? with | some c => c.faces.filterMap (find cs) | none => []
theorem facesN_up {cs : List Cls} {i j : Nat} (h : j ∈ facesN cs i) : j ∈ upsN cs i := by
  unfold facesN at h
  unfold upsN
  cases hc : cs[i]? with
  | none => rw [hc] at h; cases h
  | some c =>
    rw [hc] at h
    simp only [List.mem_filterMap] at h ⊢
    obtain ⟨x, hx, hf⟩ := h
    exact ⟨x, by unfold Cls.ups; exact List.mem_append.2 (.inr hx), hf⟩
/-- the method of a name that a class, or an interface, has: which class tells it, and which one of its methods -/
def methN (cs : List Cls) (ms : List Mem) (nm : ByteArray) : Nat → Option (Nat × Nat) :=
  fixN cs (fun g i => match methUp cs ms nm (some i) with | some r => some r | none => if faceB cs i then (facesN cs i).findSome? g else none) none
theorem findSome_congr {α β : Type} {g g' : α → Option β} : ∀ {l : List α}, (∀ j ∈ l, g j = g' j) → l.findSome? g = l.findSome? g'
  | [], _ => rfl
  | x :: l, h => by
    rw [List.findSome?_cons, List.findSome?_cons, h x (by simp), findSome_congr (l := l) (fun j hj => h j (by simp [hj]))]
theorem methN_step {cs : List Cls} {ms : List Mem} (hno : NoRing cs) (nm : ByteArray) (i : Nat) :
    methN cs ms nm i = match methUp cs ms nm (some i) with | some r => some r | none => if faceB cs i then (facesN cs i).findSome? (methN cs ms nm) else none := by
  have h := fixEq (α := Option (Nat × Nat)) (cs := cs) hno (F := fun g i => match methUp cs ms nm (some i) with | some r => some r | none => if faceB cs i then (facesN cs i).findSome? g else none) (d := none) (fun g g' i h => by
    cases methUp cs ms nm (some i) with
    | some r => rfl
    | none =>
      simp only
      rw [findSome_congr (fun j hj => h j (facesN_up hj))]) i
  exact h

/-- may something have a type? -/
def typedP (cs : List Cls) (t : ByteArray) : Prop := t ≠ sNull ∧ isT cs t
def Mt.kinds (x : Mt) : ByteArray × List ByteArray := (x.ret, x.ps.map Vr.ty)
/-- variable k of a list is right -/
def VarP (cs : List Cls) (ms : List Mem) (st : Bool) (i : Nat) (l : List Vr) (k : Nat) : Prop :=
  ∀ v, l[k]? = some v → typedP cs v.ty ∧ (∀ u ∈ l.take k, u.nm ≠ v.nm) ∧ varUp cs ms st v.nm (supN cs i) = none
def VarsP (cs : List Cls) (ms : List Mem) (st : Bool) (i : Nat) (l : List Vr) : Prop := ∀ k, k < l.length → VarP cs ms st i l k
/-- the method of a place -/
def mtAt (ms : List Mem) (c q : Nat) : Option Mt := match ms[c]? with | some m => m.ms[q]? | none => none
/-- against those above -/
def UpP (cs : List Cls) (ms : List Mem) (x : Mt) (j : Nat) : Prop := ∀ q y, ownK ms x.nm j = some q → mtAt ms j q = some y → x.kinds = y.kinds ∧ x.st = false ∧ y.st = false
structure SoundM (cs : List Cls) (ms : List Mem) (i : Nat) (face : Bool) (l : List Mt) (k : Nat) (x : Mt) : Prop where
  ret : x.ret = sVoid ∨ typedP cs x.ret
  first : mtK l x.nm = some k
  bare : face = true → x.ba = true
  ps : ∀ v ∈ x.ps, typedP cs v.ty
  up : ∀ j, Gr.Reach (upsN cs) i j → UpP cs ms x j
/-- what an interface's method asks of class i -/
def AskP (cs : List Cls) (ms : List Mem) (i : Nat) (y : Mt) : Prop := ∃ c q x, methN cs ms y.nm i = some (c, q) ∧ mtAt ms c q = some x ∧ x.ba = false ∧ x.st = false ∧ x.kinds = y.kinds
def WholeP (cs : List Cls) (ms : List Mem) (i : Nat) : Prop :=
  ∀ u, upT cs i u → ∀ m, ms[u]? = some m → ∀ (k : Nat) (y : Mt), m.ms[k]? = some y → y.ba = true → mtK m.ms y.nm = some k → AskP cs ms i y
structure GoodC (cs : List Cls) (ms : List Mem) (i : Nat) (c : Cls) (m : Mem) : Prop where
  fs : VarsP cs ms false i m.fs
  ss : VarsP cs ms true i m.ss
  mts : ∀ (k : Nat) (x : Mt), m.ms[k]? = some x → SoundM cs ms i c.face m.ms k x
  face : c.face = true → c.sup.toList.isEmpty = true
  whole : c.face = false → WholeP cs ms i
def GoodM (cs : List Cls) (ms : List Mem) : Prop := ∀ (i : Nat) (c : Cls) (m : Mem), cs[i]? = some c → ms[i]? = some m → GoodC cs ms i c m

/-- z is the class o -/
def AtZ (cs : List Cls) (z : Int) (o : Option Nat) : Prop := (∃ k : Nat, z = k ∧ k < cs.length ∧ o = some k) ∨ (o = none ∧ ¬ (0 ≤ z ∧ z < cs.length))
def inZ (cs : List Cls) (z : Int) : Option Nat := if 0 ≤ z ∧ z < cs.length then some z.toNat else none
theorem atZ (cs : List Cls) (z : Int) : AtZ cs z (inZ cs z) := by
  unfold inZ
  split
  · rename_i h
    exact .inl ⟨z.toNat, by omega, by omega, rfl⟩
  · rename_i h
    exact .inr ⟨rfl, h⟩
theorem AtZ.none {cs : List Cls} : AtZ cs (-1) none := .inr ⟨rfl, by omega⟩
theorem AtZ.some {cs : List Cls} {k : Nat} (h : k < cs.length) : AtZ cs k (some k) := .inl ⟨k, rfl, h, rfl⟩
theorem supAtZ {cs : List Cls} {i : Nat} {c : Cls} (hc : cs[i]? = some c) (ho : okC cs i c) : AtZ cs (supZ cs c) (supN cs i) := by
  unfold supZ supN
  rw [hc]
  simp only
  cases he : c.sup.toList.isEmpty with
  | true => simp only [if_true]; exact AtZ.none
  | false =>
    obtain ⟨s, d, hf, hs, _⟩ := ho.sup he
    simp only [Bool.false_eq_true, if_false]
    rw [hf, findZ_some hf]
    exact AtZ.some (List.getElem?_eq_some_iff.1 hs).1
theorem supN_lt {cs : List Cls} {i j : Nat} (h : supN cs i = some j) : j < cs.length := upsN_lt cs i j (supN_up h)
end Go.Proofs.YtgjpgfedlgdjhaaGreatDoor
end
