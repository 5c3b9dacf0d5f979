/- What the claim uses: part 29. -/
import Derived.Test.YtgjpgfedlgdjhaaGreatDoorZbb
import Derived.Test.YtgjpgfedlgdjhaaGreatDoorZay
import Derived.Deep.RegionHeld3
import Derived.BigQuiet
section
section
set_option linter.unusedVariables false
set_option linter.unusedSimpArgs false
set_option maxRecDepth 8192
namespace Go.Proofs.YtgjpgfedlgdjhaaGreatDoor
open Go.RowKit Go.W
theorem BoolIs.yes {P : Prop} {e : Ending} (h : BoolIs P e) (hp : P) : e = .returned (.bool true) := by
 obtain ⟨r, rfl, hr⟩ := h
 rw [hr.2 hp]
theorem BoolIs.no {P : Prop} {e : Ending} (h : BoolIs P e) (hp : ¬ P) : e = .returned (.bool false) := by
 obtain ⟨r, rfl, hr⟩ := h
 cases r with
 | false => rfl
 | true => exact absurd (hr.1 rfl) hp
end Go.Proofs.YtgjpgfedlgdjhaaGreatDoor
end
section
set_option linter.unusedVariables false
set_option linter.unusedSimpArgs false
set_option maxRecDepth 8192
namespace Go.Proofs.YtgjpgfedlgdjhaaGreatDoor
open Go.RowKit Go.W
theorem oneStr1 (a : ByteArray) : ∀ u ∈ [Value.string a], u.oneCell' = true := by
 intro u hu
 simp at hu
 subst hu; rfl
theorem StrsOwn.rowN {w w' : World} {base n : Nat} {v : Value} {l : List ByteArray} (h : StrsOwn w base v l) (hn : l.length = n) (hc : Ch No w w') : w'.ownsRow base 9 1 v n (l.map Value.string) := by
 have := h.no hc
 unfold StrsOwn at this
 rw [hn] at this
 exact this
end Go.Proofs.YtgjpgfedlgdjhaaGreatDoor
end
end
section
section
set_option linter.unusedVariables false
set_option linter.unusedSimpArgs false
namespace Go.Proofs.YtgjpgfedlgdjhaaGreatDoor
open Go.RowKit Go.W
structure Vr where
 ty : ByteArray
 nm : ByteArray
 line : Int
 col : Int
def Vr.cells (x : Vr) : List Value := [.string x.ty, .string x.nm, .int .i64 x.line, .int .i64 x.col]
def VarsAt (w : World) (v : Value) (l : List Vr) : Prop := RowAt w v 4 (l.map Vr.cells)
theorem VarsAt.no {w w' : World} {v : Value} {l : List Vr} (h : VarsAt w v l) (hc : Ch No w w') : VarsAt w' v l := RowAt.no h hc
structure Mt where
 ret : ByteArray
 nm : ByteArray
 st : Bool
 ba : Bool
 ps : List Vr
 pa : Option Addr
 pc : Nat
 s5 : Option Addr × Nat × Nat
 s6 : Option Addr × Nat × Nat
 line : Int
 col : Int
def Mt.cells (m : Mt) : List Value := [.string m.ret, .string m.nm, .bool m.st, .bool m.ba, .slice m.pa m.ps.length m.pc, .slice m.s5.1 m.s5.2.1 m.s5.2.2, .slice m.s6.1 m.s6.2.1 m.s6.2.2, .int .i64 m.line, .int .i64 m.col]
structure MtsAt (w : World) (v : Value) (l : List Mt) : Prop where
 row : RowAt w v 9 (l.map Mt.cells)
 ps : ∀ m ∈ l, VarsAt w (.slice m.pa m.ps.length m.pc) m.ps
theorem MtsAt.no {w w' : World} {v : Value} {l : List Mt} (h : MtsAt w v l) (hc : Ch No w w') : MtsAt w' v l := ⟨h.row.no hc, fun m hm => (h.ps m hm).no hc⟩
structure Mem where
 fs : List Vr
 ss : List Vr
 ms : List Mt
structure MemAt (w : World) (c : Cls) (m : Mem) : Prop where
 fs : VarsAt w (.slice c.s4.1 c.s4.2.1 c.s4.2.2) m.fs
 ss : VarsAt w (.slice c.s5.1 c.s5.2.1 c.s5.2.2) m.ss
 ms : MtsAt w (.slice c.s6.1 c.s6.2.1 c.s6.2.2) m.ms
theorem MemAt.no {w w' : World} {c : Cls} {m : Mem} (h : MemAt w c m) (hc : Ch No w w') : MemAt w' c m := ⟨h.fs.no hc, h.ss.no hc, h.ms.no hc⟩
structure MemsAt (w : World) (cs : List Cls) (ms : List Mem) : Prop where
 len : ms.length = cs.length
 at_ : ∀ (i : Nat) (c : Cls) (m : Mem), cs[i]? = some c → ms[i]? = some m → MemAt w c m
theorem MemsAt.no {w w' : World} {cs : List Cls} {ms : List Mem} (h : MemsAt w cs ms) (hc : Ch No w w') : MemsAt w' cs ms := ⟨h.len, fun i c m h1 h2 => (h.at_ i c m h1 h2).no hc⟩
theorem MemsAt.get {w : World} {cs : List Cls} {ms : List Mem} (h : MemsAt w cs ms) {i : Nat} {c : Cls} (hc : cs[i]? = some c) : ∃ m, ms[i]? = some m ∧ MemAt w c m := by
 have hi := (List.getElem?_eq_some_iff.1 hc).1
 obtain ⟨m, hm⟩ : ∃ m, ms[i]? = some m := ⟨_, List.getElem?_eq_getElem (by rw [h.len]; exact hi)⟩
 exact ⟨m, hm, h.at_ i c m hc hm⟩
theorem VarsAt.shape {w : World} {ao : Option Addr} {n cap : Nat} {l : List Vr} (h : VarsAt w (.slice ao n cap) l) : n = l.length ∧ l.length ≤ cap ∧ cap ≤ maxLen := by
 obtain ⟨ao', cap', e, h1, h2, _⟩ := h
 rw [List.length_map] at e h1
 cases e
 exact ⟨rfl, h1, h2⟩
structure VrCells (w : World) (b a : Nat) (x : Vr) : Prop where
 q0 : w.cell? ⟨b, a, none⟩ = some (.string x.ty)
 q1 : w.cell? ⟨b, a + 1, none⟩ = some (.string x.nm)
 q2 : w.cell? ⟨b, a + 2, none⟩ = some (.int .i64 x.line)
 q3 : w.cell? ⟨b, a + 3, none⟩ = some (.int .i64 x.col)
theorem VarsAt.cell {w : World} {ao : Option Addr} {n cap : Nat} {l : List Vr} (h : VarsAt w (.slice ao n cap) l) {k : Nat} {x : Vr} (hk : l[k]? = some x) :
   ∃ b off, ao = some ⟨b, off, none⟩ ∧ VrCells w b (off + k * 4) x := by
 obtain ⟨ao', cap', e, h1, h2, h3, h4⟩ := h
 have hl : k < l.length := (List.getElem?_eq_some_iff.1 hk).1
 obtain ⟨b, off, rfl, h5⟩ := h4 (by rw [List.length_map]; omega)
 have h6 := fun j hj => h5 k x.cells (by rw [List.getElem?_map, hk]; rfl) j hj
 cases e
 exact ⟨b, off, rfl, ⟨h6 0 (by omega), h6 1 (by omega), h6 2 (by omega), h6 3 (by omega)⟩⟩
theorem MtsAt.shape {w : World} {ao : Option Addr} {n cap : Nat} {l : List Mt} (h : MtsAt w (.slice ao n cap) l) : n = l.length ∧ l.length ≤ cap ∧ cap ≤ maxLen := by
 obtain ⟨ao', cap', e, h1, h2, _⟩ := h.row
 rw [List.length_map] at e h1
 cases e
 exact ⟨rfl, h1, h2⟩
structure MtCells (w : World) (b a : Nat) (x : Mt) : Prop where
 q0 : w.cell? ⟨b, a, none⟩ = some (.string x.ret)
 q1 : w.cell? ⟨b, a + 1, none⟩ = some (.string x.nm)
 q2 : w.cell? ⟨b, a + 2, none⟩ = some (.bool x.st)
 q3 : w.cell? ⟨b, a + 3, none⟩ = some (.bool x.ba)
 q4 : w.cell? ⟨b, a + 4, none⟩ = some (.slice x.pa x.ps.length x.pc)
 q5 : w.cell? ⟨b, a + 5, none⟩ = some (.slice x.s5.1 x.s5.2.1 x.s5.2.2)
 q6 : w.cell? ⟨b, a + 6, none⟩ = some (.slice x.s6.1 x.s6.2.1 x.s6.2.2)
 q7 : w.cell? ⟨b, a + 7, none⟩ = some (.int .i64 x.line)
 q8 : w.cell? ⟨b, a + 8, none⟩ = some (.int .i64 x.col)
theorem MtsAt.cell {w : World} {ao : Option Addr} {n cap : Nat} {l : List Mt} (h : MtsAt w (.slice ao n cap) l) {k : Nat} {x : Mt} (hk : l[k]? = some x) :
   ∃ b off, ao = some ⟨b, off, none⟩ ∧ MtCells w b (off + k * 9) x := by
 obtain ⟨ao', cap', e, h1, h2, h3, h4⟩ := h.row
 have hl : k < l.length := (List.getElem?_eq_some_iff.1 hk).1
 obtain ⟨b, off, rfl, h5⟩ := h4 (by rw [List.length_map]; omega)
 have h6 := fun j hj => h5 k x.cells (by rw [List.getElem?_map, hk]; rfl) j hj
 cases e
 exact ⟨b, off, rfl, ⟨h6 0 (by omega), h6 1 (by omega), h6 2 (by omega), h6 3 (by omega), h6 4 (by omega), h6 5 (by omega), h6 6 (by omega), h6 7 (by omega), h6 8 (by omega)⟩⟩
structure SzMem (m : Mem) : Prop where
 fs : ∀ v ∈ m.fs, v.nm.size ≤ maxLen ∧ v.ty.size ≤ maxLen
 ss : ∀ v ∈ m.ss, v.nm.size ≤ maxLen ∧ v.ty.size ≤ maxLen
 ms : ∀ x ∈ m.ms, x.nm.size ≤ maxLen ∧ x.ret.size ≤ maxLen ∧ ∀ v ∈ x.ps, v.ty.size ≤ maxLen
def SzM (ms : List Mem) : Prop := ∀ m ∈ ms, SzMem m
section
variable {α : Type}
def iterF (F : (Nat → α) → Nat → α) (d : α) : Nat → Nat → α
 | 0 => fun _ => d
 | k + 1 => F (iterF F d k)
theorem iterEq {up : Nat → List Nat} {F : (Nat → α) → Nat → α} (d : α) (rank : Nat → Nat) (hr : ∀ i, ∀ j ∈ up i, rank j < rank i)
   (hF : ∀ g g' i, (∀ j ∈ up i, g j = g' j) → F g i = F g' i) : ∀ (k k' i : Nat), rank i < k → rank i < k' → iterF F d k i = iterF F d k' i
 | 0, _, _, h, _ => by omega
 | _, 0, _, _, h => by omega
 | k + 1, k' + 1, i, h, h' => by
   show F _ i = F _ i
   refine hF _ _ i (fun j hj => iterEq d rank hr hF k k' j ?_ ?_) <;> have := hr i j hj <;> omega
end
def rankN (cs : List Cls) (i : Nat) : Nat := (ordN cs).idxOf i
theorem ordN_ord (cs : List Cls) : Gr.Ord cs.length (upsN cs) (ordN cs) := Gr.order_ord _ _ .nil
theorem ordN_mem {cs : List Cls} (hno : NoRing cs) {i : Nat} (hi : i < cs.length) : i ∈ ordN cs :=
 Gr.all_done (upsN_lt cs) hno (Gr.order_none cs.length [] .nil (by simp)) i hi
theorem Ord.before {n : Nat} {up : Nat → List Nat} {l : List Nat} (h : Gr.Ord n up l) : ∀ i ∈ l, ∀ j ∈ up i, l.idxOf j < l.idxOf i := by
 induction h with
 | nil => simp
 | snoc h hi hn hu ih =>
   rename_i l k
   intro i him j hj
   rcases List.mem_append.1 him with hl | hl
   · have hjl := h.closed i hl j hj
     rw [List.idxOf_append, List.idxOf_append, if_pos hjl, if_pos hl]
     exact ih i hl j hj
   · obtain rfl : i = k := by simpa using hl
     have hjl := hu j hj
     rw [List.idxOf_append, List.idxOf_append, if_pos hjl, if_neg hn]
     have := List.idxOf_lt_length_of_mem hjl
     omega
theorem upsN_out {cs : List Cls} {i : Nat} (h : cs.length ≤ i) : upsN cs i = [] := by
 unfold upsN
 rw [List.getElem?_eq_none h]
theorem rank_lt {cs : List Cls} (hno : NoRing cs) : ∀ i, ∀ j ∈ upsN cs i, rankN cs j < rankN cs i := by
 intro i j hj
 by_cases hi : i < cs.length
 · exact Ord.before (ordN_ord cs) i (ordN_mem hno hi) j hj
 · rw [upsN_out (by omega)] at hj
   cases hj
theorem rank_le {cs : List Cls} (i : Nat) : rankN cs i ≤ cs.length := by
 have h1 : rankN cs i ≤ (ordN cs).length := List.idxOf_le_length
 have h2 := Gr.nodup_len (ordN_ord cs).nodup (ordN_ord cs).lt
 omega
def fixN {α : Type} (cs : List Cls) (F : (Nat → α) → Nat → α) (d : α) : Nat → α := iterF F d (cs.length + 1)
theorem fixEq {α : Type} {cs : List Cls} (hno : NoRing cs) {F : (Nat → α) → Nat → α} {d : α} (hF : ∀ g g' i, (∀ j ∈ upsN cs i, g j = g' j) → F g i = F g' i) (i : Nat) : fixN cs F d i = F (fixN cs F d) i := by
 have h := iterEq d (rankN cs) (rank_lt hno) hF (cs.length + 1) (cs.length + 2) i (by have := rank_le (cs := cs) i; omega) (by have := rank_le (cs := cs) i; omega)
 exact h
end Go.Proofs.YtgjpgfedlgdjhaaGreatDoor
end
section
set_option linter.unusedVariables false
set_option linter.unusedSimpArgs false
namespace Go.Proofs.YtgjpgfedlgdjhaaGreatDoor
open Go.RowKit Go.W
def supN (cs : List Cls) (i : Nat) : Option Nat := match cs[i]? with | some c => if c.sup.toList.isEmpty then none else find cs c.sup | none => none
theorem supN_up {cs : List Cls} {i j : Nat} (h : supN cs i = some j) : j ∈ upsN cs i := by
 unfold supN at h
 unfold upsN
 cases hc : cs[i]? with
 | none => rw [hc] at h; cases h
 | some c =>
   rw [hc] at h
   simp only at h ⊢
   cases he : c.sup.toList.isEmpty with
   | true => rw [he] at h; simp at h
   | false =>
     rw [he] at h
     simp only [Bool.false_eq_true, if_false] at h
     unfold Cls.ups
     rw [he]
     simp [h]
def chainN (cs : List Cls) : Nat → List Nat := fixN cs (fun g i => i :: match supN cs i with | some j => g j | none => []) []
def chainO (cs : List Cls) : Option Nat → List Nat | none => [] | some i => chainN cs i
theorem chainEq {cs : List Cls} (hno : NoRing cs) (i : Nat) : chainN cs i = i :: chainO cs (supN cs i) := by
 unfold chainN
 rw [fixEq hno (fun g g' i h => by
   cases hs : supN cs i with
   | none => rfl
   | some j => simp only; rw [h j (supN_up hs)])]
 congr 1
 cases supN cs i <;> rfl
theorem chainLen {cs : List Cls} (hno : NoRing cs) (i : Nat) : (chainN cs i).length = (chainO cs (supN cs i)).length + 1 := by rw [chainEq hno i]; rfl
def Mem.vs (m : Mem) (st : Bool) : List Vr := if st then m.ss else m.fs
def vrF (l : List Vr) (nm : ByteArray) : Option Vr := l.find? (fun v => decide (v.nm = nm))
def mtK (l : List Mt) (nm : ByteArray) : Option Nat := l.findIdx? (fun x => decide (x.nm = nm))
def fieldO (ms : List Mem) (st : Bool) (nm : ByteArray) (i : Nat) : Option Vr := match ms[i]? with | some m => vrF (m.vs st) nm | none => none
def ownK (ms : List Mem) (nm : ByteArray) (i : Nat) : Option Nat := match ms[i]? with | some m => mtK m.ms nm | none => none
def upO {α : Type} (get : Nat → Option α) : List Nat → Option (Nat × α)
 | [] => none
 | j :: r => match get j with | some x => some (j, x) | none => upO get r
theorem upO_cons {α : Type} (get : Nat → Option α) (j : Nat) (r : List Nat) : upO get (j :: r) = match get j with | some x => some (j, x) | none => upO get r := by
 rw [upO]
def methUp (cs : List Cls) (ms : List Mem) (nm : ByteArray) (o : Option Nat) : Option (Nat × Nat) := upO (ownK ms nm) (chainO cs o)
theorem methUp_step {cs : List Cls} {ms : List Mem} (hno : NoRing cs) (nm : ByteArray) (i : Nat) :
   methUp cs ms nm (some i) = match ownK ms nm i with | some x => some (i, x) | none => methUp cs ms nm (supN cs i) := by
 unfold methUp
 show upO _ (chainN cs i) = _
 rw [chainEq hno i]
 rw [upO_cons]
 cases ownK ms nm i <;> rfl
def faceB (cs : List Cls) (i : Nat) : Bool := match cs[i]? with | some c => c.face | none => false
def facesN (cs : List Cls) (i : Nat) : List Nat := match cs[i]? with | some c => c.faces.filterMap (find cs) | none => []
theorem facesN_up {cs : List Cls} {i j : Nat} (h : j ∈ facesN cs i) : j ∈ upsN cs i := by
 unfold facesN at h
 unfold upsN
 cases hc : cs[i]? with
 | none => rw [hc] at h; cases h
 | some c =>
   rw [hc] at h
   simp only [List.mem_filterMap] at h ⊢
   obtain ⟨x, hx, hf⟩ := h
   exact ⟨x, by unfold Cls.ups; exact List.mem_append.2 (.inr hx), hf⟩
def methN (cs : List Cls) (ms : List Mem) (nm : ByteArray) : Nat → Option (Nat × Nat) :=
 fixN cs (fun g i => match methUp cs ms nm (some i) with | some r => some r | none => if faceB cs i then (facesN cs i).findSome? g else none) none
theorem findSome_congr {α β : Type} {g g' : α → Option β} : ∀ {l : List α}, (∀ j ∈ l, g j = g' j) → l.findSome? g = l.findSome? g'
 | [], _ => rfl
 | x :: l, h => by
   rw [List.findSome?_cons, List.findSome?_cons, h x (by simp), findSome_congr (l := l) (fun j hj => h j (by simp [hj]))]
theorem methN_step {cs : List Cls} {ms : List Mem} (hno : NoRing cs) (nm : ByteArray) (i : Nat) :
   methN cs ms nm i = match methUp cs ms nm (some i) with | some r => some r | none => if faceB cs i then (facesN cs i).findSome? (methN cs ms nm) else none := by
 have h := fixEq (α := Option (Nat × Nat)) (cs := cs) hno (F := fun g i => match methUp cs ms nm (some i) with | some r => some r | none => if faceB cs i then (facesN cs i).findSome? g else none) (d := none) (fun g g' i h => by
   cases methUp cs ms nm (some i) with
   | some r => rfl
   | none =>
     simp only
     rw [findSome_congr (fun j hj => h j (facesN_up hj))]) i
 exact h
def typedP (cs : List Cls) (t : ByteArray) : Prop := t ≠ sNull ∧ isT cs t
def AtZ (cs : List Cls) (z : Int) (o : Option Nat) : Prop := (∃ k : Nat, z = k ∧ k < cs.length ∧ o = some k) ∨ (o = none ∧ ¬ (0 ≤ z ∧ z < cs.length))
theorem AtZ.none {cs : List Cls} : AtZ cs (-1) none := .inr ⟨rfl, by omega⟩
theorem AtZ.some {cs : List Cls} {k : Nat} (h : k < cs.length) : AtZ cs k (some k) := .inl ⟨k, rfl, h, rfl⟩
theorem supAtZ {cs : List Cls} {i : Nat} {c : Cls} (hc : cs[i]? = some c) (ho : okC cs i c) : AtZ cs (supZ cs c) (supN cs i) := by
 unfold supZ supN
 rw [hc]
 simp only
 cases he : c.sup.toList.isEmpty with
 | true => simp only [if_true]; exact AtZ.none
 | false =>
   obtain ⟨s, d, hf, hs, _⟩ := ho.sup he
   simp only [Bool.false_eq_true, if_false]
   rw [hf, findZ_some hf]
   exact AtZ.some (List.getElem?_eq_some_iff.1 hs).1
end Go.Proofs.YtgjpgfedlgdjhaaGreatDoor
end
end
section
set_option linter.unusedVariables false
set_option linter.unusedSimpArgs false
set_option maxRecDepth 8192
namespace Go.Proofs.YtgjpgfedlgdjhaaGreatDoor
open Go.RowKit Go.W
theorem zeroMem (w : World) : (zeroValue 54).run Tryz.prog w = .ok (.agg #[.int .i64 0, .string ⟨#[]⟩, .string ⟨#[]⟩, .slice none 0 0, .bool false, .bool false]) w := by kernel_rfl
def mbV (c : Int) (nm ty : ByteArray) (sa : Option Addr) (sn sc : Nat) (st ba : Bool) : Value := .agg #[.int .i64 c, .string nm, .string ty, .slice sa sn sc, .bool st, .bool ba]
def Is6 (u : Value) : Prop := ∃ c nm ty sa sn sc st ba, u = mbV c nm ty sa sn sc st ba
def putN (get : ByteArray → Option Value) (nm : ByteArray) (v : Value) : ByteArray → Option Value := fun l => match get l with | some u => some u | none => if l = nm then some v else none
theorem told1 {w : World} {mb n : Nat} {get : ByteArray → Option Value} (h : MapIs Tryz.prog 9 strK w mb n get) (hn : n < 1000000) {c : Int} {nm ty : ByteArray} {sa : Option Addr} {sn sc : Nat} {st ba : Bool} (hz : nm.size ≤ maxLen) (hg : ∀ u, get nm = some u → Is6 u) :
   Calls Tryz.prog 78 #[.map (some mb), mbV c nm ty sa sn sc st ba] w fun e w' => e = .returned (.tuple #[]) ∧ MapIs Tryz.prog 9 strK w' mb (n + 1) (putN get nm (mbV c nm ty sa sn sc st ba)) ∧ Ch (fun k _ => k = mb) w w' := by
 unfold mbV
 obtain ⟨w1, hw1⟩ : ∃ w1, w.alloc (.cells #[.int .i64 c, .string nm, .string ty, .slice sa sn sc, .bool st, .bool ba] 54) = w1 := ⟨_, rfl⟩
 have hb1 := heap_alloc_new w (.cells #[.int .i64 c, .string nm, .string ty, .slice sa sn sc, .bool st, .bool ba] 54)
 have hc1 := (Ch.refl No w).alloc (.cells #[.int .i64 c, .string nm, .string ty, .slice sa sn sc, .bool st, .bool ba] 54)
 rw [hw1] at hb1 hc1
 have h1 := h.ch hc1 (fun _ _ h => h)
 have HC1 := hid hc1
 have hlk := h1.lookOk lawS Tryz.underlying98 (zeroMem w1) (keyS hz)
 have hlt := lt_size hb1
 have d0 := cellAt hb1 0
 have d1 := cellAt hb1 1
 have d2 := cellAt hb1 2
 have d3 := cellAt hb1 3
 have d4 := cellAt hb1 4
 have d5 := cellAt hb1 5
 cases hgn : get nm with
 | some u =>
   obtain ⟨c', nm', ty', sa', sn', sc', st', ba', rfl⟩ := hg u hgn
   rw [hgn] at hlk
   have hlk' : (Instr.lookup 98 (.map (some mb)) (.string nm) true).run Tryz.prog w1 = .ok (.tuple #[.agg #[.int .i64 c', .string nm', .string ty', .slice sa' sn' sc', .bool st', .bool ba'], .bool true]) w1 := hlk
   have HG := hid hgn
   have H1 := hid h1
   clear h h1 hlk hgn hg hb1 hc1 hz
   go_enter Tryz.func78, Tryz.ntmps78
   go_wp2_with fail
   refine bodyPost_end (results_none rfl _ _ _) rfl ?_
   refine ⟨rfl, ?_, ((HC1.out.alloc _).mono (fun _ _ _ h => h.elim))⟩
   have e : putN get nm (.agg #[.int .i64 c, .string nm, .string ty, .slice sa sn sc, .bool st, .bool ba]) = get := by
     funext l
     unfold putN
     cases hl : get l with
     | some u => rfl
     | none =>
       by_cases e : l = nm
       · subst e; rw [HG.out] at hl; cases hl
       · simp [e]
   rw [e]
   exact (H1.out.alloc _).mono (by omega)
 | none =>
   rw [hgn] at hlk
   have hlk' : (Instr.lookup 98 (.map (some mb)) (.string nm) true).run Tryz.prog w1 = .ok (.tuple #[.agg #[.int .i64 0, .string ⟨#[]⟩, .string ⟨#[]⟩, .slice none 0 0, .bool false, .bool false], .bool false]) w1 := hlk
   obtain ⟨w2, hw2⟩ : ∃ w2, w1.alloc (.cells #[.int .i64 0, .string ⟨#[]⟩, .string ⟨#[]⟩, .slice none 0 0, .bool false, .bool false] 54) = w2 := ⟨_, rfl⟩
   have hc2 := (Ch.refl No w1).alloc (.cells #[.int .i64 0, .string ⟨#[]⟩, .string ⟨#[]⟩, .slice none 0 0, .bool false, .bool false] 54)
   rw [hw2] at hc2
   have hb2 := hc2.keep _ _ hb1 (fun h => h)
   have h2 := h1.ch hc2 (fun _ _ h => h)
   have g0 := cellAt hb2 0
   have g1 := cellAt hb2 1
   have g2 := cellAt hb2 2
   have g3 := cellAt hb2 3
   have g4 := cellAt hb2 4
   have g5 := cellAt hb2 5
   obtain ⟨w3, hrun, hm3, hg3⟩ := h2.store lawS Tryz.underlying98 (by unfold maxLen; omega) (keyS hz) (.agg #[.int .i64 c, .string nm, .string ty, .slice sa sn sc, .bool st, .bool ba])
   have hrun' : (Instr.mapUpdate 98 (.map (some mb)) (.string nm) (.agg #[.int .i64 c, .string nm, .string ty, .slice sa sn sc, .bool st, .bool ba])).run Tryz.prog w2 = .ok () w3 := hrun
   have HG := hid hgn
   have H3 := hid hm3
   have HC3 := hid (((HC1.out.trans hc2).mono (S' := fun k _ => k = mb) (fun _ _ _ h => h.elim)).trans ((Ch.refl (fun k _ => k = mb) w2).grown hg3 (fun _ _ h _ => by cases h; rfl)))
   clear h h1 h2 hlk hgn hg hb1 hb2 hc1 hc2 hz hrun hm3 hg3
   subst hw2
   go_enter Tryz.func78, Tryz.ntmps78
   go_wp2_with fail
   refine bodyPost_end (results_none rfl _ _ _) rfl ?_
   refine ⟨rfl, ?_, HC3.out⟩
   have e : putN get nm (.agg #[.int .i64 c, .string nm, .string ty, .slice sa sn sc, .bool st, .bool ba]) = fun l => if l = nm then some (.agg #[.int .i64 c, .string nm, .string ty, .slice sa sn sc, .bool st, .bool ba]) else get l := by
     funext l
     unfold putN
     by_cases e : l = nm
     · subst e; rw [HG.out]
     · cases hl : get l <;> simp [e]
   rw [e]
   exact H3.out
def getVr (i : Int) (st : Bool) (l : List Vr) (nm : ByteArray) : Option Value := (vrF l nm).map (fun v => mbV i v.nm v.ty none 0 0 st false)
theorem getVr_is {i : Int} {st : Bool} {l : List Vr} {nm : ByteArray} : ∀ u, getVr i st l nm = some u → Is6 u := by
 intro u h
 unfold getVr at h
 cases hv : vrF l nm with
 | none => rw [hv] at h; cases h
 | some v => rw [hv] at h; cases h; exact ⟨_, _, _, _, _, _, _, _, rfl⟩
theorem vrSnoc {l : List Vr} {v : Vr} {nm : ByteArray} : vrF (l ++ [v]) nm = match vrF l nm with | some u => some u | none => if nm = v.nm then some v else none := by
 unfold vrF
 rw [List.find?_append]
 cases List.find? (fun v => decide (v.nm = nm)) l with
 | some u => rfl
 | none =>
   by_cases h : v.nm = nm
   · simp [h]
   · have : ¬ nm = v.nm := fun e => h e.symm
     simp [h, this]
theorem getVr_snoc {i : Int} {st : Bool} {l : List Vr} {v : Vr} : getVr i st (l ++ [v]) = putN (getVr i st l) v.nm (mbV i v.nm v.ty none 0 0 st false) := by
 funext nm
 unfold putN
 unfold getVr
 rw [vrSnoc]
 cases hv : vrF l nm with
 | some u => rfl
 | none =>
   by_cases h : nm = v.nm
   · subst h; simp
   · simp [h]
def getMt (i : Int) (pv : Nat → Option Addr × Nat × Nat) (l : List Mt) (nm : ByteArray) : Option Value :=
 match mtK l nm with
 | some k => match l[k]? with | some x => some (mbV i x.nm x.ret (pv k).1 (pv k).2.1 (pv k).2.2 x.st x.ba) | none => none
 | none => none
theorem getMt_is {i : Int} {pv : Nat → Option Addr × Nat × Nat} {l : List Mt} {nm : ByteArray} : ∀ u, getMt i pv l nm = some u → Is6 u := by
 intro u h
 unfold getMt at h
 cases hv : mtK l nm with
 | none => rw [hv] at h; cases h
 | some k =>
   rw [hv] at h
   cases hx : l[k]? with
   | none => simp [hx] at h
   | some x => simp [hx] at h; subst h; exact ⟨_, _, _, _, _, _, _, _, rfl⟩
theorem mtK_snoc {l : List Mt} {x : Mt} {nm : ByteArray} : mtK (l ++ [x]) nm = match mtK l nm with | some k => some k | none => if nm = x.nm then some l.length else none := by
 unfold mtK
 rw [List.findIdx?_append]
 cases List.findIdx? (fun x => decide (x.nm = nm)) l with
 | some u => simp
 | none =>
   by_cases h : x.nm = nm
   · simp [h, List.findIdx?_cons]
   · have : ¬ nm = x.nm := fun e => h e.symm
     simp [h, this, List.findIdx?_cons]
theorem mtK_lt {l : List Mt} {nm : ByteArray} {k : Nat} (h : mtK l nm = some k) : k < l.length := by
 unfold mtK at h
 exact (List.findIdx?_eq_some_iff_getElem.1 h).1
theorem getMt_snoc {i : Int} {pv pv' : Nat → Option Addr × Nat × Nat} {l : List Mt} {x : Mt} (hp : ∀ k, k < l.length → pv' k = pv k) : getMt i pv' (l ++ [x]) = putN (getMt i pv l) x.nm (mbV i x.nm x.ret (pv' l.length).1 (pv' l.length).2.1 (pv' l.length).2.2 x.st x.ba) := by
 funext nm
 unfold putN
 unfold getMt
 rw [mtK_snoc]
 cases hk : mtK l nm with
 | some k =>
   have hl := mtK_lt hk
   simp only
   rw [List.getElem?_append_left hl, List.getElem?_eq_getElem hl, hp k hl]
 | none =>
   by_cases h : nm = x.nm
   · subst h; simp
   · simp [h]
structure OwnAt (w : World) (ov : Value) (i : Nat) (m : Mem) : Prop where
 ex : ∃ b1 b2 b3 n1 n2 n3 pv, ov = .agg #[.map (some b1), .map (some b2), .map (some b3)] ∧ MapIs Tryz.prog 9 strK w b1 n1 (getVr i false m.fs) ∧ MapIs Tryz.prog 9 strK w b2 n2 (getVr i true m.ss) ∧ MapIs Tryz.prog 9 strK w b3 n3 (getMt i pv m.ms) ∧
   (n3 ≤ 100000) ∧ ∀ (k : Nat) (x : Mt), m.ms[k]? = some x → StrsOwn w 0 (.slice (pv k).1 (pv k).2.1 (pv k).2.2) (x.ps.map Vr.ty)
end Go.Proofs.YtgjpgfedlgdjhaaGreatDoor
end
