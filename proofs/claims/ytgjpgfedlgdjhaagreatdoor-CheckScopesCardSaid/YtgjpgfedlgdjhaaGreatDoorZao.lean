/- What the claim uses: part 15. -/
import Derived.Test.YtgjpgfedlgdjhaaGreatDoorZan
import Derived.Deep.RegionLaw
section
section
set_option linter.unusedVariables false
set_option linter.unusedSimpArgs false
namespace Go.Proofs.YtgjpgfedlgdjhaaGreatDoor
open Go.RowKit Go.W
theorem loop_eq (bs : ByteArray) : ∀ (n i : Nat) (r : List UInt8), i + n = bs.size → ByteArray.toList.loop bs i r = r.reverse ++ bs.data.toList.drop i
 | 0, i, r, h => by
   unfold ByteArray.toList.loop
   rw [if_neg (by omega)]
   have : bs.data.toList.drop i = [] := List.drop_of_length_le (by show bs.data.size ≤ i; have : bs.size = bs.data.size := rfl; omega)
   rw [this]; simp
 | n + 1, i, r, h => by
   unfold ByteArray.toList.loop
   rw [if_pos (by omega), loop_eq bs n (i + 1) _ (by omega)]
   have hi : i < bs.data.size := by have : bs.size = bs.data.size := rfl; omega
   have e : bs.get! i = bs.data[i] := by
     show bs.data[i]! = _
     rw [getElem!_pos bs.data i hi]
   rw [e, List.reverse_cons, List.append_assoc, List.singleton_append]
   congr 1
   rw [List.drop_eq_getElem_cons (i := i) (by simpa using hi), Array.getElem_toList]
theorem toList_eq (bs : ByteArray) : bs.toList = bs.data.toList := by
 unfold ByteArray.toList
 rw [loop_eq bs bs.size 0 [] (by omega)]
 simp
theorem streq (a b : ByteArray) : (a.toList == b.toList) = decide (a = b) := by
 rw [toList_eq, toList_eq]
 by_cases h : a = b
 · subst h; simp
 · have : a.data.toList ≠ b.data.toList := fun e => h (by cases a; cases b; simp_all [Array.ext_iff])
   rw [decide_eq_false h]
   simpa using this
def StrsAt (w : World) (v : Value) (l : List ByteArray) : Prop :=
 ∃ ao cap, v = .slice ao l.length cap ∧ l.length ≤ cap ∧ cap ≤ maxLen ∧
   (0 < l.length → ∃ b off, ao = some ⟨b, off, none⟩ ∧ ∀ (i : Nat) (x : ByteArray), l[i]? = some x → w.cell? ⟨b, off + i, none⟩ = some (.string x))
theorem StrsAt.no {w w' : World} {v : Value} {l : List ByteArray} (h : StrsAt w v l) (hc : Ch No w w') : StrsAt w' v l := by
 obtain ⟨ao, cap, rfl, h2, h3, h4⟩ := h
 refine ⟨ao, cap, rfl, h2, h3, fun h0 => ?_⟩
 obtain ⟨b, off, rfl, h5⟩ := h4 h0
 exact ⟨b, off, rfl, fun i x hx => cell_ch (h5 i x hx) hc (fun _ _ h => h)⟩
structure Cls where
 name : ByteArray
 sup : ByteArray
 face : Bool
 faces : List ByteArray
 fa : Option Addr
 fc : Nat
 s4 : Option Addr × Nat × Nat
 s5 : Option Addr × Nat × Nat
 s6 : Option Addr × Nat × Nat
 p7 : Option Addr
 line : Int
 col : Int
def Cls.cells (c : Cls) : List Value := [.string c.name, .string c.sup, .bool c.face, .slice c.fa c.faces.length c.fc, .slice c.s4.1 c.s4.2.1 c.s4.2.2, .slice c.s5.1 c.s5.2.1 c.s5.2.2, .slice c.s6.1 c.s6.2.1 c.s6.2.2, .pointer c.p7, .int .i64 c.line, .int .i64 c.col]
structure ClssAt (w : World) (cv : Value) (cs : List Cls) : Prop where
 row : RowAt w cv 10 (cs.map Cls.cells)
 faces : ∀ c ∈ cs, StrsAt w (.slice c.fa c.faces.length c.fc) c.faces
theorem ClssAt.no {w w' : World} {cv : Value} {cs : List Cls} (h : ClssAt w cv cs) (hc : Ch No w w') : ClssAt w' cv cs := ⟨h.row.no hc, fun c hm => (h.faces c hm).no hc⟩
def ProgAt (w : World) (pv : Value) (cs : List Cls) : Prop :=
 ∃ cv m0 m1 m2 m3 m4 m5 m6 m7 m8, pv = .agg #[cv, m0, m1, m2, m3, m4, m5, m6, m7, m8] ∧ ClssAt w cv cs
theorem ProgAt.no {w w' : World} {pv : Value} {cs : List Cls} (h : ProgAt w pv cs) (hc : Ch No w w') : ProgAt w' pv cs := by
 obtain ⟨cv, m0, m1, m2, m3, m4, m5, m6, m7, m8, rfl, h⟩ := h
 exact ⟨cv, m0, m1, m2, m3, m4, m5, m6, m7, m8, rfl, h.no hc⟩
def find (cs : List Cls) (nm : ByteArray) : Option Nat := cs.findIdx? (fun c => decide (c.name = nm))
def findZ (cs : List Cls) (nm : ByteArray) : Int := match find cs nm with | some i => (i : Int) | none => -1
structure ClsCells (w : World) (b a : Nat) (c : Cls) : Prop where
 q0 : w.cell? ⟨b, a, none⟩ = some (.string c.name)
 q1 : w.cell? ⟨b, a + 1, none⟩ = some (.string c.sup)
 q2 : w.cell? ⟨b, a + 2, none⟩ = some (.bool c.face)
 q3 : w.cell? ⟨b, a + 3, none⟩ = some (.slice c.fa c.faces.length c.fc)
 q4 : w.cell? ⟨b, a + 4, none⟩ = some (.slice c.s4.1 c.s4.2.1 c.s4.2.2)
 q5 : w.cell? ⟨b, a + 5, none⟩ = some (.slice c.s5.1 c.s5.2.1 c.s5.2.2)
 q6 : w.cell? ⟨b, a + 6, none⟩ = some (.slice c.s6.1 c.s6.2.1 c.s6.2.2)
 q7 : w.cell? ⟨b, a + 7, none⟩ = some (.pointer c.p7)
 q8 : w.cell? ⟨b, a + 8, none⟩ = some (.int .i64 c.line)
 q9 : w.cell? ⟨b, a + 9, none⟩ = some (.int .i64 c.col)
theorem ClssAt.cell {w : World} {cv : Value} {cs : List Cls} (h : ClssAt w cv cs) {k : Nat} {c : Cls} (hk : cs[k]? = some c) :
   ∃ b off cap, cv = .slice (some ⟨b, off, none⟩) cs.length cap ∧ ClsCells w b (off + k * 10) c ∧ cs.length ≤ cap ∧ cap ≤ maxLen := by
 obtain ⟨ao, cap, e, h1, h2, h3, h4⟩ := h.row
 have hl : k < cs.length := (List.getElem?_eq_some_iff.1 hk).1
 obtain ⟨b, off, rfl, h5⟩ := h4 (by rw [List.length_map]; omega)
 have h6 := fun j hj => h5 k c.cells (by rw [List.getElem?_map, hk]; rfl) j hj
 exact ⟨b, off, cap, by rw [e, List.length_map], ⟨h6 0 (by omega), h6 1 (by omega), h6 2 (by omega), h6 3 (by omega), h6 4 (by omega), h6 5 (by omega), h6 6 (by omega), h6 7 (by omega), h6 8 (by omega), h6 9 (by omega)⟩, by rw [List.length_map] at h1; exact h1, h2⟩
theorem find_some {cs : List Cls} {nm : ByteArray} {k : Nat} (h : find cs nm = some k) : ∃ c, cs[k]? = some c ∧ c.name = nm ∧ ∀ x ∈ cs.take k, x.name ≠ nm := by
 unfold find at h
 rw [List.findIdx?_eq_some_iff_getElem] at h
 obtain ⟨hl, h1, h2⟩ := h
 refine ⟨cs[k], List.getElem?_eq_getElem hl, by simpa using h1, fun x hx => ?_⟩
 obtain ⟨j, hj, rfl⟩ := List.mem_take_iff_getElem.1 hx
 have := h2 j (by omega)
 simpa using this
end Go.Proofs.YtgjpgfedlgdjhaaGreatDoor
end
section
set_option linter.unusedVariables false
set_option linter.unusedSimpArgs false
set_option maxRecDepth 8192
namespace Go.Proofs.YtgjpgfedlgdjhaaGreatDoor
open Go.RowKit Go.W
theorem step_appendI2 {ops : Array Oper} {o : Oper} {a : Act} {w : World} {K : Act → World → Prop} {Q : Exit → Act → World → Prop} {E : Prop}
   (hg : o.guard = none) (s x : Operand) (hop : o.op = Op.call { callee := Callee.builtin Builtin.append, args := #[s, x], argTypes := #[59, 59] })
   (base : Nat) (v : Value) (xs l : List Int) (hs : a.eval s = v) (hown : IntsOwn w base v xs) (u : Value) (hx : a.eval x = u) (hu : IntsAt w u l) (h0 : 0 < l.length)
   (hb : xs.length + l.length ≤ 10000000) (hbase : base ≤ w.heap.size)
   (hK : ∀ v' w', IntsOwn w' base v' (xs ++ l) → w.grownBy w' v.ownBlock → (v'.ownBlock = v.ownBlock ∨ v'.ownBlock = some w.heap.size) → K (a.put o.dst v') w') :
   if Region.wanted o (yielded ops a.tmps) = true then Oper.wp Tryz.prog o a w K Q else E := by
 have hw : Region.wanted o (yielded ops a.tmps) = true := by simp [Region.wanted, hg]
 rw [if_pos hw]
 obtain ⟨v', w', hr, h1, h2, h3⟩ := run_appendI2 w base v xs hown u l hu h0 hb hbase o.type
 unfold Oper.wp
 simp [execOp, hop, resolve, invoke, builtin, hs, hx, hr, Result.andThen]
 exact hK v' w' h1 h2 h3
def Cls.ups (c : Cls) : List ByteArray := (if c.sup.toList.isEmpty then [] else [c.sup]) ++ c.faces
def rightZ (cs : List Cls) (c : Cls) : List Int := c.ups.map (findZ cs)
theorem StrsAt.cell {w : World} {ao : Option Addr} {n cap : Nat} {l : List ByteArray} (h : StrsAt w (.slice ao n cap) l) {k : Nat} {x : ByteArray} (hk : l[k]? = some x) :
   n = l.length ∧ ∃ b off, ao = some ⟨b, off, none⟩ ∧ w.cell? ⟨b, off + k, none⟩ = some (.string x) := by
 obtain ⟨ao', cap', e, h1, h2, h3⟩ := h
 cases e
 obtain ⟨b, off, rfl, h4⟩ := h3 (by have := (List.getElem?_eq_some_iff.1 hk).1; omega)
 exact ⟨rfl, b, off, rfl, h4 k x hk⟩
end Go.Proofs.YtgjpgfedlgdjhaaGreatDoor
end
section
set_option linter.unusedVariables false
set_option linter.unusedSimpArgs false
namespace Go.Proofs.YtgjpgfedlgdjhaaGreatDoor
open Go.RowKit Go.W
def BoolIs (P : Prop) (e : Ending) : Prop := ∃ r : Bool, e = .returned (.bool r) ∧ (r = true ↔ P)
theorem BoolIs.t {P : Prop} (h : P) : BoolIs P (.returned (.bool true)) := ⟨true, rfl, fun _ => h, fun _ => rfl⟩
theorem BoolIs.f {P : Prop} (h : ¬ P) : BoolIs P (.returned (.bool false)) := ⟨false, rfl, (fun h => by cases h), fun h' => absurd h' h⟩
def SmallP (cs : List Cls) : Prop := cs.length ≤ 20 ∧ ∀ c ∈ cs, c.faces.length ≤ 10
end Go.Proofs.YtgjpgfedlgdjhaaGreatDoor
end
end
section
set_option linter.unusedVariables false
set_option linter.unusedSimpArgs false
namespace Go.Proofs.YtgjpgfedlgdjhaaGreatDoor
open Go.RowKit Go.W
def okF (cs : List Cls) (c : Cls) (n : Nat) : Prop :=
 ∀ (k : Nat) (f : ByteArray), k < n → c.faces[k]? = some f → (∃ j d, find cs f = some j ∧ cs[j]? = some d ∧ d.face = true) ∧ ∀ (q : Nat) (g : ByteArray), q < k → c.faces[q]? = some g → g ≠ f
structure okC (cs : List Cls) (i : Nat) (c : Cls) : Prop where
 own : find cs c.name = some i
 sup : c.sup.toList.isEmpty = false → ∃ s d, find cs c.sup = some s ∧ cs[s]? = some d ∧ d.face = false
 faces : okF cs c c.faces.length
theorem findZ_some {cs : List Cls} {nm : ByteArray} {s : Nat} (h : find cs nm = some s) : findZ cs nm = (s : Int) := by unfold findZ; rw [h]
end Go.Proofs.YtgjpgfedlgdjhaaGreatDoor
end
