/- What the claim uses: part 25. -/
import Derived.Test.YtgjpgfedlgdjhaaGreatDoorZax
import Derived.Test.YtgjpgfedlgdjhaaGreatDoorZaw
import Derived.Test.YtgjpgfedlgdjhaaGreatDoorZar
section
section
set_option linter.unusedVariables false
set_option linter.unusedSimpArgs false
namespace Go.Proofs.YtgjpgfedlgdjhaaGreatDoor
open Go.RowKit Go.W
theorem ordAll {cs : List Cls} (h : FaultAt cs none) : ∀ i, i < cs.length → i ∈ ordN cs := by
 refine Gr.all_done (upsN_lt cs) h.2 ?_
 exact Gr.order_none cs.length [] .nil (by simp)
theorem rowIs {cs : List Cls} {ss : List SetP} (h : SsOf cs ss (ordN cs)) (hf : FaultAt cs none) (i : Int) : rowS ss i = if 0 ≤ i ∧ i < cs.length then abL cs [i] cs.length else [] := by
 unfold rowS
 by_cases h0 : 0 ≤ i
 · rw [if_pos h0]
   by_cases h1 : i < cs.length
   · rw [if_pos ⟨h0, h1⟩]
     obtain ⟨b, hb⟩ := h.yes i.toNat (ordAll hf _ (by omega))
     rw [hb]
     have : ((i.toNat : Nat) : Int) = i := by omega
     simp [this]
   · rw [if_neg (fun h => h1 h.2), List.getElem?_eq_none (by rw [h.len]; omega)]; rfl
 · rw [if_neg h0, if_neg (fun h => h0 h.1)]
theorem abMono {cs : List Cls} {is : List Int} {z : Int} : z ∈ abL cs is cs.length ↔ ∃ i ∈ is, (0 ≤ i ∧ i < cs.length) ∧ z ∈ abL cs [i] cs.length := by
 rw [mem_abL]
 constructor
 · rintro ⟨k, rfl, hk, x, hx, h⟩
   exact ⟨x, hx, ⟨h.1, h.2.1⟩, mem_abL.2 ⟨k, rfl, hk, x, by simp, h⟩⟩
 · rintro ⟨i, hi, _, h⟩
   obtain ⟨k, e, hk, x, hx, h2⟩ := mem_abL.1 h
   have hxi : x = i := by simpa using hx
   rw [hxi] at h2
   exact ⟨k, e, hk, i, hi, h2⟩
theorem aboveIs {cs : List Cls} {ss : List SetP} (h : SsOf cs ss (ordN cs)) (hf : FaultAt cs none) (hn : cs.length ≤ 20) (is : List Int) : aboveF ss is = abL cs is cs.length := by
 have key : ∀ (js : List Int) (acc : List Int), Good acc → Good (js.foldl (fun acc i => (rowS ss i).foldl putS acc) acc) ∧ ∀ z, z ∈ js.foldl (fun acc i => (rowS ss i).foldl putS acc) acc ↔ z ∈ acc ∨ ∃ i ∈ js, z ∈ rowS ss i := by
   intro js
   induction js with
   | nil => intro acc hg; exact ⟨hg, fun z => by simp⟩
   | cons j js ih =>
     intro acc hg
     obtain ⟨h1, h2⟩ := ih ((rowS ss j).foldl putS acc) (hg.fold _)
     refine ⟨h1, fun z => ?_⟩
     rw [List.foldl_cons, h2, mem_fold]
     constructor
     · rintro ((h | ⟨h, _⟩) | ⟨i, hi, h⟩)
       · exact .inl h
       · exact .inr ⟨j, by simp, h⟩
       · exact .inr ⟨i, by simp [hi], h⟩
     · rintro (h3 | ⟨i, hi, h3⟩)
       · exact .inl (.inl h3)
       · rcases List.mem_cons.1 hi with rfl | hi
         · refine .inl (.inr ⟨h3, ?_⟩)
           rw [rowIs h hf] at h3
           split at h3
           · obtain ⟨k, rfl, hk, _⟩ := mem_abL.1 h3
             omega
           · cases h3
         · exact .inr ⟨i, hi, h3⟩
 obtain ⟨h1, h2⟩ := key is [] good_nil
 refine sorted_eq h1.1 (abSorted cs _ _) (fun z => ?_)
 unfold aboveF at *
 rw [h2, abMono]
 constructor
 · rintro (h3 | ⟨i, hi, h3⟩)
   · cases h3
   · rw [rowIs h hf] at h3
     split at h3
     · rename_i hb; exact ⟨i, hi, hb, h3⟩
     · cases h3
 · rintro ⟨i, hi, hb, h3⟩
   refine .inr ⟨i, hi, ?_⟩
   rw [rowIs h hf, if_pos hb]; exact h3
theorem tAbove {w : World} {tv v : Value} {cs : List Cls} {is : List Int} (hT : Tab w) (h : TableIs w tv cs) (hf : FaultAt cs none) (hn : cs.length ≤ 20) (hi : IntsAt w v is) :
   Calls Tryz.prog 77 #[tv, v] w fun e w' => ∃ u, e = .returned u ∧ IntsOwn w' w.heap.size u (abL cs is cs.length) ∧ Ch No w w' := by
 obtain ⟨tb, T, rfl, h1, h2, h3, h4, h5⟩ := h
 have := habove hT h1 (by rw [h2.slen, h2.len]) hi
 rw [aboveIs h5 hf hn] at this
 exact this
theorem StrsAt.nil (w : World) : StrsAt w (.slice none 0 0) [] := ⟨none, 0, rfl, Nat.le_refl _, Nat.zero_le _, fun h => by simp at h⟩
end Go.Proofs.YtgjpgfedlgdjhaaGreatDoor
end
section
set_option linter.unusedVariables false
set_option linter.unusedSimpArgs false
namespace Go.Proofs.YtgjpgfedlgdjhaaGreatDoor
open Go.RowKit Go.W
theorem faultIs {cs : List Cls} {o : Option Nat} (h : FaultAt cs o) : (o = none ∧ faultC cs o = (0, 0, 0)) ∨ ∃ i l c, o = some i ∧ faultC cs o = (11, l, c) := by
 cases o with
 | none => exact .inl ⟨rfl, rfl⟩
 | some i =>
   obtain ⟨c, hc⟩ : ∃ c, cs[i]? = some c := ⟨_, List.getElem?_eq_getElem h.1⟩
   exact .inr ⟨i, c.line, c.col, rfl, faultSome hc⟩
end Go.Proofs.YtgjpgfedlgdjhaaGreatDoor
end
section
set_option linter.unusedVariables false
set_option linter.unusedSimpArgs false
namespace Go.Proofs.YtgjpgfedlgdjhaaGreatDoor
open Go.RowKit Go.W
theorem tIndex {w : World} {tv : Value} {cs : List Cls} (h : TableIs w tv cs) {nm : ByteArray} (hn : nm.size ≤ maxLen) :
   Calls Tryz.prog 159 #[tv, .string nm] w fun e w' => e = .returned (.tuple #[.int .i64 (getI (find cs) nm), .bool (getB (find cs) nm)]) ∧ w = w' := by
 obtain ⟨tb, T, rfl, h1, h2, h3, h4, h5⟩ := h
 have := hindex h1 hn
 rw [h3] at this
 exact this
theorem tLen {w : World} {tv : Value} {cs : List Cls} (h : TableIs w tv cs) :
   Calls Tryz.prog 75 #[tv] w fun e w' => e = .returned (.int .i64 cs.length) ∧ w = w' := by
 obtain ⟨tb, T, rfl, h1, h2, h3, h4, h5⟩ := h
 have := hlen h1
 rw [h2.len] at this
 exact this
theorem KsOf.at {cs : List Cls} {T : TabD} (h : KsOf cs T) {i : Nat} {c : Cls} (hc : cs[i]? = some c) : ∃ k, T.ks[i]? = some k ∧ k.name = c.name ∧ k.face = c.face ∧ k.sup = supZ cs c ∧ k.fs = c.faces.map (findZ cs) := by
 have hi := (List.getElem?_eq_some_iff.1 hc).1
 obtain ⟨k, hk⟩ : ∃ k, T.ks[i]? = some k := ⟨_, List.getElem?_eq_getElem (by rw [h.len]; exact hi)⟩
 exact ⟨k, hk, h.row i c k hc hk⟩
theorem tFace {w : World} {tv : Value} {cs : List Cls} (h : TableIs w tv cs) {i : Nat} {c : Cls} (hc : cs[i]? = some c) :
   Calls Tryz.prog 46 #[tv, .int .i64 i] w fun e w' => e = .returned (.bool c.face) ∧ w = w' := by
 obtain ⟨tb, T, rfl, h1, h2, h3, h4, h5⟩ := h
 obtain ⟨k, hk, hk1, hk2, hk3, _⟩ := h2.at hc
 have := hFace h1 (i : Int)
 rw [rowZ_nat, hk] at this
 rw [← hk2]
 exact this
theorem tFaceNo {w : World} {tv : Value} {cs : List Cls} (h : TableIs w tv cs) {i : Int} (hi : ¬ (0 ≤ i ∧ i < cs.length)) :
   Calls Tryz.prog 46 #[tv, .int .i64 i] w fun e w' => e = .returned (.bool false) ∧ w = w' := by
 obtain ⟨tb, T, rfl, h1, h2, h3, h4, h5⟩ := h
 have := hFace h1 i
 have hr : rowZ T.ks i = none := by
   unfold rowZ
   split
   · rw [List.getElem?_eq_none]; have := h2.len; omega
   · rfl
 rw [hr] at this
 exact this
theorem tSuper {w : World} {tv : Value} {cs : List Cls} (h : TableIs w tv cs) {i : Nat} {c : Cls} (hc : cs[i]? = some c) :
   Calls Tryz.prog 50 #[tv, .int .i64 i] w fun e w' => e = .returned (.int .i64 (supZ cs c)) ∧ w = w' := by
 obtain ⟨tb, T, rfl, h1, h2, h3, h4, h5⟩ := h
 obtain ⟨k, hk, hk1, hk2, hk3, _⟩ := h2.at hc
 have := hSuper h1 (i : Int)
 rw [rowZ_nat, hk] at this
 rw [← hk3]
 exact this
theorem tRight {w : World} {tv : Value} {cs : List Cls} (h : TableIs w tv cs) (hs : SoundP cs) (hsm : SmallP cs) {i : Nat} {c : Cls} (hc : cs[i]? = some c) :
   Calls Tryz.prog 49 #[tv, .int .i64 i] w fun e w' => ∃ u, e = .returned u ∧ IntsOwn w' w.heap.size u (rightZ cs c) ∧ Ch No w w' := by
 obtain ⟨tb, T, rfl, h1, h2, h3, h4, h5⟩ := h
 obtain ⟨k, hk, _, _, _, hk4⟩ := h2.at hc
 have := hright h1 hk (by rw [hk4, List.length_map]; have := hsm.2 c (List.mem_of_getElem? hc); omega)
 rw [rightK h2 hc hk (hs i c hc), ← rightZ_ups hc (hs i c hc)] at this
 exact this
def sInt : ByteArray := ⟨#[105, 110, 116]⟩
def sNull : ByteArray := ⟨#[110, 117, 108, 108]⟩
def sVoid : ByteArray := ⟨#[118, 111, 105, 100]⟩
def sArr : ByteArray := ⟨#[91, 93]⟩
def arrP (t : ByteArray) : Prop := 2 ≤ t.size ∧ t.extract (t.size - 2) t.size = sArr
def cutA (t : ByteArray) : ByteArray := t.extract 0 (t.size - 2)
noncomputable def elemO (cs : List Cls) (t : ByteArray) : Option ByteArray :=
 @ite _ (arrP t ∧ (find cs (cutA t)).isSome) (Classical.propDecidable _) (some (cutA t)) none
theorem elemO_some {cs : List Cls} {t e : ByteArray} : elemO cs t = some e ↔ arrP t ∧ cutA t = e ∧ ∃ i, find cs e = some i := by
 unfold elemO
 split
 · rename_i h
   obtain ⟨h1, h2⟩ := h
   obtain ⟨i, hi⟩ := Option.isSome_iff_exists.1 h2
   constructor
   · intro e; cases e; exact ⟨h1, rfl, i, hi⟩
   · rintro ⟨_, rfl, _⟩; rfl
 · rename_i h
   constructor
   · intro e; cases e
   · rintro ⟨h1, rfl, i, hi⟩
     exact absurd ⟨h1, by rw [hi]; rfl⟩ h
theorem elemO_none {cs : List Cls} {t : ByteArray} : elemO cs t = none ↔ ¬ (arrP t ∧ (find cs (cutA t)).isSome) := by
 unfold elemO
 split
 · rename_i h
   exact ⟨fun e => (by cases e), fun h' => absurd h h'⟩
 · rename_i h
   exact ⟨fun _ => h, fun _ => rfl⟩
def isT (cs : List Cls) (t : ByteArray) : Prop := t = sInt ∨ t = sNull ∨ (∃ i, find cs t = some i) ∨ ∃ e, elemO cs t = some e
def upT (cs : List Cls) (i k : Nat) : Prop := i = k ∨ Gr.Reach (upsN cs) i k
def belT (cs : List Cls) (t u : ByteArray) : Prop :=
 isT cs t ∧ isT cs u ∧ (t = u ∨ t = sNull ∧ u ≠ sInt ∨ t ≠ sNull ∧ ∃ i k, find cs t = some i ∧ find cs u = some k ∧ upT cs i k)
theorem find_lt {cs : List Cls} {t : ByteArray} {i : Nat} (h : find cs t = some i) : i < cs.length := by
 obtain ⟨c, hc, _⟩ := find_some h
 exact (List.getElem?_eq_some_iff.1 hc).1
theorem belT.refl {cs : List Cls} {t : ByteArray} (h : isT cs t) : belT cs t t := ⟨h, h, .inl rfl⟩
end Go.Proofs.YtgjpgfedlgdjhaaGreatDoor
end
section
set_option linter.unusedVariables false
set_option linter.unusedSimpArgs false
namespace Go.Proofs.YtgjpgfedlgdjhaaGreatDoor
open Go.RowKit Go.W
theorem run_appendOwn (w : World) {t e : TypeId} {sz bytes : Nat} (ht : Tryz.prog.underlying t = some (.slice e)) (hinfo : (Tryz.prog.info? e).map (fun i => (i.zero.map (fun z => z.cells.size), i.size, i.bytes)) = some (some sz, sz, bytes)) (hsz : 0 < sz) (hby : bytes ≤ 1000)
   (base : Nat) (v : Value) (n : Nat) (xs : List Value) (hown : w.ownsRow base e sz v n xs) (b m c : Nat) (news : List Value) (hl : news.length = m * sz) (hb : w.heap[b]? = some (.cells news.toArray e (0, 0))) (h1 : ∀ u ∈ news, u.oneCell' = true)
   (hn : n + m ≤ 100000) (hbase : base ≤ w.heap.size) (ty : TypeId) :
   ∃ v' w', (Builtin.append_ #[t, t] ty #[v, .slice (some ⟨b, 0, none⟩) m c]).run Tryz.prog w = .ok v' w' ∧ w'.ownsRow base e sz v' (n + m) (xs ++ news) ∧ Ch (fun j _ => v.ownBlock = some j) w w' := by
 obtain ⟨i, z, hi, hz, h2, h3, h4⟩ := infoOf hinfo
 have hm : maxLen = 9223372036854775807 := rfl
 obtain ⟨v', w', hr, ho, hg, _⟩ := run_append_own (P := Tryz.prog) w base t ty e i z sz bytes ht hi hz h3 h4 h2 hsz v n xs hown ⟨b, 0, none⟩ m c news hl
   (fun j u hj => by
     rw [Addr.add_lit, cellAt hb, Nat.zero_add, ← Array.getElem?_toList]
     exact hj) h1 (by omega) (by
       have : (n + m) * bytes ≤ 100000 * 1000 := Nat.mul_le_mul hn hby
       omega) hbase
 exact ⟨v', w', hr, ho, (Ch.refl _ w).grown hg (fun _ _ h _ => h)⟩
theorem wpAppendOwn {w : World} {ops : Array Oper} {rest : List Oper} {o : Oper} {a : Act} {Q : Exit → Act → World → Prop} (hgd : o.guard = none) (s x : Operand) {t e : TypeId} {sz bytes : Nat}
   (ho : o.op = .call { callee := .builtin .append, args := #[s, x], argTypes := #[t, t] })
   (ht : Tryz.prog.underlying t = some (.slice e)) (hinfo : (Tryz.prog.info? e).map (fun i => (i.zero.map (fun z => z.cells.size), i.size, i.bytes)) = some (some sz, sz, bytes)) (hsz : 0 < sz) (hby : bytes ≤ 1000)
   (base : Nat) (v : Value) (n : Nat) (xs : List Value) (hsv : a.eval s = v) (hown : w.ownsRow base e sz v n xs) (b m c : Nat) (news : List Value) (hxv : a.eval x = .slice (some ⟨b, 0, none⟩) m c) (hl : news.length = m * sz) (hb : w.heap[b]? = some (.cells news.toArray e (0, 0))) (h1 : ∀ u ∈ news, u.oneCell' = true)
   (hn : n + m ≤ 100000) (hbase : base ≤ w.heap.size)
   (hK : ∀ v' w', w'.ownsRow base e sz v' (n + m) (xs ++ news) → Ch (fun k _ => v.ownBlock = some k) w w' → wpList Tryz.prog ops Q rest (a.put o.dst v') w') :
   wpList Tryz.prog ops Q (o :: rest) a w := by
 refine wpList_plain hgd fun K hK' => ?_
 obtain ⟨v', w', hr, h2, h3⟩ := run_appendOwn w ht hinfo hsz hby base v n xs hown b m c news hl hb h1 hn hbase o.type
 unfold Oper.wp
 simp [execOp, ho, resolve, invoke, builtin, hsv, hxv, hr, Result.andThen]
 exact hK' _ _ (hK v' w' h2 h3)
theorem step_appendOwn {ops : Array Oper} {o : Oper} {a : Act} {w : World} {K : Act → World → Prop} {Q : Exit → Act → World → Prop} {E : Prop}
   (hg : o.guard = none) (s x : Operand) {t e : TypeId} {sz bytes : Nat} (hop : o.op = Op.call { callee := Callee.builtin Builtin.append, args := #[s, x], argTypes := #[t, t] })
   (ht : Tryz.prog.underlying t = some (.slice e)) (hinfo : (Tryz.prog.info? e).map (fun i => (i.zero.map (fun z => z.cells.size), i.size, i.bytes)) = some (some sz, sz, bytes)) (hsz : 0 < sz) (hby : bytes ≤ 1000)
   (base : Nat) (v : Value) (n : Nat) (xs : List Value) (hs : a.eval s = v) (hown : w.ownsRow base e sz v n xs) (b m c : Nat) (news : List Value) (hx : a.eval x = .slice (some ⟨b, 0, none⟩) m c) (hl : news.length = m * sz) (hb : w.heap[b]? = some (.cells news.toArray e (0, 0))) (h1 : ∀ u ∈ news, u.oneCell' = true)
   (hn : n + m ≤ 100000) (hbase : base ≤ w.heap.size)
   (hK : ∀ v' w', w'.ownsRow base e sz v' (n + m) (xs ++ news) → Ch (fun k _ => v.ownBlock = some k) w w' → K (a.put o.dst v') w') :
   if Region.wanted o (yielded ops a.tmps) = true then Oper.wp Tryz.prog o a w K Q else E := by
 have hw : Region.wanted o (yielded ops a.tmps) = true := by simp [Region.wanted, hg]
 rw [if_pos hw]
 obtain ⟨v', w', hr, h2, h3⟩ := run_appendOwn w ht hinfo hsz hby base v n xs hown b m c news hl hb h1 hn hbase o.type
 unfold Oper.wp
 simp [execOp, hop, resolve, invoke, builtin, hs, hx, hr, Result.andThen]
 exact hK v' w' h2 h3
theorem owned_typed {w : World} {base sz n : Nat} {e : TypeId} {v : Value} {xs : List Value} (h : w.ownsRow base e sz v n xs) : ∀ g, v.ownBlock = some g → base ≤ g ∧ ∃ cur, w.heap[g]? = some (.cells cur e (0, 0)) := by
 intro g hg
 rcases h.2 with ⟨rfl, _⟩ | ⟨g', cap, cur, rfl, h2, h3, _⟩
 · simp [Value.ownBlock] at hg
 · have e : g' = g := by simpa [Value.ownBlock] using hg
   subst e
   exact ⟨h2, cur, h3⟩
theorem not_own {w : World} {base sz n : Nat} {e t : TypeId} {v : Value} {xs : List Value} {cur : Array Value} {g : Nat} (h : w.ownsRow base e sz v n xs) (hg : w.heap[g]? = some (.cells cur t (0, 0))) (hne : t ≠ e) : ¬ v.ownBlock = some g := by
 intro hv
 obtain ⟨_, cur2, h2⟩ := owned_typed h g hv
 rw [hg] at h2
 have : t = e := by
   have := Option.some.inj h2
   cases this; rfl
 exact hne this
theorem Tryz.sliceStr : Tryz.prog.underlying 46 = some (.slice 9) := by kernel_rfl
theorem Tryz.infoStr : (Tryz.prog.info? 9).map (fun i => (i.zero.map (fun z => z.cells.size), i.size, i.bytes)) = some (some 1, 1, 16) := by kernel_rfl
def StrsOwn (w : World) (base : Nat) (v : Value) (l : List ByteArray) : Prop := w.ownsRow base 9 1 v l.length (l.map Value.string)
theorem StrsOwn.nil (w : World) (base : Nat) : StrsOwn w base (.slice none 0 0) [] := World.ownsRow_nil _ _ _ _
theorem StrsOwn.ch {S : Nat → Obj → Prop} {w w' : World} {base : Nat} {v : Value} {l : List ByteArray} (h : StrsOwn w base v l) (hc : Ch S w w') (hS : ∀ g cur, v.ownBlock = some g → base ≤ g → ¬ S g (.cells cur 9 (0, 0))) : StrsOwn w' base v l :=
 ownsRow_ch h hc (fun g cur e hg _ => hS g cur e hg)
theorem StrsOwn.no {w w' : World} {base : Nat} {v : Value} {l : List ByteArray} (h : StrsOwn w base v l) (hc : Ch No w w') : StrsOwn w' base v l := h.ch hc (fun _ _ _ _ h => h)
theorem StrsOwn.at_ {w : World} {base : Nat} {v : Value} {l : List ByteArray} (h : StrsOwn w base v l) : StrsAt w v l := by
 rcases h.2 with ⟨rfl, h0⟩ | ⟨g, cap, cur, rfl, hg, hh, h4, h5, h6, h7⟩
 · have : l = [] := List.length_eq_zero_iff.1 h0
   subst this
   exact ⟨none, 0, rfl, Nat.le_refl _, Nat.zero_le _, fun h => by simp at h⟩
 · refine ⟨some ⟨g, 0, none⟩, cap, rfl, h4, h5, fun _ => ⟨g, 0, rfl, fun i x hx => ?_⟩⟩
   have hi := (List.getElem?_eq_some_iff.1 hx).1
   have : (l.map Value.string)[i]? = some (.string x) := by rw [List.getElem?_map, hx]; rfl
   rw [← h7, List.getElem?_take, if_pos (by omega)] at this
   rw [cellAt hh, Nat.zero_add, ← Array.getElem?_toList]
   exact this
theorem StrsOwn.base {w : World} {base base' : Nat} {v : Value} {l : List ByteArray} (h : StrsOwn w base v l) (hb : base' ≤ base) : StrsOwn w base' v l := by
 refine ⟨h.1, ?_⟩
 rcases h.2 with h | ⟨g, cap, cur, h1, h2, h3⟩
 · exact .inl h
 · exact .inr ⟨g, cap, cur, h1, Nat.le_trans hb h2, h3⟩
end Go.Proofs.YtgjpgfedlgdjhaaGreatDoor
end
end
section
set_option linter.unusedVariables false
set_option linter.unusedSimpArgs false
set_option maxRecDepth 8192
namespace Go.Proofs.YtgjpgfedlgdjhaaGreatDoor
open Go.RowKit Go.W
theorem ownsSh {w : World} {base sz n : Nat} {e : TypeId} {v : Value} {xs : List Value} (h : w.ownsRow base e sz v n xs) : ∃ ao cap, v = .slice ao n cap ∧ n ≤ cap ∧ cap ≤ maxLen := by
 rcases h.2 with ⟨rfl, h0⟩ | ⟨g, cap, cur, rfl, _, _, h4, h5, _⟩
 · rw [h0]; exact ⟨_, _, rfl, Nat.le_refl _, Nat.zero_le _⟩
 · exact ⟨_, _, rfl, h4, h5⟩
theorem ownsTb {w w' : World} {g base sz n : Nat} {e : TypeId} {v : Value} {xs : List Value} (h : w.ownsRow base e sz v n xs) (hc : Ch (Tb g) w w') {cs : Array Value} {t : TypeId} (hg : w.heap[g]? = some (.cells cs t (0, 0))) (hne : t ≠ e) : w'.ownsRow base e sz v n xs :=
 ownsRow_ch h hc (fun k cur hk _ _ e1 => by
   have e2 : k = g := e1
   subst e2
   exact not_own h hg hne hk)
theorem Tx.blk {w0 w : World} {g : Nat} {L : List Tok} {a b c d : Int} (h : Tx w0 w g L a b c d) : ∃ cs, w.heap[g]? = some (.cells cs 79 (0, 0)) := by
 obtain ⟨⟨A0, c0, hb, _, _⟩, _⟩ := h
 exact ⟨_, hb⟩
theorem ownsTx {w0 w w' : World} {g : Nat} {L : List Tok} {a b c d : Int} (hT : Tx w0 w g L a b c d) {base sz n : Nat} {e : TypeId} {v : Value} {xs : List Value} (h : w.ownsRow base e sz v n xs) (hc : Ch (Tb g) w w') (hne : 79 ≠ e) : w'.ownsRow base e sz v n xs := by
 obtain ⟨cs, hb⟩ := hT.blk
 exact ownsTb h hc hb hne
theorem Tx.app {w0 w w' : World} {g : Nat} {L : List Tok} {a b c d : Int} (hT : Tx w0 w g L a b c d) {base sz n : Nat} {e : TypeId} {v : Value} {xs : List Value} (h : w.ownsRow base e sz v n xs) (hc : Ch (fun k _ => v.ownBlock = some k) w w') (hne : 79 ≠ e) (hb : w0.heap.size ≤ base) : Tx w0 w' g L a b c d := by
 obtain ⟨cs, hg⟩ := hT.blk
 exact hT.keep hc (fun o ho => not_own h hg hne) (newCh hT.ch hc (fun k o ho e1 => by have := (owned_typed h k e1).1; omega))
theorem Tryz.infoStmt : (Tryz.prog.info? 128).map (fun i => (i.zero.map (fun z => z.cells.size), i.size, i.bytes)) = some (some 12, 12, 184) := by kernel_rfl
theorem Tryz.sliceStmt : Tryz.prog.underlying 25 = some (.slice 128) := by kernel_rfl
def stC (nm tn : ByteArray) (p q : Int) : List Value := [.int .i64 0, .string nm, .string ⟨#[]⟩, .string ⟨#[]⟩, .string tn, .string ⟨#[]⟩, .slice none 0 0, .int .i64 0, .slice none 0 0, .slice none 0 0, .int .i64 p, .int .i64 q]
theorem stC_one (nm tn : ByteArray) (p q : Int) : ∀ u ∈ stC nm tn p q, u.oneCell' = true := by
 intro u hu
 simp [stC] at hu
 rcases hu with rfl | rfl | rfl | rfl | rfl | rfl | rfl | rfl | rfl | rfl | rfl | rfl <;> rfl
structure BodyAt (L : List Tok) (z : Int) (nm tn : ByteArray) (p q z6 : Int) : Prop where
 bg : Beg L z true
 kb : ¬ nm = ⟨#[125]⟩
 b0 : 0 ≤ z
 st : ∃ z5, StmtAt L z nm tn p q z5 ∧ 0 ≤ z5 ∧ z5 ≤ 100000 ∧ Wd L z5 ⟨#[125]⟩ ∧ z6 = z5 + 1
def StmtsOut (w0 w : World) (g : Nat) (L : List Tok) (a b c d : Int) (nm tn : ByteArray) (p q z6 : Int) (e : Ending) (w' : World) : Prop :=
 ∃ v, e = .returned (.tuple #[v, .int .i64 z6]) ∧ w'.ownsRow w.heap.size 128 12 v 1 (stC nm tn p q) ∧ TxO w0 w g L a b c d w'
set_option maxHeartbeats 8000000 in
theorem tstmts {w0 w : World} {g : Nat} {L : List Tok} {a b c d : Int} (h : Tx w0 w g L a b c d) {z p q z6 deep : Int} {nm tn : ByteArray} (hB : BodyAt L z nm tn p q z6) :
   Calls Tryz.prog 60 #[.pointer (some ⟨g, 0, none⟩), .int .i64 z, .int .i64 deep] w (StmtsOut w0 w g L a b c d nm tn p q z6) := by
 obtain ⟨hbg, kb, hz0, z5, hst, h50, h51, hw5, rfl⟩ := hB
 have hwd := hst.wd
 have e1 := litCn nm [125] kb
 obtain ⟨s, hs⟩ : ∃ s : ByteArray, s = ⟨#[125]⟩ := ⟨_, rfl⟩
 rw [← hs] at hw5
 have e2 := litC s [125] hs
 have wz : IntKind.i64.wrap (z5 + 1) = z5 + 1 := by rw [IntKind.wrap_i64]; omega
 have d1 : decide (z ≥ 0) = true := decide_eq_true hz0
 have d2 : decide (z5 ≥ 0) = true := decide_eq_true h50
 have d3 : decide (z5 < 0) = false := decide_eq_false (by omega)
 clear kb hs
 have HT := hid h
 have h0w := h.ch.size
 clear h
 go_enter Tryz.func60, Tryz.ntmps60
 go_wp2_with fail
 go_loopg [6, 7, 8, 1, 9, 10] 1 (fun gg s6 s7 s8 s1 s9 s10 wr => Hid (TxO w0 w g L a b c d wr) ∧ ((s1 = .int .i64 z ∧ s8 = .slice none 0 0 ∧ 1 ≤ gg) ∨ (s1 = .int .i64 z5 ∧ ∃ ao cap, s8 = .slice ao 1 cap ∧ Hid (wr.ownsRow w.heap.size 128 12 (.slice ao 1 cap) 1 (stC nm tn p q)))))
 case atStart => exact ⟨hid ⟨HT.out, Ch.refl _ _⟩, .inl ⟨rfl, rfl, Nat.le_refl _⟩⟩
 case round =>
   obtain ⟨HTR, hor⟩ := hrel
   obtain ⟨hT, hcr⟩ := HTR.out
   rcases hor with ⟨rfl, rfl, hg⟩ | ⟨rfl, ao, cap, rfl, HR⟩
   · go_wp2_with fail
     refine (twd hT hwd).mono ?_
     rintro e w1 ⟨rfl, hT1, hc1⟩
     go_wp2_with fail
     refine (tbeg hT1 hbg).mono ?_
     rintro e w2 ⟨rfl, hT2, hc2⟩
     go_wp2_with fail
     refine (tstmt hT2 hst).mono ?_
     rintro e w3 ⟨rfl, hT3, hc3⟩
     have HC3 := hid (((hcr.trans hc1).trans hc2).trans hc3)
     clear hT hT1 hT2 hc1 hc2 hc3 hcr
     go_upto_region 8 with fail
     obtain ⟨w4, hw4⟩ : ∃ w4, w3.alloc (.cells (stC nm tn p q).toArray 128) = w4 := ⟨_, rfl⟩
     have hb4 := heap_alloc_new w3 (.cells (stC nm tn p q).toArray 128)
     have hc4 := (Ch.refl No w3).alloc (.cells (stC nm tn p q).toArray 128)
     rw [hw4] at hb4 hc4
     unfold stC at hw4 hb4
     have HC4 := hid (HC3.out.trans (chNo hc4))
     have HT4 := hid (hT3.no hc4)
     have p0 := cellAt hb4 0
     have p1 := cellAt hb4 1
     have p2 := cellAt hb4 2
     have p3 := cellAt hb4 3
     have p4 := cellAt hb4 4
     have p5 := cellAt hb4 5
     have p6 := cellAt hb4 6
     have p7 := cellAt hb4 7
     have p8 := cellAt hb4 8
     have p9 := cellAt hb4 9
     have p10 := cellAt hb4 10
     have p11 := cellAt hb4 11
     have hbase : w.heap.size ≤ (w4.alloc (.cells (stC nm tn p q).toArray 128)).heap.size := (HC4.out.alloc _).size
     clear hb4 hc4 hT3
     go_wp2_with (at_builtin; go_must (refine wpAppendOwn rfl _ _ rfl Tryz.sliceStmt Tryz.infoStmt (Nat.le_of_ble_eq_true rfl) (Nat.le_of_ble_eq_true rfl) w.heap.size (.slice none 0 0) 0 [] rfl (World.ownsRow_nil _ _ _ _) w4.heap.size 1 1 (stC nm tn p q) rfl rfl (heap_alloc_new w4 _) (stC_one _ _ _ _) (Nat.le_of_ble_eq_true rfl) hbase ?_))
     intro v6 w6 hr6 hc6
     obtain ⟨a6, c6, e6, _, _⟩ := ownsSh hr6
     subst e6
     clear hw4 p0 p1 p2 p3 p4 p5 p6 p7 p8 p9 p10 p11
     have hx := (HT4.out.no ((Ch.refl No w4).alloc (.cells (stC nm tn p q).toArray 128))).app (World.ownsRow_nil _ _ _ 12) hc6 (by decide : (79 : TypeId) ≠ 128) h0w
     have HX := hid hx
     have HC6 := hid ((HC4.out.alloc (.cells (stC nm tn p q).toArray 128)).trans (chNo (hc6.mono (fun k o ho e => by simp [Value.ownBlock] at e))))
     have HR6 := hid hr6
     clear hx hr6 hc6 hbase
     go_wp2_with fail
     go_roundg 0
     case rel => exact ⟨hid ⟨HX.out, HC6.out⟩, .inr ⟨rfl, a6, c6, rfl, hid HR6.out⟩⟩
     case measure => omega
   · go_wp2_with fail
     refine (twd hT hw5).mono ?_
     rintro e w1 ⟨rfl, hT1, hc1⟩
     have hr1 := ownsTx hT HR.out hc1 (by decide)
     have HO := hid (show StmtsOut w0 w g L a b c d nm tn p q (z5 + 1) (.returned (.tuple #[.slice ao 1 cap, .int .i64 (z5 + 1)])) w1 from ⟨_, rfl, hr1, hT1, hcr.trans hc1⟩)
     clear hT hT1 hc1 hr1 hcr
     go_wp2_with fail
     refine bodyPost_ret (v := .tuple #[.slice ao 1 cap, .int .i64 (z5 + 1)]) (by simp [results, Tryz.results60, go_sem]) rfl ?_
     exact HO.out
end Go.Proofs.YtgjpgfedlgdjhaaGreatDoor
end
