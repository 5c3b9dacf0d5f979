/- Part 7. -/
import Derived.Test.YtgjpgfedlgdjhaaGreatDoorYaf
import Derived.Deep.RegionHeld3
import Derived.BigQuiet
import Derived.Deep.CutRange
set_option linter.unusedVariables false
set_option linter.unusedSimpArgs false
set_option maxHeartbeats 64000000
set_option maxRecDepth 8192
section
section
namespace Go.Proofs.YtgjpgfedlgdjhaaGreatDoor
open Go.RowKit Go.W
theorem Zp {cs : List Aj} (h : Bt cs none) : ∀ i, i < cs.length → i ∈ Hj cs := by
 refine Gr.all_done (Dq cs) h.2 ?_
 exact Gr.order_none cs.length [] .nil (by simp)
theorem Tu {cs : List Aj} {ss : List A4} (h : Fm cs ss (Hj cs)) (hf : Bt cs none) (i : Int) : I7 ss i = if 0 ≤ i ∧ i < cs.length then Gz cs [i] cs.length else [] := by
 unfold I7
 by_cases h0 : 0 ≤ i
 {rw [if_pos h0]
  by_cases h1 : i < cs.length
  {rw [if_pos ⟨h0, h1⟩]
   obtain ⟨b, hb⟩ := h.yes i.toNat (Zp hf _ (by omega))
   rw [hb]
   have : ((i.toNat : Nat) : Int) = i := by omega
   simp [this]}
  {rw [if_neg (fun h => h1 h.2), List.getElem?_eq_none (by rw [h.len]; omega)]; rfl}}
 {rw [if_neg h0, if_neg (fun h => h0 h.1)]}
theorem Zq {cs : List Aj} {is : List Int} {z : Int} : z ∈ Gz cs is cs.length ↔ ∃ i ∈ is, (0 ≤ i ∧ i < cs.length) ∧ z ∈ Gz cs [i] cs.length := by
 rw [Fl]
 constructor
 {rintro ⟨k, rfl, hk, x, hx, h⟩
  exact ⟨x, hx, ⟨h.1, h.2.1⟩, Fl.2 ⟨k, rfl, hk, x, by simp, h⟩⟩}
 {rintro ⟨i, hi, _, h⟩
  obtain ⟨k, e, hk, x, hx, h2⟩ := Fl.1 h
  have hxi : x = i := by simpa using hx
  rw [hxi] at h2
  exact ⟨k, e, hk, i, hi, h2⟩}
theorem Wu {cs : List Aj} {ss : List A4} (h : Fm cs ss (Hj cs)) (hf : Bt cs none) (hn : cs.length ≤ 20) (is : List Int) : G6 ss is = Gz cs is cs.length := by
 have key : ∀ (js : List Int) (acc : List Int), Eu acc → Eu (js.foldl (fun acc i => (I7 ss i).foldl Cq acc) acc) ∧ ∀ z, z ∈ js.foldl (fun acc i => (I7 ss i).foldl Cq acc) acc ↔ z ∈ acc ∨ ∃ i ∈ js, z ∈ I7 ss i := by
  intro js
  induction js with
  | nil => intro acc hg; exact ⟨hg, fun z => by simp⟩
  | cons j js ih =>
   intro acc hg
   obtain ⟨h1, h2⟩ := ih ((I7 ss j).foldl Cq acc) (hg.fold _)
   refine ⟨h1, fun z => ?_⟩
   rw [List.foldl_cons, h2, Hh]
   constructor
   {rintro ((h | ⟨h, _⟩) | ⟨i, hi, h⟩)
    {exact .inl h}
    {exact .inr ⟨j, by simp, h⟩}
    {exact .inr ⟨i, by simp [hi], h⟩}}
   {rintro (h3 | ⟨i, hi, h3⟩)
    {exact .inl (.inl h3)}
    {rcases List.mem_cons.1 hi with rfl | hi
     {refine .inl (.inr ⟨h3, ?_⟩)
      rw [Tu h hf] at h3
      split at h3
      {obtain ⟨k, rfl, hk, _⟩ := Fl.1 h3
       omega}
      {cases h3}}
     {exact .inr ⟨i, hi, h3⟩}}}
 obtain ⟨h1, h2⟩ := key is [] Gb
 refine D2 h1.1 (Ju cs _ _) (fun z => ?_)
 unfold G6 at *
 rw [h2, Zq]
 constructor
 {rintro (h3 | ⟨i, hi, h3⟩)
  {cases h3}
  {rw [Tu h hf] at h3
   split at h3
   {rename_i hb; exact ⟨i, hi, hb, h3⟩}
   {cases h3}}}
 {rintro ⟨i, hi, hb, h3⟩
  refine .inr ⟨i, hi, ?_⟩
  rw [Tu h hf, if_pos hb]; exact h3}
theorem Pd {w : World} {tv v : Value} {cs : List Aj} {is : List Int} (hT : Ia w) (h : Cu w tv cs) (hf : Bt cs none) (hn : cs.length ≤ 20) (hi : A9 w v is) :
 Calls Tryz.prog 77 #[tv, v] w fun e w' => ∃ u, e = .returned u ∧ Al w' w.heap.size u (Gz cs is cs.length) ∧ Ch No w w' := by
 obtain ⟨tb, T, rfl, h1, h2, h3, h4, h5⟩ := h
 have := Zf hT h1 (by rw [h2.slen, h2.len]) hi
 rw [Wu h5 hf hn] at this
 exact this
theorem Ah.nil (w : World) : Ah w (.slice none 0 0) [] := ⟨none, 0, rfl, Nat.le_refl _, Nat.zero_le _, fun h => by simp at h⟩
theorem Wv {cs : List Aj} {o : Option Nat} (h : Bt cs o) : (o = none ∧ G8 cs o = (0, 0, 0)) ∨ ∃ i l c, o = some i ∧ G8 cs o = (11, l, c) := by
 cases o with
 | none => exact .inl ⟨rfl, rfl⟩
 | some i =>
  obtain ⟨c, hc⟩ : ∃ c, cs[i]? = some c := ⟨_, List.getElem?_eq_getElem h.1⟩
  exact .inr ⟨i, c.line, c.col, rfl, Lf hc⟩
theorem Zr {w : World} {tv : Value} {cs : List Aj} (h : Cu w tv cs) {nm : ByteArray} (hn : nm.size ≤ maxLen) :
 Calls Tryz.prog 159 #[tv, .string nm] w fun e w' => e = .returned (.tuple #[.int .i64 (G5 (As cs) nm), .bool (Cd (As cs) nm)]) ∧ w = w' := by
 obtain ⟨tb, T, rfl, h1, h2, h3, h4, h5⟩ := h
 have := Ze h1 hn
 rw [h3] at this
 exact this
theorem Afe {w : World} {tv : Value} {cs : List Aj} (h : Cu w tv cs) :
 Calls Tryz.prog 75 #[tv] w fun e w' => e = .returned (.int .i64 cs.length) ∧ w = w' := by
 obtain ⟨tb, T, rfl, h1, h2, h3, h4, h5⟩ := h
 have := Av h1
 rw [h2.len] at this
 exact this
theorem Nf.at {cs : List Aj} {T : E1} (h : Nf cs T) {i : Nat} {c : Aj} (hc : cs[i]? = some c) : ∃ k, T.ks[i]? = some k ∧ k.name = c.name ∧ k.face = c.face ∧ k.sup = Ed cs c ∧ k.fs = c.faces.map (Cs cs) := by
 have hi := (gL hc)
 obtain ⟨k, hk⟩ := gE (l := T.ks) (i := i) (by rw [h.len]; exact hi)
 exact ⟨k, hk, h.row i c k hc hk⟩
theorem Qh {w : World} {tv : Value} {cs : List Aj} (h : Cu w tv cs) {i : Nat} {c : Aj} (hc : cs[i]? = some c) :
 Calls Tryz.prog 46 #[tv, .int .i64 i] w fun e w' => e = .returned (.bool c.face) ∧ w = w' := by
 obtain ⟨tb, T, rfl, h1, h2, h3, h4, h5⟩ := h
 obtain ⟨k, hk, hk1, hk2, hk3, _⟩ := h2.at hc
 have := X8 h1 (i : Int)
 rw [Nb, hk] at this
 rw [← hk2]
 exact this
theorem Ww {w : World} {tv : Value} {cs : List Aj} (h : Cu w tv cs) {i : Int} (hi : ¬ (0 ≤ i ∧ i < cs.length)) :
 Calls Tryz.prog 46 #[tv, .int .i64 i] w fun e w' => e = .returned (.bool false) ∧ w = w' := by
 obtain ⟨tb, T, rfl, h1, h2, h3, h4, h5⟩ := h
 have := X8 h1 i
 have hr : Ib T.ks i = none := by
  unfold Ib
  split
  {rw [List.getElem?_eq_none]; have := h2.len; omega}
  {rfl}
 rw [hr] at this
 exact this
theorem Tv {w : World} {tv : Value} {cs : List Aj} (h : Cu w tv cs) {i : Nat} {c : Aj} (hc : cs[i]? = some c) :
 Calls Tryz.prog 50 #[tv, .int .i64 i] w fun e w' => e = .returned (.int .i64 (Ed cs c)) ∧ w = w' := by
 obtain ⟨tb, T, rfl, h1, h2, h3, h4, h5⟩ := h
 obtain ⟨k, hk, hk1, hk2, hk3, _⟩ := h2.at hc
 have := Zd h1 (i : Int)
 rw [Nb, hk] at this
 rw [← hk3]
 exact this
theorem Zs {w : World} {tv : Value} {cs : List Aj} (h : Cu w tv cs) (hs : B2 cs) (hsm : Df cs) {i : Nat} {c : Aj} (hc : cs[i]? = some c) :
 Calls Tryz.prog 49 #[tv, .int .i64 i] w fun e w' => ∃ u, e = .returned u ∧ Al w' w.heap.size u (L0 cs c) ∧ Ch No w w' := by
 obtain ⟨tb, T, rfl, h1, h2, h3, h4, h5⟩ := h
 obtain ⟨k, hk, _, _, _, hk4⟩ := h2.at hc
 have := L1 h1 hk (by rw [hk4, List.length_map]; have := hsm.2 c (mG hc); omega)
 rw [L3 h2 hc hk (hs i c hc), ← G7 hc (hs i c hc)] at this
 exact this
def Cl : ByteArray := ⟨#[105, 110, 116]⟩
def D9 : ByteArray := ⟨#[110, 117, 108, 108]⟩
def Gf : ByteArray := ⟨#[118, 111, 105, 100]⟩
def Wx : ByteArray := ⟨#[91, 93]⟩
def I8 (t : ByteArray) : Prop := 2 ≤ t.size ∧ t.extract (t.size - 2) t.size = Wx
def I9 (t : ByteArray) : ByteArray := t.extract 0 (t.size - 2)
noncomputable def F0 (cs : List Aj) (t : ByteArray) : Option ByteArray :=
 @ite _ (I8 t ∧ (As cs (I9 t)).isSome) (Classical.propDecidable _) (some (I9 t)) none
theorem J2 {cs : List Aj} {t e : ByteArray} : F0 cs t = some e ↔ I8 t ∧ I9 t = e ∧ ∃ i, As cs e = some i := by
 unfold F0
 split
 {rename_i h
  obtain ⟨h1, h2⟩ := h
  obtain ⟨i, hi⟩ := Option.isSome_iff_exists.1 h2
  constructor
  {intro e; cases e; exact ⟨h1, rfl, i, hi⟩}
  {rintro ⟨_, rfl, _⟩; rfl}}
 {rename_i h
  constructor
  {intro e; cases e}
  {rintro ⟨h1, rfl, i, hi⟩
   exact absurd ⟨h1, by rw [hi]; rfl⟩ h}}
theorem J3 {cs : List Aj} {t : ByteArray} : F0 cs t = none ↔ ¬ (I8 t ∧ (As cs (I9 t)).isSome) := by
 unfold F0
 split
 {rename_i h
  exact ⟨fun e => (by cases e), fun h' => absurd h h'⟩}
 {rename_i h
  exact ⟨fun _ => h, fun _ => rfl⟩}
structure L6 (c : Aj) : Prop where
 ne : c.name ≠ ⟨#[]⟩
 nint : c.name ≠ Cl
 nnull : c.name ≠ D9
 nvoid : c.name ≠ Gf
 narr : ¬ I8 c.name
def Pe (cs : List Aj) : Prop := ∀ c ∈ cs, L6 c
def Lj (cs : List Aj) (t : ByteArray) : Prop := t = Cl ∨ t = D9 ∨ (∃ i, As cs t = some i) ∨ ∃ e, F0 cs t = some e
def Yb (cs : List Aj) (i k : Nat) : Prop := i = k ∨ Gr.Reach (Az cs) i k
def Eh (cs : List Aj) (t u : ByteArray) : Prop :=
 Lj cs t ∧ Lj cs u ∧ (t = u ∨ t = D9 ∧ u ≠ Cl ∨ t ≠ D9 ∧ ∃ i k, As cs t = some i ∧ As cs u = some k ∧ Yb cs i k)
theorem Ey {cs : List Aj} {t : ByteArray} {i : Nat} (h : As cs t = some i) : i < cs.length := by
 obtain ⟨c, hc, _⟩ := C5 h
 exact (gL hc)
theorem Eh.refl {cs : List Aj} {t : ByteArray} (h : Lj cs t) : Eh cs t t := ⟨h, h, .inl rfl⟩
theorem E3 (w : World) {t e : TypeId} {sz bytes : Nat} (ht : Tryz.prog.underlying t = some (.slice e)) (hinfo : (Tryz.prog.info? e).map (fun i => (i.zero.map (fun z => z.cells.size), i.size, i.bytes)) = some (some sz, sz, bytes)) (hsz : 0 < sz) (hby : bytes ≤ 1000)
 (base : Nat) (v : Value) (n : Nat) (xs : List Value) (hown : w.ownsRow base e sz v n xs) (b m c : Nat) (news : List Value) (hl : news.length = m * sz) (hb : w.heap[b]? = some (.cells news.toArray e (0, 0))) (h1 : ∀ u ∈ news, u.oneCell' = true)
 (hn : n + m ≤ 100000) (hbase : base ≤ w.heap.size) (ty : TypeId) :
 ∃ v' w', (Builtin.append_ #[t, t] ty #[v, .slice (some ⟨b, 0, none⟩) m c]).run Tryz.prog w = .ok v' w' ∧ w'.ownsRow base e sz v' (n + m) (xs ++ news) ∧ Ch (fun j _ => v.ownBlock = some j) w w' := by
 obtain ⟨i, z, hi, hz, h2, h3, h4⟩ := Hz hinfo
 have hm : maxLen = 9223372036854775807 := rfl
 obtain ⟨v', w', hr, ho, hg, _⟩ := run_append_own (P := Tryz.prog) w base t ty e i z sz bytes ht hi hz h3 h4 h2 hsz v n xs hown ⟨b, 0, none⟩ m c news hl
  (fun j u hj => by
   rw [Addr.add_lit, Ab hb, Nat.zero_add, ← Array.getElem?_toList]
   exact hj) h1 (by omega) (by
    have : (n + m) * bytes ≤ 100000 * 1000 := Nat.mul_le_mul hn hby
    omega) hbase
 exact ⟨v', w', hr, ho, (Ch.refl _ w).grown hg (fun _ _ h _ => h)⟩
theorem C1 {w : World} {ops : Array Oper} {rest : List Oper} {o : Oper} {a : Act} {Q : Exit → Act → World → Prop} (hgd : o.guard = none) (s x : Operand) {t e : TypeId} {sz bytes : Nat}
 (ho : o.op = .call { callee := .builtin .append, args := #[s, x], argTypes := #[t, t] })
 (ht : Tryz.prog.underlying t = some (.slice e)) (hinfo : (Tryz.prog.info? e).map (fun i => (i.zero.map (fun z => z.cells.size), i.size, i.bytes)) = some (some sz, sz, bytes)) (hsz : 0 < sz) (hby : bytes ≤ 1000)
 (base : Nat) (v : Value) (n : Nat) (xs : List Value) (hsv : a.eval s = v) (hown : w.ownsRow base e sz v n xs) (b m c : Nat) (news : List Value) (hxv : a.eval x = .slice (some ⟨b, 0, none⟩) m c) (hl : news.length = m * sz) (hb : w.heap[b]? = some (.cells news.toArray e (0, 0))) (h1 : ∀ u ∈ news, u.oneCell' = true)
 (hn : n + m ≤ 100000) (hbase : base ≤ w.heap.size)
 (hK : ∀ v' w', w'.ownsRow base e sz v' (n + m) (xs ++ news) → Ch (fun k _ => v.ownBlock = some k) w w' → wpList Tryz.prog ops Q rest (a.put o.dst v') w') :
 wpList Tryz.prog ops Q (o :: rest) a w := by
 refine wpList_plain hgd fun K hK' => ?_
 obtain ⟨v', w', hr, h2, h3⟩ := E3 w ht hinfo hsz hby base v n xs hown b m c news hl hb h1 hn hbase o.type
 unfold Oper.wp
 simp [execOp, ho, resolve, invoke, builtin, hsv, hxv, hr, Result.andThen]
 exact hK' _ _ (hK v' w' h2 h3)
theorem Dr {ops : Array Oper} {o : Oper} {a : Act} {w : World} {K : Act → World → Prop} {Q : Exit → Act → World → Prop} {E : Prop}
 (hg : o.guard = none) (s x : Operand) {t e : TypeId} {sz bytes : Nat} (hop : o.op = Op.call { callee := Callee.builtin Builtin.append, args := #[s, x], argTypes := #[t, t] })
 (ht : Tryz.prog.underlying t = some (.slice e)) (hinfo : (Tryz.prog.info? e).map (fun i => (i.zero.map (fun z => z.cells.size), i.size, i.bytes)) = some (some sz, sz, bytes)) (hsz : 0 < sz) (hby : bytes ≤ 1000)
 (base : Nat) (v : Value) (n : Nat) (xs : List Value) (hs : a.eval s = v) (hown : w.ownsRow base e sz v n xs) (b m c : Nat) (news : List Value) (hx : a.eval x = .slice (some ⟨b, 0, none⟩) m c) (hl : news.length = m * sz) (hb : w.heap[b]? = some (.cells news.toArray e (0, 0))) (h1 : ∀ u ∈ news, u.oneCell' = true)
 (hn : n + m ≤ 100000) (hbase : base ≤ w.heap.size)
 (hK : ∀ v' w', w'.ownsRow base e sz v' (n + m) (xs ++ news) → Ch (fun k _ => v.ownBlock = some k) w w' → K (a.put o.dst v') w') :
 if Region.wanted o (yielded ops a.tmps) = true then Oper.wp Tryz.prog o a w K Q else E := by
 have hw : Region.wanted o (yielded ops a.tmps) = true := by simp [Region.wanted, hg]
 rw [if_pos hw]
 obtain ⟨v', w', hr, h2, h3⟩ := E3 w ht hinfo hsz hby base v n xs hown b m c news hl hb h1 hn hbase o.type
 unfold Oper.wp
 simp [execOp, hop, resolve, invoke, builtin, hs, hx, hr, Result.andThen]
 exact hK v' w' h2 h3
theorem Aw {w : World} {base sz n : Nat} {e : TypeId} {v : Value} {xs : List Value} (h : w.ownsRow base e sz v n xs) : ∀ g, v.ownBlock = some g → base ≤ g ∧ ∃ cur, w.heap[g]? = some (.cells cur e (0, 0)) := by
 intro g hg
 rcases h.2 with ⟨rfl, _⟩ | ⟨g', cap, cur, rfl, h2, h3, _⟩
 {simp [Value.ownBlock] at hg}
 {have e : g' = g := by simpa [Value.ownBlock] using hg
  subst e
  exact ⟨h2, cur, h3⟩}
theorem Bu {w : World} {base sz n : Nat} {e t : TypeId} {v : Value} {xs : List Value} {cur : Array Value} {g : Nat} (h : w.ownsRow base e sz v n xs) (hg : w.heap[g]? = some (.cells cur t (0, 0))) (hne : t ≠ e) : ¬ v.ownBlock = some g := by
 intro hv
 obtain ⟨_, cur2, h2⟩ := Aw h g hv
 rw [hg] at h2
 have : t = e := by
  have := Option.some.inj h2
  cases this; rfl
 exact hne this
theorem Tryz.sliceStr : Tryz.prog.underlying 46 = some (.slice 9) := by kernel_rfl
theorem Tryz.infoStr : (Tryz.prog.info? 9).map (fun i => (i.zero.map (fun z => z.cells.size), i.size, i.bytes)) = some (some 1, 1, 16) := by kernel_rfl
def Aq (w : World) (base : Nat) (v : Value) (l : List ByteArray) : Prop := w.ownsRow base 9 1 v l.length (l.map Value.string)
theorem Aq.nil (w : World) (base : Nat) : Aq w base (.slice none 0 0) [] := World.ownsRow_nil _ _ _ _
theorem Aq.ch {S : Nat → Obj → Prop} {w w' : World} {base : Nat} {v : Value} {l : List ByteArray} (h : Aq w base v l) (hc : Ch S w w') (hS : ∀ g cur, v.ownBlock = some g → base ≤ g → ¬ S g (.cells cur 9 (0, 0))) : Aq w' base v l :=
 An h hc (fun g cur e hg _ => hS g cur e hg)
theorem Aq.no {w w' : World} {base : Nat} {v : Value} {l : List ByteArray} (h : Aq w base v l) (hc : Ch No w w') : Aq w' base v l := h.ch hc (fun _ _ _ _ h => h)
theorem Aq.at_ {w : World} {base : Nat} {v : Value} {l : List ByteArray} (h : Aq w base v l) : Ah w v l := by
 rcases h.2 with ⟨rfl, h0⟩ | ⟨g, cap, cur, rfl, hg, hh, h4, h5, h6, h7⟩
 {have : l = [] := List.length_eq_zero_iff.1 h0
  subst this
  exact ⟨none, 0, rfl, Nat.le_refl _, Nat.zero_le _, fun h => by simp at h⟩}
 {refine ⟨some ⟨g, 0, none⟩, cap, rfl, h4, h5, fun _ => ⟨g, 0, rfl, fun i x hx => ?_⟩⟩
  have hi := (gL hx)
  have : (l.map Value.string)[i]? = some (.string x) := by rw [List.getElem?_map, hx]; rfl
  rw [← h7, List.getElem?_take, if_pos (by omega)] at this
  rw [Ab hh, Nat.zero_add, ← Array.getElem?_toList]
  exact this}
theorem Aq.base {w : World} {base base' : Nat} {v : Value} {l : List ByteArray} (h : Aq w base v l) (hb : base' ≤ base) : Aq w base' v l := by
 refine ⟨h.1, ?_⟩
 rcases h.2 with h | ⟨g, cap, cur, h1, h2, h3⟩
 {exact .inl h}
 {exact .inr ⟨g, cap, cur, h1, Nat.le_trans hb h2, h3⟩}
theorem J4 (a : ByteArray) (l : List UInt8) : (a.toList == l) = decide (a = ⟨l.toArray⟩) := by
 have h : (⟨l.toArray⟩ : ByteArray).toList = l := by rw [Gp]
 rw [← Hi, h]
theorem toL (a b : ByteArray) (h : a = b) : (a.toList == b.toList) = true := by rw [Hi]; simpa using h
theorem Wy (a b : ByteArray) (h : ¬ a = b) : (a.toList == b.toList) = false := by rw [Hi]; simpa using h
theorem lit (a : ByteArray) (l : List UInt8) (h : a = ⟨l.toArray⟩) : (a.toList == l) = true := by rw [J4]; simpa using h
theorem Bf (a : ByteArray) (l : List UInt8) (h : ¬ a = ⟨l.toArray⟩) : (a.toList == l) = false := by rw [J4]; simpa using h
theorem Wz (w : World) {t : ByteArray} (ht : t.size ≤ maxLen) :
 Calls Tryz.prog 172 #[.string t, .string { data := #[91, 93] }] w fun e w' => Am (I8 t) e ∧ w = w' := by
 unfold maxLen at ht
 have hz : (ByteArray.mk #[91, 93]).size = 2 := rfl
 cases h2 : decide ((2 : Int) ≤ t.size) with
 | false =>
  have h2' : ¬ (2 : Int) ≤ t.size := by simpa using h2
  go_in
  go_wp2
  go_ret
  exact ⟨Am.f (fun h => by have := h.1; omega), rfl⟩
 | true =>
  have h2' : (2 : Int) ≤ t.size := by simpa using h2
  have hsl : (Instr.slice 9 (.string t) (some (.int .i64 ((t.size : Int) - 2))) none none).run Tryz.prog w = .ok (.string (t.extract (t.size - 2) t.size)) w := by
   have := run_slice_string_l w 9 t Tryz.underlying9 .i64 ((t.size : Int) - 2) (by omega) (by omega)
   rwa [show ((t.size : Int) - 2).toNat = t.size - 2 by omega] at this
  go_in
  go_wp2
  go_ret
  refine ⟨⟨_, rfl, ?_⟩, rfl⟩
  rw [J4]
  simp only [decide_eq_true_eq]
  exact ⟨fun h => ⟨by omega, h⟩, fun h => h.2⟩
def Tw (t : ByteArray) (e : Ending) : Prop := (I8 t ∧ e = .returned (.tuple #[.string (I9 t), .bool true])) ∨ (¬ I8 t ∧ e = .returned (.tuple #[.string t, .bool false]))
theorem Abg (w : World) {t : ByteArray} (ht : t.size ≤ maxLen) :
 Calls Tryz.prog 170 #[.string t, .string { data := #[91, 93] }] w fun e w' => Tw t e ∧ w = w' := by
 have hs := Wz w ht
 unfold maxLen at ht
 have hz : (ByteArray.mk #[91, 93]).size = 2 := rfl
 go_in
 go_wp2_with fail
 refine hs.mono ?_
 rintro e w1 ⟨⟨r, rfl, hr⟩, rfl⟩
 clear hs
 cases r with
 | false =>
  have ha : ¬ I8 t := fun h => Bool.noConfusion (hr.2 h)
  go_wp2_with fail
  go_ret2
  exact ⟨.inr ⟨ha, rfl⟩, rfl⟩
 | true =>
  have ha : I8 t := hr.1 rfl
  have h2 := ha.1
  have hsl : (Instr.slice 9 (.string t) none (some (.int .i64 ((t.size : Int) - 2))) none).run Tryz.prog w = .ok (.string (I9 t)) w := by
   have := run_slice_string_h w 9 t Tryz.underlying9 .i64 ((t.size : Int) - 2) (by omega) (by omega)
   rwa [show ((t.size : Int) - 2).toNat = t.size - 2 by omega] at this
  clear hr
  go_wp2_with fail
  go_ret2
  exact ⟨.inl ⟨ha, rfl⟩, rfl⟩
theorem Aff (w : World) {t : ByteArray} (ht : t.size ≤ maxLen) :
 Calls Tryz.prog 160 #[.string t, .string { data := #[91, 93] }] w fun e w' => Tw t e ∧ w = w' := by
 have hs := Abg w ht
 go_in
 go_wp2_with fail
 refine hs.mono ?_
 rintro e w1 ⟨⟨ha, rfl⟩ | ⟨ha, rfl⟩, rfl⟩
 {clear hs
  go_wp2_with fail
  go_ret2
  exact ⟨.inl ⟨ha, rfl⟩, rfl⟩}
 {clear hs
  go_wp2_with fail
  go_ret2
  exact ⟨.inr ⟨ha, rfl⟩, rfl⟩}
structure Qi (w : World) (xb tb : Nat) (abv : Value) (ss : List A4) (cs : List Aj) : Prop where
 blk : w.heap[xb]? = some (.cells #[.pointer (some ⟨tb, 0, none⟩), abv] 107 (0, 0))
 tab : Cu w (.pointer (some ⟨tb, 0, none⟩)) cs
 sets : D3 w abv ss
 len : ss.length = cs.length
 ab : ∀ (i : Nat) (s : A4), ss[i]? = some s → s.l = Gz cs [(i : Int)] cs.length
def Bv (w : World) (xv : Value) (cs : List Aj) : Prop := ∃ xb tb abv ss, xv = .pointer (some ⟨xb, 0, none⟩) ∧ Qi w xb tb abv ss cs
theorem Qi.no {w w' : World} {xb tb : Nat} {abv : Value} {ss : List A4} {cs : List Aj} (h : Qi w xb tb abv ss cs) (hc : Ch No w w') : Qi w' xb tb abv ss cs :=
 ⟨hc.keep _ _ h.blk (fun h => h), h.tab.no hc, h.sets.no hc, h.len, h.ab⟩
theorem Bv.no {w w' : World} {xv : Value} {cs : List Aj} (h : Bv w xv cs) (hc : Ch No w w') : Bv w' xv cs := by
 obtain ⟨xb, tb, abv, ss, rfl, h⟩ := h
 exact ⟨xb, tb, abv, ss, rfl, h.no hc⟩
theorem Fr {w : World} {xv : Value} {cs : List Aj} (h : Bv w xv cs) {t : ByteArray} (ht : t.size ≤ maxLen) :
 Calls Tryz.prog 132 #[xv, .string t] w fun e w' => e = .returned (.tuple #[.int .i64 (G5 (As cs) t), .bool (Cd (As cs) t)]) ∧ w = w' := by
 obtain ⟨xb, tb, abv, ss, rfl, h⟩ := h
 have c0 := Ab h.blk 0
 have hi := Zr h.tab ht
 clear h
 go_in
 go_wp2_with fail
 refine hi.mono ?_
 rintro e w1 ⟨rfl, rfl⟩
 go_wp2_with fail
 go_ret2
 exact ⟨rfl, rfl⟩
def W0 (cs : List Aj) (t : ByteArray) (e : Ending) : Prop := (∃ el, F0 cs t = some el ∧ e = .returned (.tuple #[.string el, .bool true])) ∨ (F0 cs t = none ∧ e = .returned (.tuple #[.string { data := #[] }, .bool false]))
theorem Qj (t : ByteArray) : (I9 t).size ≤ t.size := by
 unfold I9
 rw [ByteArray.size_extract]; omega
theorem Yc {w : World} {xv : Value} {cs : List Aj} (h : Bv w xv cs) {t : ByteArray} (ht : t.size ≤ maxLen) :
 Calls Tryz.prog 133 #[xv, .string t] w fun e w' => W0 cs t e ∧ w = w' := by
 have H := Aa h
 obtain ⟨xb, tb, abv, ss, rfl, _⟩ := h
 have hc := Aff w ht
 go_in
 go_wp2_with fail
 refine hc.mono ?_
 rintro e w1 ⟨⟨ha, rfl⟩ | ⟨ha, rfl⟩, rfl⟩
 {have hcl := Fr H.out (t := I9 t) (Nat.le_trans (Qj t) ht)
  clear hc
  cases hb : As cs (I9 t) with
  | none =>
   have hb1 : Cd (As cs) (I9 t) = false := by unfold Cd; rw [hb]; rfl
   rw [hb1] at hcl
   clear hb1
   go_wp2_with fail
   refine hcl.mono ?_
   rintro e w1 ⟨rfl, rfl⟩
   go_wp2_with fail
   go_ret2
   exact ⟨.inr ⟨J3.2 (fun h => by rw [hb] at h; exact Bool.noConfusion h.2), rfl⟩, rfl⟩
  | some i =>
   have hb1 : Cd (As cs) (I9 t) = true := by unfold Cd; rw [hb]; rfl
   rw [hb1] at hcl
   clear hb1
   go_wp2_with fail
   refine hcl.mono ?_
   rintro e w1 ⟨rfl, rfl⟩
   go_wp2_with fail
   go_ret2
   exact ⟨.inl ⟨_, J2.2 ⟨ha, rfl, i, hb⟩, rfl⟩, rfl⟩}
 {have hcl := Fr H.out ht
  clear hc
  go_wp2_with fail
  refine hcl.mono ?_
  rintro e w1 ⟨rfl, rfl⟩
  clear hcl
  go_wp2_with fail
  go_ret2
  exact ⟨.inr ⟨J3.2 (fun h => ha h.1), rfl⟩, rfl⟩}
theorem Ei {cs : List Aj} {t : ByteArray} {i : Nat} (h : As cs t = some i) : G5 (As cs) t = (i : Int) := by
 unfold G5; rw [h]
theorem Ii {cs : List Aj} {t : ByteArray} (h : As cs t = none) : G5 (As cs) t = 0 := by
 unfold G5; rw [h]
theorem Abh {w : World} {xv : Value} {cs : List Aj} (h : Bv w xv cs) {t : ByteArray} (ht : t.size ≤ maxLen) :
 Calls Tryz.prog 100 #[xv, .string t] w fun e w' => Am (Lj cs t) e ∧ w = w' := by
 have H := Aa h
 obtain ⟨xb, tb, abv, ss, rfl, _⟩ := h
 by_cases h1 : t = Cl
 {have e1 := lit t [105, 110, 116] h1
  have H1 := Aa h1
  clear h1
  go_in
  go_wp2
  go_ret
  exact ⟨Am.t (.inl H1.out), rfl⟩}
 {have e1 := Bf t [105, 110, 116] h1
  have H1 := Aa h1
  clear h1
  by_cases h2 : t = D9
  {have e2 := lit t [110, 117, 108, 108] h2
   have H2 := Aa h2
   clear h2
   go_in
   go_wp2
   go_ret
   exact ⟨Am.t (.inr (.inl H2.out)), rfl⟩}
  {have e2 := Bf t [110, 117, 108, 108] h2
   have H2 := Aa h2
   clear h2
   have hcl := Fr H.out ht
   have hel := Yc H.out ht
   cases hf : As cs t with
   | none =>
    have b1 : Cd (As cs) t = false := by unfold Cd; rw [hf]; rfl
    rw [b1] at hcl
    have HF := Aa hf
    clear b1 hf
    go_in
    go_wp2_with fail
    refine hcl.mono ?_
    rintro e w1 ⟨rfl, rfl⟩
    clear hcl
    go_wp2_with fail
    refine hel.mono ?_
    rintro e w1 ⟨⟨el, hel, rfl⟩ | ⟨hel, rfl⟩, rfl⟩
    {have HE := Aa hel
     clear hel
     go_wp2
     go_ret
     exact ⟨Am.t (.inr (.inr (.inr ⟨el, HE.out⟩))), rfl⟩}
    {have HE := Aa hel
     clear hel
     go_wp2
     go_ret
     refine ⟨Am.f ?_, rfl⟩
     rintro (h | h | ⟨i, h⟩ | ⟨e, h⟩)
     {exact H1.out h}
     {exact H2.out h}
     {rw [HF.out] at h; cases h}
     {rw [HE.out] at h; cases h}}
   | some i =>
    have b1 : Cd (As cs) t = true := by unfold Cd; rw [hf]; rfl
    rw [b1] at hcl
    have HF := Aa hf
    clear b1 hf
    go_in
    go_wp2_with fail
    refine hcl.mono ?_
    rintro e w1 ⟨rfl, rfl⟩
    clear hcl
    go_wp2_with fail
    refine hel.mono ?_
    rintro e w1 ⟨⟨el, hel, rfl⟩ | ⟨hel, rfl⟩, rfl⟩
    {clear hel
     go_wp2
     go_ret
     exact ⟨Am.t (.inr (.inr (.inl ⟨i, HF.out⟩))), rfl⟩}
    {clear hel
     go_wp2
     go_ret
     exact ⟨Am.t (.inr (.inr (.inl ⟨i, HF.out⟩))), rfl⟩}}}
theorem Abi {w : World} {xv : Value} {cs : List Aj} (h : Bv w xv cs) {t : ByteArray} (ht : t.size ≤ maxLen) :
 Calls Tryz.prog 137 #[xv, .string t] w fun e w' => Am (t ≠ Cl ∧ Lj cs t) e ∧ w = w' := by
 have H := Aa h
 obtain ⟨xb, tb, abv, ss, rfl, _⟩ := h
 by_cases h1 : t = Cl
 {have e1 := lit t [105, 110, 116] h1
  have H1 := Aa h1
  clear h1
  go_in
  go_wp2
  go_ret
  exact ⟨Am.f (fun h => h.1 H1.out), rfl⟩}
 {have e1 := Bf t [105, 110, 116] h1
  have H1 := Aa h1
  clear h1
  have ho := Abh H.out ht
  go_in
  go_wp2_with fail
  refine ho.mono ?_
  rintro e w1 ⟨⟨r, rfl, hr⟩, rfl⟩
  clear ho
  have HR := Aa hr
  clear hr
  go_wp2
  go_ret
  exact ⟨⟨r, rfl, fun h => ⟨H1.out, HR.out.1 h⟩, fun h => HR.out.2 h.2⟩, rfl⟩}
theorem Ah.one {w : World} (l : List ByteArray) (hl : l.length ≤ 1000) : Ah (w.alloc (.cells (l.map Value.string).toArray 9)) (.slice (some ⟨w.heap.size, 0, none⟩) l.length l.length) l := by
 refine ⟨_, _, rfl, Nat.le_refl _, by unfold maxLen; omega, fun _ => ⟨_, _, rfl, fun i x hx => ?_⟩⟩
 rw [Ab (heap_alloc_new w _), Nat.zero_add]
 simp [hx]
theorem xis {w : World} {xv v : Value} {cs : List Aj} {ts : List ByteArray} (h : Bv w xv cs) (hv : Ah w v ts) (hz : ∀ t ∈ ts, t.size ≤ maxLen) :
 Calls Tryz.prog 61 #[xv, v] w fun e w' => Am (∀ t ∈ ts, Lj cs t) e ∧ w = w' := by
 have H := Aa h
 have HV := Aa hv
 have HZ := Aa hz
 obtain ⟨xb, tb, abv, ss, rfl, _⟩ := h
 obtain ⟨ao, cap, rfl, hcap, hmax, _⟩ := hv
 obtain ⟨n, hn⟩ := Ax ts.length
 rw [hn] at hcap HV ⊢
 unfold maxLen at hmax
 have HN := Aa hn
 clear hn hz
 go_in
 go_wp2
 go_loopg [9] n (fun g s9 wr => ∃ (k : Nat), k ≤ n ∧ n - k ≤ g ∧ s9 = .int .i64 k ∧ wr = w ∧ Hid (∀ t ∈ ts.take k, Lj cs t))
 case atStart => exact ⟨0, Nat.zero_le _, by omega, rfl, rfl, Aa (by simp)⟩
 case round =>
  obtain ⟨k, hk, hg, rfl, rfl, HI⟩ := hrel
  cases hd : decide (k < n) with
  | false =>
   have hkl : ¬ k < n := by simpa using hd
   go_wp2
   go_ret
   refine ⟨Am.t (fun t ht => HI.out t ?_), rfl⟩
   rw [List.take_of_length_le (by have := HN.out; omega)]; exact ht
  | true =>
   have hkl : k < n := by simpa using hd
   obtain ⟨t, ht⟩ := gE (l := ts) (i := k) (by have := HN.out; omega)
   obtain ⟨hnn, b, off, hao, hq⟩ := HV.out.cell ht
   clear hnn
   subst hao
   have ho := Abh H.out (t := t) (HZ.out t (mG ht))
   have HX := Aa ht
   clear ht
   go_wp2_with fail
   refine ho.mono ?_
   rintro e w1 ⟨⟨r, rfl, hr⟩, rfl⟩
   have HR := Aa hr
   clear ho hr
   cases r with
   | false =>
    have HP := Aa (show ¬ Lj cs t from fun h => Bool.noConfusion (HR.out.2 h))
    clear HR
    go_wp2
    go_ret
    exact ⟨Am.f (fun h => HP.out (h t (mG HX.out))), rfl⟩
   | true =>
    have HP := Aa (HR.out.1 rfl)
    clear HR
    go_wp2
    go_roundg (n - k - 1)
    case rel =>
     refine ⟨k + 1, by omega, by omega, by go_num, rfl, Aa (fun x hx => ?_)⟩
     rw [List.take_add_one, HX.out] at hx
     rcases List.mem_append.1 hx with hx | hx
     {exact HI.out x hx}
     {simp at hx; subst hx; exact HP.out}
    case measure => omega
theorem Zt {cs : List Aj} {i k : Nat} (hi : i < cs.length) (hk : k < cs.length) : (k : Int) ∈ Gz cs [(i : Int)] cs.length ↔ Yb cs i k := by
 rw [Fl]
 constructor
 {rintro ⟨j, e, hj, x, hx, h⟩
  have hx' : x = (i : Int) := by simpa using hx
  subst hx'
  have : k = j := by omega
  subst this
  rcases h.2.2 with h | h
  {exact .inl (by omega)}
  {exact .inr (by simpa using h)}}
 {intro h
  refine ⟨k, rfl, hk, (i : Int), by simp, by omega, by omega, ?_⟩
  rcases h with h | h
  {exact .inl (by omega)}
  {exact .inr (by simpa using h)}}
theorem Gg {w : World} {xv : Value} {cs : List Aj} (h : Bv w xv cs) {t u : ByteArray} (ht : t.size ≤ maxLen) (hu : u.size ≤ maxLen) :
 Calls Tryz.prog 139 #[xv, .string t, .string u] w fun e w' => Am (Eh cs t u) e ∧ Ch No w w' := by
 obtain ⟨xb, tb, abv, ss, rfl, h⟩ := h
 have hc1 := (Ch.refl No w).alloc (.cells #[.string t, .string u] 9)
 have hst : Ah (w.alloc (.cells #[.string t, .string u] 9)) (.slice (some ⟨w.heap.size, 0, none⟩) 2 2) [t, u] := Ah.one [t, u] (lb rfl)
 obtain ⟨w1, hw1⟩ := Ax (w.alloc (.cells #[.string t, .string u] 9))
 rw [hw1] at hc1 hst
 have h1 := h.no hc1
 have HX : Bv w1 (.pointer (some ⟨xb, 0, none⟩)) cs := ⟨xb, tb, abv, ss, rfl, h1⟩
 have hisx := xis HX hst (fun x hx => by
  have : x = t ∨ x = u := by simpa using hx
  rcases this with rfl | rfl
  {exact ht}
  {exact hu})
 have H1 := Aa h1
 have HC1 := Aa hc1
 have HXX := Aa HX
 clear h hst h1 hc1 HX
 go_in
 go_wp2_with fail
 clear hw1
 refine hisx.mono ?_
 rintro e w2 ⟨⟨r, rfl, hr⟩, rfl⟩
 have HR := Aa hr
 clear hisx hr
 cases r with
 | false =>
  have HNO := Aa (show ¬ ∀ x ∈ [t, u], Lj cs x from fun h => Bool.noConfusion (HR.out.2 h))
  clear HR
  go_wp2
  go_ret
  refine ⟨Am.f (fun hb => HNO.out (fun x hx => ?_)), HC1.out⟩
  have : x = t ∨ x = u := by simpa using hx
  rcases this with rfl | rfl
  {exact hb.1}
  {exact hb.2.1}
 | true =>
  have HIT := Aa (HR.out.1 rfl t (by simp))
  have HIU := Aa (HR.out.1 rfl u (by simp))
  clear HR
  by_cases htu : t = u
  {subst htu
   have e0 := toL t t rfl
   go_wp2
   go_ret
   exact ⟨Am.t (Eh.refl HIT.out), HC1.out⟩}
  {have e0 := Wy t u htu
   have HTU := Aa htu
   clear htu
   by_cases hn : t = D9
   {have e2 := lit t [110, 117, 108, 108] hn
    have HN := Aa hn
    clear hn
    have hrf := Abi HXX.out hu
    go_wp2_with fail
    refine hrf.mono ?_
    rintro e w2 ⟨⟨r, rfl, hr⟩, rfl⟩
    have HR := Aa hr
    clear hrf hr
    go_wp2
    go_ret
    refine ⟨⟨r, rfl, HR.out.trans ?_⟩, HC1.out⟩
    constructor
    {rintro ⟨h1, h2⟩
     exact ⟨HIT.out, h2, .inr (.inl ⟨HN.out, h1⟩)⟩}
    {rintro ⟨_, h2, h3 | ⟨_, h3⟩ | ⟨h3, _⟩⟩
     {exact absurd h3 HTU.out}
     {exact ⟨h3, h2⟩}
     {exact absurd HN.out h3}}}
   {have e2 := Bf t [110, 117, 108, 108] hn
    have HN := Aa hn
    clear hn
    have hct := Fr HXX.out ht
    have hcu := Fr HXX.out hu
    have key : Eh cs t u ↔ ∃ i k, As cs t = some i ∧ As cs u = some k ∧ Yb cs i k := by
     constructor
     {rintro ⟨_, _, h3 | ⟨h3, _⟩ | ⟨_, h3⟩⟩
      {exact absurd h3 HTU.out}
      {exact absurd h3 HN.out}
      {exact h3}}
     {intro h3
      exact ⟨HIT.out, HIU.out, .inr (.inr ⟨HN.out, h3⟩)⟩}
    have KEY := Aa key
    clear key
    cases hft : As cs t with
    | none =>
     have b1 : Cd (As cs) t = false := by unfold Cd; rw [hft]; rfl
     rw [b1] at hct
     have HFT := Aa hft
     clear b1 hft
     obtain ⟨bu, hbu⟩ := Ax (Cd (As cs) u)
     rw [hbu] at hcu
     go_wp2_with fail
     refine hct.mono ?_
     rintro e w2 ⟨rfl, rfl⟩
     clear hct
     go_wp2_with fail
     refine hcu.mono ?_
     rintro e w2 ⟨rfl, rfl⟩
     clear hcu
     go_wp2
     go_ret
     refine ⟨Am.f (fun hb => ?_), HC1.out⟩
     obtain ⟨i, k, h1, _⟩ := KEY.out.1 hb
     rw [HFT.out] at h1; cases h1
    | some i =>
     have b1 : Cd (As cs) t = true := by unfold Cd; rw [hft]; rfl
     rw [b1, Ei hft] at hct
     have HFT := Aa hft
     clear b1 hft
     cases hfu : As cs u with
     | none =>
      have b2 : Cd (As cs) u = false := by unfold Cd; rw [hfu]; rfl
      rw [b2] at hcu
      have HFU := Aa hfu
      clear b2 hfu
      go_wp2_with fail
      refine hct.mono ?_
      rintro e w2 ⟨rfl, rfl⟩
      clear hct
      go_wp2_with fail
      refine hcu.mono ?_
      rintro e w2 ⟨rfl, rfl⟩
      clear hcu
      go_wp2
      go_ret
      refine ⟨Am.f (fun hb => ?_), HC1.out⟩
      obtain ⟨i, k, _, h1, _⟩ := KEY.out.1 hb
      rw [HFU.out] at h1; cases h1
     | some k =>
      have b2 : Cd (As cs) u = true := by unfold Cd; rw [hfu]; rfl
      rw [b2, Ei hfu] at hcu
      have HFU := Aa hfu
      have hil := Ey HFT.out
      have hkl := Ey hfu
      clear b2 hfu
      obtain ⟨s, hs⟩ := gE (l := ss) (i := i) (by rw [H1.out.len]; exact hil)
      obtain ⟨b, off, cap, eab, hcell, hcap, hmax⟩ := H1.out.sets.cell hs
      obtain ⟨tsb, tob, hv⟩ := H1.out.sets.v hs
      have hhas := Abc hv (k : Int)
      have hsl := H1.out.ab i s hs
      rw [hsl] at hhas
      have c1 := Ab H1.out.blk 1
      rw [eab] at c1
      have Av : i < ss.length := (gL hs)
      unfold maxLen at hmax
      have HHAS := Aa hhas
      clear hs eab hv hsl hhas
      go_wp2_with fail
      refine hct.mono ?_
      rintro e w2 ⟨rfl, rfl⟩
      clear hct
      go_wp2_with fail
      refine hcu.mono ?_
      rintro e w2 ⟨rfl, rfl⟩
      clear hcu
      have hhas := HHAS.out
      go_wp2_with fail
      refine hhas.mono ?_
      rintro e w2 ⟨rfl, hc2⟩
      have HC2 := Aa (HC1.out.trans hc2)
      clear hhas hc2
      go_wp2
      go_ret
      refine ⟨⟨_, rfl, ?_⟩, HC2.out⟩
      rw [decide_eq_true_eq, Zt hil hkl, KEY.out]
      constructor
      {intro h3; exact ⟨i, k, HFT.out, HFU.out, h3⟩}
      {rintro ⟨i', k', h1, h2, h3⟩
       rw [HFT.out] at h1; cases h1
       rw [HFU.out] at h2; cases h2
       exact h3}}}
theorem Tryz.slicePsets : Tryz.prog.underlying 105 = some (.slice 150) := by kernel_rfl
theorem Tryz.infoPset2 : (Tryz.prog.info? 150).map (fun i => (i.zero.map (fun z => z.cells.size), i.size, i.bytes)) = some (some 1, 1, 8) := by kernel_rfl
theorem Yd : (182 : TypeId) ≠ 150 := by decide
theorem Abj : (3 : TypeId) ≠ 150 := by decide
theorem Abk : (205 : TypeId) ≠ 150 := by decide
theorem Br.apartP {w : World} {sb : Nat} {l : List Int} {ob : Option Nat} (h : Br w sb l ob) {base n : Nat} {v : Value} {xs : List Value} (hown : w.ownsRow base 150 1 v n xs) : (¬ v.ownBlock = some sb) ∧ ∀ b, ob = some b → ¬ v.ownBlock = some b := by
 rcases h.2 with ⟨lv, h1, h2, h3, _⟩ | ⟨b, ws, h1, h2, _⟩
 {refine ⟨Bu hown h1 Yd, fun b hb => ?_⟩
  rw [← h3] at hb
  obtain ⟨cur, h4⟩ := h2.typed b hb
  exact Bu hown h4 Abj}
 {obtain ⟨_, cap, h4, h5⟩ := h2
  refine ⟨Bu hown h4 Yd, fun b' hb => ?_⟩
  rw [h1] at hb; cases hb
  obtain ⟨_, cur, h6⟩ := Aw h5 b rfl
  exact Bu hown h6 Abk}
structure Cv (w : World) (base : Nat) (v : Value) (ss : List A4) : Prop where
 row : w.ownsRow base 150 1 v ss.length (ss.map A4.val)
 sets : ∀ s ∈ ss, ∃ b ob, s.b = some b ∧ Br w b s.l ob
theorem Cv.nil (w : World) (base : Nat) : Cv w base (.slice none 0 0) [] := ⟨World.ownsRow_nil _ _ _ _, fun s hs => by cases hs⟩
theorem Cv.no {w w' : World} {base : Nat} {v : Value} {ss : List A4} (h : Cv w base v ss) (hc : Ch No w w') : Cv w' base v ss :=
 ⟨An h.row hc (fun _ _ _ _ _ h => h), fun s hs => by obtain ⟨b, ob, h1, h2⟩ := h.sets s hs; exact ⟨b, ob, h1, h2.no hc⟩⟩
theorem Cv.shape {w : World} {base : Nat} {v : Value} {ss : List A4} (h : Cv w base v ss) : ∃ ao cap, v = .slice ao ss.length cap ∧ ss.length ≤ cap ∧ cap ≤ maxLen := by
 rcases h.row.2 with ⟨rfl, h0⟩ | ⟨g, cap, cur, rfl, _, _, h4, h5, _⟩
 {rw [h0]; exact ⟨_, _, rfl, Nat.le_refl _, Nat.zero_le _⟩}
 {exact ⟨_, _, rfl, h4, h5⟩}
theorem Cv.at_ {w : World} {base : Nat} {v : Value} {ss : List A4} (h : Cv w base v ss) : D3 w v ss := by
 refine ⟨?_, fun s hs b hb => ?_, fun s hs hb => ?_⟩
 {rcases h.row.2 with ⟨rfl, h0⟩ | ⟨g, cap, cur, rfl, hg, hh, h4, h5, h6, h7⟩
  {have : ss = [] := List.length_eq_zero_iff.1 h0
   subst this
   exact ⟨none, 0, rfl, Nat.le_refl _, Nat.zero_le _, by simp, fun h => by simp at h⟩}
  {refine ⟨some ⟨g, 0, none⟩, cap, by rw [List.length_map], by rw [List.length_map]; exact h4, h5, fun c hc => ?_, fun _ => ⟨g, 0, rfl, fun i c hi j hj => ?_⟩⟩
   {obtain ⟨k, _, rfl⟩ := List.mem_map.1 hc
    rfl}
   {have e : j = 0 := by omega
    subst e
    rw [List.getElem?_map] at hi
    cases hk : ss[i]? with
    | none => rw [hk] at hi; cases hi
    | some k =>
     rw [hk] at hi
     have : c = [k.val] := by simpa using hi.symm
     subst this
     have hil := (gL hk)
     have h8 : (ss.map A4.val)[i]? = some k.val := by rw [List.getElem?_map, hk]; rfl
     rw [← h7, List.getElem?_take, if_pos (by omega)] at h8
     rw [Ab hh, Nat.zero_add, ← Array.getElem?_toList, Nat.mul_one, Nat.add_zero]
     exact h8}}}
 {obtain ⟨b', ob, h1, h2⟩ := h.sets s hs
  rw [hb] at h1; cases h1
  exact ⟨ob, h2⟩}
 {obtain ⟨b', ob, h1, h2⟩ := h.sets s hs
  rw [hb] at h1; cases h1}
theorem Cv.more {w w' : World} {base : Nat} {v v' : Value} {ss : List A4} {s : A4} (h : Cv w base v ss) {b : Nat} {ob : Option Nat} (hb : s.b = some b) (hs : Br w b s.l ob)
 (hr : w'.ownsRow base 150 1 v' (ss.length + 1) (ss.map A4.val ++ [s.val])) (hc : Ch (fun k _ => v.ownBlock = some k) w w') : Cv w' base v' (ss ++ [s]) := by
 refine ⟨by rw [List.length_append, List.map_append]; exact hr, fun x hx => ?_⟩
 have key : ∃ b ob, x.b = some b ∧ Br w b x.l ob := by
  rcases List.mem_append.1 hx with hx | hx
  {exact h.sets x hx}
  {have : x = s := by simpa using hx
   subst this; exact ⟨b, ob, hb, hs⟩}
 obtain ⟨b', ob', h1, h2⟩ := key
 obtain ⟨h3, h4⟩ := h2.apartP h.row
 exact ⟨b', ob', h1, h2.ch hc (fun _ => h3) (fun b _ e => h4 b e)⟩
theorem Zu {cs : List Aj} (is : List Int) (hn : cs.length ≤ 20) : Eu (Gz cs is cs.length) :=
 ⟨Ju cs is _, fun m hm => by obtain ⟨k, rfl, hk, _⟩ := Fl.1 hm; omega⟩
structure Ku (cs : List Aj) (w wr : World) (xb tb : Nat) (v : Value) (ss : List A4) (k : Nat) : Prop where
 ch : Ch No w wr
 blk : wr.heap[xb]? = some (.cells #[.pointer (some ⟨tb, 0, none⟩), v] 107 (0, 0))
 own : Cv wr (xb + 1) v ss
 len : ss.length = k
 ab : ∀ (i : Nat) (s : A4), ss[i]? = some s → s.l = Gz cs [(i : Int)] cs.length
theorem Ku.no {cs : List Aj} {w wr w' : World} {xb tb k : Nat} {v : Value} {ss : List A4} (h : Ku cs w wr xb tb v ss k) (hc : Ch No wr w') : Ku cs w w' xb tb v ss k :=
 ⟨h.ch.trans hc, hc.keep _ _ h.blk (fun h => h), h.own.no hc, h.len, h.ab⟩
theorem Ku.rowAt {cs : List Aj} {w wr w' : World} {xb tb k : Nat} {v : Value} {ss : List A4} (h : Ku cs w wr xb tb v ss k) (hc : Ch No wr w') : w'.ownsRow (xb + 1) 150 1 v k (ss.map A4.val) := by
 have := (h.own.no hc).row
 rw [h.len] at this
 exact this
theorem Zv (b : Nat) : ∀ u ∈ [Value.pointer (some ⟨b, 0, none⟩)], u.oneCell' = true := by
 intro u hu
 simp at hu
 subst hu; rfl
structure Ty (cs : List Aj) (w w5 : World) (xb tb k : Nat) (v : Value) (ss : List A4) (sb : Nat) (ob : Option Nat) : Prop where
 st : Ku cs w w5 xb tb v ss k
 set : Br w5 sb (Gz cs [(k : Int)] cs.length) ob
 row : (w5.alloc (.cells #[.pointer (some ⟨sb, 0, none⟩)] 150)).ownsRow (xb + 1) 150 1 v k (ss.map A4.val)
 base : xb + 1 ≤ (w5.alloc (.cells #[.pointer (some ⟨sb, 0, none⟩)] 150)).heap.size
theorem Abl {cs : List Aj} {w wr w4 w5 : World} {xb tb k B : Nat} {v u : Value} {ss : List A4} (h : Ku cs w wr xb tb v ss k) (hn : cs.length ≤ 20) (hc4 : Ch No wr w4) (hc5 : Ch No w4 w5) (hs : Lz B w5 u ((Gz cs [(k : Int)] cs.length).foldl Cq [])) :
 ∃ sb ob, u = .pointer (some ⟨sb, 0, none⟩) ∧ Ty cs w w5 xb tb k v ss sb ob := by
 obtain ⟨sb, ob, rfl, hset, _, _⟩ := hs.openIt
 rw [R1 (Zu _ hn)] at hset
 have h5 := h.no (hc4.trans hc5)
 refine ⟨sb, ob, rfl, h5, hset, h5.rowAt ((Ch.refl No _).alloc _), ?_⟩
 have := Ac h5.blk
 have e : (w5.alloc (.cells #[.pointer (some ⟨sb, 0, none⟩)] 150)).heap.size = w5.heap.size + 1 := by simp
 omega
theorem W1 : (107 : TypeId) ≠ 150 := by decide
theorem Ty.step {cs : List Aj} {w w5 w7 : World} {xb tb k : Nat} {v v7 : Value} {ss : List A4} {sb : Nat} {ob : Option Nat} (h : Ty cs w w5 xb tb k v ss sb ob) (hxb : w.heap.size = xb)
 (hr : w7.ownsRow (xb + 1) 150 1 v7 (k + 1) (ss.map A4.val ++ [.pointer (some ⟨sb, 0, none⟩)])) (hc : Ch (fun j _ => v.ownBlock = some j) (w5.alloc (.cells #[.pointer (some ⟨sb, 0, none⟩)] 150)) w7) :
 ∃ ao cap, v7 = .slice ao (k + 1) cap ∧ w7.heap[xb]? = some (.cells #[.pointer (some ⟨tb, 0, none⟩), v] 107 (0, 0)) ∧
  Ku cs w (w7.setCell ⟨xb, 1, none⟩ (.slice ao (k + 1) cap)) xb tb (.slice ao (k + 1) cap) (ss ++ [⟨some sb, Gz cs [(k : Int)] cs.length⟩]) (k + 1) := by
 have ha := (Ch.refl No w5).alloc (.cells #[.pointer (some ⟨sb, 0, none⟩)] 150)
 have h6 := h.st.no ha
 have hr' := hr
 rw [← h6.len] at hr'
 have hown := h6.own.more (s := ⟨some sb, Gz cs [(k : Int)] cs.length⟩) rfl (h.set.no ha) hr' hc
 have hl : (ss ++ [(⟨some sb, Gz cs [(k : Int)] cs.length⟩ : A4)]).length = k + 1 := by rw [List.length_append, h6.len]; rfl
 obtain ⟨ao, cap, e, _⟩ := hown.shape
 rw [hl] at e
 subst e
 have hb7 := hc.keep _ _ h6.blk (Bu h6.own.row h6.blk W1)
 have hcs : Ch (fun j _ => j = xb) w7 (w7.setCell ⟨xb, 1, none⟩ (.slice ao (k + 1) cap)) := (Ch.refl _ _).setCell (fun _ _ => rfl) _
 refine ⟨ao, cap, rfl, hb7, ?_, ?_, ?_, hl, fun i s hs => ?_⟩
 {have h8 : Ch No w w7 := h6.ch.trans' hc (fun j o ho e => by
   obtain ⟨h9, _⟩ := Aw h6.own.row j e
   have := Ac ho
   omega)
  exact h8.trans' hcs (fun j o ho e => by have e' : j = xb := e; have := Ac ho; omega)}
 {rw [Af hb7]; rfl}
 {refine ⟨An hown.row hcs (fun g cur e hg hh e2 => ?_), fun s hs => ?_⟩
  {have e' : g = xb := e2
   omega}
  {obtain ⟨b', ob', h1, h2⟩ := hown.sets s hs
   have hty : ¬ b' = xb ∧ ∀ b, ob' = some b → ¬ b = xb := by
    rcases h2.2 with ⟨lv, k1, k2, k3, _⟩ | ⟨b, ws, k1, k2, _⟩
    {refine ⟨fun e => ?_, fun b hb e => ?_⟩
     {rw [e, hb7] at k1; simp at k1}
     {rw [← k3] at hb
      obtain ⟨cur, k4⟩ := k2.typed b hb
      rw [e, hb7] at k4; simp at k4}}
    {obtain ⟨_, cap, k4, k5⟩ := k2
     refine ⟨fun e => ?_, fun b'' hb e => ?_⟩
     {rw [e, hb7] at k4; simp at k4}
     {rw [k1] at hb; cases hb
      obtain ⟨_, cur, k6⟩ := Aw k5 b rfl
      rw [e, hb7] at k6; simp at k6}}
   exact ⟨b', ob', h1, h2.ch hcs (fun _ => hty.1) (fun b _ e => hty.2 b e)⟩}}
 {by_cases hi : i < ss.length
  {rw [List.getElem?_append_left hi] at hs
   exact h6.ab i s hs}
  {rw [List.getElem?_append_right (by omega)] at hs
   have hj2 : i - ss.length < 1 := by simpa using (gL hs)
   have e : i = k := by have := h6.len; omega
   subst e
   rw [h6.len, Nat.sub_self] at hs
   have : (⟨some sb, Gz cs [(i : Int)] cs.length⟩ : A4) = s := by simpa using hs
   subst this; rfl}}
theorem Afg {w : World} {tv : Value} {cs : List Aj} (hT : Ia w) (h : Cu w tv cs) (hf : Bt cs none) (hn : cs.length ≤ 20) :
 Calls Tryz.prog 43 #[tv] w fun e w' => ∃ xv, e = .returned (.tuple #[xv, .int .i64 0]) ∧ Bv w' xv cs ∧ Ch No w w' := by
 have HT := Aa hT
 have HF := Aa hf
 have HTI := Aa h
 obtain ⟨tb, T, rfl, _⟩ := h
 obtain ⟨wa, hwa, hba, hca⟩ := A2 w (.cells #[.pointer (some ⟨tb, 0, none⟩), .slice none 0 0] 107)
 have hle := Afe (HTI.out.no hca)
 obtain ⟨n, hn'⟩ : ∃ n, cs.length = n := ⟨_, rfl⟩
 rw [hn'] at hle hn
 have HN := Aa hn'
 have HST : Hid (Ku cs w wa w.heap.size tb (.slice none 0 0) [] 0) := Aa ⟨hca, hba, Cv.nil _ _, rfl, fun i s h => by simp at h⟩
 clear hT hf hca hba hn'
 go_in
 go_wp2_with fail
 clear hwa
 refine hle.mono ?_
 rintro e w1 ⟨rfl, rfl⟩
 clear hle
 go_wp2
 go_loopg [13] n (fun g s13 wr => ∃ (k : Nat) (v : Value) (ss : List A4), k ≤ n ∧ n - k ≤ g ∧ s13 = .int .i64 k ∧ Hid (Ku cs w wr w.heap.size tb v ss k))
 case atStart => exact ⟨0, _, _, Nat.zero_le _, by omega, rfl, HST⟩
 case round =>
  obtain ⟨k, v, ss, hk, hg, rfl, HS⟩ := hrel
  cases hd : decide (k < n) with
  | false =>
   have hkl : ¬ k < n := by simpa using hd
   go_wp2_with fail
   go_ret2
   refine ⟨_, rfl, ⟨_, tb, v, ss, rfl, HS.out.blk, HTI.out.no HS.out.ch, HS.out.own.at_, ?_, HS.out.ab⟩, HS.out.ch⟩
   have := HS.out.len; have := HN.out; omega
  | true =>
   have hkl : k < n := by simpa using hd
   obtain ⟨ao, cap, rfl, hcap, hmax⟩ := HS.out.own.shape
   have hsl := HS.out.len
   rw [hsl] at HS hcap
   unfold maxLen at hmax
   obtain ⟨g0, g1⟩ := Co HS.out.blk
   have hxz := Ac HS.out.blk
   clear hsl
   go_wp2_with fail
   have hk1 : k + 1 ≤ 100000 := by omega
   have hn20 : cs.length ≤ 20 := by have := HN.out; omega
   have hxw : w.heap.size = w.heap.size := rfl
   have HXW := Aa hxw
   clear hxw
   go_region_law (first | (refine Dr rfl _ _ rfl Tryz.slicePsets Tryz.infoPset2 Nat.zero_lt_one (lb rfl) _ _ k _ rfl HO5.out.row w5.heap.size 1 1 [.pointer (some ⟨sb, 0, none⟩)] rfl rfl (heap_alloc_new w5 _) (Zv sb) hk1 HO5.out.base ?_; intro v7 w7 hr7 hc7; obtain ⟨ao7, cap7, rfl, hb7, hst7⟩ := HO5.out.step HXW.out hr7 hc7; obtain ⟨g70, g71⟩ := Co hb7; have f71 := Ad hb7 1; have HST7 := Aa hst7; clear hr7 hc7 hb7 hst7) | (go_simp; go_at_call 77; refine (Pd (is := [(k : Int)]) (HT.out.no (HS.out.ch.trans (((Ch.refl No wr).alloc _).drew))) (HTI.out.no (HS.out.ch.trans (((Ch.refl No wr).alloc _).drew))) HF.out hn20 ((Ga wr (k : Int)).no ((Ch.refl No _).drew))).mono ?_; rintro e w4 ⟨u, rfl, hu, hc4⟩; have hcw4 := (((Ch.refl No wr).alloc _).drew).trans hc4; have hs4 := HS.out.no hcw4; obtain ⟨g40, g41⟩ := Co hs4.blk; have HU4 := Aa hu.at_; have HCW4 := Aa hcw4; clear hu hc4 hcw4 hs4) | (go_simp; go_at_call 76; refine (sof HU4.out).mono ?_; rintro e w5 ⟨u5, rfl, hs5, hc5⟩; obtain ⟨sb, ob, rfl, ho5⟩ := Abl HS.out hn20 HCW4.out hc5 hs5; obtain ⟨g50, g51⟩ := Co ho5.st.blk; have f51 := Ad ho5.st.blk 1; have z5 := Ac ho5.st.blk; have HO5 := Aa ho5; clear hs5 hc5 ho5))
   all_goals (
    go_wp2
    go_roundg (n - k - 1)
    case rel => exact ⟨k + 1, _, _, by omega, by omega, by go_num, HST7⟩
    case measure => omega)
theorem Qk (a : ByteArray) : a.toList.isEmpty = decide (a = ⟨#[]⟩) := by
 have h := J4 a []
 have e : (a.toList == []) = a.toList.isEmpty := by cases a.toList <;> rfl
 rw [← e, h]
theorem Zw {w : World} {pv : Value} {cs : List Aj} (h : Cz w pv cs) (hsz : Sv cs) :
 Calls Tryz.prog 36 #[pv] w fun e w' => Am (Pe cs) e ∧ Ch No w w' := by
 have HSZ := Aa hsz
 obtain ⟨cv, m0, m1, m2, m3, m4, m5, m6, m7, m8, rfl, h⟩ := h
 have hch := (Ch.refl No w).alloc (.cells #[cv, m0, m1, m2, m3, m4, m5, m6, m7, m8] 31)
 have h' := h.no hch
 obtain ⟨ao, cap, rfl, hcap, hmax, _, _⟩ := h.row
 rw [List.length_map] at hcap h' ⊢
 obtain ⟨len, Av⟩ := Ax cs.length
 rw [Av] at hcap h' ⊢
 unfold maxLen at hmax
 have HL := Aa Av
 have HC := Aa h'
 obtain ⟨wa, hwa⟩ := Ax (w.alloc (.cells #[.slice ao len cap, m0, m1, m2, m3, m4, m5, m6, m7, m8] 31))
 have c0 := Ab (heap_alloc_new w (.cells #[.slice ao len cap, m0, m1, m2, m3, m4, m5, m6, m7, m8] 31)) 0
 rw [List.length_map, Av] at hch
 rw [hwa] at hch HC c0
 have HCH := Aa hch
 clear Av h h' hch hsz
 go_in
 go_wp2_with fail
 clear hwa
 go_loop [3] (fun s3 => ∃ k : Nat, k ≤ len ∧ s3 = .int .i64 k ∧ Hid (∀ x ∈ cs.take k, L6 x)) (fun s3 => len - (intOf s3).toNat)
 case atStart => exact ⟨0, Nat.zero_le _, rfl, Aa (by simp)⟩
 case round =>
  obtain ⟨k, hk, rfl, HN⟩ := hrel
  cases hd : decide (k < len) with
  | true =>
   have hkl : k < len := by simpa using hd
   obtain ⟨c, hc⟩ := gE (l := cs) (i := k) (by have := HL.out; omega)
   obtain ⟨b, off, cap', e, hcell, _, _⟩ := HC.out.cell hc
   rw [HL.out] at e
   cases e
   have q0 := hcell.q0
   have HX := Aa hc
   have hcs := (HSZ.out c (mG hc)).1
   unfold maxLen at hcs
   obtain ⟨nm, hnm⟩ := Ax c.name
   rw [hnm] at q0 hcs
   have HNM := Aa hnm
   have hno : ¬ L6 c → ¬ Pe cs := fun h hp => h (hp c (mG HX.out))
   have HNO := Aa hno
   clear hc hcell hnm hno
   by_cases h1 : nm = ⟨#[]⟩
   {have e1 : nm.toList.isEmpty = true := by rw [Qk]; simpa using h1
    have H1 := Aa h1
    clear h1
    go_wp2
    go_ret
    exact ⟨Am.f (HNO.out (fun h => h.ne (HNM.out.trans H1.out))), HCH.out⟩}
   have e1 : nm.toList.isEmpty = false := by rw [Qk]; simpa using h1
   have H1 := Aa h1
   clear h1
   by_cases h2 : nm = Cl
   {have e2 := lit nm [105, 110, 116] h2
    have H2 := Aa h2
    clear h2
    go_wp2
    go_ret
    exact ⟨Am.f (HNO.out (fun h => h.nint (HNM.out.trans H2.out))), HCH.out⟩}
   have e2 := Bf nm [105, 110, 116] h2
   have H2 := Aa h2
   clear h2
   by_cases h3 : nm = D9
   {have e3 := lit nm [110, 117, 108, 108] h3
    have H3 := Aa h3
    clear h3
    go_wp2
    go_ret
    exact ⟨Am.f (HNO.out (fun h => h.nnull (HNM.out.trans H3.out))), HCH.out⟩}
   have e3 := Bf nm [110, 117, 108, 108] h3
   have H3 := Aa h3
   clear h3
   by_cases h4 : nm = Gf
   {have e4 := lit nm [118, 111, 105, 100] h4
    have H4 := Aa h4
    clear h4
    go_wp2
    go_ret
    exact ⟨Am.f (HNO.out (fun h => h.nvoid (HNM.out.trans H4.out))), HCH.out⟩}
   have e4 := Bf nm [118, 111, 105, 100] h4
   have H4 := Aa h4
   clear h4
   have hgood : ¬ I8 nm → ∀ x ∈ cs.take (k + 1), L6 x := by
    intro ha x hx
    rw [List.take_add_one, HX.out] at hx
    rcases List.mem_append.1 hx with hx | hx
    {exact HN.out x hx}
    {simp at hx; subst hx
     have e := HNM.out
     exact ⟨by rw [e]; exact H1.out, by rw [e]; exact H2.out, by rw [e]; exact H3.out, by rw [e]; exact H4.out, by rw [e]; exact ha⟩}
   have HG := Aa hgood
   clear hgood
   cases h5 : decide ((2 : Int) ≤ nm.size) with
   | false =>
    have h5' : ¬ (2 : Int) ≤ nm.size := by simpa using h5
    go_wp2_with fail
    go_round
    case rel => exact ⟨k + 1, by omega, by go_num, Aa (HG.out (fun h => by have := h.1; omega))⟩
    case measure => simp [intOf]; omega
   | true =>
    have h5' : (2 : Int) ≤ nm.size := by simpa using h5
    have hsl : ∀ w', (Instr.slice 9 (.string nm) (some (.int .i64 ((nm.size : Int) - 2))) none none).run Tryz.prog w' = .ok (.string (nm.extract (nm.size - 2) nm.size)) w' := by
     intro w'
     have := run_slice_string_l w' 9 nm Tryz.underlying9 .i64 ((nm.size : Int) - 2) (by omega) (by omega)
     rwa [show ((nm.size : Int) - 2).toNat = nm.size - 2 by omega] at this
    have hsl' := hsl wa
    have HSL := Aa hsl
    clear hsl
    obtain ⟨sx, hsx⟩ := Ax (nm.extract (nm.size - 2) nm.size)
    rw [hsx] at hsl'
    by_cases h6 : sx = Wx
    {have e6 := lit sx [91, 93] h6
     have HA := Aa (show I8 nm from ⟨by omega, hsx.trans h6⟩)
     clear h6 hsx
     go_wp2
     go_ret
     exact ⟨Am.f (HNO.out (fun h => h.narr (by rw [HNM.out]; exact HA.out))), HCH.out⟩}
    {have e6 := Bf sx [91, 93] h6
     have HA := Aa (show ¬ I8 nm from fun h => h6 (hsx.symm.trans h.2))
     clear h6 hsx
     go_wp2_with fail
     go_round
     case rel => exact ⟨k + 1, by omega, by go_num, Aa (HG.out HA.out)⟩
     case measure => simp [intOf]; omega}
  | false =>
   have hkl : ¬ k < len := by simpa using hd
   go_wp2
   go_ret
   refine ⟨Am.t (fun c hc => HN.out c ?_), HCH.out⟩
   rw [List.take_of_length_le (by have := HL.out; omega)]; exact hc
theorem Am.yes {P : Prop} {e : Ending} (h : Am P e) (hp : P) : e = .returned (.bool true) := by
 obtain ⟨r, rfl, hr⟩ := h
 rw [hr.2 hp]
theorem Am.no {P : Prop} {e : Ending} (h : Am P e) (hp : ¬ P) : e = .returned (.bool false) := by
 obtain ⟨r, rfl, hr⟩ := h
 cases r with
 | false => rfl
 | true => exact absurd (hr.1 rfl) hp
theorem W2 (a : ByteArray) : ∀ u ∈ [Value.string a], u.oneCell' = true := by
 intro u hu
 simp at hu
 subst hu; rfl
theorem Aq.rowN {w w' : World} {base n : Nat} {v : Value} {l : List ByteArray} (h : Aq w base v l) (hn : l.length = n) (hc : Ch No w w') : w'.ownsRow base 9 1 v n (l.map Value.string) := by
 have := h.no hc
 unfold Aq at this
 rw [hn] at this
 exact this
structure Vr where
 ty : ByteArray
 nm : ByteArray
 line : Int
 col : Int
def Vr.cells (x : Vr) : List Value := [.string x.ty, .string x.nm, .int .i64 x.line, .int .i64 x.col]
def Bc (w : World) (v : Value) (l : List Vr) : Prop := B5 w v 4 (l.map Vr.cells)
theorem Bc.no {w w' : World} {v : Value} {l : List Vr} (h : Bc w v l) (hc : Ch No w w') : Bc w' v l := B5.no h hc
structure Mt where
 ret : ByteArray
 nm : ByteArray
 st : Bool
 ba : Bool
 ps : List Vr
 pa : Option Addr
 pc : Nat
 s5 : Option Addr × Nat × Nat
 s6 : Option Addr × Nat × Nat
 line : Int
 col : Int
def Mt.cells (m : Mt) : List Value := [.string m.ret, .string m.nm, .bool m.st, .bool m.ba, .slice m.pa m.ps.length m.pc, .slice m.s5.1 m.s5.2.1 m.s5.2.2, .slice m.s6.1 m.s6.2.1 m.s6.2.2, .int .i64 m.line, .int .i64 m.col]
structure F1 (w : World) (v : Value) (l : List Mt) : Prop where
 row : B5 w v 9 (l.map Mt.cells)
 ps : ∀ m ∈ l, Bc w (.slice m.pa m.ps.length m.pc) m.ps
theorem F1.no {w w' : World} {v : Value} {l : List Mt} (h : F1 w v l) (hc : Ch No w w') : F1 w' v l := ⟨h.row.no hc, fun m hm => (h.ps m hm).no hc⟩
structure Ba where
 fs : List Vr
 ss : List Vr
 ms : List Mt
structure J5 (w : World) (c : Aj) (m : Ba) : Prop where
 fs : Bc w (.slice c.s4.1 c.s4.2.1 c.s4.2.2) m.fs
 ss : Bc w (.slice c.s5.1 c.s5.2.1 c.s5.2.2) m.ss
 ms : F1 w (.slice c.s6.1 c.s6.2.1 c.s6.2.2) m.ms
theorem J5.no {w w' : World} {c : Aj} {m : Ba} (h : J5 w c m) (hc : Ch No w w') : J5 w' c m := ⟨h.fs.no hc, h.ss.no hc, h.ms.no hc⟩
structure En (w : World) (cs : List Aj) (ms : List Ba) : Prop where
 len : ms.length = cs.length
 at_ : ∀ (i : Nat) (c : Aj) (m : Ba), cs[i]? = some c → ms[i]? = some m → J5 w c m
theorem En.no {w w' : World} {cs : List Aj} {ms : List Ba} (h : En w cs ms) (hc : Ch No w w') : En w' cs ms := ⟨h.len, fun i c m h1 h2 => (h.at_ i c m h1 h2).no hc⟩
theorem En.get {w : World} {cs : List Aj} {ms : List Ba} (h : En w cs ms) {i : Nat} {c : Aj} (hc : cs[i]? = some c) : ∃ m, ms[i]? = some m ∧ J5 w c m := by
 have hi := (gL hc)
 obtain ⟨m, hm⟩ := gE (l := ms) (i := i) (by rw [h.len]; exact hi)
 exact ⟨m, hm, h.at_ i c m hc hm⟩
theorem Bc.shape {w : World} {ao : Option Addr} {n cap : Nat} {l : List Vr} (h : Bc w (.slice ao n cap) l) : n = l.length ∧ l.length ≤ cap ∧ cap ≤ maxLen := by
 obtain ⟨ao', cap', e, h1, h2, _⟩ := h
 rw [List.length_map] at e h1
 cases e
 exact ⟨rfl, h1, h2⟩
structure W3 (w : World) (b a : Nat) (x : Vr) : Prop where
 q0 : w.cell? ⟨b, a, none⟩ = some (.string x.ty)
 q1 : w.cell? ⟨b, a + 1, none⟩ = some (.string x.nm)
 q2 : w.cell? ⟨b, a + 2, none⟩ = some (.int .i64 x.line)
 q3 : w.cell? ⟨b, a + 3, none⟩ = some (.int .i64 x.col)
theorem Bc.cell {w : World} {ao : Option Addr} {n cap : Nat} {l : List Vr} (h : Bc w (.slice ao n cap) l) {k : Nat} {x : Vr} (hk : l[k]? = some x) :
 ∃ b off, ao = some ⟨b, off, none⟩ ∧ W3 w b (off + k * 4) x := by
 obtain ⟨ao', cap', e, h1, h2, h3, h4⟩ := h
 have hl : k < l.length := (gL hk)
 obtain ⟨b, off, rfl, h5⟩ := h4 (by rw [List.length_map]; omega)
 have h6 := fun j hj => h5 k x.cells (by rw [List.getElem?_map, hk]; rfl) j hj
 cases e
 exact ⟨b, off, rfl, ⟨h6 0 (by omega), h6 1 (by omega), h6 2 (by omega), h6 3 (by omega)⟩⟩
theorem F1.shape {w : World} {ao : Option Addr} {n cap : Nat} {l : List Mt} (h : F1 w (.slice ao n cap) l) : n = l.length ∧ l.length ≤ cap ∧ cap ≤ maxLen := by
 obtain ⟨ao', cap', e, h1, h2, _⟩ := h.row
 rw [List.length_map] at e h1
 cases e
 exact ⟨rfl, h1, h2⟩
structure W4 (w : World) (b a : Nat) (x : Mt) : Prop where
 q0 : w.cell? ⟨b, a, none⟩ = some (.string x.ret)
 q1 : w.cell? ⟨b, a + 1, none⟩ = some (.string x.nm)
 q2 : w.cell? ⟨b, a + 2, none⟩ = some (.bool x.st)
 q3 : w.cell? ⟨b, a + 3, none⟩ = some (.bool x.ba)
 q4 : w.cell? ⟨b, a + 4, none⟩ = some (.slice x.pa x.ps.length x.pc)
 q5 : w.cell? ⟨b, a + 5, none⟩ = some (.slice x.s5.1 x.s5.2.1 x.s5.2.2)
 q6 : w.cell? ⟨b, a + 6, none⟩ = some (.slice x.s6.1 x.s6.2.1 x.s6.2.2)
 q7 : w.cell? ⟨b, a + 7, none⟩ = some (.int .i64 x.line)
 q8 : w.cell? ⟨b, a + 8, none⟩ = some (.int .i64 x.col)
theorem F1.cell {w : World} {ao : Option Addr} {n cap : Nat} {l : List Mt} (h : F1 w (.slice ao n cap) l) {k : Nat} {x : Mt} (hk : l[k]? = some x) :
 ∃ b off, ao = some ⟨b, off, none⟩ ∧ W4 w b (off + k * 9) x := by
 obtain ⟨ao', cap', e, h1, h2, h3, h4⟩ := h.row
 have hl : k < l.length := (gL hk)
 obtain ⟨b, off, rfl, h5⟩ := h4 (by rw [List.length_map]; omega)
 have h6 := fun j hj => h5 k x.cells (by rw [List.getElem?_map, hk]; rfl) j hj
 cases e
 exact ⟨b, off, rfl, ⟨h6 0 (by omega), h6 1 (by omega), h6 2 (by omega), h6 3 (by omega), h6 4 (by omega), h6 5 (by omega), h6 6 (by omega), h6 7 (by omega), h6 8 (by omega)⟩⟩
structure Ye (m : Ba) : Prop where
 fs : ∀ v ∈ m.fs, v.nm.size ≤ maxLen ∧ v.ty.size ≤ maxLen
 ss : ∀ v ∈ m.ss, v.nm.size ≤ maxLen ∧ v.ty.size ≤ maxLen
 ms : ∀ x ∈ m.ms, x.nm.size ≤ maxLen ∧ x.ret.size ≤ maxLen ∧ ∀ v ∈ x.ps, v.ty.size ≤ maxLen
def W5 (ms : List Ba) : Prop := ∀ m ∈ ms, Ye m
section
variable {α : Type}
def Ql (F : (Nat → α) → Nat → α) (d : α) : Nat → Nat → α
 | 0 => fun _ => d
 | k + 1 => F (Ql F d k)
theorem Tz {up : Nat → List Nat} {F : (Nat → α) → Nat → α} (d : α) (rank : Nat → Nat) (hr : ∀ i, ∀ j ∈ up i, rank j < rank i)
 (hF : ∀ g g' i, (∀ j ∈ up i, g j = g' j) → F g i = F g' i) : ∀ (k k' i : Nat), rank i < k → rank i < k' → Ql F d k i = Ql F d k' i
 | 0, _, _, h, _ => by omega
 | _, 0, _, _, h => by omega
 | k + 1, k' + 1, i, h, h' => by
  show F _ i = F _ i
  refine hF _ _ i (fun j hj => Tz d rank hr hF k k' j ?_ ?_) <;> have := hr i j hj <;> omega
end
def Eo (cs : List Aj) (i : Nat) : Nat := (Hj cs).idxOf i
theorem W6 {cs : List Aj} (hno : A3 cs) : ∀ i, ¬ Gr.Reach (Az cs) i i := by
 intro i h
 exact hno i (h.lt (Dq cs)) h
theorem J6 (cs : List Aj) : Gr.Ord cs.length (Az cs) (Hj cs) := Gr.order_ord _ _ .nil
theorem T0 {cs : List Aj} (hno : A3 cs) {i : Nat} (hi : i < cs.length) : i ∈ Hj cs :=
 Gr.all_done (Dq cs) hno (Gr.order_none cs.length [] .nil (by simp)) i hi
theorem Ord.before {n : Nat} {up : Nat → List Nat} {l : List Nat} (h : Gr.Ord n up l) : ∀ i ∈ l, ∀ j ∈ up i, l.idxOf j < l.idxOf i := by
 induction h with
 | nil => simp
 | snoc h hi hn hu ih =>
  rename_i l k
  intro i him j hj
  rcases List.mem_append.1 him with hl | hl
  {have hjl := h.closed i hl j hj
   rw [List.idxOf_append, List.idxOf_append, if_pos hjl, if_pos hl]
   exact ih i hl j hj}
  {obtain rfl : i = k := by simpa using hl
   have hjl := hu j hj
   rw [List.idxOf_append, List.idxOf_append, if_pos hjl, if_neg hn]
   have := List.idxOf_lt_length_of_mem hjl
   omega}
theorem T1 {cs : List Aj} {i : Nat} (h : cs.length ≤ i) : Az cs i = [] := by
 unfold Az
 rw [List.getElem?_eq_none h]
theorem Hm {cs : List Aj} (hno : A3 cs) : ∀ i, ∀ j ∈ Az cs i, Eo cs j < Eo cs i := by
 intro i j hj
 by_cases hi : i < cs.length
 {exact Ord.before (J6 cs) i (T0 hno hi) j hj}
 {rw [T1 (by omega)] at hj
  cases hj}
theorem Qm {cs : List Aj} (i : Nat) : Eo cs i ≤ cs.length := by
 have h1 : Eo cs i ≤ (Hj cs).length := List.idxOf_le_length
 have h2 := Gr.nodup_len (J6 cs).nodup (J6 cs).lt
 omega
def W7 {α : Type} (cs : List Aj) (F : (Nat → α) → Nat → α) (d : α) : Nat → α := Ql F d (cs.length + 1)
theorem Yf {α : Type} {cs : List Aj} (hno : A3 cs) {F : (Nat → α) → Nat → α} {d : α} (hF : ∀ g g' i, (∀ j ∈ Az cs i, g j = g' j) → F g i = F g' i) (i : Nat) : W7 cs F d i = F (W7 cs F d) i := by
 have h := Tz d (Eo cs) (Hm hno) hF (cs.length + 1) (cs.length + 2) i (by have := Qm (cs := cs) i; omega) (by have := Qm (cs := cs) i; omega)
 exact h
def D4 (cs : List Aj) (i : Nat) : Option Nat := match cs[i]? with | some c => if c.sup.toList.isEmpty then none else As cs c.sup | none => none
theorem Qn {cs : List Aj} {i j : Nat} (h : D4 cs i = some j) : j ∈ Az cs i := by
 unfold D4 at h
 unfold Az
 cases hc : cs[i]? with
 | none => rw [hc] at h; cases h
 | some c =>
  rw [hc] at h
  simp only at h ⊢
  cases he : c.sup.toList.isEmpty with
  | true => rw [he] at h; simp at h
  | false =>
   rw [he] at h
   simp only [Bool.false_eq_true, if_false] at h
   unfold Aj.ups
   rw [he]
   simp [h]
def E4 (cs : List Aj) : Nat → List Nat := W7 cs (fun g i => i :: match D4 cs i with | some j => g j | none => []) []
def C7 (cs : List Aj) : Option Nat → List Nat | none => [] | some i => E4 cs i
theorem Hn {cs : List Aj} (hno : A3 cs) (i : Nat) : E4 cs i = i :: C7 cs (D4 cs i) := by
 unfold E4
 rw [Yf hno (fun g g' i h => by
  cases hs : D4 cs i with
  | none => rfl
  | some j => simp only; rw [h j (Qn hs)])]
 congr 1
 cases D4 cs i <;> rfl
theorem T2 {cs : List Aj} (hno : A3 cs) (i : Nat) : (E4 cs i).length = (C7 cs (D4 cs i)).length + 1 := by rw [Hn hno i]; rfl
def Ba.vs (m : Ba) (st : Bool) : List Vr := if st then m.ss else m.fs
def Qo (l : List Vr) (nm : ByteArray) : Option Vr := l.find? (fun v => decide (v.nm = nm))
def Lk (l : List Mt) (nm : ByteArray) : Option Nat := l.findIdx? (fun x => decide (x.nm = nm))
def Afh (ms : List Ba) (st : Bool) (nm : ByteArray) (i : Nat) : Option Vr := match ms[i]? with | some m => Qo (m.vs st) nm | none => none
def J7 (ms : List Ba) (nm : ByteArray) (i : Nat) : Option Nat := match ms[i]? with | some m => Lk m.ms nm | none => none
def Qp {α : Type} (get : Nat → Option α) : List Nat → Option (Nat × α)
 | [] => none
 | j :: r => match get j with | some x => some (j, x) | none => Qp get r
theorem Ea {α : Type} (get : Nat → Option α) (j : Nat) (r : List Nat) : Qp get (j :: r) = match get j with | some x => some (j, x) | none => Qp get r := by
 rw [Qp]
def Cc (cs : List Aj) (ms : List Ba) (nm : ByteArray) (o : Option Nat) : Option (Nat × Nat) := Qp (J7 ms nm) (C7 cs o)
theorem Nj {cs : List Aj} {ms : List Ba} (hno : A3 cs) (nm : ByteArray) (i : Nat) :
 Cc cs ms nm (some i) = match J7 ms nm i with | some x => some (i, x) | none => Cc cs ms nm (D4 cs i) := by
 unfold Cc
 show Qp _ (E4 cs i) = _
 rw [Hn hno i]
 rw [Ea]
 cases J7 ms nm i <;> rfl
def Fd (cs : List Aj) (i : Nat) : Bool := match cs[i]? with | some c => c.face | none => false
def Fs (cs : List Aj) (i : Nat) : List Nat := match cs[i]? with | some c => c.faces.filterMap (As cs) | none => []
theorem Ij {cs : List Aj} {i j : Nat} (h : j ∈ Fs cs i) : j ∈ Az cs i := by
 unfold Fs at h
 unfold Az
 cases hc : cs[i]? with
 | none => rw [hc] at h; cases h
 | some c =>
  rw [hc] at h
  simp only [List.mem_filterMap] at h ⊢
  obtain ⟨x, hx, hf⟩ := h
  exact ⟨x, by unfold Aj.ups; exact List.mem_append.2 (.inr hx), hf⟩
def Ez (cs : List Aj) (ms : List Ba) (nm : ByteArray) : Nat → Option (Nat × Nat) :=
 W7 cs (fun g i => match Cc cs ms nm (some i) with | some r => some r | none => if Fd cs i then (Fs cs i).findSome? g else none) none
theorem Gh {α β : Type} {g g' : α → Option β} : ∀ {l : List α}, (∀ j ∈ l, g j = g' j) → l.findSome? g = l.findSome? g'
 | [], _ => rfl
 | x :: l, h => by
  rw [List.findSome?_cons, List.findSome?_cons, h x (by simp), Gh (l := l) (fun j hj => h j (by simp [hj]))]
theorem D5 {cs : List Aj} {ms : List Ba} (hno : A3 cs) (nm : ByteArray) (i : Nat) :
 Ez cs ms nm i = match Cc cs ms nm (some i) with | some r => some r | none => if Fd cs i then (Fs cs i).findSome? (Ez cs ms nm) else none := by
 have h := Yf (α := Option (Nat × Nat)) (cs := cs) hno (F := fun g i => match Cc cs ms nm (some i) with | some r => some r | none => if Fd cs i then (Fs cs i).findSome? g else none) (d := none) (fun g g' i h => by
  cases Cc cs ms nm (some i) with
  | some r => rfl
  | none =>
   simp only
   rw [Gh (fun j hj => h j (Ij hj))]) i
 exact h
def D6 (cs : List Aj) (t : ByteArray) : Prop := t ≠ D9 ∧ Lj cs t
def Ja (cs : List Aj) (z : Int) (o : Option Nat) : Prop := (∃ k : Nat, z = k ∧ k < cs.length ∧ o = some k) ∨ (o = none ∧ ¬ (0 ≤ z ∧ z < cs.length))
theorem Ja.none {cs : List Aj} : Ja cs (-1) none := .inr ⟨rfl, by omega⟩
theorem Ja.some {cs : List Aj} {k : Nat} (h : k < cs.length) : Ja cs k (some k) := .inl ⟨k, rfl, h, rfl⟩
theorem T3 {cs : List Aj} {i : Nat} {c : Aj} (hc : cs[i]? = some c) (ho : V9 cs i c) : Ja cs (Ed cs c) (D4 cs i) := by
 unfold Ed D4
 rw [hc]
 simp only
 cases he : c.sup.toList.isEmpty with
 | true => simp only [if_true]; exact Ja.none
 | false =>
  obtain ⟨s, d, hf, hs, _⟩ := ho.sup he
  simp only [Bool.false_eq_true, if_false]
  rw [hf, Dg hf]
  exact Ja.some (gL hs)
end Go.Proofs.YtgjpgfedlgdjhaaGreatDoor
end
end
section
namespace Go.Proofs.YtgjpgfedlgdjhaaGreatDoor
open Go.RowKit Go.W
theorem Ho (w : World) : (zeroValue 54).run Tryz.prog w = .ok (.agg #[.int .i64 0, .string ⟨#[]⟩, .string ⟨#[]⟩, .slice none 0 0, .bool false, .bool false]) w := by kernel_rfl
def Nk (c : Int) (nm ty : ByteArray) (sa : Option Addr) (sn sc : Nat) (st ba : Bool) : Value := .agg #[.int .i64 c, .string nm, .string ty, .slice sa sn sc, .bool st, .bool ba]
def Is6 (u : Value) : Prop := ∃ c nm ty sa sn sc st ba, u = Nk c nm ty sa sn sc st ba
def L7 (get : ByteArray → Option Value) (nm : ByteArray) (v : Value) : ByteArray → Option Value := fun l => match get l with | some u => some u | none => if l = nm then some v else none
theorem T4 {w : World} {mb n : Nat} {get : ByteArray → Option Value} (h : A1 Tryz.prog 9 Bx w mb n get) (hn : n < 1000000) {c : Int} {nm ty : ByteArray} {sa : Option Addr} {sn sc : Nat} {st ba : Bool} (hz : nm.size ≤ maxLen) (hg : ∀ u, get nm = some u → Is6 u) :
 Calls Tryz.prog 78 #[.map (some mb), Nk c nm ty sa sn sc st ba] w fun e w' => e = .returned (.tuple #[]) ∧ A1 Tryz.prog 9 Bx w' mb (n + 1) (L7 get nm (Nk c nm ty sa sn sc st ba)) ∧ Ch (fun k _ => k = mb) w w' := by
 unfold Nk
 obtain ⟨w1, hw1, hb1, hc1⟩ := A2 w (.cells #[.int .i64 c, .string nm, .string ty, .slice sa sn sc, .bool st, .bool ba] 54)
 have h1 := h.ch hc1 (fun _ _ h => h)
 have HC1 := Aa hc1
 have hlk := h1.lookOk Gx Tryz.underlying98 (Ho w1) (Gy hz)
 have hlt := Ac hb1
 obtain ⟨d0, d1, d2, d3, d4, d5⟩ := Dm hb1
 cases hgn : get nm with
 | some u =>
  obtain ⟨c', nm', ty', sa', sn', sc', st', ba', rfl⟩ := hg u hgn
  rw [hgn] at hlk
  have hlk' : (Instr.lookup 98 (.map (some mb)) (.string nm) true).run Tryz.prog w1 = .ok (.tuple #[.agg #[.int .i64 c', .string nm', .string ty', .slice sa' sn' sc', .bool st', .bool ba'], .bool true]) w1 := hlk
  have HG := Aa hgn
  have H1 := Aa h1
  clear h h1 hlk hgn hg hb1 hc1 hz
  go_in
  go_wp2_with fail
  refine bodyPost_end (results_none rfl _ _ _) rfl ?_
  refine ⟨rfl, ?_, ((HC1.out.alloc _).mono (fun _ _ _ h => h.elim))⟩
  have e : L7 get nm (.agg #[.int .i64 c, .string nm, .string ty, .slice sa sn sc, .bool st, .bool ba]) = get := by
   funext l
   unfold L7
   cases hl : get l with
   | some u => rfl
   | none =>
    by_cases e : l = nm
    {subst e; rw [HG.out] at hl; cases hl}
    {simp [e]}
  rw [e]
  exact (H1.out.alloc _).mono (by omega)
 | none =>
  rw [hgn] at hlk
  have hlk' : (Instr.lookup 98 (.map (some mb)) (.string nm) true).run Tryz.prog w1 = .ok (.tuple #[.agg #[.int .i64 0, .string ⟨#[]⟩, .string ⟨#[]⟩, .slice none 0 0, .bool false, .bool false], .bool false]) w1 := hlk
  obtain ⟨w2, hw2⟩ := Ax (w1.alloc (.cells #[.int .i64 0, .string ⟨#[]⟩, .string ⟨#[]⟩, .slice none 0 0, .bool false, .bool false] 54))
  have hc2 := (Ch.refl No w1).alloc (.cells #[.int .i64 0, .string ⟨#[]⟩, .string ⟨#[]⟩, .slice none 0 0, .bool false, .bool false] 54)
  rw [hw2] at hc2
  have hb2 := hc2.keep _ _ hb1 (fun h => h)
  have h2 := h1.ch hc2 (fun _ _ h => h)
  obtain ⟨g0, g1, g2, g3, g4, g5⟩ := Dm hb2
  obtain ⟨w3, hrun, hm3, hg3⟩ := h2.store Gx Tryz.underlying98 (by unfold maxLen; omega) (Gy hz) (.agg #[.int .i64 c, .string nm, .string ty, .slice sa sn sc, .bool st, .bool ba])
  have hrun' : (Instr.mapUpdate 98 (.map (some mb)) (.string nm) (.agg #[.int .i64 c, .string nm, .string ty, .slice sa sn sc, .bool st, .bool ba])).run Tryz.prog w2 = .ok () w3 := hrun
  have HG := Aa hgn
  have H3 := Aa hm3
  have HC3 := Aa (((HC1.out.trans hc2).mono (S' := fun k _ => k = mb) (fun _ _ _ h => h.elim)).trans ((Ch.refl (fun k _ => k = mb) w2).grown hg3 (fun _ _ h _ => by cases h; rfl)))
  clear h h1 h2 hlk hgn hg hb1 hb2 hc1 hc2 hz hrun hm3 hg3
  subst hw2
  go_in
  go_wp2_with fail
  refine bodyPost_end (results_none rfl _ _ _) rfl ?_
  refine ⟨rfl, ?_, HC3.out⟩
  have e : L7 get nm (.agg #[.int .i64 c, .string nm, .string ty, .slice sa sn sc, .bool st, .bool ba]) = fun l => if l = nm then some (.agg #[.int .i64 c, .string nm, .string ty, .slice sa sn sc, .bool st, .bool ba]) else get l := by
   funext l
   unfold L7
   by_cases e : l = nm
   {subst e; rw [HG.out]}
   {cases hl : get l <;> simp [e]}
  rw [e]
  exact H3.out
def D0 (i : Int) (st : Bool) (l : List Vr) (nm : ByteArray) : Option Value := (Qo l nm).map (fun v => Nk i v.nm v.ty none 0 0 st false)
theorem Nl {i : Int} {st : Bool} {l : List Vr} {nm : ByteArray} : ∀ u, D0 i st l nm = some u → Is6 u := by
 intro u h
 unfold D0 at h
 cases hv : Qo l nm with
 | none => rw [hv] at h; cases h
 | some v => rw [hv] at h; cases h; exact ⟨_, _, _, _, _, _, _, _, rfl⟩
theorem Zx {l : List Vr} {v : Vr} {nm : ByteArray} : Qo (l ++ [v]) nm = match Qo l nm with | some u => some u | none => if nm = v.nm then some v else none := by
 unfold Qo
 rw [List.find?_append]
 cases List.find? (fun v => decide (v.nm = nm)) l with
 | some u => rfl
 | none =>
  by_cases h : v.nm = nm
  {simp [h]}
  {have : ¬ nm = v.nm := fun e => h e.symm
   simp [h, this]}
theorem J8 {i : Int} {st : Bool} {l : List Vr} {v : Vr} : D0 i st (l ++ [v]) = L7 (D0 i st l) v.nm (Nk i v.nm v.ty none 0 0 st false) := by
 funext nm
 unfold L7
 unfold D0
 rw [Zx]
 cases hv : Qo l nm with
 | some u => rfl
 | none =>
  by_cases h : nm = v.nm
  {subst h; simp}
  {simp [h]}
def D1 (i : Int) (pv : Nat → Option Addr × Nat × Nat) (l : List Mt) (nm : ByteArray) : Option Value :=
 match Lk l nm with
 | some k => match l[k]? with | some x => some (Nk i x.nm x.ret (pv k).1 (pv k).2.1 (pv k).2.2 x.st x.ba) | none => none
 | none => none
theorem T5 {i : Int} {pv : Nat → Option Addr × Nat × Nat} {l : List Mt} {nm : ByteArray} : ∀ u, D1 i pv l nm = some u → Is6 u := by
 intro u h
 unfold D1 at h
 cases hv : Lk l nm with
 | none => rw [hv] at h; cases h
 | some k =>
  rw [hv] at h
  cases hx : l[k]? with
  | none => simp [hx] at h
  | some x => simp [hx] at h; subst h; exact ⟨_, _, _, _, _, _, _, _, rfl⟩
theorem T6 {l : List Mt} {x : Mt} {nm : ByteArray} : Lk (l ++ [x]) nm = match Lk l nm with | some k => some k | none => if nm = x.nm then some l.length else none := by
 unfold Lk
 rw [List.findIdx?_append]
 cases List.findIdx? (fun x => decide (x.nm = nm)) l with
 | some u => simp
 | none =>
  by_cases h : x.nm = nm
  {simp [h, List.findIdx?_cons]}
  {have : ¬ nm = x.nm := fun e => h e.symm
   simp [h, this, List.findIdx?_cons]}
theorem Zy {l : List Mt} {nm : ByteArray} {k : Nat} (h : Lk l nm = some k) : k < l.length := by
 unfold Lk at h
 exact (List.findIdx?_eq_some_iff_getElem.1 h).1
theorem Pf {i : Int} {pv pv' : Nat → Option Addr × Nat × Nat} {l : List Mt} {x : Mt} (hp : ∀ k, k < l.length → pv' k = pv k) : D1 i pv' (l ++ [x]) = L7 (D1 i pv l) x.nm (Nk i x.nm x.ret (pv' l.length).1 (pv' l.length).2.1 (pv' l.length).2.2 x.st x.ba) := by
 funext nm
 unfold L7
 unfold D1
 rw [T6]
 cases hk : Lk l nm with
 | some k =>
  have hl := Zy hk
  simp only
  rw [List.getElem?_append_left hl, List.getElem?_eq_getElem hl, hp k hl]
 | none =>
  by_cases h : nm = x.nm
  {subst h; simp}
  {simp [h]}
structure T8 (w : World) (ov : Value) (i : Nat) (m : Ba) : Prop where
 ex : ∃ b1 b2 b3 n1 n2 n3 pv, ov = .agg #[.map (some b1), .map (some b2), .map (some b3)] ∧ A1 Tryz.prog 9 Bx w b1 n1 (D0 i false m.fs) ∧ A1 Tryz.prog 9 Bx w b2 n2 (D0 i true m.ss) ∧ A1 Tryz.prog 9 Bx w b3 n3 (D1 i pv m.ms) ∧
  (n3 ≤ 100000) ∧ ∀ (k : Nat) (x : Mt), m.ms[k]? = some x → Aq w 0 (.slice (pv k).1 (pv k).2.1 (pv k).2.2) (x.ps.map Vr.ty)
theorem Ew {w : World} {b : Nat} {x0 x1 x2 x3 x4 x5 : Value} {t : TypeId} (h : w.heap[b]? = some (.cells #[x0, x1, x2, x3, x4, x5] t (0, 0))) (v0 v1 v2 v3 v4 v5 : Value) :
 ∃ wf, (((((w.setCell ⟨b, 0, none⟩ v0).setCell ⟨b, 1, none⟩ v1).setCell ⟨b, 2, none⟩ v2).setCell ⟨b, 3, none⟩ v3).setCell ⟨b, 4, none⟩ v4).setCell ⟨b, 5, none⟩ v5 = wf ∧ wf.heap[b]? = some (.cells #[v0, v1, v2, v3, v4, v5] t (0, 0)) ∧ Ch (fun k _ => k = b) w wf := by
 refine ⟨_, rfl, ?_, ((((((Ch.refl _ _).setCell (fun _ _ => rfl) _).setCell (fun _ _ => rfl) _).setCell (fun _ _ => rfl) _).setCell (fun _ _ => rfl) _).setCell (fun _ _ => rfl) _).setCell (fun _ _ => rfl) _⟩
 rw [Af (Af (Af (Af (Af (Af h 0 v0) 1 v1) 2 v2) 3 v3) 4 v4) 5 v5]
 rfl
theorem Ch.newOnly {S : Nat → Obj → Prop} {a b c : World} (h : Ch No a b) (h' : Ch S b c) (hs : ∀ k o, b.heap[k]? = some o → S k o → a.heap.size ≤ k) : Ch No a c :=
 ⟨h'.os.trans h.os, h'.tape.trans h.tape, h'.output.trans h.output, Nat.le_trans h.size h'.size, fun k o ho _ => h'.keep k o (h.keep k o ho (fun h => h)) (fun hx => by
  have := hs k o (h.keep k o ho (fun h => h)) hx
  have := Ac ho
  omega)⟩
theorem Qq {w : World} {x : Mt} (hp : Bc w (.slice x.pa x.ps.length x.pc) x.ps) (hl : x.ps.length ≤ 1000) (ci : Int) :
 Calls Tryz.prog 79 #[.int .i64 ci, .agg #[.string x.ret, .string x.nm, .bool x.st, .bool x.ba, .slice x.pa x.ps.length x.pc, .slice x.s5.1 x.s5.2.1 x.s5.2.2, .slice x.s6.1 x.s6.2.1 x.s6.2.2, .int .i64 x.line, .int .i64 x.col]] w fun e w' => ∃ sa sn sc, e = .returned (Nk ci x.nm x.ret sa sn sc x.st x.ba) ∧ Aq w' w.heap.size (.slice sa sn sc) (x.ps.map Vr.ty) ∧ Ch No w w' := by
 unfold Nk
 obtain ⟨n, hn⟩ := Ax x.ps.length
 obtain ⟨pa, hpa⟩ := Ax x.pa
 rw [hn, hpa] at hp
 rw [hn] at hl
 rw [hn, hpa]
 have HP0 := Aa hp
 clear hpa
 obtain ⟨w1, hw1, hb1, hc1⟩ := A2 w (.cells #[.string x.ret, .string x.nm, .bool x.st, .bool x.ba, .slice pa n x.pc, .slice x.s5.1 x.s5.2.1 x.s5.2.2, .slice x.s6.1 x.s6.2.1 x.s6.2.2, .int .i64 x.line, .int .i64 x.col] 29)
 obtain ⟨w2, hw2, hb2, hc2⟩ := A2 w1 (.cells #[.int .i64 0, .string ⟨#[]⟩, .string ⟨#[]⟩, .slice none 0 0, .bool false, .bool false] 54)
 obtain ⟨w3, hw3, hb3, hc3⟩ := A2 w2 (.cells #[.int .i64 ci, .string x.nm, .string x.ret, .slice none 0 0, .bool x.st, .bool x.ba] 54)
 obtain ⟨-, hcap, hmax⟩ := hp.shape
 unfold maxLen at hmax
 rw [hn] at hcap
 have HN := Aa hn
 have HC13 := Aa (hc1.trans (hc2.trans hc3))
 have HP := Aa (hp.no HC13.out)
 have HB1 := Aa ((hc2.trans hc3).keep _ _ hb1 (fun h => h))
 have HB2 := Aa (hc3.keep _ _ hb2 (fun h => h))
 have HB3 := Aa hb3
 have y1 : w.heap.size < w1.heap.size := Ac hb1
 have y2 : w1.heap.size < w2.heap.size := Ac hb2
 have y3 : w2.heap.size < w3.heap.size := Ac hb3
 have hb12 := hc2.keep _ _ hb1 (fun h => h)
 have d0 := Ab hb12 0
 have d1 := Ab hb12 1
 have d2 := Ab hb12 2
 have d3 := Ab hb12 3
 have d4 := Ab hb12 4
 have g4 := Ab HB1.out 4
 clear hn hp hc1 hc2 hc3 hb2 hb3
 go_in
 go_wp2_with fail
 clear hw1 hw2 hw3 d0 d1 d2 d3 d4 g4
 go_loopg [21, 7] n (fun g s21 s7 wr => ∃ k : Nat, k ≤ n ∧ n - k ≤ g ∧ s21 = .int .i64 k ∧ Hid (∃ sa sc, wr.heap[w2.heap.size]? = some (.cells #[.int .i64 ci, .string x.nm, .string x.ret, .slice sa k sc, .bool x.st, .bool x.ba] 54 (0, 0)) ∧ Aq wr w3.heap.size (.slice sa k sc) ((x.ps.take k).map Vr.ty)) ∧ Hid (Ch (fun j _ => j = w2.heap.size) w3 wr))
 case atStart => exact ⟨0, Nat.zero_le _, by omega, rfl, Aa ⟨none, 0, HB3.out, Aq.nil _ _⟩, Aa (Ch.refl _ _)⟩
 case round =>
  obtain ⟨k, hk, hg, rfl, HS, HC⟩ := hrel
  have hs := HS.out
  obtain ⟨sa, sc, hb3, hown⟩ := hs
  have HOW := Aa hown
  have HB3R := Aa hb3
  have hz3 := HC.out.size
  clear HS hown
  obtain ⟨e0, e1, e2, e3, e4, e5⟩ := Dm hb3
  cases hd : decide (k < n) with
  | false =>
   have hkl : ¬ k < n := by simpa using hd
   have hb2r := HC.out.keep _ _ HB2.out (fun h => by have h' : w1.heap.size = w2.heap.size := h; omega)
   have HB2R := Aa hb2r
   obtain ⟨a0, a1, a2, a3, a4, a5⟩ := Dm hb2r
   obtain ⟨f0, f1, f2, f3, f4, f5⟩ := M4 hb2r
   clear hb2r hb3
   go_wp2_with fail
   obtain ⟨wf, hwf, hfb, hfc⟩ := Ew HB2R.out (.int .i64 ci) (.string x.nm) (.string x.ret) (.slice sa k sc) (.bool x.st) (.bool x.ba)
   rw [hwf]
   obtain ⟨k0, k1, k2, k3, k4, k5⟩ := Dm hfb
   refine bodyPost_ret (v := .agg #[.int .i64 ci, .string x.nm, .string x.ret, .slice sa k sc, .bool x.st, .bool x.ba]) (by simp [results, Tryz.results79, go_sem, k0, k1, k2, k3, k4, k5]) rfl ?_
   refine ⟨sa, k, sc, rfl, ?_, ?_⟩
   {have h1 := HOW.out
    rw [List.take_of_length_le (by have := HN.out; omega)] at h1
    exact (h1.ch hfc (fun g cur hg hbg e => by have e' : g = w1.heap.size := e; omega)).base (by omega)}
   {exact Ch.newOnly (Ch.newOnly HC13.out HC.out (Eb (by omega))) hfc (Eb (by omega))}
  | true =>
   have hkl : k < n := by simpa using hd
   obtain ⟨v, hv⟩ := gE (l := x.ps) (i := k) (by have := HN.out; omega)
   obtain ⟨vb, vo, hva, hvc⟩ := HP0.out.cell hv
   have yvb : vb < w.heap.size := block_lt_of_cell hvc.q0
   have hq : ∀ {a : Nat} {u : Value}, w.cell? ⟨vb, a, none⟩ = some u → wr.cell? ⟨vb, a, none⟩ = some u := fun h => Ae (Ae h HC13.out (fun _ _ h => h)) HC.out (fun _ _ e => by have e' : vb = w2.heap.size := e; omega)
   have q0 := hq hvc.q0
   have q1 := hq hvc.q1
   have q2 := hq hvc.q2
   have q3 := hq hvc.q3
   subst hva
   obtain ⟨w4, hw4, hb4, hc4⟩ := A2 wr (.cells #[.string v.ty, .string v.nm, .int .i64 v.line, .int .i64 v.col] 64)
   have hb34 := hc4.keep _ _ hb3 (fun h => h)
   have hc5 := hc4.alloc (.cells #[.string v.ty] 9)
   have hb35 := hc5.keep _ _ hb3 (fun h => h)
   obtain ⟨nl, hnl⟩ := Ax (((x.ps.take k).map Vr.ty))
   have hnk : nl.length = k := by rw [← hnl, List.length_map, List.length_take]; have := HN.out; omega
   have hrow := HOW.out.rowN (n := k) (by rw [hnl, hnk]) hc5
   rw [hnl] at hrow
   have HROW := Aa hrow
   have hk1 : k + 1 ≤ 100000 := by omega
   have hbase : w3.heap.size ≤ (w4.alloc (.cells #[.string v.ty] 9)).heap.size := Nat.le_trans hz3 hc5.size
   have h40 := Ab hb4 0
   have e34 := Ab hb34 3
   have HB35 := Aa hb35
   have HV := Aa hv
   have HNL := Aa hnl
   have HC5 := Aa hc5
   obtain ⟨_, _, ecs, hcp, hmx, _⟩ := HOW.out.at_
   rw [hnl] at ecs hcp
   rw [hnk] at ecs hcp
   cases ecs
   unfold maxLen at hmx
   clear hvc hq hv hb3 hb4 hc4 hb34 hc5 hb35 hnl hrow e0 e1 e2 e3 e4 e5
   go_wp2_with (at_builtin; go_must (refine C1 rfl _ _ rfl Tryz.sliceStr Tryz.infoStr Nat.zero_lt_one (lb rfl) w3.heap.size (.slice sa k sc) k (nl.map Value.string) rfl HROW.out w4.heap.size 1 1 [.string v.ty] rfl rfl (heap_alloc_new w4 _) (W2 _) hk1 hbase ?_))
   intro v7 w7 hr7 hc7
   have hown : Aq w7 w3.heap.size v7 ((x.ps.take (k + 1)).map Vr.ty) := by
    unfold Aq
    have e1 : ((x.ps.take (k + 1)).map Vr.ty).length = k + 1 := by rw [List.take_add_one, HV.out, List.map_append, HNL.out, List.length_append, hnk]; rfl
    have e2 : ((x.ps.take (k + 1)).map Vr.ty).map Value.string = nl.map Value.string ++ [.string v.ty] := by rw [List.take_add_one, HV.out, List.map_append, List.map_append, HNL.out]; rfl
    rw [e1, e2]
    exact hr7
   obtain ⟨a7, c7, e7, hcp7, hmx7, _⟩ := hown.at_
   have hl7 : ((x.ps.take (k + 1)).map Vr.ty).length = k + 1 := by rw [List.take_add_one, HV.out, List.map_append, HNL.out, List.length_append, hnk]; rfl
   rw [hl7] at e7 hcp7
   subst e7
   have hb37 := hc7.keep _ _ HB35.out (Bu HROW.out HB35.out (by decide))
   have hc7' : Ch (fun j _ => j = w2.heap.size) w3 w7 := (HC.out.trans (HC5.out.mono (fun _ _ _ h => h.elim))).trans' hc7 (fun j o ho e => by
    obtain ⟨h1, _⟩ := Aw HROW.out j e
    have := Ac ho
    omega)
   have f3 := Ad hb37 3
   have d3 := Ab hb37 3
   have HB37 := Aa hb37
   have HOWN := Aa hown
   have HC7 := Aa hc7'
   clear hr7 hc7 hown hb37 hc7' h40 e34 q0 q1 q2 q3
   go_wp2
   go_roundg (n - k - 1)
   case rel =>
    refine ⟨k + 1, by omega, by omega, by go_num, Aa ⟨a7, c7, ?_, ?_⟩, Aa (HC7.out.setCell (fun _ _ => rfl) _)⟩
    {have h1 := Af HB37.out 3 (.slice a7 (k + 1) c7)
     simpa using h1}
    {exact HOWN.out.ch ((Ch.refl (fun j _ => j = w2.heap.size) w7).setCell (fun _ _ => rfl) _) (fun g cur hg hbg e => by have e' : g = w2.heap.size := e; omega)}
   case measure => omega
structure T9 (m : Ba) : Prop where
 fs : m.fs.length ≤ 1000
 ss : m.ss.length ≤ 1000
 ms : m.ms.length ≤ 1000
 ps : ∀ x ∈ m.ms, x.ps.length ≤ 1000
theorem Abm {w : World} {b : Nat} {x0 x1 x2 : Value} {t : TypeId} (h : w.heap[b]? = some (.cells #[x0, x1, x2] t (0, 0))) (v0 v1 v2 : Value) :
 ∃ wf, ((w.setCell ⟨b, 0, none⟩ v0).setCell ⟨b, 1, none⟩ v1).setCell ⟨b, 2, none⟩ v2 = wf ∧ wf.heap[b]? = some (.cells #[v0, v1, v2] t (0, 0)) ∧ Ch (fun k _ => k = b) w wf := by
 refine ⟨_, rfl, ?_, (((Ch.refl _ _).setCell (fun _ _ => rfl) _).setCell (fun _ _ => rfl) _).setCell (fun _ _ => rfl) _⟩
 rw [Af (Af (Af h 0 v0) 1 v1) 2 v2]
 rfl
theorem Ua {w : World} {a : Nat} {x0 x1 x2 x3 x4 x5 x6 x7 x8 : Value} {t : TypeId} (ha : w.heap[a]? = some (.cells #[x0, x1, x2, x3, x4, x5, x6, x7, x8] t (0, 0))) :
 w.cell? ⟨a, 0, none⟩ = some x0 ∧ w.cell? ⟨a, 1, none⟩ = some x1 ∧ w.cell? ⟨a, 2, none⟩ = some x2 ∧ w.cell? ⟨a, 3, none⟩ = some x3 ∧ w.cell? ⟨a, 4, none⟩ = some x4 ∧ w.cell? ⟨a, 5, none⟩ = some x5 ∧ w.cell? ⟨a, 6, none⟩ = some x6 ∧ w.cell? ⟨a, 7, none⟩ = some x7 ∧ w.cell? ⟨a, 8, none⟩ = some x8 := ⟨Ab ha 0, Ab ha 1, Ab ha 2, Ab ha 3, Ab ha 4, Ab ha 5, Ab ha 6, Ab ha 7, Ab ha 8⟩
theorem R6 {w w' : World} {a g B : Nat} {v0 x0 x1 x2 x3 x4 x5 x6 x7 x8 : Value} (h : w.cell? ⟨a, 2, none⟩ = some v0 ∧ w.cell? ⟨g, 0, none⟩ = some x0 ∧ w.cell? ⟨g, 1, none⟩ = some x1 ∧ w.cell? ⟨g, 2, none⟩ = some x2 ∧ w.cell? ⟨g, 3, none⟩ = some x3 ∧ w.cell? ⟨g, 4, none⟩ = some x4 ∧ w.cell? ⟨g, 5, none⟩ = some x5 ∧ w.cell? ⟨g, 6, none⟩ = some x6 ∧ w.cell? ⟨g, 7, none⟩ = some x7 ∧ w.cell? ⟨g, 8, none⟩ = some x8)
 (hc : Ch (fun k _ => k = B) w w') (ha : a ≠ B) (hg : g ≠ B) :
 w'.cell? ⟨a, 2, none⟩ = some v0 ∧ w'.cell? ⟨g, 0, none⟩ = some x0 ∧ w'.cell? ⟨g, 1, none⟩ = some x1 ∧ w'.cell? ⟨g, 2, none⟩ = some x2 ∧ w'.cell? ⟨g, 3, none⟩ = some x3 ∧ w'.cell? ⟨g, 4, none⟩ = some x4 ∧ w'.cell? ⟨g, 5, none⟩ = some x5 ∧ w'.cell? ⟨g, 6, none⟩ = some x6 ∧ w'.cell? ⟨g, 7, none⟩ = some x7 ∧ w'.cell? ⟨g, 8, none⟩ = some x8 := by
 obtain ⟨h, h0, h1, h2, h3, h4, h5, h6, h7, h8⟩ := h
 have k : ∀ {i : Nat} {v : Value}, w.cell? ⟨g, i, none⟩ = some v → w'.cell? ⟨g, i, none⟩ = some v := fun h => Ae h hc (fun _ _ e => hg e)
 exact ⟨Ae h hc (fun _ _ e => ha e), k h0, k h1, k h2, k h3, k h4, k h5, k h6, k h7, k h8⟩
theorem Abn {w : World} {c : Aj} {m : Ba} (hm : J5 w c m) (hs : Ye m) (hf : T9 m) (i : Nat) :
 Calls Tryz.prog 44 #[.int .i64 i, .agg #[.string c.name, .string c.sup, .bool c.face, .slice c.fa c.faces.length c.fc, .slice c.s4.1 c.s4.2.1 c.s4.2.2, .slice c.s5.1 c.s5.2.1 c.s5.2.2, .slice c.s6.1 c.s6.2.1 c.s6.2.2, .pointer c.p7, .int .i64 c.line, .int .i64 c.col]] w fun e w' => ∃ ov, e = .returned ov ∧ T8 w' ov i m ∧ Ch No w w' := by
 have hmm := @run_makeMap Tryz.prog
 have HS := Aa hs
 have HF := Aa hf
 obtain ⟨r4, hr4⟩ : ∃ r, c.s4 = r := ⟨_, rfl⟩
 obtain ⟨r5, hr5⟩ : ∃ r, c.s5 = r := ⟨_, rfl⟩
 obtain ⟨r6, hr6⟩ : ∃ r, c.s6 = r := ⟨_, rfl⟩
 have h4 := hm.fs
 have h5 := hm.ss
 have h6 := hm.ms
 rw [hr4] at h4
 rw [hr5] at h5
 rw [hr6] at h6
 rw [hr4, hr5, hr6]
 clear hr4 hr5 hr6 hm hs hf
 obtain ⟨a4, n4, c4⟩ := r4
 obtain ⟨a5, n5, c5⟩ := r5
 obtain ⟨a6, n6, c6⟩ := r6
 dsimp only at h4 h5 h6 ⊢
 obtain ⟨hn4, hc4, hm4⟩ := h4.shape
 obtain ⟨hn5, hc5, hm5⟩ := h5.shape
 obtain ⟨hn6, hc6, hm6⟩ := h6.shape
 unfold maxLen at hm4 hm5 hm6
 have x4 : n4 ≤ 1000 := by have := HF.out.fs; omega
 have x5 : n5 ≤ 1000 := by have := HF.out.ss; omega
 have x6 : n6 ≤ 1000 := by have := HF.out.ms; omega
 have y4 : n4 ≤ c4 := by omega
 have y5 : n5 ≤ c5 := by omega
 have y6 : n6 ≤ c6 := by omega
 have H4 := Aa h4
 have H5 := Aa h5
 have H6 := Aa h6
 have N4 := Aa hn4
 have N5 := Aa hn5
 have N6 := Aa hn6
 clear h4 h5 h6 hn4 hn5 hn6 hc4 hc5 hc6
 obtain ⟨w1, hw1, hb1, hc1⟩ := A2 w (.cells #[.string c.name, .string c.sup, .bool c.face, .slice c.fa c.faces.length c.fc, .slice a4 n4 c4, .slice a5 n5 c5, .slice a6 n6 c6, .pointer c.p7, .int .i64 c.line, .int .i64 c.col] 50)
 obtain ⟨w2, hw2, hb2, hc2⟩ := A2 w1 (.cells #[.map none, .map none, .map none] 100)
 have hm1 := A1.made Tryz.prog 9 Bx w2
 obtain ⟨w3, hw3⟩ := Ax (w2.alloc (.map #[] 0))
 have hc3 := (Ch.refl No w2).alloc (.map #[] 0)
 have s3 : w2.heap.size < w3.heap.size := by rw [← hw3]; simp
 rw [hw3] at hm1 hc3
 have hm2 := A1.made Tryz.prog 9 Bx w3
 obtain ⟨w4, hw4⟩ := Ax (w3.alloc (.map #[] 0))
 have hc4 := (Ch.refl No w3).alloc (.map #[] 0)
 have s4 : w3.heap.size < w4.heap.size := by rw [← hw4]; simp
 rw [hw4] at hm2 hc4
 have hm3 := A1.made Tryz.prog 9 Bx w4
 obtain ⟨w5, hw5⟩ := Ax (w4.alloc (.map #[] 0))
 have hc5 := (Ch.refl No w4).alloc (.map #[] 0)
 have s5 : w4.heap.size < w5.heap.size := by rw [← hw5]; simp
 rw [hw5] at hm3 hc5
 obtain ⟨w6, hw6, hb6, hc6⟩ := A2 w5 (.cells #[.map (some w2.heap.size), .map (some w3.heap.size), .map (some w4.heap.size)] 100)
 have z1 : w.heap.size < w1.heap.size := Ac hb1
 have z2 : w1.heap.size < w2.heap.size := Ac hb2
 have z6 : w5.heap.size < w6.heap.size := Ac hb6
 have hc36 := hc3.trans (hc4.trans (hc5.trans hc6))
 have HC6 := Aa (hc1.trans (hc2.trans hc36))
 have HB1 := Aa ((hc2.trans hc36).keep _ _ hb1 (fun h => h))
 have HB2 := Aa (hc36.keep _ _ hb2 (fun h => h))
 have HB6 := Aa hb6
 have M1 := Aa (hm1.ch (hc4.trans (hc5.trans hc6)) (fun _ _ h => h))
 have M2 := Aa (hm2.ch (hc5.trans hc6) (fun _ _ h => h))
 have M3 := Aa (hm3.ch hc6 (fun _ _ h => h))
 have d4 := Ab HB1.out 4
 clear hb1 hc1 hb2 hc2 hm1 hc3 hm2 hc4 hm3 hc5 hb6 hc6 hc36
 go_in
 go_wp2_with fail
 clear hw1 hw2 hw3 hw4 hw5 hw6 d4 hmm
 go_loopg [20, 8] n4 (fun g sC sB wr => ∃ k : Nat, k ≤ n4 ∧ n4 - k ≤ g ∧ sC = .int .i64 k ∧ Hid (A1 Tryz.prog 9 Bx wr w2.heap.size k (D0 i false (m.fs.take k))) ∧ Hid (Ch (fun j _ => j = w2.heap.size) w6 wr))
 case atStart => exact ⟨0, Nat.zero_le _, by omega, rfl, M1, Aa (Ch.refl _ _)⟩
 case round =>
  obtain ⟨k, hk, hg, rfl, HM, HC⟩ := hrel
  cases hd : decide (k < n4) with
  | true =>
   have hkl : k < n4 := by simpa using hd
   obtain ⟨v, hv⟩ := gE (l := m.fs) (i := k) (by have := N4.out; omega)
   obtain ⟨vb, vo, hva, hvc⟩ := H4.out.cell hv
   have yvb : vb < w.heap.size := block_lt_of_cell hvc.q0
   have hq : ∀ {a : Nat} {u : Value}, w.cell? ⟨vb, a, none⟩ = some u → wr.cell? ⟨vb, a, none⟩ = some u := fun h => Ae (Ae h HC6.out (fun _ _ h => h)) HC.out (fun _ _ e => by have e' : vb = w2.heap.size := e; omega)
   have q0 := hq hvc.q0
   have q1 := hq hvc.q1
   have q2 := hq hvc.q2
   have q3 := hq hvc.q3
   subst hva
   obtain ⟨wv, hwv, hbv, hcv⟩ := A2 wr (.cells #[.string v.ty, .string v.nm, .int .i64 v.line, .int .i64 v.col] 64)
   have hvs := (HS.out.fs v (mG hv)).1
   have hto := T4 (HM.out.ch hcv (fun _ _ h => h)) (by omega) (c := (i : Int)) (nm := v.nm) (ty := v.ty) (sa := none) (sn := 0) (sc := 0) (st := false) (ba := false) hvs Nl
   unfold Nk at hto
   have e6 := Ab (hcv.keep _ _ (HC.out.keep _ _ HB6.out (Bm (by omega))) (fun h => h)) 0
   obtain ⟨v0, v1⟩ := Co hbv
   have HV := Aa hv
   have HCV := Aa hcv
   clear hvc hq hv hbv hcv hvs
   go_wp2_with fail
   refine hto.mono ?_
   rintro e wt ⟨rfl, hmt, hct⟩
   have HMT := Aa hmt
   have HCT := Aa ((HC.out.trans (HCV.out.mono (fun _ _ _ h => h.elim))).trans hct)
   clear hto hmt hct
   go_wp2
   go_roundg (n4 - k - 1)
   case rel =>
    refine ⟨k + 1, by omega, by omega, by go_num, Aa ?_, HCT⟩
    rw [List.take_add_one, HV.out]
    show A1 Tryz.prog 9 Bx wt w2.heap.size (k + 1) (D0 i false (m.fs.take k ++ [v]))
    rw [J8]
    exact HMT.out
   case measure => omega
  | false =>
   have hkl : ¬ k < n4 := by simpa using hd
   have E7 := Aa (show A1 Tryz.prog 9 Bx wr w2.heap.size k (D0 i false m.fs) from by
    have h1 := HM.out
    rw [List.take_of_length_le (by have := N4.out; omega)] at h1
    exact h1)
   obtain ⟨w7, hwc⟩ : ∃ w7, w7 = wr := ⟨_, rfl⟩
   subst hwc
   have HC7 := Aa (Ch.newOnly HC6.out HC.out (Eb (by omega)))
   have HB67 := Aa (HC.out.keep _ _ HB6.out (Bm (by omega)))
   have HB17 := Aa (HC.out.keep _ _ HB1.out (Bm (by omega)))
   have HB27 := Aa (HC.out.keep _ _ HB2.out (Bm (by omega)))
   have M17 := E7
   have M27 := Aa (M2.out.ch HC.out (fun _ _ e => by have e' : w3.heap.size = w2.heap.size := e; omega))
   have M37 := Aa (M3.out.ch HC.out (fun _ _ e => by have e' : w4.heap.size = w2.heap.size := e; omega))
   have d5 := Ab HB17.out 5
   go_wp2_with fail
   clear d5
   go_loopg [38, 10] n5 (fun g sC sB wr => ∃ k : Nat, k ≤ n5 ∧ n5 - k ≤ g ∧ sC = .int .i64 k ∧ Hid (A1 Tryz.prog 9 Bx wr w3.heap.size k (D0 i true (m.ss.take k))) ∧ Hid (Ch (fun j _ => j = w3.heap.size) w7 wr))
   case atStart => exact ⟨0, Nat.zero_le _, by omega, rfl, M27, Aa (Ch.refl _ _)⟩
   case round =>
    obtain ⟨k, hk, hg, rfl, HM, HC⟩ := hrel
    cases hd : decide (k < n5) with
    | true =>
     have hkl : k < n5 := by simpa using hd
     obtain ⟨v, hv⟩ := gE (l := m.ss) (i := k) (by have := N5.out; omega)
     obtain ⟨vb, vo, hva, hvc⟩ := H5.out.cell hv
     have yvb : vb < w.heap.size := block_lt_of_cell hvc.q0
     have hq : ∀ {a : Nat} {u : Value}, w.cell? ⟨vb, a, none⟩ = some u → wr.cell? ⟨vb, a, none⟩ = some u := fun h => Ae (Ae h HC7.out (fun _ _ h => h)) HC.out (fun _ _ e => by have e' : vb = w3.heap.size := e; omega)
     have q0 := hq hvc.q0
     have q1 := hq hvc.q1
     have q2 := hq hvc.q2
     have q3 := hq hvc.q3
     subst hva
     obtain ⟨wv, hwv, hbv, hcv⟩ := A2 wr (.cells #[.string v.ty, .string v.nm, .int .i64 v.line, .int .i64 v.col] 64)
     have hvs := (HS.out.ss v (mG hv)).1
     have hto := T4 (HM.out.ch hcv (fun _ _ h => h)) (by omega) (c := (i : Int)) (nm := v.nm) (ty := v.ty) (sa := none) (sn := 0) (sc := 0) (st := true) (ba := false) hvs Nl
     unfold Nk at hto
     have e6 := Ab (hcv.keep _ _ (HC.out.keep _ _ HB67.out (Bm (by omega))) (fun h => h)) 1
     obtain ⟨v0, v1⟩ := Co hbv
     have HV := Aa hv
     have HCV := Aa hcv
     clear hvc hq hv hbv hcv hvs
     go_wp2_with fail
     refine hto.mono ?_
     rintro e wt ⟨rfl, hmt, hct⟩
     have HMT := Aa hmt
     have HCT := Aa ((HC.out.trans (HCV.out.mono (fun _ _ _ h => h.elim))).trans hct)
     clear hto hmt hct
     go_wp2
     go_roundg (n5 - k - 1)
     case rel =>
      refine ⟨k + 1, by omega, by omega, by go_num, Aa ?_, HCT⟩
      rw [List.take_add_one, HV.out]
      show A1 Tryz.prog 9 Bx wt w3.heap.size (k + 1) (D0 i true (m.ss.take k ++ [v]))
      rw [J8]
      exact HMT.out
     case measure => omega
    | false =>
     have hkl : ¬ k < n5 := by simpa using hd
     have E7 := Aa (show A1 Tryz.prog 9 Bx wr w3.heap.size k (D0 i true m.ss) from by
      have h1 := HM.out
      rw [List.take_of_length_le (by have := N5.out; omega)] at h1
      exact h1)
     obtain ⟨w8, hwc⟩ : ∃ w8, w8 = wr := ⟨_, rfl⟩
     subst hwc
     have HC8 := Aa (Ch.newOnly HC7.out HC.out (Eb (by omega)))
     have HB68 := Aa (HC.out.keep _ _ HB67.out (Bm (by omega)))
     have HB18 := Aa (HC.out.keep _ _ HB17.out (Bm (by omega)))
     have HB28 := Aa (HC.out.keep _ _ HB27.out (Bm (by omega)))
     have M28 := E7
     have M18 := Aa (M17.out.ch HC.out (fun _ _ e => by have e' : w2.heap.size = w3.heap.size := e; omega))
     have M38 := Aa (M37.out.ch HC.out (fun _ _ e => by have e' : w4.heap.size = w3.heap.size := e; omega))
     have d6 := Ab HB18.out 6
     go_wp2_with fail
     clear d6
     go_loopg [56, 12] n6 (fun g sC sB wr => ∃ k : Nat, k ≤ n6 ∧ n6 - k ≤ g ∧ sC = .int .i64 k ∧ Hid (∃ pv, A1 Tryz.prog 9 Bx wr w4.heap.size k (D1 i pv (m.ms.take k)) ∧ ∀ (j : Nat) (x : Mt), (m.ms.take k)[j]? = some x → Aq wr w8.heap.size (.slice (pv j).1 (pv j).2.1 (pv j).2.2) (x.ps.map Vr.ty)) ∧ Hid (Ch (fun j _ => j = w4.heap.size) w8 wr))
     case atStart => exact ⟨0, Nat.zero_le _, by omega, rfl, Aa ⟨fun _ => (none, 0, 0), M38.out, fun j x h => by simp at h⟩, Aa (Ch.refl _ _)⟩
     case round =>
      obtain ⟨k, hk, hg, rfl, HM, HC⟩ := hrel
      have HCR := Aa (Ch.newOnly HC8.out HC.out (Eb (by omega)))
      have HBR := Aa (HC.out.keep _ _ HB68.out (Bm (by omega)))
      cases hd : decide (k < n6) with
      | true =>
       have hkl : k < n6 := by simpa using hd
       obtain ⟨x, hx⟩ := gE (l := m.ms) (i := k) (by have := N6.out; omega)
       have hmts := H6.out.no HCR.out
       obtain ⟨mb, mo, hma, hxc⟩ := hmts.cell hx
       subst hma
       obtain ⟨x0, x1, x2, x3, x4', x5', x6', x7, x8⟩ := hxc
       obtain ⟨wx, hwx, hbx, hcx⟩ := A2 wr (.cells #[.string x.ret, .string x.nm, .bool x.st, .bool x.ba, .slice x.pa x.ps.length x.pc, .slice x.s5.1 x.s5.2.1 x.s5.2.2, .slice x.s6.1 x.s6.2.1 x.s6.2.2, .int .i64 x.line, .int .i64 x.col] 29)
       have hhm := HM.out
       obtain ⟨pv, hmp, hps⟩ := hhm
       have z4 : w4.heap.size < wr.heap.size := by
        obtain ⟨es, cl, h⟩ := hmp.isMap
        exact Ac h
       have hme := Qq ((hmts.ps x (mG hx)).no (hcx.trans ((Ch.refl No wx).drew))) (HF.out.ps x (mG hx)) (i : Int)
       unfold Nk at hme
       have hxz := (HS.out.ms x (mG hx)).1
       have HSx := Aa (show wx.cell? ⟨w5.heap.size, 2, none⟩ = some (.map (some w4.heap.size)) ∧ wx.cell? ⟨wr.heap.size, 0, none⟩ = some (.string x.ret) ∧ wx.cell? ⟨wr.heap.size, 1, none⟩ = some (.string x.nm) ∧ wx.cell? ⟨wr.heap.size, 2, none⟩ = some (.bool x.st) ∧ wx.cell? ⟨wr.heap.size, 3, none⟩ = some (.bool x.ba) ∧ wx.cell? ⟨wr.heap.size, 4, none⟩ = some (.slice x.pa x.ps.length x.pc) ∧ wx.cell? ⟨wr.heap.size, 5, none⟩ = some (.slice x.s5.1 x.s5.2.1 x.s5.2.2) ∧ wx.cell? ⟨wr.heap.size, 6, none⟩ = some (.slice x.s6.1 x.s6.2.1 x.s6.2.2) ∧ wx.cell? ⟨wr.heap.size, 7, none⟩ = some (.int .i64 x.line) ∧ wx.cell? ⟨wr.heap.size, 8, none⟩ = some (.int .i64 x.col) from And.intro (Ab (hcx.keep _ _ HBR.out (fun h => h)) 2) (Ua hbx))
       have HSd := Aa (Wc HSx.out)
       have MP := Aa (hmp.ch hcx (fun _ _ h => h))
       have HPS := Aa hps
       have HX := Aa hx
       have HCX := Aa hcx
       have hzx := Ac hbx
       clear hmp hps hmts hbx hcx hx
       go_wp2_with fail
       go_region_held3 (fun w' => w'.cell? ⟨w5.heap.size, 2, none⟩ = some (.map (some w4.heap.size)) ∧ w'.cell? ⟨wr.heap.size, 0, none⟩ = some (.string x.ret) ∧ w'.cell? ⟨wr.heap.size, 1, none⟩ = some (.string x.nm) ∧ w'.cell? ⟨wr.heap.size, 2, none⟩ = some (.bool x.st) ∧ w'.cell? ⟨wr.heap.size, 3, none⟩ = some (.bool x.ba) ∧ w'.cell? ⟨wr.heap.size, 4, none⟩ = some (.slice x.pa x.ps.length x.pc) ∧ w'.cell? ⟨wr.heap.size, 5, none⟩ = some (.slice x.s5.1 x.s5.2.1 x.s5.2.2) ∧ w'.cell? ⟨wr.heap.size, 6, none⟩ = some (.slice x.s6.1 x.s6.2.1 x.s6.2.2) ∧ w'.cell? ⟨wr.heap.size, 7, none⟩ = some (.int .i64 x.line) ∧ w'.cell? ⟨wr.heap.size, 8, none⟩ = some (.int .i64 x.col)) (first | with_reducible exact HSx.out | with_reducible exact HSd.out | with_reducible exact HSa.out | with_reducible exact HSb.out | go_keep) (first | (go_at_call 79; refine hme.mono ?_; rintro e wy ⟨sa, sn, sc, rfl, hst, hcy⟩; have HCY := Aa (((Ch.refl No wx).drew).trans hcy); have HST := Aa hst; have HSa := Aa (show wy.cell? ⟨w5.heap.size, 2, none⟩ = some (.map (some w4.heap.size)) ∧ wy.cell? ⟨wr.heap.size, 0, none⟩ = some (.string x.ret) ∧ wy.cell? ⟨wr.heap.size, 1, none⟩ = some (.string x.nm) ∧ wy.cell? ⟨wr.heap.size, 2, none⟩ = some (.bool x.st) ∧ wy.cell? ⟨wr.heap.size, 3, none⟩ = some (.bool x.ba) ∧ wy.cell? ⟨wr.heap.size, 4, none⟩ = some (.slice x.pa x.ps.length x.pc) ∧ wy.cell? ⟨wr.heap.size, 5, none⟩ = some (.slice x.s5.1 x.s5.2.1 x.s5.2.2) ∧ wy.cell? ⟨wr.heap.size, 6, none⟩ = some (.slice x.s6.1 x.s6.2.1 x.s6.2.2) ∧ wy.cell? ⟨wr.heap.size, 7, none⟩ = some (.int .i64 x.line) ∧ wy.cell? ⟨wr.heap.size, 8, none⟩ = some (.int .i64 x.col) from ⟨Ae HSx.out.1 HCY.out (fun _ _ h => h), Ae HSx.out.2.1 HCY.out (fun _ _ h => h), Ae HSx.out.2.2.1 HCY.out (fun _ _ h => h), Ae HSx.out.2.2.2.1 HCY.out (fun _ _ h => h), Ae HSx.out.2.2.2.2.1 HCY.out (fun _ _ h => h), Ae HSx.out.2.2.2.2.2.1 HCY.out (fun _ _ h => h), Ae HSx.out.2.2.2.2.2.2.1 HCY.out (fun _ _ h => h), Ae HSx.out.2.2.2.2.2.2.2.1 HCY.out (fun _ _ h => h), Ae HSx.out.2.2.2.2.2.2.2.2.1 HCY.out (fun _ _ h => h), Ae HSx.out.2.2.2.2.2.2.2.2.2 HCY.out (fun _ _ h => h)⟩); clear hcy hst hme) | (go_at_call 78; refine (show Calls Tryz.prog 78 #[.map (some w4.heap.size), .agg #[.int .i64 i, .string x.nm, .string x.ret, .slice sa sn sc, .bool x.st, .bool x.ba]] wy _ from T4 (MP.out.ch HCY.out (fun _ _ h => h)) (by omega) hxz T5).mono ?_; rintro e wt ⟨rfl, hmt, hct⟩; have HMT := Aa hmt; have HCT := Aa hct; have HSb := Aa (show wt.cell? ⟨w5.heap.size, 2, none⟩ = some (.map (some w4.heap.size)) ∧ wt.cell? ⟨wr.heap.size, 0, none⟩ = some (.string x.ret) ∧ wt.cell? ⟨wr.heap.size, 1, none⟩ = some (.string x.nm) ∧ wt.cell? ⟨wr.heap.size, 2, none⟩ = some (.bool x.st) ∧ wt.cell? ⟨wr.heap.size, 3, none⟩ = some (.bool x.ba) ∧ wt.cell? ⟨wr.heap.size, 4, none⟩ = some (.slice x.pa x.ps.length x.pc) ∧ wt.cell? ⟨wr.heap.size, 5, none⟩ = some (.slice x.s5.1 x.s5.2.1 x.s5.2.2) ∧ wt.cell? ⟨wr.heap.size, 6, none⟩ = some (.slice x.s6.1 x.s6.2.1 x.s6.2.2) ∧ wt.cell? ⟨wr.heap.size, 7, none⟩ = some (.int .i64 x.line) ∧ wt.cell? ⟨wr.heap.size, 8, none⟩ = some (.int .i64 x.col) from R6 HSa.out HCT.out (by omega) (by omega)); clear hmt hct))
       go_wp2
       go_roundg (n6 - k - 1)
       case rel =>
        refine ⟨k + 1, by omega, by omega, by go_num, Aa ⟨fun j => if j = k then (sa, sn, sc) else pv j, ?_, ?_⟩, Aa (((HC.out.trans (HCX.out.mono (fun _ _ _ h => h.elim))).trans (HCY.out.mono (fun _ _ _ h => h.elim))).trans HCT.out)⟩
        {have hlk : (m.ms.take k).length = k := by rw [List.length_take]; have := N6.out; omega
         rw [List.take_add_one, HX.out]
         show A1 Tryz.prog 9 Bx wt w4.heap.size (k + 1) (D1 i _ (m.ms.take k ++ [x]))
         rw [Pf (pv := pv) (fun j hj => by rw [hlk] at hj; rw [if_neg (by omega)]), hlk, if_pos rfl]
         exact HMT.out}
        {intro j y hy
         have z8 : w4.heap.size < w8.heap.size := by
          obtain ⟨es, cl, h⟩ := M38.out.isMap
          exact Ac h
         have z9 : w8.heap.size ≤ wx.drew.heap.size := Nat.le_trans HC.out.size HCX.out.size
         by_cases hj : j = k
         {subst hj
          have hlk : (m.ms.take j).length = j := by rw [List.length_take]; have := N6.out; omega
          rw [List.take_add_one, HX.out] at hy
          have e : y = x := by
           rw [List.getElem?_append_right (by omega), hlk] at hy
           simpa using hy.symm
          subst e
          dsimp only
          rw [if_pos rfl]
          exact (HST.out.ch HCT.out (fun g cur hg hbg e => by have e' : g = w4.heap.size := e; omega)).base z9}
         {dsimp only
          rw [if_neg hj]
          have hjl : j < k + 1 := by
           have := (gL hy)
           rw [List.length_take] at this
           omega
          have hy' : (m.ms.take k)[j]? = some y := by
           rw [List.getElem?_take, if_pos (by omega)]
           rw [List.getElem?_take, if_pos (by omega)] at hy
           exact hy
          exact ((HPS.out j y hy').no (HCX.out.trans HCY.out)).ch HCT.out (fun g cur hg hbg e => by have e' : g = w4.heap.size := e; omega)}}
       case measure => omega
      | false =>
       have hkl : ¬ k < n6 := by simpa using hd
       have hb2r := HC.out.keep _ _ HB28.out (Bm (by omega))
       have HB2R := Aa hb2r
       have hb6r := HBR.out
       obtain ⟨e0, e1, e2⟩ := Dy hb6r
       obtain ⟨a0, a1, a2⟩ := Dy hb2r
       obtain ⟨f0, f1, f2⟩ := I5 hb2r
       clear hb2r hb6r
       go_wp2_with fail
       obtain ⟨wf, hwf, hfb, hfc⟩ := Abm HB2R.out (.map (some w2.heap.size)) (.map (some w3.heap.size)) (.map (some w4.heap.size))
       rw [hwf]
       obtain ⟨k0, k1, k2⟩ := Dy hfb
       refine bodyPost_ret (v := .agg #[.map (some w2.heap.size), .map (some w3.heap.size), .map (some w4.heap.size)]) (by simp [results, Tryz.results44, go_sem, k0, k1, k2]) rfl ?_
       have hhm := HM.out
       obtain ⟨pv, hmp, hps⟩ := hhm
       rw [List.take_of_length_le (by have := N6.out; omega)] at hmp hps
       have hne : ∀ es clock, ¬ (fun (j : Nat) (_ : Obj) => j = w1.heap.size) w2.heap.size (.map es clock) := fun _ _ e => by have e' : w2.heap.size = w1.heap.size := e; omega
       refine ⟨_, rfl, ⟨w2.heap.size, w3.heap.size, w4.heap.size, _, _, _, pv, rfl, (M18.out.ch HC.out (fun _ _ e => by have e' : w2.heap.size = w4.heap.size := e; omega)).ch hfc (fun _ _ e => by have e' : w2.heap.size = w1.heap.size := e; omega), (M28.out.ch HC.out (fun _ _ e => by have e' : w3.heap.size = w4.heap.size := e; omega)).ch hfc (fun _ _ e => by have e' : w3.heap.size = w1.heap.size := e; omega), hmp.ch hfc (fun _ _ e => by have e' : w4.heap.size = w1.heap.size := e; omega), by omega, fun j x hx => ?_⟩, Ch.newOnly HCR.out hfc (Eb (by omega))⟩
       have z8 : w1.heap.size < w8.heap.size := Ac HB28.out
       exact ((hps j x hx).ch hfc (fun g cur hg hbg e => by have e' : g = w1.heap.size := e; omega)).base (Nat.zero_le _)
theorem J9 (w : World) (base : Nat) (v : Value) (n : Nat) (xs : List Value) (hown : w.ownsRow base 9 1 v n xs) (a : Addr) (c : Nat) {l : List ByteArray} (hs : Ah w (.slice (some a) l.length c) l)
 (hn : n + l.length ≤ 100000) (hbase : base ≤ w.heap.size) (ty : TypeId) :
 ∃ v' w', (Builtin.append_ #[46, 46] ty #[v, .slice (some a) l.length c]).run Tryz.prog w = .ok v' w' ∧ w'.ownsRow base 9 1 v' (n + l.length) (xs ++ l.map Value.string) ∧ Ch (fun j _ => v.ownBlock = some j) w w' := by
 obtain ⟨i, z, hi, hz, h2, h3, h4⟩ := Hz Tryz.infoStr
 have hm : maxLen = 9223372036854775807 := rfl
 obtain ⟨v', w', hr, ho, hg, _⟩ := run_append_own (P := Tryz.prog) w base 46 ty 9 i z 1 16 Tryz.sliceStr hi hz h3 h4 h2 Nat.zero_lt_one v n xs hown a l.length c (l.map Value.string) (by simp)
  (fun j u hj => by
   obtain ⟨ao, cap, e, _, _, h5⟩ := hs
   cases e
   rw [List.getElem?_map] at hj
   cases hx : l[j]? with
   | none => rw [hx] at hj; cases hj
   | some x =>
    rw [hx] at hj
    obtain ⟨b, off, e, h6⟩ := h5 (by have := (gL hx); omega)
    cases e
    rw [Addr.add_lit, h6 j x hx]
    exact hj) (by intro u hu; obtain ⟨x, _, rfl⟩ := List.mem_map.1 hu; rfl) (by omega) (by omega) hbase
 exact ⟨v', w', hr, ho, (Ch.refl _ w).grown hg (fun _ _ h _ => h)⟩
theorem L8 {w : World} {ops : Array Oper} {rest : List Oper} {o : Oper} {a : Act} {Q : Exit → Act → World → Prop} (hgd : o.guard = none) (s x : Operand)
 (ho : o.op = .call { callee := .builtin .append, args := #[s, x], argTypes := #[46, 46] })
 (base : Nat) (v : Value) (n : Nat) (xs : List Value) (hsv : a.eval s = v) (hown : w.ownsRow base 9 1 v n xs) (ad : Addr) (c : Nat) {l : List ByteArray} (hxv : a.eval x = .slice (some ad) l.length c) (hs : Ah w (.slice (some ad) l.length c) l)
 (hn : n + l.length ≤ 100000) (hbase : base ≤ w.heap.size)
 (hK : ∀ v' w', w'.ownsRow base 9 1 v' (n + l.length) (xs ++ l.map Value.string) → Ch (fun k _ => v.ownBlock = some k) w w' → wpList Tryz.prog ops Q rest (a.put o.dst v') w') :
 wpList Tryz.prog ops Q (o :: rest) a w := by
 refine wpList_plain hgd fun K hK' => ?_
 obtain ⟨v', w', hr, h2, h3⟩ := J9 w base v n xs hown ad c hs hn hbase o.type
 unfold Oper.wp
 simp [execOp, ho, resolve, invoke, builtin, hsv, hxv, hr, Result.andThen]
 exact hK' _ _ (hK v' w' h2 h3)
theorem Zz {w : World} {sa : Option Addr} {sn sc : Nat} {l : List ByteArray} (h : Ah w (.slice sa sn sc) l) (hl : l.length ≤ 1000) :
 Calls Tryz.prog 89 #[.slice sa sn sc] w fun e w' => ∃ ua un uc, e = .returned (.slice ua un uc) ∧ Aq w' w.heap.size (.slice ua un uc) l ∧ Ch No w w' := by
 have ht : Tryz.prog.underlying 46 = some (.slice 9) := by kernel_rfl
 have q22 : ∀ (w : World) (a : Option Addr) (n c n' c' : Nat), (binOp .eql 46 (.slice a n c) (.slice none n' c')).run Tryz.prog w = .ok (.bool a.isNone) w := fun w a n c n' c' => Go.Lib.run_eql_slice_nil w _ _ a n c n' c' ht
 clear ht
 have h' := h
 obtain ⟨ao, cap, e, hcap, hmax, hcell⟩ := h'
 cases e
 cases sa with
 | none =>
  have h0 : l = [] := by
   cases l with
   | nil => rfl
   | cons x l =>
    obtain ⟨b, off, e, _⟩ := hcell (by simp)
    cases e
  subst h0
  clear hcell hcap hmax
  go_in
  go_wp2
  go_ret
  exact ⟨_, _, _, rfl, Aq.nil _ _, Ch.refl _ _⟩
 | some ad =>
  have ha := h.no ((Ch.refl No w).alloc (.cells #[] 9))
  have ho : (w.alloc (.cells #[] 9)).ownsRow w.heap.size 9 1 (.slice (some ⟨w.heap.size, 0, none⟩) 0 0) 0 [] := World.ownsRow_made w #[] 0 (Nat.le_refl _) (Nat.zero_le _) rfl
  have hb : 0 + l.length ≤ 100000 := by omega
  have hsz : w.heap.size ≤ (w.alloc (.cells #[] 9)).heap.size := ((Ch.refl No w).alloc _).size
  clear hcell hcap hmax h
  go_in
  go_wp2_with (at_builtin; go_must (refine L8 rfl _ _ rfl w.heap.size _ 0 [] rfl ho ad _ rfl ha hb hsz ?_))
  intro v1 w1 hown1 hch1
  have hown : Aq w1 w.heap.size v1 l := by
   unfold Aq
   simpa using hown1
  obtain ⟨a7, c7, e7, _, _, _⟩ := hown.at_
  subst e7
  have HO := Aa hown
  have HC := Aa (Ch.newOnly ((Ch.refl No w).alloc (.cells #[] 9)) hch1 (fun k _ _ e => by
   have e' : w.heap.size = k := by simpa [Value.ownBlock] using e
   omega))
  clear hown1 hch1 hown
  go_wp2
  go_ret
  exact ⟨_, _, _, rfl, HO.out, HC.out⟩
theorem Z0 {w : World} {v v' : Value} {l l' : List ByteArray} (h : Ah w v l) (h' : Ah w v' l') :
 Calls Tryz.prog 154 #[v, v'] w fun e w' => Am (l = l') e ∧ Ch No w w' := by
 have H := Aa h
 have H' := Aa h'
 obtain ⟨ao, cap, rfl, hcap, hmax, _⟩ := h
 obtain ⟨ao', cap', rfl, hcap', hmax', _⟩ := h'
 obtain ⟨n, hn⟩ := Ax l.length
 obtain ⟨n', hn'⟩ : ∃ n', l'.length = n' := ⟨_, rfl⟩
 have HS := H.out
 have HS' := H'.out
 rw [hn] at hcap HS ⊢
 rw [hn'] at hcap' HS' ⊢
 have HSS := Aa HS
 have HSS' := Aa HS'
 have HN := Aa hn
 have HN' := Aa hn'
 unfold maxLen at hmax hmax'
 clear hn hn' HS HS'
 cases hd : decide (n = n') with
 | false =>
  have hne : ¬ n = n' := by simpa using hd
  go_in
  go_wp2
  go_ret
  exact ⟨Am.f (fun e => hne (by rw [← HN.out, ← HN'.out, e])), Ch.refl _ _⟩
 | true =>
  have hnn : n = n' := by simpa using hd
  subst hnn
  clear hd
  go_in
  go_wp2
  go_loopg [13, 5] n (fun g s13 s5 wr => ∃ k : Nat, k ≤ n ∧ n - k ≤ g ∧ s13 = .int .i64 k ∧ Hid (l.take k = l'.take k) ∧ Ch No w wr)
  case atStart => exact ⟨0, Nat.zero_le _, by omega, rfl, Aa rfl, Ch.refl _ _⟩
  case round =>
   obtain ⟨k, hk, hg, rfl, HE, hcr⟩ := hrel
   have HCR := Aa hcr
   clear hcr
   cases hd : decide (k < n) with
   | false =>
    have hkl : ¬ k < n := by simpa using hd
    go_wp2
    go_ret
    have he := HE.out
    rw [List.take_of_length_le (by have := HN.out; omega), List.take_of_length_le (by have := HN'.out; omega)] at he
    exact ⟨Am.t he, HCR.out⟩
   | true =>
    have hkl : k < n := by simpa using hd
    obtain ⟨x, hx⟩ := gE (l := l) (i := k) (by have := HN.out; omega)
    obtain ⟨y, hy⟩ : ∃ y, l'[k]? = some y := ⟨_, List.getElem?_eq_getElem (by have := HN'.out; omega)⟩
    obtain ⟨_, b, off, rfl, q0⟩ := (HSS.out.no HCR.out).cell hx
    obtain ⟨_, b', off', rfl, q0'⟩ := (HSS'.out.no HCR.out).cell hy
    have HX := Aa hx
    have HY := Aa hy
    clear hx hy
    cases e0 : (x.toList == y.toList) with
    | true =>
     go_wp2_with fail
     go_quiet (fail)
     go_wp2
     go_roundg (n - k - 1)
     case rel =>
      have hxy : x = y := by rw [Hi] at e0; simpa using e0
      refine ⟨k + 1, by omega, by omega, by go_num, Aa ?_, HCR.out.trans (by first | exact (Ch.refl No _).drew | exact (Ch.refl No _).drewN _ | exact Ch.refl No _)⟩
      rw [List.take_add_one, List.take_add_one, HX.out, HY.out, HE.out, hxy]
     case measure => omega
    | false =>
     go_wp2_with fail
     go_quiet (fail)
     go_wp2
     go_ret
     have hxy : ¬ x = y := by rw [Hi] at e0; simpa using e0
     refine ⟨Am.f (fun e => ?_), HCR.out.trans (by first | exact (Ch.refl No _).drew | exact (Ch.refl No _).drewN _ | exact Ch.refl No _)⟩
     subst e
     have h1 := HX.out
     rw [HY.out] at h1
     exact hxy (Option.some.inj h1).symm
structure Cy where
 cls : Int
 nm : ByteArray
 ty : ByteArray
 ps : List ByteArray
 st : Bool
 ba : Bool
def Afi (w : World) (v : Value) (x : Cy) : Prop := ∃ sa sn sc, v = Nk x.cls x.nm x.ty sa sn sc x.st x.ba ∧ Ah w (.slice sa sn sc) x.ps
theorem Ft {l : List Mt} {nm : ByteArray} {k : Nat} (h : Lk l nm = some k) : ∃ x, l[k]? = some x ∧ x.nm = nm := by
 unfold Lk at h
 rw [List.findIdx?_eq_some_iff_getElem] at h
 obtain ⟨hl, h1, _⟩ := h
 exact ⟨l[k], List.getElem?_eq_getElem hl, by simpa using h1⟩
structure Jb (w : World) (b : Nat × Nat × Nat) (i : Nat) (m : Ba) : Prop where
 ex : ∃ n1 n2 n3 pv, A1 Tryz.prog 9 Bx w b.1 n1 (D0 i false m.fs) ∧ A1 Tryz.prog 9 Bx w b.2.1 n2 (D0 i true m.ss) ∧ A1 Tryz.prog 9 Bx w b.2.2 n3 (D1 i pv m.ms) ∧
  (n3 ≤ 100000) ∧ ∀ (k : Nat) (x : Mt), m.ms[k]? = some x → Aq w 0 (.slice (pv k).1 (pv k).2.1 (pv k).2.2) (x.ps.map Vr.ty)
theorem Jb.no {w w' : World} {b : Nat × Nat × Nat} {i : Nat} {m : Ba} (h : Jb w b i m) (hc : Ch No w w') : Jb w' b i m := by
 obtain ⟨n1, n2, n3, pv, h1, h2, h3, h4, h5⟩ := h.ex
 exact ⟨n1, n2, n3, pv, h1.ch hc (fun _ _ h => h), h2.ch hc (fun _ _ h => h), h3.ch hc (fun _ _ h => h), h4, fun k x hx => (h5 k x hx).no hc⟩
theorem T8.b {w : World} {ov : Value} {i : Nat} {m : Ba} (h : T8 w ov i m) : ∃ b : Nat × Nat × Nat, ov = .agg #[.map (some b.1), .map (some b.2.1), .map (some b.2.2)] ∧ Jb w b i m := by
 obtain ⟨b1, b2, b3, n1, n2, n3, pv, e, h⟩ := h.ex
 exact ⟨(b1, b2, b3), e, n1, n2, n3, pv, h⟩
def Ep (b : Nat × Nat × Nat) : List Value := [.map (some b.1), .map (some b.2.1), .map (some b.2.2)]
structure Gi (w : World) (mb : Nat) (cs : List Aj) (ms : List Ba) (cv m0 m1 m2 m3 m4 m5 m6 m7 m8 xv ov : Value) (bs : List (Nat × Nat × Nat)) : Prop where
 blk : w.heap[mb]? = some (.cells #[cv, m0, m1, m2, m3, m4, m5, m6, m7, m8, xv, ov] 97 (0, 0))
 clss : Ek w cv cs
 typ : Bv w xv cs
 row : B5 w ov 3 (bs.map Ep)
 len : bs.length = cs.length
 own : ∀ (i : Nat) (b : Nat × Nat × Nat) (m : Ba), bs[i]? = some b → ms[i]? = some m → Jb w b i m
def B3 (w : World) (mb : Nat) (cs : List Aj) (ms : List Ba) : Prop := ∃ cv m0 m1 m2 m3 m4 m5 m6 m7 m8 xv ov bs, Gi w mb cs ms cv m0 m1 m2 m3 m4 m5 m6 m7 m8 xv ov bs
theorem Gi.no {w w' : World} {mb : Nat} {cs : List Aj} {ms : List Ba} {cv m0 m1 m2 m3 m4 m5 m6 m7 m8 xv ov : Value} {bs : List (Nat × Nat × Nat)} (h : Gi w mb cs ms cv m0 m1 m2 m3 m4 m5 m6 m7 m8 xv ov bs) (hc : Ch No w w') : Gi w' mb cs ms cv m0 m1 m2 m3 m4 m5 m6 m7 m8 xv ov bs :=
 ⟨hc.keep _ _ h.blk (fun h => h), h.clss.no hc, h.typ.no hc, h.row.no hc, h.len, fun i b m h1 h2 => (h.own i b m h1 h2).no hc⟩
theorem B3.no {w w' : World} {mb : Nat} {cs : List Aj} {ms : List Ba} (h : B3 w mb cs ms) (hc : Ch No w w') : B3 w' mb cs ms := by
 obtain ⟨cv, m0, m1, m2, m3, m4, m5, m6, m7, m8, xv, ov, bs, h⟩ := h
 exact ⟨cv, m0, m1, m2, m3, m4, m5, m6, m7, m8, xv, ov, bs, h.no hc⟩
theorem L9 {w : World} {mb : Nat} {cs : List Aj} {ms : List Ba} (h : B3 w mb cs ms) {t : ByteArray} (ht : t.size ≤ maxLen) :
 Calls Tryz.prog 116 #[.pointer (some ⟨mb, 0, none⟩), .string t] w fun e w' => Am (D6 cs t) e ∧ Ch No w w' := by
 obtain ⟨cv, m0, m1, m2, m3, m4, m5, m6, m7, m8, xv, ov, bs, h⟩ := h
 have HT := Aa ht
 have HX := Aa h.typ
 have c10 := Ab h.blk 10
 clear h ht
 by_cases hn : t = D9
 {have e0 := lit t [110, 117, 108, 108] hn
  have HN := Aa hn
  clear hn
  go_in
  go_wp2
  go_ret
  exact ⟨Am.f (fun h => h.1 HN.out), Ch.refl _ _⟩}
 {have e0 := Bf t [110, 117, 108, 108] hn
  have HN := Aa hn
  clear hn
  have hc := (Ch.refl No w).alloc (.cells #[.string t] 9)
  have hxi := xis (HX.out.no hc) (Ah.one (w := w) [t] (by simp)) (fun u hu => by simp at hu; subst hu; exact HT.out)
  have HC := Aa hc
  clear hc
  go_in
  go_wp2_with fail
  refine hxi.mono ?_
  rintro e w2 ⟨⟨r, rfl, hr⟩, rfl⟩
  have HR := Aa hr
  clear hr hxi
  go_wp2
  go_ret
  refine ⟨⟨r, rfl, ?_⟩, HC.out⟩
  rw [HR.out]
  exact ⟨fun h => ⟨HN.out, h t (by simp)⟩, fun h u hu => by simp at hu; subst hu; exact h.2⟩}
theorem Ub {w : World} {c nm c' nm'} {ty ty' : ByteArray} {sa sa' : Option Addr} {sn sc sn' sc' : Nat} {st ba st' ba' : Bool} {l l' : List ByteArray} (h : Ah w (.slice sa sn sc) l) (h' : Ah w (.slice sa' sn' sc') l') :
 Calls Tryz.prog 124 #[.agg #[.int .i64 c, .string nm, .string ty, .slice sa sn sc, .bool st, .bool ba], .agg #[.int .i64 c', .string nm', .string ty', .slice sa' sn' sc', .bool st', .bool ba']] w fun e w' => Am (ty = ty' ∧ l = l') e ∧ Ch No w w' := by
 obtain ⟨w1, hw1, hb1, hc1⟩ := A2 w (.cells #[.int .i64 c, .string nm, .string ty, .slice sa sn sc, .bool st, .bool ba] 54)
 obtain ⟨w2, hw2, hb2, hc2⟩ := A2 w1 (.cells #[.int .i64 c', .string nm', .string ty', .slice sa' sn' sc', .bool st', .bool ba'] 54)
 have HC := Aa (hc1.trans hc2)
 have heq := Z0 (h.no HC.out) (h'.no HC.out)
 have hb12 := hc2.keep _ _ hb1 (fun h => h)
 have d2 := Ab hb12 2
 have d3 := Ab hb12 3
 have e2 := Ab hb2 2
 have e3 := Ab hb2 3
 clear hb1 hb2 hb12 hc1 hc2 h h'
 by_cases ht : ty = ty'
 {have e0 := toL ty ty' ht
  have HT := Aa ht
  clear ht
  go_in
  go_wp2_with fail
  refine heq.mono ?_
  rintro e w3 ⟨⟨r, rfl, hr⟩, hc3⟩
  have HR := Aa hr
  have HC3 := Aa hc3
  clear hr hc3 heq
  go_wp2
  go_ret
  exact ⟨⟨r, rfl, fun h => ⟨HT.out, HR.out.1 h⟩, fun h => HR.out.2 h.2⟩, HC.out.trans HC3.out⟩}
 {have e0 := Wy ty ty' ht
  have HT := Aa ht
  clear ht heq
  go_in
  go_wp2
  go_ret
  exact ⟨Am.f (fun h => HT.out h.1), HC.out⟩}
def Ma (i : Nat) (st : Bool) (l : List Vr) (nm : ByteArray) : Option Cy := (Qo l nm).map (fun v => ⟨i, v.nm, v.ty, [], st, false⟩)
def Hp (i : Nat) (l : List Mt) (nm : ByteArray) : Option Cy := (Lk l nm).bind (fun k => (l[k]?).map (fun x => ⟨i, x.nm, x.ret, x.ps.map Vr.ty, x.st, x.ba⟩))
def Bi (i : Nat) (m : Ba) (nm : ByteArray) : Option Cy := Ma i false m.fs nm
def A8 (i : Nat) (m : Ba) (nm : ByteArray) : Option Cy := Ma i true m.ss nm
def A7 (i : Nat) (m : Ba) (nm : ByteArray) : Option Cy := Hp i m.ms nm
def Iy (w : World) (b : Nat) (nm : ByteArray) (o : Option Cy) : Prop := ∃ n get, A1 Tryz.prog 9 Bx w b n get ∧ match o with | some x => ∃ u, get nm = some u ∧ Afi w u x | none => get nm = none
theorem Qr {w : World} {b n i : Nat} {st : Bool} {l : List Vr} (h : A1 Tryz.prog 9 Bx w b n (D0 i st l)) (nm : ByteArray) : Iy w b nm (Ma i st l nm) := by
 refine ⟨n, _, h, ?_⟩
 unfold Ma
 cases hv : Qo l nm with
 | none => simp only [Option.map_none]; unfold D0; rw [hv]; rfl
 | some v =>
  simp only [Option.map_some]
  refine ⟨Nk i v.nm v.ty none 0 0 st false, by unfold D0; rw [hv]; rfl, none, 0, 0, rfl, Ah.nil w⟩
theorem W8 {w : World} {b n i : Nat} {pv : Nat → Option Addr × Nat × Nat} {l : List Mt} (h : A1 Tryz.prog 9 Bx w b n (D1 i pv l)) (hp : ∀ (k : Nat) (x : Mt), l[k]? = some x → Ah w (.slice (pv k).1 (pv k).2.1 (pv k).2.2) (x.ps.map Vr.ty)) (nm : ByteArray) : Iy w b nm (Hp i l nm) := by
 refine ⟨n, _, h, ?_⟩
 unfold Hp
 cases hk : Lk l nm with
 | none => simp only [Option.bind_none]; unfold D1; rw [hk]
 | some k =>
  obtain ⟨x, hx, hn⟩ := Ft hk
  simp only [Option.bind_some, hx, Option.map_some]
  exact ⟨_, by unfold D1; rw [hk]; simp only [hx], (pv k).1, (pv k).2.1, (pv k).2.2, rfl, hp k x hx⟩
theorem Jb.tells {w : World} {b : Nat × Nat × Nat} {i : Nat} {m : Ba} (h : Jb w b i m) (nm : ByteArray) : Iy w b.1 nm (Bi i m nm) ∧ Iy w b.2.1 nm (A8 i m nm) ∧ Iy w b.2.2 nm (A7 i m nm) := by
 obtain ⟨n1, n2, n3, pv, h1, h2, h3, h4, h5⟩ := h.ex
 exact ⟨Qr h1 nm, Qr h2 nm, W8 h3 (fun k x hx => (h5 k x hx).at_) nm⟩
def Abo (o : Option Cy) (e : Ending) (w' : World) : Prop := match o with
 | some x => ∃ sa sn sc, e = .returned (.tuple #[.agg #[.int .i64 x.cls, .string x.nm, .string x.ty, .slice sa sn sc, .bool x.st, .bool x.ba], .bool true]) ∧ Ah w' (.slice sa sn sc) x.ps
 | none => e = .returned (.tuple #[.agg #[.int .i64 0, .string ⟨#[]⟩, .string ⟨#[]⟩, .slice none 0 0, .bool false, .bool false], .bool false])
def Mb (o : Option Cy) (w : World) (e : Ending) (w' : World) : Prop := Abo o e w' ∧ Ch No w w'
theorem zt8 {p : Prop} (h : p := by
 have HCF := Aa (Ch.newOnly (HC.out.trans HC3.out) hfc (fun k _ _ e => by
  have e' : k = w1.heap.size := e
  have := HCZ.out
  omega))
 refine ⟨⟨sa, sn, sc, rfl, ?_⟩, HCF.out⟩
 exact HST.out.no HCF.out
 ) : p := h
theorem zt9 {p : Prop} (h : p := by
 have HCF := Aa (Ch.newOnly (HC.out.trans HC3.out) hfc (fun k _ _ e => by
  have e' : k = w1.heap.size := e
  have := HCZ.out
  omega))
 exact ⟨rfl, HCF.out⟩
 ) : p := h
theorem Uc {w : World} {b : Nat × Nat × Nat} {nb : Nat} {nm : ByteArray} {o : Option Cy} (h : Iy w b.1 nm o) (hz : nm.size ≤ maxLen) (hnb : w.cell? ⟨nb, 0, none⟩ = some (.string nm)) :
 Calls Tryz.prog 52 #[.agg #[.map (some b.1), .map (some b.2.1), .map (some b.2.2)], .pointer (some ⟨nb, 0, none⟩)] w (Mb o w) := by
 obtain ⟨b1, b2, b3⟩ := b
 dsimp only at h ⊢
 obtain ⟨n, get, hm, ho⟩ := h
 obtain ⟨w1, hw1, hb1, hc1⟩ := A2 w (.cells #[.map (some b1), .map (some b2), .map (some b3)] 100)
 have zz : (Value.agg #[.int .i64 0, .string ⟨#[]⟩, .string ⟨#[]⟩, .slice none 0 0, .bool false, .bool false]) = (Value.agg #[.int .i64 0, .string ⟨#[]⟩, .string ⟨#[]⟩, .slice none 0 0, .bool false, .bool false]) := rfl
 obtain ⟨w2, hw2, hb2, hc2⟩ := A2 w1 (.cells #[.int .i64 0, .string ⟨#[]⟩, .string ⟨#[]⟩, .slice none 0 0, .bool false, .bool false] 54)
 have HCZ := Aa hc1.size
 have HC := Aa (hc1.trans hc2)
 have HM := Aa (hm.ch HC.out (fun _ _ h => h))
 have hlk := HM.out.lookOk Gx Tryz.underlying98 (Ho w2) (Gy hz)
 have HB2 := Aa hb2
 have hb12 := hc2.keep _ _ hb1 (fun h => h)
 have hn2 := Ae hnb HC.out (fun _ _ h => h)
 have y1 := Ac hb1
 have y2 := Ac hb2
 have d0 := Ab hb12 0
 clear hm hb1 hb2 hb12 hc1 hc2 hnb hz zz
 cases o with
 | none =>
  dsimp only at ho
  rw [ho] at hlk
  have hlk' : (Instr.lookup 98 (.map (some b1)) (.string nm) true).run Tryz.prog w2 = .ok (.tuple #[.agg #[.int .i64 0, .string ⟨#[]⟩, .string ⟨#[]⟩, .slice none 0 0, .bool false, .bool false], .bool false]) w2 := hlk
  clear hlk ho
  go_in
  go_upto_region 2 with fail
  obtain ⟨w3, hw3, hb3, hc3⟩ := A2 w2 (.cells #[.int .i64 0, .string ⟨#[]⟩, .string ⟨#[]⟩, .slice none 0 0, .bool false, .bool false] 54)
  rw [hw3]
  have HB23 := Aa (hc3.keep _ _ HB2.out (fun h => h))
  have HC3 := Aa hc3
  obtain ⟨a0, a1, a2, a3, a4, a5⟩ := Dm HB23.out
  obtain ⟨f0, f1, f2, f3, f4, f5⟩ := M4 HB23.out
  have hlt3 := Ac HB23.out
  clear hc3
  obtain ⟨g0, g1, g2, g3, g4, g5⟩ := Dm hb3
  clear hw3 hb3
  go_wp2_with fail
  obtain ⟨wf, hwf, hfb, hfc⟩ := Ew HB23.out (.int .i64 0) (.string ⟨#[]⟩) (.string ⟨#[]⟩) (.slice none 0 0) (.bool false) (.bool false)
  rw [hwf]
  obtain ⟨k0, k1, k2, k3, k4, k5⟩ := Dm hfb
  refine bodyPost_ret (v := .tuple #[.agg #[.int .i64 0, .string ⟨#[]⟩, .string ⟨#[]⟩, .slice none 0 0, .bool false, .bool false], .bool false]) (by simp [results, Tryz.results52, go_sem, k0, k1, k2, k3, k4, k5]) rfl ?_
  exact zt9
 | some x =>
  obtain ⟨u, hu, sa, sn, sc, rfl, hst⟩ := ho
  rw [hu] at hlk
  have hlk' : (Instr.lookup 98 (.map (some b1)) (.string nm) true).run Tryz.prog w2 = .ok (.tuple #[.agg #[.int .i64 x.cls, .string x.nm, .string x.ty, .slice sa sn sc, .bool x.st, .bool x.ba], .bool true]) w2 := hlk
  have HST := Aa hst
  clear hlk hu hst
  go_in
  go_upto_region 2 with fail
  obtain ⟨w3, hw3, hb3, hc3⟩ := A2 w2 (.cells #[.int .i64 x.cls, .string x.nm, .string x.ty, .slice sa sn sc, .bool x.st, .bool x.ba] 54)
  rw [hw3]
  have HB23 := Aa (hc3.keep _ _ HB2.out (fun h => h))
  have HC3 := Aa hc3
  obtain ⟨a0, a1, a2, a3, a4, a5⟩ := Dm HB23.out
  obtain ⟨f0, f1, f2, f3, f4, f5⟩ := M4 HB23.out
  have hlt3 := Ac HB23.out
  clear hc3
  obtain ⟨g0, g1, g2, g3, g4, g5⟩ := Dm hb3
  clear hw3 hb3
  go_wp2_with fail
  obtain ⟨wf, hwf, hfb, hfc⟩ := Ew HB23.out (.int .i64 x.cls) (.string x.nm) (.string x.ty) (.slice sa sn sc) (.bool x.st) (.bool x.ba)
  rw [hwf]
  obtain ⟨k0, k1, k2, k3, k4, k5⟩ := Dm hfb
  refine bodyPost_ret (v := .tuple #[.agg #[.int .i64 x.cls, .string x.nm, .string x.ty, .slice sa sn sc, .bool x.st, .bool x.ba], .bool true]) (by simp [results, Tryz.results52, go_sem, k0, k1, k2, k3, k4, k5]) rfl ?_
  exact zt8
theorem R7 {w : World} {b : Nat × Nat × Nat} {nb : Nat} {nm : ByteArray} {o : Option Cy} (h : Iy w b.2.1 nm o) (hz : nm.size ≤ maxLen) (hnb : w.cell? ⟨nb, 0, none⟩ = some (.string nm)) :
 Calls Tryz.prog 117 #[.agg #[.map (some b.1), .map (some b.2.1), .map (some b.2.2)], .pointer (some ⟨nb, 0, none⟩)] w (Mb o w) := by
 obtain ⟨b1, b2, b3⟩ := b
 dsimp only at h ⊢
 obtain ⟨n, get, hm, ho⟩ := h
 obtain ⟨w1, hw1, hb1, hc1⟩ := A2 w (.cells #[.map (some b1), .map (some b2), .map (some b3)] 100)
 have zz : (Value.agg #[.int .i64 0, .string ⟨#[]⟩, .string ⟨#[]⟩, .slice none 0 0, .bool false, .bool false]) = (Value.agg #[.int .i64 0, .string ⟨#[]⟩, .string ⟨#[]⟩, .slice none 0 0, .bool false, .bool false]) := rfl
 obtain ⟨w2, hw2, hb2, hc2⟩ := A2 w1 (.cells #[.int .i64 0, .string ⟨#[]⟩, .string ⟨#[]⟩, .slice none 0 0, .bool false, .bool false] 54)
 have HCZ := Aa hc1.size
 have HC := Aa (hc1.trans hc2)
 have HM := Aa (hm.ch HC.out (fun _ _ h => h))
 have hlk := HM.out.lookOk Gx Tryz.underlying98 (Ho w2) (Gy hz)
 have HB2 := Aa hb2
 have hb12 := hc2.keep _ _ hb1 (fun h => h)
 have hn2 := Ae hnb HC.out (fun _ _ h => h)
 have y1 := Ac hb1
 have y2 := Ac hb2
 have d1 := Ab hb12 1
 clear hm hb1 hb2 hb12 hc1 hc2 hnb hz zz
 cases o with
 | none =>
  dsimp only at ho
  rw [ho] at hlk
  have hlk' : (Instr.lookup 98 (.map (some b2)) (.string nm) true).run Tryz.prog w2 = .ok (.tuple #[.agg #[.int .i64 0, .string ⟨#[]⟩, .string ⟨#[]⟩, .slice none 0 0, .bool false, .bool false], .bool false]) w2 := hlk
  clear hlk ho
  go_in
  go_upto_region 2 with fail
  obtain ⟨w3, hw3, hb3, hc3⟩ := A2 w2 (.cells #[.int .i64 0, .string ⟨#[]⟩, .string ⟨#[]⟩, .slice none 0 0, .bool false, .bool false] 54)
  rw [hw3]
  have HB23 := Aa (hc3.keep _ _ HB2.out (fun h => h))
  have HC3 := Aa hc3
  obtain ⟨a0, a1, a2, a3, a4, a5⟩ := Dm HB23.out
  obtain ⟨f0, f1, f2, f3, f4, f5⟩ := M4 HB23.out
  have hlt3 := Ac HB23.out
  clear hc3
  obtain ⟨g0, g1, g2, g3, g4, g5⟩ := Dm hb3
  clear hw3 hb3
  go_wp2_with fail
  obtain ⟨wf, hwf, hfb, hfc⟩ := Ew HB23.out (.int .i64 0) (.string ⟨#[]⟩) (.string ⟨#[]⟩) (.slice none 0 0) (.bool false) (.bool false)
  rw [hwf]
  obtain ⟨k0, k1, k2, k3, k4, k5⟩ := Dm hfb
  refine bodyPost_ret (v := .tuple #[.agg #[.int .i64 0, .string ⟨#[]⟩, .string ⟨#[]⟩, .slice none 0 0, .bool false, .bool false], .bool false]) (by simp [results, Tryz.results117, go_sem, k0, k1, k2, k3, k4, k5]) rfl ?_
  exact zt9
 | some x =>
  obtain ⟨u, hu, sa, sn, sc, rfl, hst⟩ := ho
  rw [hu] at hlk
  have hlk' : (Instr.lookup 98 (.map (some b2)) (.string nm) true).run Tryz.prog w2 = .ok (.tuple #[.agg #[.int .i64 x.cls, .string x.nm, .string x.ty, .slice sa sn sc, .bool x.st, .bool x.ba], .bool true]) w2 := hlk
  have HST := Aa hst
  clear hlk hu hst
  go_in
  go_upto_region 2 with fail
  obtain ⟨w3, hw3, hb3, hc3⟩ := A2 w2 (.cells #[.int .i64 x.cls, .string x.nm, .string x.ty, .slice sa sn sc, .bool x.st, .bool x.ba] 54)
  rw [hw3]
  have HB23 := Aa (hc3.keep _ _ HB2.out (fun h => h))
  have HC3 := Aa hc3
  obtain ⟨a0, a1, a2, a3, a4, a5⟩ := Dm HB23.out
  obtain ⟨f0, f1, f2, f3, f4, f5⟩ := M4 HB23.out
  have hlt3 := Ac HB23.out
  clear hc3
  obtain ⟨g0, g1, g2, g3, g4, g5⟩ := Dm hb3
  clear hw3 hb3
  go_wp2_with fail
  obtain ⟨wf, hwf, hfb, hfc⟩ := Ew HB23.out (.int .i64 x.cls) (.string x.nm) (.string x.ty) (.slice sa sn sc) (.bool x.st) (.bool x.ba)
  rw [hwf]
  obtain ⟨k0, k1, k2, k3, k4, k5⟩ := Dm hfb
  refine bodyPost_ret (v := .tuple #[.agg #[.int .i64 x.cls, .string x.nm, .string x.ty, .slice sa sn sc, .bool x.st, .bool x.ba], .bool true]) (by simp [results, Tryz.results117, go_sem, k0, k1, k2, k3, k4, k5]) rfl ?_
  exact zt8
theorem R8 {w : World} {b : Nat × Nat × Nat} {nb : Nat} {nm : ByteArray} {o : Option Cy} (h : Iy w b.2.2 nm o) (hz : nm.size ≤ maxLen) (hnb : w.cell? ⟨nb, 0, none⟩ = some (.string nm)) :
 Calls Tryz.prog 48 #[.agg #[.map (some b.1), .map (some b.2.1), .map (some b.2.2)], .pointer (some ⟨nb, 0, none⟩)] w (Mb o w) := by
 obtain ⟨b1, b2, b3⟩ := b
 dsimp only at h ⊢
 obtain ⟨n, get, hm, ho⟩ := h
 obtain ⟨w1, hw1, hb1, hc1⟩ := A2 w (.cells #[.map (some b1), .map (some b2), .map (some b3)] 100)
 have zz : (Value.agg #[.int .i64 0, .string ⟨#[]⟩, .string ⟨#[]⟩, .slice none 0 0, .bool false, .bool false]) = (Value.agg #[.int .i64 0, .string ⟨#[]⟩, .string ⟨#[]⟩, .slice none 0 0, .bool false, .bool false]) := rfl
 obtain ⟨w2, hw2, hb2, hc2⟩ := A2 w1 (.cells #[.int .i64 0, .string ⟨#[]⟩, .string ⟨#[]⟩, .slice none 0 0, .bool false, .bool false] 54)
 have HCZ := Aa hc1.size
 have HC := Aa (hc1.trans hc2)
 have HM := Aa (hm.ch HC.out (fun _ _ h => h))
 have hlk := HM.out.lookOk Gx Tryz.underlying98 (Ho w2) (Gy hz)
 have HB2 := Aa hb2
 have hb12 := hc2.keep _ _ hb1 (fun h => h)
 have hn2 := Ae hnb HC.out (fun _ _ h => h)
 have y1 := Ac hb1
 have y2 := Ac hb2
 have d2 := Ab hb12 2
 clear hm hb1 hb2 hb12 hc1 hc2 hnb hz zz
 cases o with
 | none =>
  dsimp only at ho
  rw [ho] at hlk
  have hlk' : (Instr.lookup 98 (.map (some b3)) (.string nm) true).run Tryz.prog w2 = .ok (.tuple #[.agg #[.int .i64 0, .string ⟨#[]⟩, .string ⟨#[]⟩, .slice none 0 0, .bool false, .bool false], .bool false]) w2 := hlk
  clear hlk ho
  go_in
  go_upto_region 2 with fail
  obtain ⟨w3, hw3, hb3, hc3⟩ := A2 w2 (.cells #[.int .i64 0, .string ⟨#[]⟩, .string ⟨#[]⟩, .slice none 0 0, .bool false, .bool false] 54)
  rw [hw3]
  have HB23 := Aa (hc3.keep _ _ HB2.out (fun h => h))
  have HC3 := Aa hc3
  obtain ⟨a0, a1, a2, a3, a4, a5⟩ := Dm HB23.out
  obtain ⟨f0, f1, f2, f3, f4, f5⟩ := M4 HB23.out
  have hlt3 := Ac HB23.out
  clear hc3
  obtain ⟨g0, g1, g2, g3, g4, g5⟩ := Dm hb3
  clear hw3 hb3
  go_wp2_with fail
  obtain ⟨wf, hwf, hfb, hfc⟩ := Ew HB23.out (.int .i64 0) (.string ⟨#[]⟩) (.string ⟨#[]⟩) (.slice none 0 0) (.bool false) (.bool false)
  rw [hwf]
  obtain ⟨k0, k1, k2, k3, k4, k5⟩ := Dm hfb
  refine bodyPost_ret (v := .tuple #[.agg #[.int .i64 0, .string ⟨#[]⟩, .string ⟨#[]⟩, .slice none 0 0, .bool false, .bool false], .bool false]) (by simp [results, Tryz.results48, go_sem, k0, k1, k2, k3, k4, k5]) rfl ?_
  exact zt9
 | some x =>
  obtain ⟨u, hu, sa, sn, sc, rfl, hst⟩ := ho
  rw [hu] at hlk
  have hlk' : (Instr.lookup 98 (.map (some b3)) (.string nm) true).run Tryz.prog w2 = .ok (.tuple #[.agg #[.int .i64 x.cls, .string x.nm, .string x.ty, .slice sa sn sc, .bool x.st, .bool x.ba], .bool true]) w2 := hlk
  have HST := Aa hst
  clear hlk hu hst
  go_in
  go_upto_region 2 with fail
  obtain ⟨w3, hw3, hb3, hc3⟩ := A2 w2 (.cells #[.int .i64 x.cls, .string x.nm, .string x.ty, .slice sa sn sc, .bool x.st, .bool x.ba] 54)
  rw [hw3]
  have HB23 := Aa (hc3.keep _ _ HB2.out (fun h => h))
  have HC3 := Aa hc3
  obtain ⟨a0, a1, a2, a3, a4, a5⟩ := Dm HB23.out
  obtain ⟨f0, f1, f2, f3, f4, f5⟩ := M4 HB23.out
  have hlt3 := Ac HB23.out
  clear hc3
  obtain ⟨g0, g1, g2, g3, g4, g5⟩ := Dm hb3
  clear hw3 hb3
  go_wp2_with fail
  obtain ⟨wf, hwf, hfb, hfc⟩ := Ew HB23.out (.int .i64 x.cls) (.string x.nm) (.string x.ty) (.slice sa sn sc) (.bool x.st) (.bool x.ba)
  rw [hwf]
  obtain ⟨k0, k1, k2, k3, k4, k5⟩ := Dm hfb
  refine bodyPost_ret (v := .tuple #[.agg #[.int .i64 x.cls, .string x.nm, .string x.ty, .slice sa sn sc, .bool x.st, .bool x.ba], .bool true]) (by simp [results, Tryz.results48, go_sem, k0, k1, k2, k3, k4, k5]) rfl ?_
  exact zt8
end Go.Proofs.YtgjpgfedlgdjhaaGreatDoor
end
