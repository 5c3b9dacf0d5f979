/- Part 6. -/
import Derived.Test.YtgjpgfedlgdjhaaGreatDoorYac
import Derived.Deep.Upon
import Derived.Test.YtgjpgfedlgdjhaaGreatDoorYad
import Derived.Test.YtgjpgfedlgdjhaaGreatDoorYae
set_option linter.unusedVariables false
set_option linter.unusedSimpArgs false
set_option maxHeartbeats 64000000
set_option maxRecDepth 8192
section
section
namespace Go.Proofs.YtgjpgfedlgdjhaaGreatDoor
open Go.RowKit Go.W
def Dl (w : World) (base : Nat) (v : Value) (l : List Int) : Prop :=
 (v = .slice none 0 0 ∧ l = []) ∨ ∃ g off cap cur, v = .slice (some ⟨g, off, none⟩) l.length cap ∧ base ≤ g ∧ w.heap[g]? = some (.cells cur 3 (0, 0)) ∧ l.length ≤ cap ∧ cap ≤ maxLen ∧ off + cap ≤ cur.size ∧
  ∀ (i : Nat) (x : Int), l[i]? = some x → cur[off + i]? = some (.int .i64 x)
theorem Al.q {w : World} {base : Nat} {v : Value} {l : List Int} (h : Al w base v l) : Dl w base v l := by
 rcases h.2 with ⟨rfl, hl0⟩ | ⟨g, cap, cur, rfl, hg, hh, hcap, hmax, hcs, hct⟩
 {exact .inl ⟨rfl, List.length_eq_zero_iff.1 hl0⟩}
 {rw [Nat.mul_one] at hcs hct
  refine .inr ⟨g, 0, cap, cur, rfl, hg, hh, hcap, hmax, by omega, fun i x hx => ?_⟩
  have hi := (gL hx)
  have : (l.map (Value.int .i64))[i]? = some (.int .i64 x) := by rw [List.getElem?_map, hx]; rfl
  rw [← hct, List.getElem?_take, if_pos hi] at this
  rw [Nat.zero_add, ← Array.getElem?_toList]
  exact this}
theorem Dl.shape {w : World} {base : Nat} {v : Value} {l : List Int} (h : Dl w base v l) : ∃ ao cap, v = .slice ao l.length cap ∧ l.length ≤ cap ∧ cap ≤ maxLen := by
 rcases h with ⟨rfl, rfl⟩ | ⟨g, off, cap, cur, rfl, _, _, h1, h2, _⟩
 {exact ⟨_, _, rfl, Nat.le_refl _, Nat.zero_le _⟩}
 {exact ⟨_, _, rfl, h1, h2⟩}
theorem Dl.ch {S : Nat → Obj → Prop} {w w' : World} {base : Nat} {v : Value} {l : List Int} (h : Dl w base v l) (hc : Ch S w w') (hS : ∀ g o, v.ownBlock = some g → base ≤ g → ¬ S g o) : Dl w' base v l := by
 rcases h with h | ⟨g, off, cap, cur, rfl, h1, h2, h3⟩
 {exact .inl h}
 {exact .inr ⟨g, off, cap, cur, rfl, h1, hc.keep _ _ h2 (hS g _ rfl h1), h3⟩}
theorem Dl.lt {w : World} {base : Nat} {v : Value} {l : List Int} (h : Dl w base v l) : ∀ g, v.ownBlock = some g → base ≤ g ∧ g < w.heap.size := by
 rcases h with ⟨rfl, _⟩ | ⟨g, off, cap, cur, rfl, h1, h2, h3⟩
 {intro g hg; simp [Value.ownBlock] at hg}
 {intro k hk
  have e : g = k := by simpa [Value.ownBlock] using hk
  subst e
  exact ⟨h1, Ac h2⟩}
theorem Dl.head {w : World} {base : Nat} {v : Value} {x : Int} {l : List Int} (h : Dl w base v (x :: l)) :
 ∃ g off cap, v = .slice (some ⟨g, off, none⟩) (l.length + 1) cap ∧ l.length + 1 ≤ cap ∧ cap ≤ maxLen ∧ w.cell? ⟨g, off, none⟩ = some (.int .i64 x) ∧ (cap = 1 → Dl w base (.slice (some ⟨g, off, none⟩) l.length 0) l) ∧ (1 < cap → Dl w base (.slice (some ⟨g, off + 1, none⟩) l.length (cap - 1)) l) := by
 rcases h with ⟨_, h⟩ | ⟨g, off, cap, cur, rfl, h1, h2, h3, h4, h5, h6⟩
 {cases h}
 {rw [List.length_cons] at h3
  have h0 := h6 0 x rfl
  refine ⟨g, off, cap, by rw [List.length_cons], h3, h4, by rw [Ab h2]; simpa using h0, fun hc => ?_, fun hc => ?_⟩
  {have : l = [] := List.length_eq_zero_iff.1 (by omega)
   subst this
   exact .inr ⟨g, off, 0, cur, rfl, h1, h2, Nat.le_refl _, Nat.zero_le _, by omega, fun i y hy => by simp at hy⟩}
  {refine .inr ⟨g, off + 1, cap - 1, cur, rfl, h1, h2, by omega, by omega, by omega, fun i y hy => ?_⟩
   have := h6 (i + 1) y (by simpa using hy)
   rw [show off + 1 + i = off + (i + 1) from by omega]
   exact this}}
theorem Nh (w : World) (base : Nat) (v : Value) (xs : List Int) (hq : Dl w base v xs) (u : Value) (l : List Int) (hu : A9 w u l) (hb : xs.length + l.length ≤ 10000000) (hbase : base ≤ w.heap.size) (ty : TypeId) :
 ∃ v' w', (Builtin.append_ #[59, 59] ty #[v, u]).run Tryz.prog w = .ok v' w' ∧ Dl w' base v' (xs ++ l) ∧ Ch (fun k _ => v.ownBlock = some k) w w' ∧ (v'.ownBlock = v.ownBlock ∨ v'.ownBlock = some w.heap.size) := by
 obtain ⟨i, hi, hz, hs, hby⟩ := info_parts Tryz.infoInt0
 have ht : Tryz.prog.underlying 59 = some (.slice 3) := by kernel_rfl
 have hm : maxLen = 9223372036854775807 := rfl
 obtain ⟨uo, uc, rfl, h1, h2, h3, h4⟩ := hu
 have hlm : (l.map (Value.int .i64)).length = l.length := by simp
 have hsrc : Src Tryz.prog i.size 59 (.slice uo l.length uc) l.length (l.map (Value.int .i64)) w := by
  rw [hs]
  cases uo with
  | none =>
   have hl : l = [] := by
    cases l with
    | nil => rfl
    | cons x l =>
     obtain ⟨b, off, e, _⟩ := h4 (by simp)
     cases e
   subst hl
   exact Src.ofNil w ht uc
  | some a =>
   refine Src.ofSlice w ht a l.length uc _ (by simp) (fun j u hj => ?_) (Ji l)
   rw [List.getElem?_map, Option.map_eq_some_iff] at hj
   obtain ⟨y, hy, rfl⟩ := hj
   obtain ⟨b, off, e, h5⟩ := h4 (by have := (gL hy); omega)
   cases e
   rw [Addr.add_lit]
   exact h5 j y hy
 by_cases hl0 : l = []
 {subst hl0
  obtain ⟨ao, cap, rfl, hle, _⟩ := hq.shape
  have hr := run_append_nothing w 59 59 ty 3 i ht hi ao xs.length cap hle _ hsrc
  refine ⟨_, w, hr, by simpa using hq, Ch.refl _ _, .inl rfl⟩}
 have h0 : 0 < l.length := List.length_pos_iff.2 hl0
 have grow : ∀ (base' : Option Addr) (cap : Nat), cap < xs.length + l.length → (Builtin.firstCells i.size xs.length (.slice base' xs.length cap)).run Tryz.prog w.drew = .ok (xs.map (Value.int .i64)).toArray w.drew → xs.length ≤ cap →
  ∃ v' w', (Builtin.append_ #[59, 59] ty #[.slice base' xs.length cap, .slice uo l.length uc]).run Tryz.prog w = .ok v' w' ∧ Dl w' base v' (xs ++ l) ∧ Ch (fun k _ => (Value.slice base' xs.length cap).ownBlock = some k) w w' ∧
   (v'.ownBlock = (Value.slice base' xs.length cap).ownBlock ∨ v'.ownBlock = some w.heap.size) := by
  intro base' cap hc hold hnc
  have hr := run_append_grow_src w 59 59 ty 3 i _ ht hi hz base' xs.length cap _ hold _ l.length _ hsrc hc (by omega) (by rw [hby]; exact growslice_fits (by omega) (by omega))
  have hG1 := grownCap_ge w (xs.length + l.length) cap 3
  have hG2 := grownCap_le_maxLen w (xs.length + l.length) cap 3 (by omega)
  generalize grownCap w (xs.length + l.length) cap 3 = G at hr hG1 hG2
  have e1 : (Value.int .i64 0).cells.size = 1 := rfl
  refine ⟨_, _, hr, .inr ⟨w.heap.size, 0, G, _, by rw [List.length_append], hbase, heap_alloc_new w.drew _, by rw [List.length_append]; exact hG1, hG2, ?_, fun j x hx => ?_⟩, ((Ch.refl _ w).drew).alloc _, .inr rfl⟩
  {rw [Array.size_append, size_zeroCells, e1]
   simp
   omega}
  {have hj := (gL hx)
   rw [Nat.zero_add, ← Array.getElem?_toList, Array.toList_append]
   show ((xs.map (Value.int .i64) ++ l.map (Value.int .i64)) ++ _)[j]? = _
   rw [← List.map_append, List.getElem?_append_left (by rw [List.length_map]; exact hj), List.getElem?_map, hx]
   rfl}
 rcases hq with ⟨rfl, rfl⟩ | ⟨g, off, cap, cur, rfl, hg, hh, hcap, hmax, hcs, hct⟩
 {exact grow none 0 (by simpa using h0) (run_firstCells_none w.drew i.size 0 0 0) (Nat.le_refl _)}
 {by_cases hroom : xs.length + l.length ≤ cap
  {have hr := run_append_room_src w 59 59 ty 3 i ht hi g off xs.length cap _ l.length _ hsrc hroom
    (fun j hj => by rw [hs, Ab hh, Array.getElem?_eq_getElem (by rw [hlm] at hj; omega)]; rfl) (fun j hj => Ad hh _)
   rw [hs, Nat.mul_one] at hr
   obtain ⟨cur', k1, k2, k3⟩ := B7 (l.map (Value.int .i64)) (off + xs.length) w cur hh (by rw [hlm]; omega)
   refine ⟨_, _, hr, .inr ⟨g, off, cap, cur', by rw [List.length_append], hg, k1, by rw [List.length_append]; exact hroom, hmax, by omega, fun j x hx => ?_⟩, (Bq (b := g) _ _ _).mono (fun k _ _ e => by rw [e]; rfl), .inl rfl⟩
   rw [← Array.getElem?_toList, k3]
   have hcl : cur.toList.length = cur.size := by simp
   by_cases hj : j < xs.length
   {rw [List.append_assoc, List.getElem?_append_left (by rw [List.length_take]; omega), List.getElem?_take, if_pos (by omega), Array.getElem?_toList]
    exact hct j x (by rw [List.getElem?_append_left hj] at hx; exact hx)}
   {rw [List.getElem?_append_right (by omega)] at hx
    have hj2 := (gL hx)
    rw [List.append_assoc, List.getElem?_append_right (by rw [List.length_take]; omega), List.length_take, Nat.min_eq_left (by omega), show off + j - (off + xs.length) = j - xs.length from by omega,
     List.getElem?_append_left (by rw [hlm]; exact hj2), List.getElem?_map, hx]
    rfl}}
  {refine grow (some ⟨g, off, none⟩) cap (by omega) ?_ hcap
   rw [hs]
   exact run_firstCells_some w.drew 1 xs.length ⟨g, off, none⟩ xs.length cap _ (by simp) (fun j v hj => by
    rw [List.getElem?_map, Option.map_eq_some_iff] at hj
    obtain ⟨y, hy, rfl⟩ := hj
    rw [Addr.add_lit]
    show w.cell? _ = _
    rw [Ab hh]
    exact hct j y hy)}}
theorem Lh {w : World} {ops : Array Oper} {rest : List Oper} {o : Oper} {a : Act} {Q : Exit → Act → World → Prop} (hgd : o.guard = none) (s x : Operand)
 (ho : o.op = .call { callee := .builtin .append, args := #[s, x], argTypes := #[59, 59] }) (base : Nat) (v : Value) (xs l : List Int) (hsv : a.eval s = v) (hq : Dl w base v xs)
 (u : Value) (hxv : a.eval x = u) (hu : A9 w u l) (hb : xs.length + l.length ≤ 10000000) (hbase : base ≤ w.heap.size)
 (hK : ∀ v' w', Dl w' base v' (xs ++ l) → Ch (fun k _ => v.ownBlock = some k) w w' → (v'.ownBlock = v.ownBlock ∨ v'.ownBlock = some w.heap.size) → wpList Tryz.prog ops Q rest (a.put o.dst v') w') :
 wpList Tryz.prog ops Q (o :: rest) a w := by
 refine wpList_plain hgd fun K hK' => ?_
 obtain ⟨v', w', hr, h1, h2, h3⟩ := Nh w base v xs hq u l hu hb hbase o.type
 unfold Oper.wp
 simp [execOp, ho, resolve, invoke, builtin, hsv, hxv, hr, Result.andThen]
 exact hK' _ _ (hK v' w' h1 h2 h3)
structure Ig (cs : List Aj) (i : Nat) (sl : List Int) (tl : List Nat) : Prop where
 seen : ∀ z ∈ sl, ∃ k : Nat, z = k ∧ k < cs.length ∧ k ≠ i ∧ Gr.Reach (Az cs) i k
 todo : ∀ k ∈ tl, k < cs.length ∧ Gr.Reach (Az cs) i k
 own : ∀ x ∈ Az cs i, (x : Int) ∈ sl ∨ x ∈ tl
 cl : ∀ k : Nat, (k : Int) ∈ sl → ∀ x ∈ Az cs k, (x : Int) ∈ sl ∨ x ∈ tl
theorem Ig.start (cs : List Aj) (i : Nat) : Ig cs i [] (Az cs i) :=
 ⟨by simp, fun k hk => ⟨Dq cs i k hk, .one hk⟩, fun x hx => .inr hx, fun k hk => by cases hk⟩
theorem Ig.done {cs : List Aj} {i : Nat} {sl : List Int} (h : Ig cs i sl []) : ¬ Gr.Reach (Az cs) i i := by
 intro hr
 have key : ∀ {a b : Nat}, Gr.Reach (Az cs) a b → (a = i ∨ (a : Int) ∈ sl) → (b : Int) ∈ sl := by
  intro a b hab
  induction hab with
  | one h1 =>
   rintro (e | e)
   {subst e; exact (h.own _ h1).resolve_right (by simp)}
   {exact (h.cl _ e _ h1).resolve_right (by simp)}
  | step h1 _ ih =>
   rintro (e | e)
   {subst e; exact ih (.inr ((h.own _ h1).resolve_right (by simp)))}
   {exact ih (.inr ((h.cl _ e _ h1).resolve_right (by simp)))}
 obtain ⟨k, e, _, hk, _⟩ := h.seen _ (key hr (.inl rfl))
 exact hk (by omega)
theorem Ig.old {cs : List Aj} {i k : Nat} {sl : List Int} {tl : List Nat} (h : Ig cs i sl (k :: tl)) (hk : (k : Int) ∈ sl) : Ig cs i sl tl := by
 have key : ∀ x : Nat, ((x : Int) ∈ sl ∨ x ∈ k :: tl) → (x : Int) ∈ sl ∨ x ∈ tl := by
  rintro x (h1 | h1)
  {exact .inl h1}
  {rcases List.mem_cons.1 h1 with rfl | h1
   {exact .inl hk}
   {exact .inr h1}}
 exact ⟨h.seen, fun x hx => h.todo x (by simp [hx]), fun x hx => key x (h.own x hx), fun j hj x hx => key x (h.cl j hj x hx)⟩
theorem Ig.new {cs : List Aj} {i k : Nat} {sl : List Int} {tl : List Nat} (h : Ig cs i sl (k :: tl)) (hn : cs.length ≤ 20) (hki : k ≠ i) : Ig cs i (Cq sl (k : Int)) (tl ++ Az cs k) := by
 obtain ⟨hkn, hkr⟩ := h.todo k (by simp)
 have hm : ∀ z : Int, z ∈ Cq sl (k : Int) ↔ z ∈ sl ∨ z = k := by
  intro z
  rw [Fa]
  constructor
  {rintro (h | h)
   {exact .inl h}
   {exact .inr h.1}}
  {rintro (h | h)
   {exact .inl h}
   {exact .inr ⟨h, by omega, by omega⟩}}
 have key : ∀ x : Nat, ((x : Int) ∈ sl ∨ x ∈ k :: tl) → (x : Int) ∈ Cq sl (k : Int) ∨ x ∈ tl ++ Az cs k := by
  rintro x (h1 | h1)
  {exact .inl ((hm _).2 (.inl h1))}
  {rcases List.mem_cons.1 h1 with rfl | h1
   {exact .inl ((hm _).2 (.inr rfl))}
   {exact .inr (by simp [h1])}}
 refine ⟨fun z hz => ?_, fun x hx => ?_, fun x hx => key x (h.own x hx), fun j hj x hx => ?_⟩
 {rcases (hm z).1 hz with hz | rfl
  {exact h.seen z hz}
  {exact ⟨k, rfl, hkn, hki, hkr⟩}}
 {rcases List.mem_append.1 hx with hx | hx
  {exact h.todo x (by simp [hx])}
  {exact ⟨Dq cs k x hx, hkr.snoc hx⟩}}
 {rcases (hm _).1 hj with hj | hj
  {exact key x (h.cl j hj x hx)}
  {have : j = k := by omega
   subst this
   exact .inr (by simp [hx])}}
theorem Ig.len {cs : List Aj} {i : Nat} {sl : List Int} {tl : List Nat} (h : Ig cs i sl tl) (hg : Eu sl) : sl.length ≤ cs.length := by
 have := Gr.nodup_sub sl ((List.range cs.length).map (fun j : Nat => (j : Int))) (hg.1.imp (fun h => by omega)) (fun z hz => by
  obtain ⟨k, rfl, hk, _⟩ := h.seen z hz
  exact List.mem_map.2 ⟨k, by simpa using hk, rfl⟩)
 simpa using this
theorem Ih {cs : List Aj} (hsm : Df cs) (k : Nat) : (Az cs k).length ≤ 11 := by
 unfold Az
 cases hc : cs[k]? with
 | none => simp
 | some c =>
  have h1 := List.length_filterMap_le (As cs) c.ups
  have h2 := hsm.2 c (mG hc)
  have h3 : c.ups.length ≤ 11 := by
   unfold Aj.ups
   rw [List.length_append]
   split <;> simp <;> omega
  exact Nat.le_trans h1 h3
def To (cs : List Aj) (i : Nat) (w : World) (e : Ending) (w' : World) : Prop := (Gr.Reach (Az cs) i i ∧ e = .returned (.bool true) ∨ ¬ Gr.Reach (Az cs) i i ∧ e = .returned (.bool false)) ∧ Ch No w w'
theorem zt6 {p : Prop} (h : p := by
 have hlt3 := HS3.out.lt
 have hc4s := HC4.out.size
 have hl2 := HL1.out
 have hg1sb : g1 ≠ sb := fun e => HD.out.2 (by rw [e]; rfl)
 have hg1ob : ∀ o, ob3 = some o → o ≠ g1 := fun o ho e => by
  rcases HO3.out with e2 | ⟨g, e2, hg⟩
  {exact (HD.out.1 o (e2 ▸ ho)).2 (by rw [e]; rfl)}
  {rw [e2] at ho; cases ho; omega}
 refine ⟨Cq sl (k : Int), ob3, tl ++ Az cs k, by rw [List.length_append]; omega, Aa (HI.out.new HM.out.1 hki'), Aa ((HS3.out.no HC4.out).ch HC5.out (fun o e => hg1sb (hgb _ e).symm) (fun b o hb e => hg1ob b hb (hgb _ e))), Aa (by rw [List.map_append]; exact HQ5.out), Aa ((HCW3.out.trans HC4.out).trans' HC5.out (fun j o hj e => ?_)), Aa ⟨fun o ho => ⟨?_, ?_⟩, ?_⟩, Aa (by have := HTL.out; simp only [List.length_cons] at this; rw [List.length_append]; omega)⟩
 {have := hgb _ e
  have := Ac hj
  have := (HQ6.out.lt g1 rfl).1
  omega}
 {rcases HO3.out with e | ⟨g, e, hg⟩
  {exact (HD.out.1 o (e ▸ ho)).1}
  {rw [e] at ho; cases ho; have := HC.out.size; omega}}
 {intro e
  rcases HB5.out with h | h
  {rw [h] at e; exact hg1ob o ho (hgb _ e)}
  {rw [h] at e; cases e; have := hlt3.2 _ ho; omega}}
 {intro e
  rcases HB5.out with h | h
  {rw [h] at e; exact hg1sb (hgb _ e).symm}
  {rw [h] at e; cases e; have := hlt3.1; omega}}
 ) : p := h
theorem zt7 {p : Prop} (h : p := by
 refine ⟨sl, ob3, tl, Nat.le_refl _, Aa (HI.out.old HKS.out), HS3, Aa (HQ6.out.ch HC3.out (fun g o hg _ => hso g o hg)), Aa (HC.out.trans' HC3.out (fun j o hj hs => ?_)), Aa ⟨fun o ho => ?_, HD.out.2⟩, Aa (by have := HTL.out; simp only [List.length_cons] at this; omega)⟩
 {have := Ac hj
  rcases hs with e | e
  {omega}
  {have := (HD.out.1 j e).1; omega}}
 {rcases HO3.out with e | ⟨g, e, hg⟩
  {exact HD.out.1 o (e ▸ ho)}
  {rw [e] at ho; cases ho
   exact ⟨by have := HC.out.size; omega, fun e => by have e' : g1 = o := by simpa [Value.ownBlock] using e
                                                     omega⟩}}
 ) : p := h
theorem Zo {w : World} {tb : Nat} {T : E1} {cs : List Aj} (h : Ct w tb T) (hK : Nf cs T) (hS : B2 cs) (hsm : Df cs) {i : Nat} (hi : i < cs.length) :
 Calls Tryz.prog 74 #[.pointer (some ⟨tb, 0, none⟩), .int .i64 i] w (To cs i w) := by
 have hof := sof (A9.nil w)
 have hrt := fun (wr : World) (hr : Ch No w wr) (k : Nat) (hk : k < cs.length) => show Calls Tryz.prog 49 #[.pointer (some ⟨tb, 0, none⟩), .int .i64 k] wr (fun e w' => ∃ u, e = .returned u ∧ Al w' wr.heap.size u ((Az cs k).map (fun j : Nat => (j : Int))) ∧ Ch No wr w') by
  obtain ⟨c, hc⟩ : ∃ c, cs[k]? = some c := ⟨_, List.getElem?_eq_getElem hk⟩
  obtain ⟨x, hx⟩ := gE (l := T.ks) (i := k) (by rw [hK.len]; exact hk)
  have hfl : x.fs.length ≤ 1000000 := by
   obtain ⟨_, _, _, h4⟩ := hK.row k c x hc hx
   rw [h4, List.length_map]; have := hsm.2 c (mG hc); omega
  have := L1 (h.no hr) hx hfl
  rw [L3 hK hc hx (hS k c hc)] at this
  exact this
 have HRT := Aa hrt
 have HM := Aa hsm
 have hn20 := hsm.1
 clear hrt hsm h hK hS
 go_in
 go_wp2_with fail
 refine hof.mono ?_
 rintro e w1 ⟨u, rfl, hs, hc1⟩
 obtain ⟨sb, ob, rfl, hset, hr, hr'⟩ := hs.openIt
 have hr1 := HRT.out w1 hc1 i hi
 have HS0 := Aa hset
 have HC1 := Aa hc1
 clear hof hs hset hc1
 go_wp2_with fail
 refine hr1.mono ?_
 rintro e w2 ⟨u, rfl, hu, hc2⟩
 have hub : ∀ g, u.ownBlock = some g → w1.heap.size ≤ g := fun g hg => (hu.lt g hg).1
 have hq0 := (hu.base HC1.out.size).q
 have HQ0 := Aa hq0
 have HS2 := Aa (HS0.out.no hc2)
 have HC2 := Aa (HC1.out.trans hc2)
 have HD0 := Aa (show (∀ o, ob = some o → w.heap.size ≤ o ∧ u.ownBlock ≠ some o) ∧ u.ownBlock ≠ some sb from ⟨fun o ho => ⟨(hr' o ho).1, fun e => by have := hub o e; have := (hr' o ho).2; omega⟩, fun e => by have := hub sb e; omega⟩)
 clear hr1 hu hc2 hq0 hub
 go_wp2
 go_loopg [6] (cs.length * 12 + 12) (fun g s6 wr => ∃ (sl : List Int) (ob : Option Nat) (tl : List Nat), (cs.length - sl.length) * 12 + tl.length ≤ g ∧ Hid (Ig cs i sl tl) ∧ Hid (Br wr sb sl ob) ∧ Hid (Dl wr w.heap.size s6 (tl.map (fun j : Nat => (j : Int)))) ∧ Hid (Ch No w wr) ∧ Hid ((∀ o, ob = some o → w.heap.size ≤ o ∧ s6.ownBlock ≠ some o) ∧ s6.ownBlock ≠ some sb) ∧ Hid ((cs.length - sl.length) * 12 + tl.length ≤ 300))
 case atStart => exact ⟨[], ob, Az cs i, by have := Ih HM.out i; simp; omega, Aa (.start cs i), HS2, HQ0, HC2, HD0, Aa (by have := Ih HM.out i; simp; omega)⟩
 case round =>
  obtain ⟨sl, ob2, tl, hg, HI, HSE, HQ, HC, HD, HTL⟩ := hrel
  cases tl with
  | nil =>
   obtain ⟨ao, cap, rfl, _, hmx⟩ := HQ.out.shape
   rw [List.map_nil, List.length_nil]
   go_wp2
   go_ret
   exact ⟨.inr ⟨HI.out.done, rfl⟩, HC.out⟩
  | cons k tl =>
   obtain ⟨hkn, hkr⟩ := HI.out.todo k (by simp)
   obtain ⟨g1, off, cap, rfl, hcap, hmx, hcell, h1, h2⟩ := Dl.head (show Dl wr w.heap.size _ ((k : Int) :: tl.map (fun j : Nat => (j : Int))) from HQ.out)
   rw [List.length_map] at hcap h1 h2 HD ⊢
   unfold maxLen at hmx
   have hg1 : g1 < wr.heap.size := block_lt_of_cell hcell
   have HKR := Aa hkr
   clear hkr
   cases hki : ((k : Int) == (i : Int)) with
   | true =>
    have e : k = i := by
     have : (k : Int) = (i : Int) := by simpa using hki
     omega
    have HR := Aa (show Gr.Reach (Az cs) i i from e ▸ HKR.out)
    clear e
    by_cases hc1' : cap = 1
    {have h0 : tl.length = 0 := by omega
     subst hc1'
     rw [h0]
     clear h0 h1 h2
     go_wp2
     go_ret
     exact ⟨.inl ⟨HR.out, rfl⟩, HC.out⟩}
    {clear h1 h2
     go_wp2
     go_ret
     exact ⟨.inl ⟨HR.out, rfl⟩, HC.out⟩}
   | false =>
    have hki' : k ≠ i := by
     intro e; subst e; simp at hki
    by_cases hc1' : cap = 1
    {have h0 : tl.length = 0 := by omega
     subst hc1'
     have hq6 := h1 rfl
     rw [h0] at hq6 HD ⊢
     have HQ6 := Aa hq6
     have H0 := Aa h0
     clear h0 h1 h2 hq6
     by_cases hks : (k : Int) ∈ sl
     {have hadd : Calls Tryz.prog 112 #[.pointer (some ⟨sb, 0, none⟩), .int .i64 (k : Int)] wr (fun e w' => e = .returned (.bool false) ∧ ∃ ob', Br w' sb sl ob' ∧ Ch (So sb ob2) wr w' ∧ (ob' = ob2 ∨ ∃ g, ob' = some g ∧ wr.heap.size ≤ g)) :=
       (Rz HSE.out (k : Int)).mono fun e w' ⟨he, ob', h1, h2, h3⟩ => ⟨he.trans (Bn (by simp [hks])), ob', by rw [Fc (fun h => h.2.2 hks)] at h1; exact h1, h2, h3⟩
      have HKS := Aa hks
      clear hks
      go_wp2_with fail
      refine hadd.mono ?_
      rintro e w3 ⟨rfl, ob3, hs3, hc3, ho3⟩
      have HS3 := Aa hs3
      have HC3 := Aa hc3
      have HO3 := Aa ho3
      clear hadd hs3 hc3 ho3
      go_wp2
      go_roundg ((cs.length - sl.length) * 12 + tl.length)
      case rel =>
       have hso : ∀ g o, (.slice (some ⟨g1, off, none⟩) 0 0 : Value).ownBlock = some g → ¬ So sb ob2 g o := by
        rintro g o hg (e | e)
        {exact HD.out.2 (by rw [← e, ← hg]; rfl)}
        {exact (HD.out.1 g e).2 (by rw [← hg]; rfl)}
       exact zt7
      case measure => simp only [List.length_cons] at hg; omega}
     {have hl1 := Fb (l := sl) (n := (k : Int)) (by omega) (by omega) hks
      have hadd : Calls Tryz.prog 112 #[.pointer (some ⟨sb, 0, none⟩), .int .i64 (k : Int)] wr (fun e w' => e = .returned (.bool true) ∧ ∃ ob', Br w' sb (Cq sl (k : Int)) ob' ∧ Ch (So sb ob2) wr w' ∧ (ob' = ob2 ∨ ∃ g, ob' = some g ∧ wr.heap.size ≤ g)) :=
       (Rz HSE.out (k : Int)).mono fun e w' ⟨he, ob', h1, h2, h3⟩ => ⟨he.trans (Bn (by simp [hks]; omega)), ob', h1, h2, h3⟩
      have HKS := Aa hks
      have HL1 := Aa hl1
      clear hks hl1
      go_wp2_with fail
      refine hadd.mono ?_
      rintro e w3 ⟨rfl, ob3, hs3, hc3, ho3⟩
      have hso : ∀ g o, (.slice (some ⟨g1, off, none⟩) 0 0 : Value).ownBlock = some g → ¬ So sb ob2 g o := by
       rintro g o hg (e | e)
       {exact HD.out.2 (by rw [← e, ← hg]; rfl)}
       {exact (HD.out.1 g e).2 (by rw [← hg]; rfl)}
      have hcw3 : Ch No w w3 := HC.out.trans' hc3 (fun j o hj hs => by
       have := Ac hj
       rcases hs with e | e
       {omega}
       {have := (HD.out.1 j e).1; omega})
      have hr3 := HRT.out w3 hcw3 k hkn
      have HS3 := Aa hs3
      have HQ3 := Aa (HQ6.out.ch hc3 (fun g o hg _ => hso g o hg))
      have HCW3 := Aa hcw3
      have HO3 := Aa ho3
      have hz3 := hc3.size
      clear hadd hs3 hc3 ho3 hso hcw3
      go_wp2_with fail
      refine hr3.mono ?_
      rintro e w4 ⟨u4, rfl, hu4, hc4⟩
      have HU4 := Aa hu4.at_
      have HC4 := Aa hc4
      have hbb : (tl.map (fun j : Nat => (j : Int))).length + ((Az cs k).map (fun j : Nat => (j : Int))).length ≤ 10000000 := by
       have := Ih HM.out k
       have := HTL.out
       simp only [List.length_cons] at this
       rw [List.length_map, List.length_map]
       omega
      have hz4 : w.heap.size ≤ w4.heap.size := by have := HCW3.out.size; have := hc4.size; omega
      clear hr3 hu4 hc4
      go_wp2_with (at_builtin; go_must (refine Lh rfl _ _ rfl w.heap.size (.slice (some ⟨g1, off, none⟩) 0 0) (tl.map (fun j : Nat => (j : Int))) ((Az cs k).map (fun j : Nat => (j : Int))) rfl (HQ3.out.ch HC4.out (fun _ _ _ _ h => h)) u4 rfl HU4.out hbb hz4 ?_))
      intro v5 w5 hq5 hc5 hb5
      have HQ5 := Aa hq5
      have HC5 := Aa hc5
      have HB5 := Aa hb5
      clear hq5 hc5 hb5
      go_wp2
      go_roundg ((cs.length - sl.length) * 12 + tl.length)
      case rel =>
       have hnl := (HI.out.new HM.out.1 hki').len (HS3.out.v.good)
       have h11 := Ih HM.out k
       have hgb : ∀ g, (.slice (some ⟨g1, off, none⟩) 0 0 : Value).ownBlock = some g → g = g1 := fun g hg => by
        have : g1 = g := by simpa [Value.ownBlock] using hg
        exact this.symm
       exact zt6
      case measure => simp only [List.length_cons] at hg; omega}}
    {have hq6 := h2 (by omega)
     have HQ6 := Aa hq6
     clear h1 h2 hq6
     by_cases hks : (k : Int) ∈ sl
     {have hadd : Calls Tryz.prog 112 #[.pointer (some ⟨sb, 0, none⟩), .int .i64 (k : Int)] wr (fun e w' => e = .returned (.bool false) ∧ ∃ ob', Br w' sb sl ob' ∧ Ch (So sb ob2) wr w' ∧ (ob' = ob2 ∨ ∃ g, ob' = some g ∧ wr.heap.size ≤ g)) :=
       (Rz HSE.out (k : Int)).mono fun e w' ⟨he, ob', h1, h2, h3⟩ => ⟨he.trans (Bn (by simp [hks])), ob', by rw [Fc (fun h => h.2.2 hks)] at h1; exact h1, h2, h3⟩
      have HKS := Aa hks
      clear hks
      go_wp2_with fail
      refine hadd.mono ?_
      rintro e w3 ⟨rfl, ob3, hs3, hc3, ho3⟩
      have HS3 := Aa hs3
      have HC3 := Aa hc3
      have HO3 := Aa ho3
      clear hadd hs3 hc3 ho3
      go_wp2
      go_roundg ((cs.length - sl.length) * 12 + tl.length)
      case rel =>
       have hso : ∀ g o, (.slice (some ⟨g1, off + 1, none⟩) tl.length (cap - 1) : Value).ownBlock = some g → ¬ So sb ob2 g o := by
        rintro g o hg (e | e)
        {exact HD.out.2 (by rw [← e, ← hg]; rfl)}
        {exact (HD.out.1 g e).2 (by rw [← hg]; rfl)}
       exact zt7
      case measure => simp only [List.length_cons] at hg; omega}
     {have hl1 := Fb (l := sl) (n := (k : Int)) (by omega) (by omega) hks
      have hadd : Calls Tryz.prog 112 #[.pointer (some ⟨sb, 0, none⟩), .int .i64 (k : Int)] wr (fun e w' => e = .returned (.bool true) ∧ ∃ ob', Br w' sb (Cq sl (k : Int)) ob' ∧ Ch (So sb ob2) wr w' ∧ (ob' = ob2 ∨ ∃ g, ob' = some g ∧ wr.heap.size ≤ g)) :=
       (Rz HSE.out (k : Int)).mono fun e w' ⟨he, ob', h1, h2, h3⟩ => ⟨he.trans (Bn (by simp [hks]; omega)), ob', h1, h2, h3⟩
      have HKS := Aa hks
      have HL1 := Aa hl1
      clear hks hl1
      go_wp2_with fail
      refine hadd.mono ?_
      rintro e w3 ⟨rfl, ob3, hs3, hc3, ho3⟩
      have hso : ∀ g o, (.slice (some ⟨g1, off + 1, none⟩) tl.length (cap - 1) : Value).ownBlock = some g → ¬ So sb ob2 g o := by
       rintro g o hg (e | e)
       {exact HD.out.2 (by rw [← e, ← hg]; rfl)}
       {exact (HD.out.1 g e).2 (by rw [← hg]; rfl)}
      have hcw3 : Ch No w w3 := HC.out.trans' hc3 (fun j o hj hs => by
       have := Ac hj
       rcases hs with e | e
       {omega}
       {have := (HD.out.1 j e).1; omega})
      have hr3 := HRT.out w3 hcw3 k hkn
      have HS3 := Aa hs3
      have HQ3 := Aa (HQ6.out.ch hc3 (fun g o hg _ => hso g o hg))
      have HCW3 := Aa hcw3
      have HO3 := Aa ho3
      have hz3 := hc3.size
      clear hadd hs3 hc3 ho3 hso hcw3
      go_wp2_with fail
      refine hr3.mono ?_
      rintro e w4 ⟨u4, rfl, hu4, hc4⟩
      have HU4 := Aa hu4.at_
      have HC4 := Aa hc4
      have hbb : (tl.map (fun j : Nat => (j : Int))).length + ((Az cs k).map (fun j : Nat => (j : Int))).length ≤ 10000000 := by
       have := Ih HM.out k
       have := HTL.out
       simp only [List.length_cons] at this
       rw [List.length_map, List.length_map]
       omega
      have hz4 : w.heap.size ≤ w4.heap.size := by have := HCW3.out.size; have := hc4.size; omega
      clear hr3 hu4 hc4
      go_wp2_with (at_builtin; go_must (refine Lh rfl _ _ rfl w.heap.size (.slice (some ⟨g1, off + 1, none⟩) tl.length (cap - 1)) (tl.map (fun j : Nat => (j : Int))) ((Az cs k).map (fun j : Nat => (j : Int))) rfl (HQ3.out.ch HC4.out (fun _ _ _ _ h => h)) u4 rfl HU4.out hbb hz4 ?_))
      intro v5 w5 hq5 hc5 hb5
      have HQ5 := Aa hq5
      have HC5 := Aa hc5
      have HB5 := Aa hb5
      clear hq5 hc5 hb5
      go_wp2
      go_roundg ((cs.length - sl.length) * 12 + tl.length)
      case rel =>
       have hnl := (HI.out.new HM.out.1 hki').len (HS3.out.v.good)
       have h11 := Ih HM.out k
       have hgb : ∀ g, (.slice (some ⟨g1, off + 1, none⟩) tl.length (cap - 1) : Value).ownBlock = some g → g = g1 := fun g hg => by
        have : g1 = g := by simpa [Value.ownBlock] using hg
        exact this.symm
       exact zt6
      case measure => simp only [List.length_cons] at hg; omega}}
theorem Tryz.infoKind : (Tryz.prog.info? 147).map (fun i => (i.zero.map (fun z => z.cells.size), i.size, i.bytes)) = some (some 4, 4, 56) := by kernel_rfl
theorem Tryz.sliceKind : Tryz.prog.underlying 143 = some (.slice 147) := by kernel_rfl
structure Bz (w : World) (base : Nat) (v : Value) (ks : List C6) : Prop where
 row : w.ownsRow base 147 4 v ks.length (ks.flatMap C6.cells)
 fs : ∀ k ∈ ks, Al w base (.slice k.fa k.fs.length k.fc) k.fs
theorem Bz.nil (w : World) (base : Nat) : Bz w base (.slice none 0 0) [] := ⟨World.ownsRow_nil _ _ _ _, fun k hk => by cases hk⟩
theorem Bz.ch {S : Nat → Obj → Prop} {w w' : World} {base : Nat} {v : Value} {ks : List C6} (h : Bz w base v ks) (hc : Ch S w w') (hS : ∀ g o, base ≤ g → ¬ S g o) : Bz w' base v ks :=
 ⟨An h.row hc (fun g cur _ hg _ => hS g _ hg), fun k hk => (h.fs k hk).ch hc (fun g o _ hg _ => hS g o hg)⟩
theorem Bz.no {w w' : World} {base : Nat} {v : Value} {ks : List C6} (h : Bz w base v ks) (hc : Ch No w w') : Bz w' base v ks := h.ch hc (fun _ _ _ h => h)
theorem Bz.lt {w : World} {base : Nat} {v : Value} {ks : List C6} (h : Bz w base v ks) : ∀ g, v.ownBlock = some g → base ≤ g ∧ ∃ cur, w.heap[g]? = some (.cells cur 147 (0, 0)) := by
 intro g hg
 rcases h.row.2 with ⟨rfl, _⟩ | ⟨g', cap, cur, rfl, h2, h3, _⟩
 {simp [Value.ownBlock] at hg}
 {have e : g' = g := by simpa [Value.ownBlock] using hg
  subst e
  exact ⟨h2, cur, h3⟩}
theorem Al.typed {w : World} {base : Nat} {v : Value} {l : List Int} (h : Al w base v l) : ∀ g, v.ownBlock = some g → ∃ cur, w.heap[g]? = some (.cells cur 3 (0, 0)) := by
 intro g hg
 rcases h.2 with ⟨rfl, _⟩ | ⟨g', cap, cur, rfl, h2, h3, _⟩
 {simp [Value.ownBlock] at hg}
 {have e : g' = g := by simpa [Value.ownBlock] using hg
  subst e
  exact ⟨cur, h3⟩}
theorem C6.cells_len (k : C6) : k.cells.length = 4 := rfl
theorem Bz.shape {w : World} {base : Nat} {v : Value} {ks : List C6} (h : Bz w base v ks) : ∃ ao cap, v = .slice ao ks.length cap ∧ ks.length ≤ cap ∧ cap ≤ maxLen := by
 rcases h.row.2 with ⟨rfl, h0⟩ | ⟨g, cap, cur, rfl, _, _, h4, h5, _⟩
 {rw [h0]; exact ⟨_, _, rfl, Nat.le_refl _, Nat.zero_le _⟩}
 {exact ⟨_, _, rfl, h4, h5⟩}
theorem Bz.at_ {w : World} {base : Nat} {v : Value} {ks : List C6} (h : Bz w base v ks) : El w v ks := by
 refine ⟨?_, fun k hk => (h.fs k hk).at_⟩
 rcases h.row.2 with ⟨rfl, h0⟩ | ⟨g, cap, cur, rfl, hg, hh, h4, h5, h6, h7⟩
 {have : ks = [] := List.length_eq_zero_iff.1 h0
  subst this
  exact ⟨none, 0, rfl, Nat.le_refl _, Nat.zero_le _, by simp, fun h => by simp at h⟩}
 {refine ⟨some ⟨g, 0, none⟩, cap, by rw [List.length_map], by rw [List.length_map]; exact h4, h5, fun c hc => ?_, fun _ => ⟨g, 0, rfl, fun i c hi j hj => ?_⟩⟩
  {obtain ⟨k, _, rfl⟩ := List.mem_map.1 hc
   rfl}
  {rw [List.getElem?_map] at hi
   cases hk : ks[i]? with
   | none => rw [hk] at hi; cases hi
   | some k =>
    rw [hk] at hi
    have : c = k.cells := by simpa using hi.symm
    subst this
    have hil := (gL hk)
    rw [Ab hh, Nat.zero_add, ← Array.getElem?_toList]
    have hf := E9 C6.cells 4 C6.cells_len ks i j k hk hj
    rw [← h7, List.getElem?_take, if_pos (by omega)] at hf
    exact hf}}
theorem Ni (w : World) (base : Nat) (v : Value) (ks : List C6) (hown : Bz w base v ks) (k : C6) (b c : Nat) (hb : w.heap[b]? = some (.cells #[.string k.name, .bool k.face, .int .i64 k.sup, .slice k.fa k.fs.length k.fc] 147 (0, 0)))
 (hn : ks.length ≤ 1000) (hbase : base ≤ w.heap.size) (hfs : Al w base (.slice k.fa k.fs.length k.fc) k.fs) (ty : TypeId) :
 ∃ v' w', (Builtin.append_ #[143, 143] ty #[v, .slice (some ⟨b, 0, none⟩) 1 c]).run Tryz.prog w = .ok v' w' ∧ Bz w' base v' (ks ++ [k]) ∧ Ch (fun j _ => v.ownBlock = some j) w w' := by
 obtain ⟨i, z, hi, hz, h1, h2, h3⟩ := Hz Tryz.infoKind
 have hm : maxLen = 9223372036854775807 := rfl
 obtain ⟨v', w', hr, ho, hg, _⟩ := run_append_own (P := Tryz.prog) w base 143 ty 147 i z 4 56 Tryz.sliceKind hi hz h2 h3 h1 (by decide) v ks.length _ hown.row ⟨b, 0, none⟩ 1 c k.cells rfl
  (fun j u hj => by
   rw [Addr.add_lit, Ab hb, Nat.zero_add]
   have : k.cells[j]? = (#[.string k.name, .bool k.face, .int .i64 k.sup, .slice k.fa k.fs.length k.fc] : Array Value)[j]? := by
    rw [← Array.getElem?_toList]; rfl
   rw [← this]; exact hj) (by intro u hu; simp [C6.cells] at hu; rcases hu with rfl | rfl | rfl | rfl <;> rfl) (by omega) (by omega) hbase
 have hch : Ch (fun j _ => v.ownBlock = some j) w w' := (Ch.refl _ w).grown hg (fun _ _ h _ => h)
 refine ⟨v', w', hr, ⟨?_, fun x hx => ?_⟩, hch⟩
 {rw [List.length_append, List.flatMap_append]
  simpa using ho}
 {have hx' : Al w base (.slice x.fa x.fs.length x.fc) x.fs := by
   rcases List.mem_append.1 hx with hx | hx
   {exact hown.fs x hx}
   {have : x = k := by simpa using hx
    subst this; exact hfs}
  refine hx'.ch hch (fun g o hg hbg ho e => ?_)
  obtain ⟨cur, h5⟩ := hx'.typed g hg
  obtain ⟨_, cur2, h6⟩ := hown.lt g e
  rw [h5] at h6
  simp at h6}
theorem L5 {ops : Array Oper} {o : Oper} {a : Act} {w : World} {K : Act → World → Prop} {Q : Exit → Act → World → Prop} {E : Prop}
 (hg : o.guard = none) (s x : Operand) (hop : o.op = Op.call { callee := Callee.builtin Builtin.append, args := #[s, x], argTypes := #[143, 143] })
 (base : Nat) (v : Value) (ks : List C6) (hs : a.eval s = v) (hown : Bz w base v ks) (k : C6) (b c : Nat) (hx : a.eval x = .slice (some ⟨b, 0, none⟩) 1 c)
 (hb : w.heap[b]? = some (.cells #[.string k.name, .bool k.face, .int .i64 k.sup, .slice k.fa k.fs.length k.fc] 147 (0, 0)))
 (hn : ks.length ≤ 1000) (hbase : base ≤ w.heap.size) (hfs : Al w base (.slice k.fa k.fs.length k.fc) k.fs)
 (hK : ∀ v' w', Bz w' base v' (ks ++ [k]) → Ch (fun j _ => v.ownBlock = some j) w w' → K (a.put o.dst v') w') :
 if Region.wanted o (yielded ops a.tmps) = true then Oper.wp Tryz.prog o a w K Q else E := by
 have hw : Region.wanted o (yielded ops a.tmps) = true := by simp [Region.wanted, hg]
 rw [if_pos hw]
 obtain ⟨v', w', hr, h1, h2⟩ := Ni w base v ks hown k b c hb hn hbase hfs o.type
 unfold Oper.wp
 simp [execOp, hop, resolve, invoke, builtin, hs, hx, hr, Result.andThen]
 exact hK v' w' h1 h2
theorem Li {cs : List Aj} {k : Nat} {c : Aj} (hc : cs[k]? = some c) (nm : ByteArray) :
 As (cs.take (k + 1)) nm = match As (cs.take k) nm with | some i => some i | none => if c.name = nm then some k else none := by
 have hk := (gL hc)
 rw [List.take_add_one, hc]
 unfold As
 simp only [Option.toList_some]
 rw [List.findIdx?_append]
 cases h : List.findIdx? (fun c => decide (c.name = nm)) (cs.take k) with
 | some i => rfl
 | none =>
  by_cases e : c.name = nm
  {simp [List.findIdx?_cons, e, List.length_take, Nat.min_eq_left (Nat.le_of_lt hk)]}
  {simp [List.findIdx?_cons, e]}
theorem Tp {cs : List Aj} {k : Nat} {c : Aj} (hc : cs[k]? = some c) (h : (As (cs.take k) c.name).isSome = true) : As (cs.take (k + 1)) = As (cs.take k) := by
 funext nm
 rw [Li hc]
 cases hf : As (cs.take k) nm with
 | some i => rfl
 | none =>
  rw [if_neg]
  intro e
  rw [e, hf] at h
  cases h
theorem Tq {cs : List Aj} {k : Nat} {c : Aj} (hc : cs[k]? = some c) (h : As (cs.take k) c.name = none) : ∀ nm, Ec (As (cs.take (k + 1))) nm = if nm = c.name then some (.int .i64 (k : Int)) else Ec (As (cs.take k)) nm := by
 intro nm
 unfold Ec
 rw [Li hc]
 by_cases e : nm = c.name
 {subst e
  rw [h]; simp}
 {rw [if_neg e]
  cases As (cs.take k) nm with
  | some i => rfl
  | none => rw [if_neg (fun h => e h.symm)]}
end Go.Proofs.YtgjpgfedlgdjhaaGreatDoor
end
end
section
namespace Go.Proofs.YtgjpgfedlgdjhaaGreatDoor
open Go.RowKit Go.W
theorem J1 (w : World) (l c : Int) : Calls Tryz.prog 72 #[.agg #[.int .i64 l, .int .i64 c]] w fun e w' => e = .returned (.agg #[.int .i64 11, .int .i64 l, .int .i64 c]) ∧ Ch No w w' := by
 obtain ⟨wa, hwa, hb1, hc1⟩ := A2 w (.cells #[.int .i64 l, .int .i64 c] 27)
 have hc2 := (Ch.refl No wa).alloc (.cells #[.int .i64 11, .int .i64 l, .int .i64 c] 34)
 have hb2 := heap_alloc_new wa (.cells #[.int .i64 11, .int .i64 l, .int .i64 c] 34)
 obtain ⟨p0, p1⟩ := Co hb1
 have z1 := Ac hb1
 obtain ⟨k0, k1, k2⟩ := Dy hb2
 have HC := Aa (hc1.trans hc2)
 clear hc1 hb1 hc2 hb2
 go_in
 go_wp2
 refine bodyPost_ret (v := Cr (11, l, c)) (by simp [results, Tryz.results72, go_sem, Cr, k0, k1, k2]) rfl ?_
 exact ⟨rfl, HC.out⟩
theorem Abf {F : Nat} {a w : World} (h : Ch (fun j _ => j = F) a w) (hF : F < a.heap.size) : (∀ b o, b < F → w.cell? ⟨b, o, none⟩ = a.cell? ⟨b, o, none⟩) ∧ (∀ b, b < a.heap.size → b < w.heap.size) ∧ ∀ b o, b < F → w.frozen? ⟨b, o, none⟩ = a.frozen? ⟨b, o, none⟩ := by
 have key : ∀ b, b < F → w.heap[b]? = a.heap[b]? := fun b hb => by
  have ho : a.heap[b]? = some a.heap[b] := Array.getElem?_eq_getElem (by omega)
  rw [ho]
  exact h.keep _ _ ho (Bm (by omega))
 exact ⟨fun b o hb => World.cell?_of_block (key b hb), fun b hb => Nat.lt_of_lt_of_le hb h.size, fun b o hb => by simp [World.frozen?, key b hb]⟩
theorem Ie.tabR {cs : List Aj} {tb mb mn ab r : Nat} {allv ordv : Value} {ks : List C6} {w wr wz : World} {ss : List A4} {d : List Nat} (h : Ie cs tb mb mn ab allv ks w wr ss d ordv) (hk : El wz allv ks) (hm : A1 Tryz.prog 9 Bx wz mb mn (Ec (As cs)))
 (hc : Ch (fun k _ => k = r) wr wz) (hr : r ≠ tb) (hra : r < ab) (hn : cs.length ≤ 20) : Ct wz tb (Jy cs ab mb mn allv ks ss d ordv) :=
 ⟨hc.keep _ _ h.tbk (fun e => hr e.symm), hk, hm, Jz h.ss.len (by omega) (hc.keep _ _ h.abk (Bm (by omega))) (h.sets.ch hc (fun k o hk _ _ e => by have e' : k = r := e; omega)) h.ss.nil,
  (h.ord.ch hc (fun g o _ hbg _ e => by have e' : g = r := e; omega)).at_⟩
structure Ge (cs : List Aj) (ks : List C6) (k : Nat) : Prop where
 len : ks.length = k
 ok : ∀ j, j < k → okI cs j
 row : ∀ (i : Nat) (c : Aj) (x : C6), i < k → cs[i]? = some c → ks[i]? = some x → x.name = c.name ∧ x.face = c.face ∧ x.sup = Ed cs c ∧ x.fs = c.faces.map (Cs cs)
theorem Ge.nil (cs : List Aj) : Ge cs [] 0 := ⟨rfl, fun j h => absurd h (Nat.not_lt_zero _), fun i _ _ h => absurd h (Nat.not_lt_zero _)⟩
theorem Ts {cs : List Aj} {k : Nat} {c : Aj} (hc : cs[k]? = some c) : ∃ j, As cs c.name = some j := by
 cases h : As cs c.name with
 | some j => exact ⟨j, rfl⟩
 | none =>
  unfold As at h
  rw [List.findIdx?_eq_none_iff] at h
  have := h c (mG hc)
  simp at this
def Cu (w : World) (tv : Value) (cs : List Aj) : Prop :=
 ∃ tb T, tv = .pointer (some ⟨tb, 0, none⟩) ∧ Ct w tb T ∧ Nf cs T ∧ T.get = As cs ∧ T.ord = Afb cs ∧ Fm cs T.ss (Hj cs)
theorem Cu.no {w w' : World} {tv : Value} {cs : List Aj} (h : Cu w tv cs) (hc : Ch No w w') : Cu w' tv cs := by
 obtain ⟨tb, T, h1, h2, h3⟩ := h
 exact ⟨tb, T, h1, h2.no hc, h3⟩
def Fq (cs : List Aj) (w : World) (e : Ending) (w' : World) : Prop :=
 ∃ o, Bt cs o ∧ Ch No w w' ∧ match o with
  | some i => e = .returned (.tuple #[.pointer none, Cr (G8 cs (some i))])
  | none => ∃ tv, e = .returned (.tuple #[tv, Cr (0, 0, 0)]) ∧ Cu w' tv cs
theorem Fq.fail {cs : List Aj} {w w' : World} {k : Nat} {c : Aj} (hc : cs[k]? = some c) (hf : Bt cs (some k)) (h : Ch No w w') : Fq cs w (.returned (.tuple #[.pointer none, Cr (11, c.line, c.col)])) w' :=
 ⟨some k, hf, h, by show _ = Ending.returned (.tuple #[.pointer none, Cr (G8 cs (some k))]); rw [Lf hc]⟩
theorem Fq.good {cs : List Aj} {w w' : World} {tv : Value} (hf : Bt cs none) (h : Ch No w w') (ht : Cu w' tv cs) : Fq cs w (.returned (.tuple #[tv, Cr (0, 0, 0)])) w' :=
 ⟨none, hf, h, tv, rfl, ht⟩
theorem Ge.step {cs : List Aj} {ks : List C6} {k : Nat} {c : Aj} {x : C6} (h : Ge cs ks k) (hc : cs[k]? = some c) (ho : V9 cs k c) (hx : x.name = c.name ∧ x.face = c.face ∧ x.sup = Ed cs c ∧ x.fs = c.faces.map (Cs cs)) : Ge cs (ks ++ [x]) (k + 1) := by
 refine ⟨by rw [List.length_append, h.len]; rfl, fun j hj => ?_, fun i d y hi hd hy => ?_⟩
 {by_cases e : j = k
  {subst e
   intro d hd
   rw [hc] at hd; cases hd; exact ho}
  {exact h.ok j (by omega)}}
 {by_cases e : i = k
  {subst e
   rw [hc] at hd; cases hd
   rw [List.getElem?_append_right (by rw [h.len]; exact Nat.le_refl _), h.len] at hy
   simp at hy
   subst hy; exact hx}
  {rw [List.getElem?_append_left (by rw [h.len]; omega)] at hy
   exact h.row i d y (by omega) hd hy}}
set_option maxRecDepth 100000 in
set_option maxHeartbeats 16000000 in
theorem Tt {w : World} {pv : Value} {cs : List Aj} (h : Cz w pv cs) (hT : Ia w) (hsz : Sv cs) (hsm : Df cs) :
 Calls Tryz.prog 42 #[pv] w (Fq cs w) := by
 have HM := Aa hsm
 have HSZ := Aa hsz
 have HT := Aa hT
 clear hsm hsz hT
 have hp := h
 obtain ⟨cv, m0, m1, m2, m3, m4, m5, m6, m7, m8, rfl, h⟩ := h
 obtain ⟨ao, cap, rfl, hcap, hmax, _, _⟩ := h.row
 rw [List.length_map] at hcap h hp ⊢
 obtain ⟨len, Av⟩ := Ax cs.length
 rw [Av] at hcap h hp ⊢
 unfold maxLen at hmax
 obtain ⟨wa, hwa, hpb, hch⟩ := A2 w (.cells #[.slice ao len cap, m0, m1, m2, m3, m4, m5, m6, m7, m8] 31)
 have HL := Aa Av
 have HP := Aa (hp.no hch)
 have HC := Aa (h.no hch)
 have HPB := Aa hpb
 have HCH := Aa hch
 obtain ⟨p0, p1, p2, p3, p4, p5, p6, p7, p8, p9⟩ := Cp hpb
 have hz := Ac hpb
 clear Av h hp hpb hch
 have hl20 : len ≤ 20 := by have := HM.out.1; have := HL.out; omega
 obtain ⟨wb, hwb, hrb, hcr⟩ := A2 wa (.cells #[.int .i64 0, .int .i64 0, .int .i64 0] 34)
 have hmm := @run_makeMap Tryz.prog
 have hm1 := A1.made Tryz.prog 9 Bx wb
 have hcm := (Ch.refl No wb).alloc (.map #[] 0)
 obtain ⟨wc, hwc⟩ := Ax (wb.alloc (.map #[] 0))
 rw [hwc] at hm1 hcm
 obtain ⟨wd, hwd, htb, hct⟩ := A2 wc (.cells #[.slice none 0 0, .map (some wb.heap.size), .slice none 0 0, .slice none 0 0] 145)
 have hm2 := A1.made Tryz.prog 9 Bx wd
 have hcn := (Ch.refl No wd).alloc (.map #[] 0)
 obtain ⟨we, hwe⟩ := Ax (wd.alloc (.map #[] 0))
 rw [hwe] at hm2 hcn
 have hce := (((hcr.trans hcm).trans hct).trans hcn)
 have hpe := hce.keep _ _ HPB.out (fun h => h)
 have hre := (((hcm.trans hct).trans hcn)).keep _ _ hrb (fun h => h)
 have hte := hcn.keep _ _ htb (fun h => h)
 have hm1e := hm1.ch (hct.trans hcn) (fun _ _ h => h)
 have y1 : w.heap.size < wa.heap.size := hz
 have y2 : wa.heap.size < wb.heap.size := Ac hrb
 have y3 : wb.heap.size < wc.heap.size := by rw [← hwc]; simp
 have y4 : wc.heap.size < wd.heap.size := Ac htb
 have y5 : wd.heap.size < we.heap.size := by rw [← hwe]; simp
 have yp : w.heap.size < wd.heap.size := by omega
 have yr : wa.heap.size < wd.heap.size := by omega
 have HPE := Aa hpe
 have HRE := Aa hre
 have HTE := Aa hte
 have HM1 := Aa hm1e
 have HM2 := Aa hm2
 have HCE := Aa hce
 clear p0 p1 p2 p3 p4 p5 p6 p7 p8 p9 hrb hcr hm1 hcm htb hct hm2 hcn hce hpe hre hte hm1e
 obtain ⟨p0, p1, p2, p3, p4, p5, p6, p7, p8, p9⟩ := Cp HPE.out
 go_in
 go_wp2_with fail
 clear hwa hwb hwc hwd hwe hmm
 go_loopg [23] len (fun g s23 wr => ∃ (k : Nat), k ≤ len ∧ len - k ≤ g ∧ s23 = .int .i64 k ∧ Hid (A1 Tryz.prog 9 Bx wr wd.heap.size k (Ec (As (cs.take k)))) ∧ Hid (Ch (fun j _ => j = wd.heap.size) we wr))
 case atStart => exact ⟨0, Nat.zero_le _, by omega, rfl, HM2, Aa (Ch.refl _ _)⟩
 case round =>
  obtain ⟨k, hk, hg, rfl, HMP, HCW⟩ := hrel
  obtain ⟨R, Z, _⟩ := Abf HCW.out y5
  cases hd : decide (k < len) with
  | true =>
   have hkl : k < len := by simpa using hd
   obtain ⟨c, hc⟩ := gE (l := cs) (i := k) (by have := HL.out; omega)
   obtain ⟨cb, co, cc, ecs, hcell, _, _⟩ := (HC.out.no HCE.out).cell hc
   obtain ⟨_, _, _, ecs2, hcell2, _, _⟩ := HC.out.cell hc
   rw [HL.out] at ecs
   cases ecs
   rw [HL.out] at ecs2
   cases ecs2
   have ycb : cb < wd.heap.size := by have hcb : cb < wa.heap.size := block_lt_of_cell hcell2.q0; omega
   obtain ⟨q0, q1, q2, q3, q4, q5, q6, q7, q8, q9⟩ := hcell
   have hns := (HSZ.out c (mG hc)).1
   obtain ⟨wx, hwx, hbc, hca⟩ := A2 wr (.cells #[.string c.name, .string c.sup, .bool c.face, .slice c.fa c.faces.length c.fc, .slice c.s4.1 c.s4.2.1 c.s4.2.2, .slice c.s5.1 c.s5.2.1 c.s5.2.2, .slice c.s6.1 c.s6.2.1 c.s6.2.2, .pointer c.p7, .int .i64 c.line, .int .i64 c.col] 50)
   have hmx := HMP.out.ch hca (fun _ _ h => h)
   obtain ⟨d0, d1, d2, d3, d4, d5, d6, d7, d8, d9⟩ := Cp hbc
   have hzx := Ac hbc
   have HX := Aa hc
   have HCA := Aa hca
   clear hc hcell2 hbc hca
   cases hf : As (cs.take k) c.name with
   | some j =>
    have hlk := Jk hmx hns hf
    have HF := Aa hf
    have HMX := Aa hmx
    clear hf hmx
    go_wp2
    go_roundg (len - k - 1)
    case rel =>
     refine ⟨k + 1, by omega, by omega, by go_num, Aa ?_, Aa (HCW.out.trans (HCA.out.mono (fun _ _ _ h => h.elim)))⟩
     rw [Tp HX.out (by rw [HF.out]; rfl)]
     exact HMX.out.mono (by omega)
    case measure => omega
   | none =>
    have hlk := L4 hmx hns hf
    obtain ⟨wy, hrun, hm3, hg3⟩ := hmx.store Gx Tryz.underlying142 (by unfold maxLen; omega) (Gy hns) (.int .i64 (k : Int))
    have hrun' : (Instr.mapUpdate 142 (.map (some wd.heap.size)) (.string c.name) (.int .i64 (k : Int))).run Tryz.prog wx = .ok () wy := hrun
    have HF := Aa hf
    have HM3 := Aa hm3
    have HG3 := Aa hg3
    clear hf hmx hrun hm3 hg3
    go_wp2
    go_roundg (len - k - 1)
    case rel =>
     refine ⟨k + 1, by omega, by omega, by go_num, Aa ?_, Aa ((HCW.out.trans (HCA.out.mono (fun _ _ _ h => h.elim))).trans ((Ch.refl _ wx).grown HG3.out (fun _ _ h _ => by cases h; rfl)))⟩
     have e : Ec (As (cs.take (k + 1))) = fun l => if l = c.name then some (.int .i64 (k : Int)) else Ec (As (cs.take k)) l := funext (Tq HX.out HF.out)
     rw [e]
     exact HM3.out
    case measure => omega
  | false =>
   have hkl : ¬ k < len := by simpa using hd
   have hfirst : A1 Tryz.prog 9 Bx wr wd.heap.size len (Ec (As cs)) := by
    have := HMP.out
    rw [List.take_of_length_le (by have := HL.out; omega)] at this
    exact this.mono (by omega)
   have HFM := Aa hfirst
   clear hfirst
   obtain ⟨w1, hw1⟩ : ∃ w1, w1 = wr := ⟨_, rfl⟩
   subst hw1
   have hkeep : ∀ (b : Nat) (o : Obj), b < wd.heap.size → we.heap[b]? = some o → w1.heap[b]? = some o := fun b o hb ho => HCW.out.keep _ _ ho (Bm (by omega))
   have HPF := Aa (hkeep _ _ yp HPE.out)
   have HRF := Aa (hkeep _ _ yr HRE.out)
   have HTF := Aa (hkeep _ _ y4 HTE.out)
   have hwaf : Ch No wa w1 := HCE.out.trans' HCW.out (fun j o hj e => by have e' : j = wd.heap.size := e; have := Ac hj; omega)
   have HWAF := Aa hwaf
   have yf : we.heap.size ≤ w1.heap.size := HCW.out.size
   clear hkeep hwaf R Z p0 p1 p2 p3 p4 p5 p6 p7 p8 p9
   have hstart : Ch (fun j _ => j = wc.heap.size) w1 w1 := Ch.refl _ _
   have HS0 := Aa hstart
   clear hstart
   obtain ⟨p0, p1, p2, p3, p4, p5, p6, p7, p8, p9⟩ := Cp HPF.out
   go_wp2_with fail
   clear p0 p1 p2 p3 p4 p5 p6 p7 p8 p9
   go_loopg [45] len (fun g s45 wr => ∃ (k : Nat) (ka : Option Addr) (kc : Nat) (ks : List C6), k ≤ len ∧ len - k ≤ g ∧ s45 = .int .i64 k ∧ Hid (Ge cs ks k) ∧ Hid (Bz wr w1.heap.size (.slice ka k kc) ks) ∧ Hid (wr.heap[wc.heap.size]? = some (.cells #[.slice ka k kc, .map (some wb.heap.size), .slice none 0 0, .slice none 0 0] 145 (0, 0))) ∧ Hid (Ch (fun j _ => j = wc.heap.size) w1 wr))
   case atStart => exact ⟨0, none, 0, [], Nat.zero_le _, by omega, rfl, Aa (Ge.nil cs), Aa (Bz.nil _ _), HTF, HS0⟩
   case round =>
    obtain ⟨k, ka, kc, ks, hk, hg, rfl, HRO, HKO, HTB, HCT⟩ := hrel
    have hno : Ch No wa wr := HWAF.out.trans' HCT.out (fun j o hj e => by have e' : j = wc.heap.size := e; have := Ac hj; omega)
    have HNO := Aa hno
    have hpf2 := HCT.out.keep _ _ HPF.out (Bm (by omega))
    have hrf2 := HCT.out.keep _ _ HRF.out (Bm (by omega))
    obtain ⟨p0, p1, p2, p3, p4, p5, p6, p7, p8, p9⟩ := Cp hpf2
    have x1 := Ac hpf2
    have x2 := Ac hrf2
    have x3 := Ac HTB.out
    have HRF2 := Aa hrf2
    clear hpf2 hrf2 hno
    cases hd : decide (k < len) with
    | true =>
     have hkl : k < len := by simpa using hd
     obtain ⟨c, hc⟩ := gE (l := cs) (i := k) (by have := HL.out; omega)
     obtain ⟨cb, co, cc, ecs, hcell, _, _⟩ := (HC.out.no HNO.out).cell hc
     rw [HL.out] at ecs
     cases ecs
     obtain ⟨q0, q1, q2, q3, q4, q5, q6, q7, q8, q9⟩ := hcell
     have hns := (HSZ.out c (mG hc)).1
     have hfl := HM.out.2 c (mG hc)
     obtain ⟨wx, hwx, hbc, hca⟩ := A2 wr (.cells #[.string c.name, .string c.sup, .bool c.face, .slice c.fa c.faces.length c.fc, .slice c.s4.1 c.s4.2.1 c.s4.2.2, .slice c.s5.1 c.s5.2.1 c.s5.2.2, .slice c.s6.1 c.s6.2.1 c.s6.2.2, .pointer c.p7, .int .i64 c.line, .int .i64 c.col] 50)
     have hmx := (HFM.out.ch HCT.out (fun _ _ e => by have e' : wd.heap.size = wc.heap.size := e; omega)).ch hca (fun _ _ h => h)
     have hki := Abe (tv := .pointer (some ⟨wc.heap.size, 0, none⟩)) (HP.out.no (HNO.out.trans hca)) hmx HSZ.out hc (by omega)
     obtain ⟨d0, d1, d2, d3, d4, d5, d6, d7, d8, d9⟩ := Cp hbc
     have r0 := Ae p0 hca (fun _ _ h => h)
     have r1 := Ae p1 hca (fun _ _ h => h)
     have r2 := Ae p2 hca (fun _ _ h => h)
     have r3 := Ae p3 hca (fun _ _ h => h)
     have r4 := Ae p4 hca (fun _ _ h => h)
     have r5 := Ae p5 hca (fun _ _ h => h)
     have r6 := Ae p6 hca (fun _ _ h => h)
     have r7 := Ae p7 hca (fun _ _ h => h)
     have r8 := Ae p8 hca (fun _ _ h => h)
     have r9 := Ae p9 hca (fun _ _ h => h)
     have hzx := Ac hbc
     have HX := Aa hc
     have HCA := Aa hca
     have HBC := Aa hbc
     have HMX := Aa hmx
     clear hc hbc hca hmx
     go_wp2_with fail
     refine hki.mono ?_
     rintro e w6 ⟨hc6, hout⟩
     have hbc6 := hc6.keep _ _ HBC.out (fun h => h)
     obtain ⟨e0, e1, e2, e3, e4, e5, e6, e7, e8, e9⟩ := Cp hbc6
     have x6 := Ac hbc6
     have hm6 := HMX.out.ch hc6 (fun _ _ h => h)
     obtain ⟨j, hj⟩ : ∃ j, As cs c.name = some j := Ts HX.out
     have HJ := Aa hj
     have HC6 := Aa hc6
     have HM6 := Aa hm6
     have HBC6 := Aa hbc6
     clear hki hc6 hbc6 hm6 hj d0 d1 d2 d3 d4 d5 d6 d7 d8 d9 r0 r1 r2 r3 r4 r5 r6 r7 r8 r9
     rcases hout with ⟨hok, fa, fc, rfl, hfs⟩ | ⟨hok, z, xa, xn, xc, rfl⟩
     {have HOK := Aa hok
      have HFS := Aa hfs
      clear hok hfs
      have hkb := heap_alloc_new w6 (.cells #[.string c.name, .bool c.face, .int .i64 (Ed cs c), .slice fa c.faces.length fc] 147)
      have hck := (Ch.refl No w6).alloc (.cells #[.string c.name, .bool c.face, .int .i64 (Ed cs c), .slice fa c.faces.length fc] 147)
      have hlk := X9 (HM6.out.ch hck (fun _ _ h => h)) hns HJ.out
      have b0 := Ae e0 hck (fun _ _ h => h)
      have b1 := Ae e1 hck (fun _ _ h => h)
      have b2 := Ae e2 hck (fun _ _ h => h)
      have b3 := Ae e3 hck (fun _ _ h => h)
      have b4 := Ae e4 hck (fun _ _ h => h)
      have b5 := Ae e5 hck (fun _ _ h => h)
      have b6 := Ae e6 hck (fun _ _ h => h)
      have b7 := Ae e7 hck (fun _ _ h => h)
      have b8 := Ae e8 hck (fun _ _ h => h)
      have b9 := Ae e9 hck (fun _ _ h => h)
      by_cases hjk : j = k
      {have hne : ((j : Int) != (k : Int)) = false := by subst hjk; simp
       have HCK := Aa hck
       have HKB := Aa hkb
       have htk := ((HCA.out.trans HC6.out).trans hck).keep _ _ HTB.out (fun h => h)
       obtain ⟨t0, t1, t2, t3⟩ := F9 htk
       obtain ⟨u0, u1, u2, u3⟩ := Y5 htk
       obtain ⟨n0, n1, n2, n3⟩ := F9 hkb
       have HTK := Aa htk
       have HJK := Aa hjk
       clear hck hkb htk hjk
       obtain ⟨wk, hwk⟩ := Ax (w6.alloc (.cells #[.string c.name, .bool c.face, .int .i64 (Ed cs c), .slice fa c.faces.length fc] 147))
       rw [hwk] at HCK HKB HTK b0 b1 b2 b3 b4 b5 b6 b7 b8 b9 hlk t0 t1 t2 t3 u0 u1 u2 u3 n0 n1 n2 n3
       have hkall := (HCA.out.trans HC6.out).trans HCK.out
       have hca2 := ((Ch.refl No wk).alloc (.cells #[.string c.name, .bool c.face, .int .i64 (Ed cs c), .slice fa c.faces.length fc] 147)).drew
       have hKO := HKO.out.no (hkall.trans hca2)
       have hFS : Al ((wk.alloc (.cells #[.string c.name, .bool c.face, .int .i64 (Ed cs c), .slice fa c.faces.length fc] 147)).drew) w1.heap.size (.slice fa c.faces.length fc) (c.faces.map (Cs cs)) := (HFS.out.base (by have h1 := HCT.out.size; have h2 := HCA.out.size; omega)).no (HCK.out.trans hca2)
       have hBB : ((wk.alloc (.cells #[.string c.name, .bool c.face, .int .i64 (Ed cs c), .slice fa c.faces.length fc] 147)).drew).heap[wk.heap.size]? = some (.cells #[.string c.name, .bool c.face, .int .i64 (Ed cs c), .slice fa (c.faces.map (Cs cs)).length fc] 147 (0, 0)) := by
        rw [List.length_map]
        exact heap_alloc_new wk _
       have hFS2 : Al ((wk.alloc (.cells #[.string c.name, .bool c.face, .int .i64 (Ed cs c), .slice fa c.faces.length fc] 147)).drew) w1.heap.size (.slice fa (c.faces.map (Cs cs)).length fc) (c.faces.map (Cs cs)) := by
        rw [List.length_map]
        exact hFS
       have hnb : (Value.slice ka k kc).ownBlock ≠ some wc.heap.size := fun e => by
        have := (HKO.out.lt _ e).1
        omega
       have hbase2 : w1.heap.size ≤ ((wk.alloc (.cells #[.string c.name, .bool c.face, .int .i64 (Ed cs c), .slice fa c.faces.length fc] 147)).drew).heap.size := by have h1 := HCT.out.size; have h2 := (hkall.trans hca2).size; omega
       have hks1 : ks.length ≤ 1000 := by rw [HRO.out.len]; omega
       have hksl := HRO.out.len
       have HTK2 := Aa (hca2.keep _ _ HTK.out (fun h => h))
       have HCA2 := Aa hca2
       have HKSL := Aa hksl
       have HKALL := Aa hkall
       have HBB := Aa hBB
       have HFS2 := Aa hFS2
       have HKO2 := Aa hKO
       clear hksl hkall hca2 hKO hFS hBB hFS2
       go_wp2_with fail
       clear hwk
       have zk := Ac HTK.out
       have zk2 := Ac HKB.out
       go_region_law (first | (refine L5 rfl _ _ rfl w1.heap.size (.slice ka k kc) ks rfl HKO2.out (⟨c.name, c.face, Ed cs c, c.faces.map (Cs cs), fa, fc⟩ : C6) wk.heap.size 1 rfl HBB.out hks1 hbase2 HFS2.out ?_; intro v9 w9 hown9 hch9; obtain ⟨ka9, kc9, rfl, _, _⟩ := hown9.shape; rw [List.length_append, HKSL.out, List.length_singleton] at hown9 ⊢; have ht9 := hch9.keep _ _ HTK2.out hnb; have t90 := Ab ht9 0; have f90 := Ad ht9 0; have HT9 := Aa ht9; have HOWN9 := Aa hown9; have HCH9 := Aa hch9; clear ht9 hown9 hch9))
       all_goals (
        go_wp2
        go_roundg (len - k - 1)
        case rel =>
         have hc9 : Ch (fun j _ => j = wc.heap.size) w9 (w9.setCell ⟨wc.heap.size, 0, none⟩ (.slice ka9 (k + 1) kc9)) := (Ch.refl _ _).setCell (fun _ _ => rfl) _
         have hcr9 : Ch (fun j _ => j = wc.heap.size) w1 w9 := (HCT.out.trans ((HKALL.out.trans HCA2.out).mono (fun _ _ _ h => h.elim))).trans' HCH9.out (fun j o hj e => by
          have := (HKO.out.lt _ e).1
          have := Ac hj
          omega)
         refine ⟨k + 1, ka9, kc9, ks ++ [(⟨c.name, c.face, Ed cs c, c.faces.map (Cs cs), fa, fc⟩ : C6)], by omega, by omega, by go_num, Aa (HRO.out.step HX.out ?_ ⟨rfl, rfl, rfl, rfl⟩), Aa (HOWN9.out.ch hc9 (fun g o hg e => by have e' : g = wc.heap.size := e; omega)), Aa ?_, Aa (hcr9.trans hc9)⟩
         {exact L2.2 ⟨by rw [HJ.out, HJK.out], HOK.out⟩}
         {rw [Af HT9.out]; rfl}
        case measure => omega)}
      {have hne : ((j : Int) != (k : Int)) = true := by simp; omega
       have HJK := Aa hjk
       clear hkb hck hjk
       go_wp2_with (go_at_call 72; refine (J1 _ c.line c.col).mono ?_; rintro e w8 ⟨rfl, hc8⟩; have hw8 := ((HCA.out.trans HC6.out).alloc _).trans hc8; have hr8 := hw8.keep _ _ HRF2.out (fun h => h); obtain ⟨g0, g1, g2⟩ := Dy hr8; obtain ⟨f0, f1, f2⟩ := I5 hr8; have HW8 := Aa hw8; have HR8 := Aa hr8; clear hc8 hw8 hr8)
       obtain ⟨wz, hwz, hzb, hzc⟩ := Ev HR8.out (.int .i64 11) (.int .i64 c.line) (.int .i64 c.col)
       rw [hwz]
       obtain ⟨k0, k1, k2⟩ := Dy hzb
       refine bodyPost_ret (v := .tuple #[.pointer none, Cr (11, c.line, c.col)]) (by simp [results, Tryz.results42, go_sem, Cr, k0, k1, k2]) rfl ?_
       refine Fq.fail HX.out ⟨by have := HL.out; omega, .inl ⟨fun h => ?_, HRO.out.ok⟩⟩ ((HCH.out.trans (HNO.out.trans HW8.out)).trans' hzc (fun j o hj e => by have e' : j = wa.heap.size := e; have := Ac hj; omega))
       have := (L2.1 (h c HX.out)).1
       rw [HJ.out] at this
       exact HJK.out (by cases this; rfl)}}
     {have HOK := Aa hok
      clear hok
      go_wp2_with (go_at_call 72; refine (J1 _ c.line c.col).mono ?_; rintro e w8 ⟨rfl, hc8⟩; have hw8 := ((HCA.out.trans HC6.out).alloc _).trans hc8; have hr8 := hw8.keep _ _ HRF2.out (fun h => h); obtain ⟨g0, g1, g2⟩ := Dy hr8; obtain ⟨f0, f1, f2⟩ := I5 hr8; have HW8 := Aa hw8; have HR8 := Aa hr8; clear hc8 hw8 hr8)
      obtain ⟨wz, hwz, hzb, hzc⟩ := Ev HR8.out (.int .i64 11) (.int .i64 c.line) (.int .i64 c.col)
      rw [hwz]
      obtain ⟨k0, k1, k2⟩ := Dy hzb
      refine bodyPost_ret (v := .tuple #[.pointer none, Cr (11, c.line, c.col)]) (by simp [results, Tryz.results42, go_sem, Cr, k0, k1, k2]) rfl ?_
      refine Fq.fail HX.out ⟨by have := HL.out; omega, .inl ⟨fun h => ?_, HRO.out.ok⟩⟩ ((HCH.out.trans (HNO.out.trans HW8.out)).trans' hzc (fun j o hj e => by have e' : j = wa.heap.size := e; have := Ac hj; omega))
      exact HOK.out (L2.1 (h c HX.out)).2}
    | false =>
     have hkl : ¬ k < len := by simpa using hd
     have hkk : k = len := by omega
     have hro : Ge cs ks len := by rw [← hkk]; exact HRO.out
     have hsp : B2 cs := Wm (fun j hj => hro.ok j (by have := HL.out; omega))
     have ytb : wc.heap.size < w1.heap.size := by omega
     have hks := hro.len
     obtain ⟨wr0, hwr0⟩ : ∃ wr0, wr0 = wr := ⟨_, rfl⟩
     subst hwr0
     obtain ⟨wg, hwg⟩ := Ax (wr0.setCell ⟨wc.heap.size, 1, none⟩ (.map (some wd.heap.size)))
     have hcg : Ch (fun j _ => j = wc.heap.size) wr0 wg := by rw [← hwg]; exact (Ch.refl _ _).setCell (fun _ _ => rfl) _
     have htg : wg.heap[wc.heap.size]? = some (.cells #[.slice ka k kc, .map (some wd.heap.size), .slice none 0 0, .slice none 0 0] 145 (0, 0)) := by
      rw [← hwg, Af HTB.out]; rfl
     have hgdb : 0 < w.heap.size := by
      have h0 := HT.out 0 (by decide)
      exact block_lt_of_cell h0
     have hfix : Fix cs wc.heap.size wd.heap.size len (.slice ka k kc) ks wg := by
      refine ⟨fun w' hw' => ⟨?_, ?_, ?_⟩, by rw [hks]; exact HL.out.symm, fun i d x hd hx => hro.row i d x (by have := (gL hd); have := HL.out; omega) hd hx, HSZ.out, hsp, HM.out, Ac htg⟩
      {exact ((HKO.out.ch hcg (fun g o hg e => by have e' : g = wc.heap.size := e; omega)).ch hw' (fun g o hg e => by have e' : g = wc.heap.size := e; omega)).at_}
      {exact ((HFM.out.ch HCT.out (fun _ _ e => by have e' : wd.heap.size = wc.heap.size := e; omega)).ch hcg (fun _ _ e => by have e' : wd.heap.size = wc.heap.size := e; omega)).ch hw' (fun _ _ e => by have e' : wd.heap.size = wc.heap.size := e; omega)}
      {exact (((HT.out.no (HCH.out.trans HNO.out)).ch hcg (fun _ e => by have e' : 0 = wc.heap.size := e; omega))).ch hw' (fun _ e => by have e' : 0 = wc.heap.size := e; omega)}
     have hso := Abd hfix htg
     obtain ⟨t0, t1, t2, t3⟩ := F9 HTB.out
     obtain ⟨u0, u1, u2, u3⟩ := Y5 HTB.out
     have HFIX := Aa hfix
     have HSP := Aa hsp
     have HCG := Aa hcg
     have HHTG := Aa htg
     clear hkk hro hsp hks hfix hcg htg
     go_wp2_with fail
     refine hso.mono ?_
     rintro e w3 ⟨rfl, ab, ss, d, ordv, hss, rfl⟩
     have hpf3 := hss.ch.keep _ _ (HCG.out.keep _ _ (HCT.out.keep _ _ HPF.out (Bm (by omega))) (Bm (by omega))) (Bm (by omega))
     have hrf3 := hss.ch.keep _ _ (HCG.out.keep _ _ (HCT.out.keep _ _ HRF.out (Bm (by omega))) (Bm (by omega))) (Bm (by omega))
     have hno3 : Ch No wa w3 := (HNO.out.trans' HCG.out (fun j o hj e => by have e' : j = wc.heap.size := e; have := Ac hj; omega)).trans' hss.ch (fun j o hj e => by have e' : j = wc.heap.size := e; have := Ac hj; omega)
     have HSS := Aa hss
     have HPF3 := Aa hpf3
     have HRF3 := Aa hrf3
     have HNO3 := Aa hno3
     obtain ⟨s0, s1, s2, s3, s4, s5, s6, s7, s8, s9⟩ := Cp hpf3
     clear hso hss hpf3 hrf3 hno3 hwg t0 t1 t2 t3 u0 u1 u2 u3 p0 p1 p2 p3 p4 p5 p6 p7 p8 p9
     go_wp2_with fail
     clear s0 s1 s2 s3 s4 s5 s6 s7 s8 s9
     go_loopg [91] len (fun g s91 wr => ∃ (k : Nat), k ≤ len ∧ len - k ≤ g ∧ s91 = .int .i64 k ∧ Hid (∀ j, j < k → ¬ Gr.Reach (Az cs) j j) ∧ Hid (Ch No w3 wr))
     case atStart => exact ⟨0, Nat.zero_le _, by omega, rfl, Aa (fun j h => absurd h (Nat.not_lt_zero _)), Aa (Ch.refl _ _)⟩
     case round =>
      obtain ⟨k, hk, hg, rfl, HNR, HC3⟩ := hrel
      have htab := (HSS.out.tab HFIX.out).no HC3.out
      have hrr := HC3.out.keep _ _ HRF3.out (fun h => h)
      cases hd : decide (k < len) with
      | true =>
       have hkl : k < len := by simpa using hd
       have hkc : k < cs.length := by have := HL.out; omega
       obtain ⟨c, hc⟩ : ∃ c, cs[k]? = some c := ⟨_, List.getElem?_eq_getElem hkc⟩
       obtain ⟨cb, co, cc, ecs, hcell, _, _⟩ := (HC.out.no (HNO3.out.trans HC3.out)).cell hc
       rw [HL.out] at ecs
       cases ecs
       obtain ⟨q0, q1, q2, q3, q4, q5, q6, q7, q8, q9⟩ := hcell
       obtain ⟨wx, hwx, hbc, hca⟩ := A2 wr (.cells #[.string c.name, .string c.sup, .bool c.face, .slice c.fa c.faces.length c.fc, .slice c.s4.1 c.s4.2.1 c.s4.2.2, .slice c.s5.1 c.s5.2.1 c.s5.2.2, .slice c.s6.1 c.s6.2.1 c.s6.2.2, .pointer c.p7, .int .i64 c.line, .int .i64 c.col] 50)
       have htx := htab.no hca
       have t2 := Ab htx.blk 2
       have t2' : wx.cell? ⟨wc.heap.size, 2, none⟩ = some (.slice (some ⟨ab, 0, none⟩) cs.length cs.length) := t2
       clear t2
       obtain ⟨d0, d1, d2, d3, d4, d5, d6, d7, d8, d9⟩ := Cp hbc
       have hzx := Ac hbc
       have HX := Aa hc
       have HTX := Aa htx
       have HBC := Aa hbc
       have HCA := Aa hca
       have hrx := hca.keep _ _ hrr (fun h => h)
       have HRX := Aa hrx
       by_cases hin : k ∈ Hj cs
       {obtain ⟨b, hb⟩ := HSS.out.ss.yes k hin
        have hac := Ng ((HC3.out.trans hca).keep _ _ HSS.out.abk (fun h => h)) hb
        have hac' : wx.cell? ⟨ab, k, none⟩ = some (.pointer (some ⟨b, 0, none⟩)) := hac
        have HIN := Aa hin
        clear hc hbc hca htx htab hrr hrx hac hb hin
        go_wp2
        go_roundg (len - k - 1)
        case rel =>
         refine ⟨k + 1, by omega, by omega, by go_num, Aa (fun j hj => ?_), Aa (HC3.out.trans HCA.out)⟩
         by_cases e : j = k
         {subst e; exact HSS.out.ss.ord.1.noring _ HIN.out}
         {exact HNR.out j (by omega)}
        case measure => omega}
       {have hb := HSS.out.ss.no k hkc hin
        have hac := Ng ((HC3.out.trans hca).keep _ _ HSS.out.abk (fun h => h)) hb
        have hac' : wx.cell? ⟨ab, k, none⟩ = some (.pointer none) := hac
        have hro := Zo htx (HSS.out.ksof HFIX.out) HSP.out HM.out hkc
        clear hc hbc hca htx htab hrr hrx hac hb hin
        go_wp2_with fail
        refine hro.mono ?_
        rintro e w6 ⟨⟨hre, rfl⟩ | ⟨hre, rfl⟩, hc6⟩
        {have hbc6 := hc6.keep _ _ HBC.out (fun h => h)
         have e8 := Ab hbc6 8
         have e9 := Ab hbc6 9
         have HRE2 := Aa hre
         have HC6 := Aa hc6
         clear hro hre hc6 hbc6
         go_wp2_with (go_at_call 72; refine (J1 _ c.line c.col).mono ?_; rintro e w8 ⟨rfl, hc8⟩; have hw8 := HC6.out.trans hc8; have hr8 := hw8.keep _ _ HRX.out (fun h => h); obtain ⟨g0, g1, g2⟩ := Dy hr8; obtain ⟨f0, f1, f2⟩ := I5 hr8; have HW8 := Aa hw8; have HR8 := Aa hr8; clear hc8 hw8 hr8)
         obtain ⟨wz, hwz, hzb, hzc⟩ := Ev HR8.out (.int .i64 11) (.int .i64 c.line) (.int .i64 c.col)
         rw [hwz]
         obtain ⟨k0, k1, k2⟩ := Dy hzb
         refine bodyPost_ret (v := .tuple #[.pointer none, Cr (11, c.line, c.col)]) (by simp [results, Tryz.results42, go_sem, Cr, k0, k1, k2]) rfl ?_
         exact Fq.fail HX.out ⟨hkc, .inr ⟨HSP.out, HRE2.out, HNR.out⟩⟩ ((HCH.out.trans (HNO3.out.trans (HC3.out.trans (HCA.out.trans HW8.out)))).trans' hzc (fun j o hj e => by have e' : j = wa.heap.size := e; have := Ac hj; omega))}
        {have HRE2 := Aa hre
         have HC6 := Aa hc6
         clear hro hre hc6
         go_wp2
         go_roundg (len - k - 1)
         case rel =>
          refine ⟨k + 1, by omega, by omega, by go_num, Aa (fun j hj => ?_), Aa ((HC3.out.trans HCA.out).trans HC6.out)⟩
          by_cases e : j = k
          {subst e; exact HRE2.out}
          {exact HNR.out j (by omega)}
         case measure => omega}}
      | false =>
       have hkl : ¬ k < len := by simpa using hd
       obtain ⟨g0, g1, g2⟩ := Dy hrr
       obtain ⟨f0, f1, f2⟩ := I5 hrr
       have HRR := Aa hrr
       have HTAB := Aa htab
       clear hrr htab
       go_wp2_with fail
       obtain ⟨wz, hwz, hzb, hzc⟩ := Ev HRR.out (.int .i64 0) (.int .i64 0) (.int .i64 0)
       rw [hwz]
       obtain ⟨k0, k1, k2⟩ := Dy hzb
       refine bodyPost_ret (v := .tuple #[.pointer (some ⟨wc.heap.size, 0, none⟩), Cr (0, 0, 0)]) (by simp [results, Tryz.results42, go_sem, Cr, k0, k1, k2]) rfl ?_
       refine Fq.good ⟨HSP.out, fun j hj => HNR.out j (by have := HL.out; omega)⟩ ((HCH.out.trans (HNO3.out.trans HC3.out)).trans' hzc (fun j o hj e => by have e' : j = wa.heap.size := e; have := Ac hj; omega)) ?_
       have hss := HSS.out.no HC3.out
       have hcw : Ch (fun j _ => j = wc.heap.size) wr0 w3 := HCG.out.trans HSS.out.ch
       have hkz := ((((HKO.out.ch hcw (fun g o hg e => by have e' : g = wc.heap.size := e; omega)).no HC3.out).ch hzc (fun g o hg e => by have e' : g = wa.heap.size := e; omega))).at_
       have hmz := (((HFM.out.ch HCT.out (fun _ _ e => by have e' : wd.heap.size = wc.heap.size := e; omega)).ch hcw (fun _ _ e => by have e' : wd.heap.size = wc.heap.size := e; omega)).ch HC3.out (fun _ _ h => h)).ch hzc (fun _ _ e => by have e' : wd.heap.size = wa.heap.size := e; omega)
       have hab := HSS.out.ab
       have hwg := HHTG.out
       exact ⟨wc.heap.size, _, rfl, hss.tabR hkz hmz hzc (by omega) (by have h1 := Ac HHTG.out; omega) (by have := HL.out; omega), hss.ksof HFIX.out, rfl, rfl, hss.ss⟩
end Go.Proofs.YtgjpgfedlgdjhaaGreatDoor
end
