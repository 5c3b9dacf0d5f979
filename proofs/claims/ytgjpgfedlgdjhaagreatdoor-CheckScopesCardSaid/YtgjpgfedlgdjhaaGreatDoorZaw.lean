/- What the claim uses: part 23. -/
import Derived.Test.YtgjpgfedlgdjhaaGreatDoorZas
import Derived.Deep.Upon
import Derived.Test.YtgjpgfedlgdjhaaGreatDoorZat
import Derived.Test.YtgjpgfedlgdjhaaGreatDoorZau
import Derived.Test.YtgjpgfedlgdjhaaGreatDoorZav
section
section
set_option linter.unusedVariables false
set_option linter.unusedSimpArgs false
namespace Go.Proofs.YtgjpgfedlgdjhaaGreatDoor
open Go.RowKit Go.W
def IntsQ (w : World) (base : Nat) (v : Value) (l : List Int) : Prop :=
 (v = .slice none 0 0 ∧ l = []) ∨ ∃ g off cap cur, v = .slice (some ⟨g, off, none⟩) l.length cap ∧ base ≤ g ∧ w.heap[g]? = some (.cells cur 3 (0, 0)) ∧ l.length ≤ cap ∧ cap ≤ maxLen ∧ off + cap ≤ cur.size ∧
   ∀ (i : Nat) (x : Int), l[i]? = some x → cur[off + i]? = some (.int .i64 x)
theorem IntsOwn.q {w : World} {base : Nat} {v : Value} {l : List Int} (h : IntsOwn w base v l) : IntsQ w base v l := by
 rcases h.2 with ⟨rfl, hl0⟩ | ⟨g, cap, cur, rfl, hg, hh, hcap, hmax, hcs, hct⟩
 · exact .inl ⟨rfl, List.length_eq_zero_iff.1 hl0⟩
 · rw [Nat.mul_one] at hcs hct
   refine .inr ⟨g, 0, cap, cur, rfl, hg, hh, hcap, hmax, by omega, fun i x hx => ?_⟩
   have hi := (List.getElem?_eq_some_iff.1 hx).1
   have : (l.map (Value.int .i64))[i]? = some (.int .i64 x) := by rw [List.getElem?_map, hx]; rfl
   rw [← hct, List.getElem?_take, if_pos hi] at this
   rw [Nat.zero_add, ← Array.getElem?_toList]
   exact this
theorem IntsQ.shape {w : World} {base : Nat} {v : Value} {l : List Int} (h : IntsQ w base v l) : ∃ ao cap, v = .slice ao l.length cap ∧ l.length ≤ cap ∧ cap ≤ maxLen := by
 rcases h with ⟨rfl, rfl⟩ | ⟨g, off, cap, cur, rfl, _, _, h1, h2, _⟩
 · exact ⟨_, _, rfl, Nat.le_refl _, Nat.zero_le _⟩
 · exact ⟨_, _, rfl, h1, h2⟩
theorem IntsQ.ch {S : Nat → Obj → Prop} {w w' : World} {base : Nat} {v : Value} {l : List Int} (h : IntsQ w base v l) (hc : Ch S w w') (hS : ∀ g o, v.ownBlock = some g → base ≤ g → ¬ S g o) : IntsQ w' base v l := by
 rcases h with h | ⟨g, off, cap, cur, rfl, h1, h2, h3⟩
 · exact .inl h
 · exact .inr ⟨g, off, cap, cur, rfl, h1, hc.keep _ _ h2 (hS g _ rfl h1), h3⟩
theorem IntsQ.lt {w : World} {base : Nat} {v : Value} {l : List Int} (h : IntsQ w base v l) : ∀ g, v.ownBlock = some g → base ≤ g ∧ g < w.heap.size := by
 rcases h with ⟨rfl, _⟩ | ⟨g, off, cap, cur, rfl, h1, h2, h3⟩
 · intro g hg; simp [Value.ownBlock] at hg
 · intro k hk
   have e : g = k := by simpa [Value.ownBlock] using hk
   subst e
   exact ⟨h1, lt_size h2⟩
theorem IntsQ.head {w : World} {base : Nat} {v : Value} {x : Int} {l : List Int} (h : IntsQ w base v (x :: l)) :
   ∃ g off cap, v = .slice (some ⟨g, off, none⟩) (l.length + 1) cap ∧ l.length + 1 ≤ cap ∧ cap ≤ maxLen ∧ w.cell? ⟨g, off, none⟩ = some (.int .i64 x) ∧ (cap = 1 → IntsQ w base (.slice (some ⟨g, off, none⟩) l.length 0) l) ∧ (1 < cap → IntsQ w base (.slice (some ⟨g, off + 1, none⟩) l.length (cap - 1)) l) := by
 rcases h with ⟨_, h⟩ | ⟨g, off, cap, cur, rfl, h1, h2, h3, h4, h5, h6⟩
 · cases h
 · rw [List.length_cons] at h3
   have h0 := h6 0 x rfl
   refine ⟨g, off, cap, by rw [List.length_cons], h3, h4, by rw [cellAt h2]; simpa using h0, fun hc => ?_, fun hc => ?_⟩
   · have : l = [] := List.length_eq_zero_iff.1 (by omega)
     subst this
     exact .inr ⟨g, off, 0, cur, rfl, h1, h2, Nat.le_refl _, Nat.zero_le _, by omega, fun i y hy => by simp at hy⟩
   · refine .inr ⟨g, off + 1, cap - 1, cur, rfl, h1, h2, by omega, by omega, by omega, fun i y hy => ?_⟩
     have := h6 (i + 1) y (by simpa using hy)
     rw [show off + 1 + i = off + (i + 1) from by omega]
     exact this
theorem run_appendQ (w : World) (base : Nat) (v : Value) (xs : List Int) (hq : IntsQ w base v xs) (u : Value) (l : List Int) (hu : IntsAt w u l) (hb : xs.length + l.length ≤ 10000000) (hbase : base ≤ w.heap.size) (ty : TypeId) :
   ∃ v' w', (Builtin.append_ #[59, 59] ty #[v, u]).run Tryz.prog w = .ok v' w' ∧ IntsQ w' base v' (xs ++ l) ∧ Ch (fun k _ => v.ownBlock = some k) w w' ∧ (v'.ownBlock = v.ownBlock ∨ v'.ownBlock = some w.heap.size) := by
 obtain ⟨i, hi, hz, hs, hby⟩ := info_parts Tryz.infoInt0
 have ht : Tryz.prog.underlying 59 = some (.slice 3) := by kernel_rfl
 have hm : maxLen = 9223372036854775807 := rfl
 obtain ⟨uo, uc, rfl, h1, h2, h3, h4⟩ := hu
 have hlm : (l.map (Value.int .i64)).length = l.length := by simp
 have hsrc : Src Tryz.prog i.size 59 (.slice uo l.length uc) l.length (l.map (Value.int .i64)) w := by
   rw [hs]
   cases uo with
   | none =>
     have hl : l = [] := by
       cases l with
       | nil => rfl
       | cons x l =>
         obtain ⟨b, off, e, _⟩ := h4 (by simp)
         cases e
     subst hl
     exact Src.ofNil w ht uc
   | some a =>
     refine Src.ofSlice w ht a l.length uc _ (by simp) (fun j u hj => ?_) (map_one l)
     rw [List.getElem?_map, Option.map_eq_some_iff] at hj
     obtain ⟨y, hy, rfl⟩ := hj
     obtain ⟨b, off, e, h5⟩ := h4 (by have := (List.getElem?_eq_some_iff.1 hy).1; omega)
     cases e
     rw [Addr.add_lit]
     exact h5 j y hy
 by_cases hl0 : l = []
 · subst hl0
   obtain ⟨ao, cap, rfl, hle, _⟩ := hq.shape
   have hr := run_append_nothing w 59 59 ty 3 i ht hi ao xs.length cap hle _ hsrc
   refine ⟨_, w, hr, by simpa using hq, Ch.refl _ _, .inl rfl⟩
 have h0 : 0 < l.length := List.length_pos_iff.2 hl0
 have grow : ∀ (base' : Option Addr) (cap : Nat), cap < xs.length + l.length → (Builtin.firstCells i.size xs.length (.slice base' xs.length cap)).run Tryz.prog w.drew = .ok (xs.map (Value.int .i64)).toArray w.drew → xs.length ≤ cap →
     ∃ v' w', (Builtin.append_ #[59, 59] ty #[.slice base' xs.length cap, .slice uo l.length uc]).run Tryz.prog w = .ok v' w' ∧ IntsQ w' base v' (xs ++ l) ∧ Ch (fun k _ => (Value.slice base' xs.length cap).ownBlock = some k) w w' ∧
       (v'.ownBlock = (Value.slice base' xs.length cap).ownBlock ∨ v'.ownBlock = some w.heap.size) := by
   intro base' cap hc hold hnc
   have hr := run_append_grow_src w 59 59 ty 3 i _ ht hi hz base' xs.length cap _ hold _ l.length _ hsrc hc (by omega) (by rw [hby]; exact growslice_fits (by omega) (by omega))
   have hG1 := grownCap_ge w (xs.length + l.length) cap 3
   have hG2 := grownCap_le_maxLen w (xs.length + l.length) cap 3 (by omega)
   generalize grownCap w (xs.length + l.length) cap 3 = G at hr hG1 hG2
   have e1 : (Value.int .i64 0).cells.size = 1 := rfl
   refine ⟨_, _, hr, .inr ⟨w.heap.size, 0, G, _, by rw [List.length_append], hbase, heap_alloc_new w.drew _, by rw [List.length_append]; exact hG1, hG2, ?_, fun j x hx => ?_⟩, ((Ch.refl _ w).drew).alloc _, .inr rfl⟩
   · rw [Array.size_append, size_zeroCells, e1]
     simp
     omega
   · have hj := (List.getElem?_eq_some_iff.1 hx).1
     rw [Nat.zero_add, ← Array.getElem?_toList, Array.toList_append]
     show ((xs.map (Value.int .i64) ++ l.map (Value.int .i64)) ++ _)[j]? = _
     rw [← List.map_append, List.getElem?_append_left (by rw [List.length_map]; exact hj), List.getElem?_map, hx]
     rfl
 rcases hq with ⟨rfl, rfl⟩ | ⟨g, off, cap, cur, rfl, hg, hh, hcap, hmax, hcs, hct⟩
 · exact grow none 0 (by simpa using h0) (run_firstCells_none w.drew i.size 0 0 0) (Nat.le_refl _)
 · by_cases hroom : xs.length + l.length ≤ cap
   · have hr := run_append_room_src w 59 59 ty 3 i ht hi g off xs.length cap _ l.length _ hsrc hroom
       (fun j hj => by rw [hs, cellAt hh, Array.getElem?_eq_getElem (by rw [hlm] at hj; omega)]; rfl) (fun j hj => freeAt hh _)
     rw [hs, Nat.mul_one] at hr
     obtain ⟨cur', k1, k2, k3⟩ := setCells_heap (l.map (Value.int .i64)) (off + xs.length) w cur hh (by rw [hlm]; omega)
     refine ⟨_, _, hr, .inr ⟨g, off, cap, cur', by rw [List.length_append], hg, k1, by rw [List.length_append]; exact hroom, hmax, by omega, fun j x hx => ?_⟩, (setCells_ch (b := g) _ _ _).mono (fun k _ _ e => by rw [e]; rfl), .inl rfl⟩
     rw [← Array.getElem?_toList, k3]
     have hcl : cur.toList.length = cur.size := by simp
     by_cases hj : j < xs.length
     · rw [List.append_assoc, List.getElem?_append_left (by rw [List.length_take]; omega), List.getElem?_take, if_pos (by omega), Array.getElem?_toList]
       exact hct j x (by rw [List.getElem?_append_left hj] at hx; exact hx)
     · rw [List.getElem?_append_right (by omega)] at hx
       have hj2 := (List.getElem?_eq_some_iff.1 hx).1
       rw [List.append_assoc, List.getElem?_append_right (by rw [List.length_take]; omega), List.length_take, Nat.min_eq_left (by omega), show off + j - (off + xs.length) = j - xs.length from by omega,
         List.getElem?_append_left (by rw [hlm]; exact hj2), List.getElem?_map, hx]
       rfl
   · refine grow (some ⟨g, off, none⟩) cap (by omega) ?_ hcap
     rw [hs]
     exact run_firstCells_some w.drew 1 xs.length ⟨g, off, none⟩ xs.length cap _ (by simp) (fun j v hj => by
       rw [List.getElem?_map, Option.map_eq_some_iff] at hj
       obtain ⟨y, hy, rfl⟩ := hj
       rw [Addr.add_lit]
       show w.cell? _ = _
       rw [cellAt hh]
       exact hct j y hy)
theorem wpAppendQ {w : World} {ops : Array Oper} {rest : List Oper} {o : Oper} {a : Act} {Q : Exit → Act → World → Prop} (hgd : o.guard = none) (s x : Operand)
   (ho : o.op = .call { callee := .builtin .append, args := #[s, x], argTypes := #[59, 59] }) (base : Nat) (v : Value) (xs l : List Int) (hsv : a.eval s = v) (hq : IntsQ w base v xs)
   (u : Value) (hxv : a.eval x = u) (hu : IntsAt w u l) (hb : xs.length + l.length ≤ 10000000) (hbase : base ≤ w.heap.size)
   (hK : ∀ v' w', IntsQ w' base v' (xs ++ l) → Ch (fun k _ => v.ownBlock = some k) w w' → (v'.ownBlock = v.ownBlock ∨ v'.ownBlock = some w.heap.size) → wpList Tryz.prog ops Q rest (a.put o.dst v') w') :
   wpList Tryz.prog ops Q (o :: rest) a w := by
 refine wpList_plain hgd fun K hK' => ?_
 obtain ⟨v', w', hr, h1, h2, h3⟩ := run_appendQ w base v xs hq u l hu hb hbase o.type
 unfold Oper.wp
 simp [execOp, ho, resolve, invoke, builtin, hsv, hxv, hr, Result.andThen]
 exact hK' _ _ (hK v' w' h1 h2 h3)
end Go.Proofs.YtgjpgfedlgdjhaaGreatDoor
end
section
set_option linter.unusedVariables false
set_option linter.unusedSimpArgs false
namespace Go.Proofs.YtgjpgfedlgdjhaaGreatDoor
open Go.RowKit Go.W
structure RdSt (cs : List Cls) (i : Nat) (sl : List Int) (tl : List Nat) : Prop where
 seen : ∀ z ∈ sl, ∃ k : Nat, z = k ∧ k < cs.length ∧ k ≠ i ∧ Gr.Reach (upsN cs) i k
 todo : ∀ k ∈ tl, k < cs.length ∧ Gr.Reach (upsN cs) i k
 own : ∀ x ∈ upsN cs i, (x : Int) ∈ sl ∨ x ∈ tl
 cl : ∀ k : Nat, (k : Int) ∈ sl → ∀ x ∈ upsN cs k, (x : Int) ∈ sl ∨ x ∈ tl
theorem RdSt.start (cs : List Cls) (i : Nat) : RdSt cs i [] (upsN cs i) :=
 ⟨by simp, fun k hk => ⟨upsN_lt cs i k hk, .one hk⟩, fun x hx => .inr hx, fun k hk => by cases hk⟩
theorem RdSt.done {cs : List Cls} {i : Nat} {sl : List Int} (h : RdSt cs i sl []) : ¬ Gr.Reach (upsN cs) i i := by
 intro hr
 have key : ∀ {a b : Nat}, Gr.Reach (upsN cs) a b → (a = i ∨ (a : Int) ∈ sl) → (b : Int) ∈ sl := by
   intro a b hab
   induction hab with
   | one h1 =>
     rintro (e | e)
     · subst e; exact (h.own _ h1).resolve_right (by simp)
     · exact (h.cl _ e _ h1).resolve_right (by simp)
   | step h1 _ ih =>
     rintro (e | e)
     · subst e; exact ih (.inr ((h.own _ h1).resolve_right (by simp)))
     · exact ih (.inr ((h.cl _ e _ h1).resolve_right (by simp)))
 obtain ⟨k, e, _, hk, _⟩ := h.seen _ (key hr (.inl rfl))
 exact hk (by omega)
theorem RdSt.old {cs : List Cls} {i k : Nat} {sl : List Int} {tl : List Nat} (h : RdSt cs i sl (k :: tl)) (hk : (k : Int) ∈ sl) : RdSt cs i sl tl := by
 have key : ∀ x : Nat, ((x : Int) ∈ sl ∨ x ∈ k :: tl) → (x : Int) ∈ sl ∨ x ∈ tl := by
   rintro x (h1 | h1)
   · exact .inl h1
   · rcases List.mem_cons.1 h1 with rfl | h1
     · exact .inl hk
     · exact .inr h1
 exact ⟨h.seen, fun x hx => h.todo x (by simp [hx]), fun x hx => key x (h.own x hx), fun j hj x hx => key x (h.cl j hj x hx)⟩
theorem RdSt.new {cs : List Cls} {i k : Nat} {sl : List Int} {tl : List Nat} (h : RdSt cs i sl (k :: tl)) (hn : cs.length ≤ 20) (hki : k ≠ i) : RdSt cs i (putS sl (k : Int)) (tl ++ upsN cs k) := by
 obtain ⟨hkn, hkr⟩ := h.todo k (by simp)
 have hm : ∀ z : Int, z ∈ putS sl (k : Int) ↔ z ∈ sl ∨ z = k := by
   intro z
   rw [mem_putS]
   constructor
   · rintro (h | h)
     · exact .inl h
     · exact .inr h.1
   · rintro (h | h)
     · exact .inl h
     · exact .inr ⟨h, by omega, by omega⟩
 have key : ∀ x : Nat, ((x : Int) ∈ sl ∨ x ∈ k :: tl) → (x : Int) ∈ putS sl (k : Int) ∨ x ∈ tl ++ upsN cs k := by
   rintro x (h1 | h1)
   · exact .inl ((hm _).2 (.inl h1))
   · rcases List.mem_cons.1 h1 with rfl | h1
     · exact .inl ((hm _).2 (.inr rfl))
     · exact .inr (by simp [h1])
 refine ⟨fun z hz => ?_, fun x hx => ?_, fun x hx => key x (h.own x hx), fun j hj x hx => ?_⟩
 · rcases (hm z).1 hz with hz | rfl
   · exact h.seen z hz
   · exact ⟨k, rfl, hkn, hki, hkr⟩
 · rcases List.mem_append.1 hx with hx | hx
   · exact h.todo x (by simp [hx])
   · exact ⟨upsN_lt cs k x hx, hkr.snoc hx⟩
 · rcases (hm _).1 hj with hj | hj
   · exact key x (h.cl j hj x hx)
   · have : j = k := by omega
     subst this
     exact .inr (by simp [hx])
theorem RdSt.len {cs : List Cls} {i : Nat} {sl : List Int} {tl : List Nat} (h : RdSt cs i sl tl) (hg : Good sl) : sl.length ≤ cs.length := by
 have := Gr.nodup_sub sl ((List.range cs.length).map (fun j : Nat => (j : Int))) (hg.1.imp (fun h => by omega)) (fun z hz => by
   obtain ⟨k, rfl, hk, _⟩ := h.seen z hz
   exact List.mem_map.2 ⟨k, by simpa using hk, rfl⟩)
 simpa using this
theorem upsLen {cs : List Cls} (hsm : SmallP cs) (k : Nat) : (upsN cs k).length ≤ 11 := by
 unfold upsN
 cases hc : cs[k]? with
 | none => simp
 | some c =>
   have h1 := List.length_filterMap_le (find cs) c.ups
   have h2 := hsm.2 c (List.mem_of_getElem? hc)
   have h3 : c.ups.length ≤ 11 := by
     unfold Cls.ups
     rw [List.length_append]
     split <;> simp <;> omega
   exact Nat.le_trans h1 h3
def RoundOut (cs : List Cls) (i : Nat) (w : World) (e : Ending) (w' : World) : Prop := (Gr.Reach (upsN cs) i i ∧ e = .returned (.bool true) ∨ ¬ Gr.Reach (upsN cs) i i ∧ e = .returned (.bool false)) ∧ Ch No w w'
set_option maxHeartbeats 8000000 in
theorem hround {w : World} {tb : Nat} {T : TabD} {cs : List Cls} (h : TabAt w tb T) (hK : KsOf cs T) (hS : SoundP cs) (hsm : SmallP cs) {i : Nat} (hi : i < cs.length) :
   Calls Tryz.prog 74 #[.pointer (some ⟨tb, 0, none⟩), .int .i64 i] w (RoundOut cs i w) := by
 have hof := sof (IntsAt.nil w)
 have hrt := fun (wr : World) (hr : Ch No w wr) (k : Nat) (hk : k < cs.length) => show Calls Tryz.prog 49 #[.pointer (some ⟨tb, 0, none⟩), .int .i64 k] wr (fun e w' => ∃ u, e = .returned u ∧ IntsOwn w' wr.heap.size u ((upsN cs k).map (fun j : Nat => (j : Int))) ∧ Ch No wr w') by
   obtain ⟨c, hc⟩ : ∃ c, cs[k]? = some c := ⟨_, List.getElem?_eq_getElem hk⟩
   obtain ⟨x, hx⟩ : ∃ x, T.ks[k]? = some x := ⟨_, List.getElem?_eq_getElem (by rw [hK.len]; exact hk)⟩
   have hfl : x.fs.length ≤ 1000000 := by
     obtain ⟨_, _, _, h4⟩ := hK.row k c x hc hx
     rw [h4, List.length_map]; have := hsm.2 c (List.mem_of_getElem? hc); omega
   have := hright (h.no hr) hx hfl
   rw [rightK hK hc hx (hS k c hc)] at this
   exact this
 have HRT := hid hrt
 have HM := hid hsm
 have hn20 := hsm.1
 clear hrt hsm h hK hS
 go_enter Tryz.func74, Tryz.ntmps74
 go_wp2_with fail
 refine hof.mono ?_
 rintro e w1 ⟨u, rfl, hs, hc1⟩
 obtain ⟨sb, ob, rfl, hset, hr, hr'⟩ := hs.openIt
 have hr1 := HRT.out w1 hc1 i hi
 have HS0 := hid hset
 have HC1 := hid hc1
 clear hof hs hset hc1
 go_wp2_with fail
 refine hr1.mono ?_
 rintro e w2 ⟨u, rfl, hu, hc2⟩
 have hub : ∀ g, u.ownBlock = some g → w1.heap.size ≤ g := fun g hg => (hu.lt g hg).1
 have hq0 := (hu.base HC1.out.size).q
 have HQ0 := hid hq0
 have HS2 := hid (HS0.out.no hc2)
 have HC2 := hid (HC1.out.trans hc2)
 have HD0 := hid (show (∀ o, ob = some o → w.heap.size ≤ o ∧ u.ownBlock ≠ some o) ∧ u.ownBlock ≠ some sb from ⟨fun o ho => ⟨(hr' o ho).1, fun e => by have := hub o e; have := (hr' o ho).2; omega⟩, fun e => by have := hub sb e; omega⟩)
 clear hr1 hu hc2 hq0 hub
 go_wp2_with fail
 go_loopg [6] (cs.length * 12 + 12) (fun g s6 wr => ∃ (sl : List Int) (ob : Option Nat) (tl : List Nat), (cs.length - sl.length) * 12 + tl.length ≤ g ∧ Hid (RdSt cs i sl tl) ∧ Hid (SetAt wr sb sl ob) ∧ Hid (IntsQ wr w.heap.size s6 (tl.map (fun j : Nat => (j : Int)))) ∧ Hid (Ch No w wr) ∧ Hid ((∀ o, ob = some o → w.heap.size ≤ o ∧ s6.ownBlock ≠ some o) ∧ s6.ownBlock ≠ some sb) ∧ Hid ((cs.length - sl.length) * 12 + tl.length ≤ 300))
 case atStart => exact ⟨[], ob, upsN cs i, by have := upsLen HM.out i; simp; omega, hid (.start cs i), HS2, HQ0, HC2, HD0, hid (by have := upsLen HM.out i; simp; omega)⟩
 case round =>
   obtain ⟨sl, ob2, tl, hg, HI, HSE, HQ, HC, HD, HTL⟩ := hrel
   cases tl with
   | nil =>
     obtain ⟨ao, cap, rfl, _, hmx⟩ := HQ.out.shape
     rw [List.map_nil, List.length_nil]
     go_wp2_with fail
     go_ret
     exact ⟨.inr ⟨HI.out.done, rfl⟩, HC.out⟩
   | cons k tl =>
     obtain ⟨hkn, hkr⟩ := HI.out.todo k (by simp)
     obtain ⟨g1, off, cap, rfl, hcap, hmx, hcell, h1, h2⟩ := IntsQ.head (show IntsQ wr w.heap.size _ ((k : Int) :: tl.map (fun j : Nat => (j : Int))) from HQ.out)
     rw [List.length_map] at hcap h1 h2 HD ⊢
     unfold maxLen at hmx
     have hg1 : g1 < wr.heap.size := block_lt_of_cell hcell
     have HKR := hid hkr
     clear hkr
     cases hki : ((k : Int) == (i : Int)) with
     | true =>
       have e : k = i := by
         have : (k : Int) = (i : Int) := by simpa using hki
         omega
       have HR := hid (show Gr.Reach (upsN cs) i i from e ▸ HKR.out)
       clear e
       by_cases hc1' : cap = 1
       · have h0 : tl.length = 0 := by omega
         subst hc1'
         rw [h0]
         clear h0 h1 h2
         go_wp2_with fail
         go_ret
         exact ⟨.inl ⟨HR.out, rfl⟩, HC.out⟩
       · clear h1 h2
         go_wp2_with fail
         go_ret
         exact ⟨.inl ⟨HR.out, rfl⟩, HC.out⟩
     | false =>
       have hki' : k ≠ i := by
         intro e; subst e; simp at hki
       by_cases hc1' : cap = 1
       · have h0 : tl.length = 0 := by omega
         subst hc1'
         have hq6 := h1 rfl
         rw [h0] at hq6 HD ⊢
         have HQ6 := hid hq6
         have H0 := hid h0
         clear h0 h1 h2 hq6
         by_cases hks : (k : Int) ∈ sl
         · have hadd : Calls Tryz.prog 112 #[.pointer (some ⟨sb, 0, none⟩), .int .i64 (k : Int)] wr (fun e w' => e = .returned (.bool false) ∧ ∃ ob', SetAt w' sb sl ob' ∧ Ch (So sb ob2) wr w' ∧ (ob' = ob2 ∨ ∃ g, ob' = some g ∧ wr.heap.size ≤ g)) :=
             (sadd HSE.out (k : Int)).mono fun e w' ⟨he, ob', h1, h2, h3⟩ => ⟨he.trans (ret_bool (by simp [hks])), ob', by rw [putS_same (fun h => h.2.2 hks)] at h1; exact h1, h2, h3⟩
           have HKS := hid hks
           clear hks
           go_wp2_with fail
           refine hadd.mono ?_
           rintro e w3 ⟨rfl, ob3, hs3, hc3, ho3⟩
           have HS3 := hid hs3
           have HC3 := hid hc3
           have HO3 := hid ho3
           clear hadd hs3 hc3 ho3
           go_wp2_with fail
           go_roundg ((cs.length - sl.length) * 12 + tl.length)
           case rel =>
             have hso : ∀ g o, (.slice (some ⟨g1, off, none⟩) 0 0 : Value).ownBlock = some g → ¬ So sb ob2 g o := by
               rintro g o hg (e | e)
               · exact HD.out.2 (by rw [← e, ← hg]; rfl)
               · exact (HD.out.1 g e).2 (by rw [← hg]; rfl)
             refine ⟨sl, ob3, tl, Nat.le_refl _, hid (HI.out.old HKS.out), HS3, hid (HQ6.out.ch HC3.out (fun g o hg _ => hso g o hg)), hid (HC.out.trans' HC3.out (fun j o hj hs => ?_)), hid ⟨fun o ho => ?_, HD.out.2⟩, hid (by have := HTL.out; simp only [List.length_cons] at this; omega)⟩
             · have := lt_size hj
               rcases hs with e | e
               · omega
               · have := (HD.out.1 j e).1; omega
             · rcases HO3.out with e | ⟨g, e, hg⟩
               · exact HD.out.1 o (e ▸ ho)
               · rw [e] at ho; cases ho
                 exact ⟨by have := HC.out.size; omega, fun e => by have e' : g1 = o := by simpa [Value.ownBlock] using e
                                                                   omega⟩
           case measure => simp only [List.length_cons] at hg; omega
         · have hl1 := putS_len (l := sl) (n := (k : Int)) (by omega) (by omega) hks
           have hadd : Calls Tryz.prog 112 #[.pointer (some ⟨sb, 0, none⟩), .int .i64 (k : Int)] wr (fun e w' => e = .returned (.bool true) ∧ ∃ ob', SetAt w' sb (putS sl (k : Int)) ob' ∧ Ch (So sb ob2) wr w' ∧ (ob' = ob2 ∨ ∃ g, ob' = some g ∧ wr.heap.size ≤ g)) :=
             (sadd HSE.out (k : Int)).mono fun e w' ⟨he, ob', h1, h2, h3⟩ => ⟨he.trans (ret_bool (by simp [hks]; omega)), ob', h1, h2, h3⟩
           have HKS := hid hks
           have HL1 := hid hl1
           clear hks hl1
           go_wp2_with fail
           refine hadd.mono ?_
           rintro e w3 ⟨rfl, ob3, hs3, hc3, ho3⟩
           have hso : ∀ g o, (.slice (some ⟨g1, off, none⟩) 0 0 : Value).ownBlock = some g → ¬ So sb ob2 g o := by
             rintro g o hg (e | e)
             · exact HD.out.2 (by rw [← e, ← hg]; rfl)
             · exact (HD.out.1 g e).2 (by rw [← hg]; rfl)
           have hcw3 : Ch No w w3 := HC.out.trans' hc3 (fun j o hj hs => by
             have := lt_size hj
             rcases hs with e | e
             · omega
             · have := (HD.out.1 j e).1; omega)
           have hr3 := HRT.out w3 hcw3 k hkn
           have HS3 := hid hs3
           have HQ3 := hid (HQ6.out.ch hc3 (fun g o hg _ => hso g o hg))
           have HCW3 := hid hcw3
           have HO3 := hid ho3
           have hz3 := hc3.size
           clear hadd hs3 hc3 ho3 hso hcw3
           go_wp2_with fail
           refine hr3.mono ?_
           rintro e w4 ⟨u4, rfl, hu4, hc4⟩
           have HU4 := hid hu4.at_
           have HC4 := hid hc4
           have hbb : (tl.map (fun j : Nat => (j : Int))).length + ((upsN cs k).map (fun j : Nat => (j : Int))).length ≤ 10000000 := by
             have := upsLen HM.out k
             have := HTL.out
             simp only [List.length_cons] at this
             rw [List.length_map, List.length_map]
             omega
           have hz4 : w.heap.size ≤ w4.heap.size := by have := HCW3.out.size; have := hc4.size; omega
           clear hr3 hu4 hc4
           go_wp2_with (at_builtin; go_must (refine wpAppendQ rfl _ _ rfl w.heap.size (.slice (some ⟨g1, off, none⟩) 0 0) (tl.map (fun j : Nat => (j : Int))) ((upsN cs k).map (fun j : Nat => (j : Int))) rfl (HQ3.out.ch HC4.out (fun _ _ _ _ h => h)) u4 rfl HU4.out hbb hz4 ?_))
           intro v5 w5 hq5 hc5 hb5
           have HQ5 := hid hq5
           have HC5 := hid hc5
           have HB5 := hid hb5
           clear hq5 hc5 hb5
           go_wp2_with fail
           go_roundg ((cs.length - sl.length) * 12 + tl.length)
           case rel =>
             have hnl := (HI.out.new HM.out.1 hki').len (HS3.out.v.good)
             have h11 := upsLen HM.out k
             have hgb : ∀ g, (.slice (some ⟨g1, off, none⟩) 0 0 : Value).ownBlock = some g → g = g1 := fun g hg => by
               have : g1 = g := by simpa [Value.ownBlock] using hg
               exact this.symm
             have hlt3 := HS3.out.lt
             have hc4s := HC4.out.size
             have hl2 := HL1.out
             have hg1sb : g1 ≠ sb := fun e => HD.out.2 (by rw [e]; rfl)
             have hg1ob : ∀ o, ob3 = some o → o ≠ g1 := fun o ho e => by
               rcases HO3.out with e2 | ⟨g, e2, hg⟩
               · exact (HD.out.1 o (e2 ▸ ho)).2 (by rw [e]; rfl)
               · rw [e2] at ho; cases ho; omega
             refine ⟨putS sl (k : Int), ob3, tl ++ upsN cs k, by rw [List.length_append]; omega, hid (HI.out.new HM.out.1 hki'), hid ((HS3.out.no HC4.out).ch HC5.out (fun o e => hg1sb (hgb _ e).symm) (fun b o hb e => hg1ob b hb (hgb _ e))), hid (by rw [List.map_append]; exact HQ5.out), hid ((HCW3.out.trans HC4.out).trans' HC5.out (fun j o hj e => ?_)), hid ⟨fun o ho => ⟨?_, ?_⟩, ?_⟩, hid (by have := HTL.out; simp only [List.length_cons] at this; rw [List.length_append]; omega)⟩
             · have := hgb _ e
               have := lt_size hj
               have := (HQ6.out.lt g1 rfl).1
               omega
             · rcases HO3.out with e | ⟨g, e, hg⟩
               · exact (HD.out.1 o (e ▸ ho)).1
               · rw [e] at ho; cases ho; have := HC.out.size; omega
             · intro e
               rcases HB5.out with h | h
               · rw [h] at e; exact hg1ob o ho (hgb _ e)
               · rw [h] at e; cases e; have := hlt3.2 _ ho; omega
             · intro e
               rcases HB5.out with h | h
               · rw [h] at e; exact hg1sb (hgb _ e).symm
               · rw [h] at e; cases e; have := hlt3.1; omega
           case measure => simp only [List.length_cons] at hg; omega
       · have hq6 := h2 (by omega)
         have HQ6 := hid hq6
         clear h1 h2 hq6
         by_cases hks : (k : Int) ∈ sl
         · have hadd : Calls Tryz.prog 112 #[.pointer (some ⟨sb, 0, none⟩), .int .i64 (k : Int)] wr (fun e w' => e = .returned (.bool false) ∧ ∃ ob', SetAt w' sb sl ob' ∧ Ch (So sb ob2) wr w' ∧ (ob' = ob2 ∨ ∃ g, ob' = some g ∧ wr.heap.size ≤ g)) :=
             (sadd HSE.out (k : Int)).mono fun e w' ⟨he, ob', h1, h2, h3⟩ => ⟨he.trans (ret_bool (by simp [hks])), ob', by rw [putS_same (fun h => h.2.2 hks)] at h1; exact h1, h2, h3⟩
           have HKS := hid hks
           clear hks
           go_wp2_with fail
           refine hadd.mono ?_
           rintro e w3 ⟨rfl, ob3, hs3, hc3, ho3⟩
           have HS3 := hid hs3
           have HC3 := hid hc3
           have HO3 := hid ho3
           clear hadd hs3 hc3 ho3
           go_wp2_with fail
           go_roundg ((cs.length - sl.length) * 12 + tl.length)
           case rel =>
             have hso : ∀ g o, (.slice (some ⟨g1, off + 1, none⟩) tl.length (cap - 1) : Value).ownBlock = some g → ¬ So sb ob2 g o := by
               rintro g o hg (e | e)
               · exact HD.out.2 (by rw [← e, ← hg]; rfl)
               · exact (HD.out.1 g e).2 (by rw [← hg]; rfl)
             refine ⟨sl, ob3, tl, Nat.le_refl _, hid (HI.out.old HKS.out), HS3, hid (HQ6.out.ch HC3.out (fun g o hg _ => hso g o hg)), hid (HC.out.trans' HC3.out (fun j o hj hs => ?_)), hid ⟨fun o ho => ?_, HD.out.2⟩, hid (by have := HTL.out; simp only [List.length_cons] at this; omega)⟩
             · have := lt_size hj
               rcases hs with e | e
               · omega
               · have := (HD.out.1 j e).1; omega
             · rcases HO3.out with e | ⟨g, e, hg⟩
               · exact HD.out.1 o (e ▸ ho)
               · rw [e] at ho; cases ho
                 exact ⟨by have := HC.out.size; omega, fun e => by have e' : g1 = o := by simpa [Value.ownBlock] using e
                                                                   omega⟩
           case measure => simp only [List.length_cons] at hg; omega
         · have hl1 := putS_len (l := sl) (n := (k : Int)) (by omega) (by omega) hks
           have hadd : Calls Tryz.prog 112 #[.pointer (some ⟨sb, 0, none⟩), .int .i64 (k : Int)] wr (fun e w' => e = .returned (.bool true) ∧ ∃ ob', SetAt w' sb (putS sl (k : Int)) ob' ∧ Ch (So sb ob2) wr w' ∧ (ob' = ob2 ∨ ∃ g, ob' = some g ∧ wr.heap.size ≤ g)) :=
             (sadd HSE.out (k : Int)).mono fun e w' ⟨he, ob', h1, h2, h3⟩ => ⟨he.trans (ret_bool (by simp [hks]; omega)), ob', h1, h2, h3⟩
           have HKS := hid hks
           have HL1 := hid hl1
           clear hks hl1
           go_wp2_with fail
           refine hadd.mono ?_
           rintro e w3 ⟨rfl, ob3, hs3, hc3, ho3⟩
           have hso : ∀ g o, (.slice (some ⟨g1, off + 1, none⟩) tl.length (cap - 1) : Value).ownBlock = some g → ¬ So sb ob2 g o := by
             rintro g o hg (e | e)
             · exact HD.out.2 (by rw [← e, ← hg]; rfl)
             · exact (HD.out.1 g e).2 (by rw [← hg]; rfl)
           have hcw3 : Ch No w w3 := HC.out.trans' hc3 (fun j o hj hs => by
             have := lt_size hj
             rcases hs with e | e
             · omega
             · have := (HD.out.1 j e).1; omega)
           have hr3 := HRT.out w3 hcw3 k hkn
           have HS3 := hid hs3
           have HQ3 := hid (HQ6.out.ch hc3 (fun g o hg _ => hso g o hg))
           have HCW3 := hid hcw3
           have HO3 := hid ho3
           have hz3 := hc3.size
           clear hadd hs3 hc3 ho3 hso hcw3
           go_wp2_with fail
           refine hr3.mono ?_
           rintro e w4 ⟨u4, rfl, hu4, hc4⟩
           have HU4 := hid hu4.at_
           have HC4 := hid hc4
           have hbb : (tl.map (fun j : Nat => (j : Int))).length + ((upsN cs k).map (fun j : Nat => (j : Int))).length ≤ 10000000 := by
             have := upsLen HM.out k
             have := HTL.out
             simp only [List.length_cons] at this
             rw [List.length_map, List.length_map]
             omega
           have hz4 : w.heap.size ≤ w4.heap.size := by have := HCW3.out.size; have := hc4.size; omega
           clear hr3 hu4 hc4
           go_wp2_with (at_builtin; go_must (refine wpAppendQ rfl _ _ rfl w.heap.size (.slice (some ⟨g1, off + 1, none⟩) tl.length (cap - 1)) (tl.map (fun j : Nat => (j : Int))) ((upsN cs k).map (fun j : Nat => (j : Int))) rfl (HQ3.out.ch HC4.out (fun _ _ _ _ h => h)) u4 rfl HU4.out hbb hz4 ?_))
           intro v5 w5 hq5 hc5 hb5
           have HQ5 := hid hq5
           have HC5 := hid hc5
           have HB5 := hid hb5
           clear hq5 hc5 hb5
           go_wp2_with fail
           go_roundg ((cs.length - sl.length) * 12 + tl.length)
           case rel =>
             have hnl := (HI.out.new HM.out.1 hki').len (HS3.out.v.good)
             have h11 := upsLen HM.out k
             have hgb : ∀ g, (.slice (some ⟨g1, off + 1, none⟩) tl.length (cap - 1) : Value).ownBlock = some g → g = g1 := fun g hg => by
               have : g1 = g := by simpa [Value.ownBlock] using hg
               exact this.symm
             have hlt3 := HS3.out.lt
             have hc4s := HC4.out.size
             have hl2 := HL1.out
             have hg1sb : g1 ≠ sb := fun e => HD.out.2 (by rw [e]; rfl)
             have hg1ob : ∀ o, ob3 = some o → o ≠ g1 := fun o ho e => by
               rcases HO3.out with e2 | ⟨g, e2, hg⟩
               · exact (HD.out.1 o (e2 ▸ ho)).2 (by rw [e]; rfl)
               · rw [e2] at ho; cases ho; omega
             refine ⟨putS sl (k : Int), ob3, tl ++ upsN cs k, by rw [List.length_append]; omega, hid (HI.out.new HM.out.1 hki'), hid ((HS3.out.no HC4.out).ch HC5.out (fun o e => hg1sb (hgb _ e).symm) (fun b o hb e => hg1ob b hb (hgb _ e))), hid (by rw [List.map_append]; exact HQ5.out), hid ((HCW3.out.trans HC4.out).trans' HC5.out (fun j o hj e => ?_)), hid ⟨fun o ho => ⟨?_, ?_⟩, ?_⟩, hid (by have := HTL.out; simp only [List.length_cons] at this; rw [List.length_append]; omega)⟩
             · have := hgb _ e
               have := lt_size hj
               have := (HQ6.out.lt g1 rfl).1
               omega
             · rcases HO3.out with e | ⟨g, e, hg⟩
               · exact (HD.out.1 o (e ▸ ho)).1
               · rw [e] at ho; cases ho; have := HC.out.size; omega
             · intro e
               rcases HB5.out with h | h
               · rw [h] at e; exact hg1ob o ho (hgb _ e)
               · rw [h] at e; cases e; have := hlt3.2 _ ho; omega
             · intro e
               rcases HB5.out with h | h
               · rw [h] at e; exact hg1sb (hgb _ e).symm
               · rw [h] at e; cases e; have := hlt3.1; omega
           case measure => simp only [List.length_cons] at hg; omega
end Go.Proofs.YtgjpgfedlgdjhaaGreatDoor
end
section
set_option linter.unusedVariables false
set_option linter.unusedSimpArgs false
namespace Go.Proofs.YtgjpgfedlgdjhaaGreatDoor
open Go.RowKit Go.W
theorem Tryz.infoKind : (Tryz.prog.info? 147).map (fun i => (i.zero.map (fun z => z.cells.size), i.size, i.bytes)) = some (some 4, 4, 56) := by kernel_rfl
theorem Tryz.sliceKind : Tryz.prog.underlying 143 = some (.slice 147) := by kernel_rfl
structure KndsOwn (w : World) (base : Nat) (v : Value) (ks : List Knd) : Prop where
 row : w.ownsRow base 147 4 v ks.length (ks.flatMap Knd.cells)
 fs : ∀ k ∈ ks, IntsOwn w base (.slice k.fa k.fs.length k.fc) k.fs
theorem KndsOwn.nil (w : World) (base : Nat) : KndsOwn w base (.slice none 0 0) [] := ⟨World.ownsRow_nil _ _ _ _, fun k hk => by cases hk⟩
theorem KndsOwn.ch {S : Nat → Obj → Prop} {w w' : World} {base : Nat} {v : Value} {ks : List Knd} (h : KndsOwn w base v ks) (hc : Ch S w w') (hS : ∀ g o, base ≤ g → ¬ S g o) : KndsOwn w' base v ks :=
 ⟨ownsRow_ch h.row hc (fun g cur _ hg _ => hS g _ hg), fun k hk => (h.fs k hk).ch hc (fun g o _ hg _ => hS g o hg)⟩
theorem KndsOwn.no {w w' : World} {base : Nat} {v : Value} {ks : List Knd} (h : KndsOwn w base v ks) (hc : Ch No w w') : KndsOwn w' base v ks := h.ch hc (fun _ _ _ h => h)
theorem KndsOwn.lt {w : World} {base : Nat} {v : Value} {ks : List Knd} (h : KndsOwn w base v ks) : ∀ g, v.ownBlock = some g → base ≤ g ∧ ∃ cur, w.heap[g]? = some (.cells cur 147 (0, 0)) := by
 intro g hg
 rcases h.row.2 with ⟨rfl, _⟩ | ⟨g', cap, cur, rfl, h2, h3, _⟩
 · simp [Value.ownBlock] at hg
 · have e : g' = g := by simpa [Value.ownBlock] using hg
   subst e
   exact ⟨h2, cur, h3⟩
theorem IntsOwn.typed {w : World} {base : Nat} {v : Value} {l : List Int} (h : IntsOwn w base v l) : ∀ g, v.ownBlock = some g → ∃ cur, w.heap[g]? = some (.cells cur 3 (0, 0)) := by
 intro g hg
 rcases h.2 with ⟨rfl, _⟩ | ⟨g', cap, cur, rfl, h2, h3, _⟩
 · simp [Value.ownBlock] at hg
 · have e : g' = g := by simpa [Value.ownBlock] using hg
   subst e
   exact ⟨cur, h3⟩
theorem Knd.cells_len (k : Knd) : k.cells.length = 4 := rfl
theorem KndsOwn.shape {w : World} {base : Nat} {v : Value} {ks : List Knd} (h : KndsOwn w base v ks) : ∃ ao cap, v = .slice ao ks.length cap ∧ ks.length ≤ cap ∧ cap ≤ maxLen := by
 rcases h.row.2 with ⟨rfl, h0⟩ | ⟨g, cap, cur, rfl, _, _, h4, h5, _⟩
 · rw [h0]; exact ⟨_, _, rfl, Nat.le_refl _, Nat.zero_le _⟩
 · exact ⟨_, _, rfl, h4, h5⟩
theorem KndsOwn.at_ {w : World} {base : Nat} {v : Value} {ks : List Knd} (h : KndsOwn w base v ks) : KndsAt w v ks := by
 refine ⟨?_, fun k hk => (h.fs k hk).at_⟩
 rcases h.row.2 with ⟨rfl, h0⟩ | ⟨g, cap, cur, rfl, hg, hh, h4, h5, h6, h7⟩
 · have : ks = [] := List.length_eq_zero_iff.1 h0
   subst this
   exact ⟨none, 0, rfl, Nat.le_refl _, Nat.zero_le _, by simp, fun h => by simp at h⟩
 · refine ⟨some ⟨g, 0, none⟩, cap, by rw [List.length_map], by rw [List.length_map]; exact h4, h5, fun c hc => ?_, fun _ => ⟨g, 0, rfl, fun i c hi j hj => ?_⟩⟩
   · obtain ⟨k, _, rfl⟩ := List.mem_map.1 hc
     rfl
   · rw [List.getElem?_map] at hi
     cases hk : ks[i]? with
     | none => rw [hk] at hi; cases hi
     | some k =>
       rw [hk] at hi
       have : c = k.cells := by simpa using hi.symm
       subst this
       have hil := (List.getElem?_eq_some_iff.1 hk).1
       rw [cellAt hh, Nat.zero_add, ← Array.getElem?_toList]
       have hf := flat_get Knd.cells 4 Knd.cells_len ks i j k hk hj
       rw [← h7, List.getElem?_take, if_pos (by omega)] at hf
       exact hf
theorem run_appendK (w : World) (base : Nat) (v : Value) (ks : List Knd) (hown : KndsOwn w base v ks) (k : Knd) (b c : Nat) (hb : w.heap[b]? = some (.cells #[.string k.name, .bool k.face, .int .i64 k.sup, .slice k.fa k.fs.length k.fc] 147 (0, 0)))
   (hn : ks.length ≤ 1000) (hbase : base ≤ w.heap.size) (hfs : IntsOwn w base (.slice k.fa k.fs.length k.fc) k.fs) (ty : TypeId) :
   ∃ v' w', (Builtin.append_ #[143, 143] ty #[v, .slice (some ⟨b, 0, none⟩) 1 c]).run Tryz.prog w = .ok v' w' ∧ KndsOwn w' base v' (ks ++ [k]) ∧ Ch (fun j _ => v.ownBlock = some j) w w' := by
 obtain ⟨i, z, hi, hz, h1, h2, h3⟩ := infoOf Tryz.infoKind
 have hm : maxLen = 9223372036854775807 := rfl
 obtain ⟨v', w', hr, ho, hg, _⟩ := run_append_own (P := Tryz.prog) w base 143 ty 147 i z 4 56 Tryz.sliceKind hi hz h2 h3 h1 (by decide) v ks.length _ hown.row ⟨b, 0, none⟩ 1 c k.cells rfl
   (fun j u hj => by
     rw [Addr.add_lit, cellAt hb, Nat.zero_add]
     have : k.cells[j]? = (#[.string k.name, .bool k.face, .int .i64 k.sup, .slice k.fa k.fs.length k.fc] : Array Value)[j]? := by
       rw [← Array.getElem?_toList]; rfl
     rw [← this]; exact hj) (by intro u hu; simp [Knd.cells] at hu; rcases hu with rfl | rfl | rfl | rfl <;> rfl) (by omega) (by omega) hbase
 have hch : Ch (fun j _ => v.ownBlock = some j) w w' := (Ch.refl _ w).grown hg (fun _ _ h _ => h)
 refine ⟨v', w', hr, ⟨?_, fun x hx => ?_⟩, hch⟩
 · rw [List.length_append, List.flatMap_append]
   simpa using ho
 · have hx' : IntsOwn w base (.slice x.fa x.fs.length x.fc) x.fs := by
     rcases List.mem_append.1 hx with hx | hx
     · exact hown.fs x hx
     · have : x = k := by simpa using hx
       subst this; exact hfs
   refine hx'.ch hch (fun g o hg hbg ho e => ?_)
   obtain ⟨cur, h5⟩ := hx'.typed g hg
   obtain ⟨_, cur2, h6⟩ := hown.lt g e
   rw [h5] at h6
   simp at h6
theorem step_appendK {ops : Array Oper} {o : Oper} {a : Act} {w : World} {K : Act → World → Prop} {Q : Exit → Act → World → Prop} {E : Prop}
   (hg : o.guard = none) (s x : Operand) (hop : o.op = Op.call { callee := Callee.builtin Builtin.append, args := #[s, x], argTypes := #[143, 143] })
   (base : Nat) (v : Value) (ks : List Knd) (hs : a.eval s = v) (hown : KndsOwn w base v ks) (k : Knd) (b c : Nat) (hx : a.eval x = .slice (some ⟨b, 0, none⟩) 1 c)
   (hb : w.heap[b]? = some (.cells #[.string k.name, .bool k.face, .int .i64 k.sup, .slice k.fa k.fs.length k.fc] 147 (0, 0)))
   (hn : ks.length ≤ 1000) (hbase : base ≤ w.heap.size) (hfs : IntsOwn w base (.slice k.fa k.fs.length k.fc) k.fs)
   (hK : ∀ v' w', KndsOwn w' base v' (ks ++ [k]) → Ch (fun j _ => v.ownBlock = some j) w w' → K (a.put o.dst v') w') :
   if Region.wanted o (yielded ops a.tmps) = true then Oper.wp Tryz.prog o a w K Q else E := by
 have hw : Region.wanted o (yielded ops a.tmps) = true := by simp [Region.wanted, hg]
 rw [if_pos hw]
 obtain ⟨v', w', hr, h1, h2⟩ := run_appendK w base v ks hown k b c hb hn hbase hfs o.type
 unfold Oper.wp
 simp [execOp, hop, resolve, invoke, builtin, hs, hx, hr, Result.andThen]
 exact hK v' w' h1 h2
theorem find_snoc {cs : List Cls} {k : Nat} {c : Cls} (hc : cs[k]? = some c) (nm : ByteArray) :
   find (cs.take (k + 1)) nm = match find (cs.take k) nm with | some i => some i | none => if c.name = nm then some k else none := by
 have hk := (List.getElem?_eq_some_iff.1 hc).1
 rw [List.take_add_one, hc]
 unfold find
 simp only [Option.toList_some]
 rw [List.findIdx?_append]
 cases h : List.findIdx? (fun c => decide (c.name = nm)) (cs.take k) with
 | some i => rfl
 | none =>
   by_cases e : c.name = nm
   · simp [List.findIdx?_cons, e, List.length_take, Nat.min_eq_left (Nat.le_of_lt hk)]
   · simp [List.findIdx?_cons, e]
theorem take_old {cs : List Cls} {k : Nat} {c : Cls} (hc : cs[k]? = some c) (h : (find (cs.take k) c.name).isSome = true) : find (cs.take (k + 1)) = find (cs.take k) := by
 funext nm
 rw [find_snoc hc]
 cases hf : find (cs.take k) nm with
 | some i => rfl
 | none =>
   rw [if_neg]
   intro e
   rw [e, hf] at h
   cases h
theorem take_new {cs : List Cls} {k : Nat} {c : Cls} (hc : cs[k]? = some c) (h : find (cs.take k) c.name = none) : ∀ nm, getV (find (cs.take (k + 1))) nm = if nm = c.name then some (.int .i64 (k : Int)) else getV (find (cs.take k)) nm := by
 intro nm
 unfold getV
 rw [find_snoc hc]
 by_cases e : nm = c.name
 · subst e
   rw [h]; simp
 · rw [if_neg e]
   cases find (cs.take k) nm with
   | some i => rfl
   | none => rw [if_neg (fun h => e h.symm)]
end Go.Proofs.YtgjpgfedlgdjhaaGreatDoor
end
end
