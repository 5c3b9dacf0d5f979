/- What the claim uses: part 14. -/
import Derived.Test.YtgjpgfedlgdjhaaGreatDoorZam
import Derived.Deep.AppendSrc
import Derived.Lib.AppendZeros
section
section
set_option linter.unusedVariables false
set_option linter.unusedSimpArgs false
namespace Go.Proofs.YtgjpgfedlgdjhaaGreatDoor
open Go.RowKit Go.W
def wb (i x : Nat) : List Int := ((List.range 64).filter (x.testBit ·)).map (fun j => ((64 * i + j : Nat) : Int))
def rl (ws : List Nat) (k : Nat) : List Int := ((List.range (64 * k)).filter (bit ws ·)).map (fun j => ((j : Nat) : Int))
theorem rl_succ (ws : List Nat) (k : Nat) : rl ws (k + 1) = rl ws k ++ wb k (ws.getD k 0) := by
 unfold rl wb
 rw [show 64 * (k + 1) = 64 * k + 64 by omega, List.range_add, List.filter_append, List.map_append, List.filter_map, List.map_map]
 congr 1
 have e : (List.range 64).filter ((bit ws ·) ∘ (64 * k + ·)) = (List.range 64).filter ((ws.getD k 0).testBit ·) := by
   apply List.filter_congr
   intro j hj
   have hj' : j < 64 := by simpa using hj
   show bit ws (64 * k + j) = _
   unfold bit
   rw [show (64 * k + j) / 64 = k by omega, show (64 * k + j) % 64 = j by omega]
 rw [e]
 rfl
theorem natSorted {l l' : List Nat} (h : l.Pairwise (· < ·)) (h' : l'.Pairwise (· < ·)) (hm : ∀ m, m ∈ l ↔ m ∈ l') : l = l' := by
 have hs : ∀ l : List Nat, l.Pairwise (· < ·) → (l.map (fun (n : Nat) => (n : Int))).Pairwise (· < ·) := fun l h => by
   rw [List.pairwise_map]; exact h.imp (fun h => by omega)
 have := sorted_eq (hs l h) (hs l' h') (fun m => by
   constructor
   · intro hx
     obtain ⟨n, hn, rfl⟩ := List.mem_map.1 hx
     exact List.mem_map.2 ⟨n, (hm n).1 hn, rfl⟩
   · intro hx
     obtain ⟨n, hn, rfl⟩ := List.mem_map.1 hx
     exact List.mem_map.2 ⟨n, (hm n).2 hn, rfl⟩)
 exact List.map_inj_right (fun a b h => by exact_mod_cast h) |>.1 this
theorem low_bits (x : Nat) (h0 : x ≠ 0) (hx : x < 18446744073709551616) :
   (List.range 64).filter (x.testBit ·) = Go.Lib.ctz 64 x :: (List.range 64).filter ((x &&& (x - 1)).testBit ·) ∧ Go.Lib.ctz 64 x < 64 ∧ x &&& (x - 1) < x := by
 obtain ⟨m, hm, hk⟩ := Go.Lib.ctzFrom_spec 64 x (by omega) hx
 have e : Go.Lib.ctz 64 x = Go.Lib.ctzFrom 64 x := by simp [Go.Lib.ctz, h0]
 rw [e]
 generalize Go.Lib.ctzFrom 64 x = c at hm hk ⊢
 have hp : 0 < 2 ^ c := Nat.two_pow_pos c
 have h1 : x = 2 ^ c * (2 * m + 1) + 0 := by omega
 have h2 : x - 1 = 2 ^ c * (2 * m) + (2 ^ c - 1) := by
   rw [hm, Nat.mul_add, Nat.mul_one]; omega
 have t1 : ∀ j, x.testBit j = if j < c then false else (2 * m + 1).testBit (j - c) := fun j => by
   rw [h1, Nat.testBit_two_pow_mul_add _ hp]; simp
 have t2 : ∀ j, (x - 1).testBit j = if j < c then (2 ^ c - 1).testBit j else (2 * m).testBit (j - c) := fun j => by
   rw [h2, Nat.testBit_two_pow_mul_add _ (by omega)]
 have t3 : ∀ j, (x &&& (x - 1)).testBit j = (x.testBit j && j != c) := fun j => by
   rw [Nat.testBit_and, t1, t2]
   by_cases hj : j < c
   · simp [hj]
   · simp only [if_neg hj]
     by_cases hjc : j = c
     · subst hjc; simp
     · obtain ⟨d, hd⟩ : ∃ d, j - c = d + 1 := ⟨j - c - 1, by omega⟩
       rw [hd, Nat.testBit_succ, Nat.testBit_succ, show (2 * m + 1) / 2 = m by omega, show 2 * m / 2 = m by omega]
       simp [hjc]
 have tc : x.testBit c = true := by rw [t1]; simp
 have tlow : ∀ j, x.testBit j = true → c ≤ j := fun j hj => by
   rw [t1] at hj
   by_cases h : j < c
   · simp [h] at hj
   · omega
 refine ⟨?_, hk, ?_⟩
 · refine natSorted (List.pairwise_lt_range.sublist List.filter_sublist) (List.pairwise_cons.2 ⟨fun j hj => ?_, List.pairwise_lt_range.sublist List.filter_sublist⟩) (fun j => ?_)
   · rw [List.mem_filter, t3] at hj
     have := hj.2
     simp only [Bool.and_eq_true, bne_iff_ne] at this
     have := tlow j this.1
     omega
   · rw [List.mem_cons, List.mem_filter, List.mem_filter, t3]
     constructor
     · rintro ⟨a, b⟩
       by_cases hjc : j = c
       · exact .inl hjc
       · exact .inr ⟨a, by simp [b, hjc]⟩
     · rintro (rfl | ⟨a, b⟩)
       · exact ⟨by simpa using hk, tc⟩
       · simp only [Bool.and_eq_true] at b
         exact ⟨a, b.1⟩
 · have hle : x &&& (x - 1) ≤ x := Nat.and_le_left
   have hne : x &&& (x - 1) ≠ x := fun h => by
     have := t3 c
     rw [h, tc] at this
     simp at this
   omega
theorem wb_zero (i : Nat) : wb i 0 = [] := by simp [wb]
theorem wb_low (i x : Nat) (h0 : x ≠ 0) (hx : x < 18446744073709551616) : wb i x = ((64 * i + Go.Lib.ctz 64 x : Nat) : Int) :: wb i (x &&& (x - 1)) := by
 unfold wb
 rw [(low_bits x h0 hx).1]
 rfl
theorem rl_good {ws : List Nat} {l : List Int} (hg : Good l) (hh : Holds ws l) : rl ws ws.length = l := by
 refine sorted_eq ?_ hg.1 (fun m => ?_)
 · unfold rl
   rw [List.pairwise_map]
   exact (List.pairwise_lt_range.sublist List.filter_sublist).imp (fun h => by omega)
 · unfold rl
   constructor
   · intro h
     obtain ⟨n, hn, rfl⟩ := List.mem_map.1 h
     exact (hh.2.2.2 n).2 (List.mem_filter.1 hn).2
   · intro h
     have h2 := hg.2 m h
     obtain ⟨n, rfl⟩ : ∃ n : Nat, m = (n : Int) := ⟨m.toNat, by omega⟩
     have hb := (hh.2.2.2 n).1 h
     refine List.mem_map.2 ⟨n, List.mem_filter.2 ⟨?_, hb⟩, rfl⟩
     rw [List.mem_range]
     apply Classical.byContradiction
     intro hn
     have : bit ws n = false := by
       unfold bit
       rw [List.getD_eq_getElem?_getD, List.getElem?_eq_none (by omega)]
       simp
     rw [this] at hb
     cases hb
theorem wb_len (i x : Nat) : (wb i x).length ≤ 64 := by
 unfold wb
 rw [List.length_map]
 have := List.length_filter_le (x.testBit ·) (List.range 64)
 simpa using this
theorem rl_len (ws : List Nat) (k : Nat) : (rl ws k).length ≤ 64 * k := by
 unfold rl
 rw [List.length_map]
 have := List.length_filter_le (bit ws ·) (List.range (64 * k))
 simpa using this
set_option maxHeartbeats 1000000 in
theorem sclone {w : World} {v : Value} {l : List Int} (h : IntsAt w v l) (hl : l.length ≤ 5000000) :
   Calls Tryz.prog 90 #[v] w fun e w' => ∃ u, e = .returned u ∧ IntsOwn w' w.heap.size u l ∧ Ch No w w' := by
 have h' := h
 obtain ⟨ao, cap, rfl, hcap, hmax, hnc, hcell⟩ := h
 have ht : Tryz.prog.underlying 59 = some (.slice 3) := by kernel_rfl
 have q22 : ∀ (w : World) (a : Option Addr) (n c n' c' : Nat), (binOp .eql 59 (.slice a n c) (.slice none n' c')).run Tryz.prog w = .ok (.bool a.isNone) w := fun w a n c n' c' => Go.Lib.run_eql_slice_nil w _ _ a n c n' c' ht
 clear ht
 cases ao with
 | none =>
   obtain rfl := hnc rfl
   obtain rfl := List.length_eq_zero_iff.1 (Nat.le_zero.1 hcap)
   clear h' hcell hnc
   go_enter Tryz.func90, Tryz.ntmps90
   go_wp2_with fail
   go_ret
   exact ⟨_, rfl, IntsOwn.nil _ _, Ch.refl _ _⟩
 | some ad =>
   have ha := h'.alloc (.cells #[] 3)
   have hb : ([] : List Int).length + l.length ≤ 10000000 := by simp; omega
   have ho : IntsOwn (w.alloc (.cells #[] 3)) w.heap.size (.slice (some ⟨w.heap.size, 0, none⟩) 0 0) [] := World.ownsRow_made w #[] 0 (Nat.le_refl _) (Nat.zero_le _) rfl
   have hsz : w.heap.size ≤ (w.alloc (.cells #[] 3)).heap.size := ((Ch.refl No w).alloc _).size
   clear h' hcell hnc
   go_enter Tryz.func90, Tryz.ntmps90
   go_wp2_with (at_builtin; go_must (refine wpAppendI rfl _ _ rfl w.heap.size _ [] l rfl ho _ rfl ha hb hsz ?_))
   intro v1 w1 hown1 hgrow1
   go_wp2_with fail
   go_ret
   refine ⟨_, rfl, ?_, ((Ch.refl No w).alloc _).grown hgrow1 (fun k o h1 h2 => ?_)⟩
   · simpa using hown1
   · have e : w.heap.size = k := Option.some.inj h1
     have := lt_size h2
     omega
end Go.Proofs.YtgjpgfedlgdjhaaGreatDoor
end
section
set_option linter.unusedVariables false
set_option linter.unusedSimpArgs false
namespace Go.Proofs.YtgjpgfedlgdjhaaGreatDoor
open Go.RowKit Go.W
def Tab (w : World) : Prop := TabAt 0 Go.Lib.deBruijn64tab w
theorem Tab.ch {S : Nat → Obj → Prop} {w w' : World} (h : Tab w) (hc : Ch S w w') (hS : ∀ o, ¬ S 0 o) : Tab w' :=
 fun j hj => cell_ch (h j hj) hc (fun o _ => hS o)
theorem Tab.no {w w' : World} (h : Tab w) (hc : Ch No w w') : Tab w' := h.ch hc (fun _ h => h)
theorem and_pred (x : Nat) (h0 : x ≠ 0) (hx : x < 18446744073709551616) : bits .and .u64 (x : Int) ((x : Int) - 1) = ((x &&& (x - 1) : Nat) : Int) := by
 have := bits_and_u64_nat' x (x - 1) hx (by omega)
 rw [show (((x - 1 : Nat) : Int)) = (x : Int) - 1 by omega] at this
 exact this
set_option maxHeartbeats 4000000 in
theorem slist_rows {w : World} {sb b : Nat} {c : Int} {ws : List Nat} (hT : Tab w) (h : RowsAt w sb b c ws) (hl : ws.length ≤ 32768) (hws : ∀ x ∈ ws, x < 18446744073709551616) :
   Calls Tryz.prog 113 #[.pointer (some ⟨sb, 0, none⟩)] w fun e w' => ∃ u, e = .returned u ∧ IntsOwn w' w.heap.size u (rl ws ws.length) ∧ Ch No w w' := by
 have hmy := many_rows h
 obtain ⟨hne, cap, h1, h2⟩ := h
 have c1 := cellAt h1 1
 obtain ⟨len, hlen⟩ : ∃ len, ws.length = len := ⟨_, rfl⟩
 rw [hlen] at c1 h2 hl ⊢
 have hcells : ∀ (i : Nat) (x : Nat), ws[i]? = some x → w.cell? ⟨b, i, none⟩ = some (.int .u64 x) := by
   intro i x hx
   have hi := (List.getElem?_eq_some_iff.1 hx).1
   have := h2.cellAt i (by omega)
   rw [U_get hx] at this
   exact this
 have hm : len ≤ 9223372036854775807 := by omega
 have HL := hid hlen
 have HC := hid hcells
 have HWS := hid hws
 have HT := hid hT
 clear hlen h1 h2 hcells hws hT
 go_enter Tryz.func113, Tryz.ntmps113
 go_wp2_with fail
 refine hmy.mono ?_
 rintro e w0 ⟨rfl, rfl⟩
 clear hmy
 go_wp2_with fail
 go_loopg [3, 21] len (fun g s3 s21 wr => ∃ (k : Nat), k ≤ len ∧ len - k ≤ g ∧ s21 = .int .i64 k ∧ IntsOwn wr w0.heap.size s3 (rl ws k) ∧ Ch No w0 wr)
 case atStart => exact ⟨0, Nat.zero_le _, by omega, rfl, IntsOwn.nil _ _, Ch.refl _ _⟩
 case round =>
   obtain ⟨k, hk, hg, rfl, hown, hch⟩ := hrel
   cases hd : decide (k < len) with
   | false =>
     go_wp2_with fail
     go_ret
     have hkl : ¬ k < len := by simpa using hd
     have hkk : k = len := by omega
     subst hkk
     exact ⟨_, rfl, hown, hch⟩
   | true =>
     have hkl : k < len := by simpa using hd
     obtain ⟨x, hx⟩ : ∃ x, ws[k]? = some x := ⟨_, List.getElem?_eq_getElem (by have := HL.out; omega)⟩
     have hq := cell_ch (HC.out k x hx) hch (fun _ _ h => h)
     have hx64 := HWS.out x (List.mem_of_getElem? hx)
     have hxd : ws.getD k 0 = x := by rw [List.getD_eq_getElem?_getD, hx]; rfl
     have HXD := hid hxd
     clear hx hxd
     go_wp2_with fail
     go_loopg [3, 5] x (fun g s3 s5 wr => ∃ (y : Nat) (done : List Int), y ≤ g ∧ y < 18446744073709551616 ∧ s5 = .int .u64 y ∧ IntsOwn wr w0.heap.size s3 (rl ws k ++ done) ∧ Ch No w0 wr ∧ Hid (wb k x = done ++ wb k y))
     case atStart => exact ⟨x, [], Nat.le_refl _, hx64, rfl, by simpa using hown, hch, hid (by simp)⟩
     case round =>
       clear hown hch hq hx64
       obtain ⟨y, done, hyg, hy64, rfl, hown2, hch2, HD⟩ := hrel
       cases e0 : ((y : Int) != 0) with
       | false =>
         go_wp2_with fail
         go_roundg (len - k - 1)
         case rel =>
           have hy0 : y = 0 := by simp at e0; omega
           refine ⟨k + 1, by omega, by omega, by go_num, ?_, hch2⟩
           rw [rl_succ, HXD.out, HD.out, hy0, wb_zero, List.append_nil]
           exact hown2
         case measure => omega
       | true =>
         have hy0 : y ≠ 0 := by rintro rfl; simp at e0
         have htz := tz64 y hy64 wr (HT.out.no hch2)
         obtain ⟨z, hz⟩ : ∃ z, Go.Lib.ctz 64 y = z := ⟨_, rfl⟩
         have hlow := low_bits y hy0 hy64
         have hw := wb_low k y hy0 hy64
         have hap := and_pred y hy0 hy64
         rw [hz] at htz hlow hw
         have hz64 : z < 64 := hlow.2.1
         have hlt := hlow.2.2
         have HW := hid hw
         have hdl : (rl ws k ++ done).length ≤ 5000000 := by
           have h1 := rl_len ws k
           have h2 := congrArg List.length HD.out
           have h3 := wb_len k x
           rw [List.length_append] at h2
           rw [List.length_append]
           omega
         have hb1 : (rl ws k ++ done).length + [(k : Int) * 64 + (z : Int)].length ≤ 10000000 := by simp only [List.length_singleton]; omega
         clear hlow hw hz
         go_wp2_with fail
         refine htz.mono ?_
         rintro e w2 ⟨rfl, rfl⟩
         go_wp2_with (at_builtin; go_must (refine wpAppendI rfl _ _ rfl w0.heap.size _ _ [(k : Int) * 64 + (z : Int)] rfl (hown2.alloc _) (.slice (some ⟨w2.heap.size, 0, none⟩) 1 1) rfl (one_at w2 _) hb1 (hch2.alloc _).size ?_))
         intro v1 w1 hown1 hgrow1
         go_wp2_with fail
         go_roundg (y &&& (y - 1))
         case rel =>
           refine ⟨y &&& (y - 1), done ++ [(k : Int) * 64 + (z : Int)], Nat.le_refl _, by omega, ?_, ?_, ?_, hid ?_⟩
           · rfl
           · simpa using hown1
           · exact (hch2.alloc _).grown hgrow1 (fun k o hk ho => by
               have := hown2.lt k hk
               have := lt_size ho
               omega)
           · rw [HD.out, HW.out]
             have e : ((64 * k + z : Nat) : Int) = (k : Int) * 64 + (z : Int) := by omega
             rw [e]; simp
         case measure => omega
set_option maxHeartbeats 1000000 in
theorem slist {w : World} {pv : Value} {l : List Int} {sb ob : Option Nat} (hT : Tab w) (h : SetV w pv l sb ob) :
   Calls Tryz.prog 113 #[pv] w fun e w' => ∃ u, e = .returned u ∧ IntsOwn w' w.heap.size u l ∧ Ch No w w' := by
 rcases h with ⟨rfl, rfl, _, _⟩ | ⟨s, rfl, rfl, hg, h | ⟨b, ws, rfl, hr, hh⟩⟩
 · clear hT
   go_enter Tryz.func113, Tryz.ntmps113
   go_wp2_with fail
   go_ret
   exact ⟨_, rfl, IntsOwn.nil _ _, Ch.refl _ _⟩
 · obtain ⟨lv, h1, h2, rfl, h4, h5⟩ := h
   have hmy := many_list h1
   have c0 := cellAt h1 0
   have hcl := sclone h2.at_ (by omega)
   have hat := h2.at_
   obtain ⟨ao, cap, rfl, _⟩ := hat
   clear h1 h2 h4 h5 hg hT
   go_enter Tryz.func113, Tryz.ntmps113
   go_wp2_with fail
   refine hmy.mono ?_
   rintro e w0 ⟨rfl, rfl⟩
   go_wp2_with fail
   refine hcl.mono ?_
   rintro e w1 ⟨u, rfl, hu, hch⟩
   go_wp2_with fail
   go_ret
   exact ⟨_, rfl, hu, hch⟩
 · have := slist_rows hT hr hh.2.1 hh.2.2.1
   rw [rl_good hg hh] at this
   exact this
end Go.Proofs.YtgjpgfedlgdjhaaGreatDoor
end
section
set_option linter.unusedVariables false
set_option linter.unusedSimpArgs false
namespace Go.Proofs.YtgjpgfedlgdjhaaGreatDoor
open Go.RowKit Go.W
theorem Tryz.infoInt0 : (Tryz.prog.info? 3).map (fun i => (i.zero, i.size, i.bytes)) = some (some (.int .i64 0), 1, 8) := by kernel_rfl
theorem run_appendI2 (w : World) (base : Nat) (v : Value) (xs : List Int) (hown : IntsOwn w base v xs) (u : Value) (l : List Int) (hu : IntsAt w u l) (h0 : 0 < l.length) (hb : xs.length + l.length ≤ 10000000)
   (hbase : base ≤ w.heap.size) (ty : TypeId) :
   ∃ v' w', (Builtin.append_ #[59, 59] ty #[v, u]).run Tryz.prog w = .ok v' w' ∧ IntsOwn w' base v' (xs ++ l) ∧ w.grownBy w' v.ownBlock ∧ (v'.ownBlock = v.ownBlock ∨ v'.ownBlock = some w.heap.size) := by
 obtain ⟨i, hi, hz, hs, hby⟩ := info_parts Tryz.infoInt0
 have ht : Tryz.prog.underlying 59 = some (.slice 3) := by kernel_rfl
 have hm : maxLen = 9223372036854775807 := rfl
 obtain ⟨ao, c, rfl, h1, h2, h3, h4⟩ := hu
 obtain ⟨b, off, rfl, h5⟩ := h4 h0
 have hlm : (l.map (Value.int .i64)).length = l.length := by simp
 have hsrc : Src Tryz.prog i.size 59 (.slice (some ⟨b, off, none⟩) l.length c) l.length (l.map (Value.int .i64)) w := by
   rw [hs]
   exact Src.ofSlice w ht ⟨b, off, none⟩ l.length c _ (by simp) (fun j u hj => by
     rw [List.getElem?_map, Option.map_eq_some_iff] at hj
     obtain ⟨y, hy, rfl⟩ := hj
     rw [Addr.add_lit]
     exact h5 j y hy) (map_one l)
 have hxl : (xs.map (Value.int .i64) ++ l.map (Value.int .i64)).length = xs.length + l.length := by simp
 have grow : ∀ (base' : Option Addr) (cap : Nat), cap < xs.length + l.length → (Builtin.firstCells i.size xs.length (.slice base' xs.length cap)).run Tryz.prog w.drew = .ok (xs.map (Value.int .i64)).toArray w.drew → xs.length ≤ cap →
     ∃ v' w', (Builtin.append_ #[59, 59] ty #[.slice base' xs.length cap, .slice (some ⟨b, off, none⟩) l.length c]).run Tryz.prog w = .ok v' w' ∧ IntsOwn w' base v' (xs ++ l) ∧ w.grownBy w' (Value.slice base' xs.length cap).ownBlock ∧
       (v'.ownBlock = (Value.slice base' xs.length cap).ownBlock ∨ v'.ownBlock = some w.heap.size) := by
   intro base' cap hc hold hnc
   have hr := run_append_grow_src w 59 59 ty 3 i _ ht hi hz base' xs.length cap _ hold _ l.length _ hsrc hc (by omega) (by rw [hby]; exact growslice_fits (by omega) (by omega))
   have hG1 := grownCap_ge w (xs.length + l.length) cap 3
   have hG2 := grownCap_le_maxLen w (xs.length + l.length) cap 3 (by omega)
   generalize grownCap w (xs.length + l.length) cap 3 = G at hr hG1 hG2
   have e1 : (Value.int .i64 0).cells.size = 1 := rfl
   refine ⟨_, _, hr, ⟨by simp, .inr ⟨w.heap.size, G, _, by rw [List.length_append], hbase, heap_alloc_new w.drew _, by rw [List.length_append]; exact hG1, hG2, ?_, ?_⟩⟩, ⟨rfl, rfl, rfl, by simp, fun k hk _ => heapAllocOld w.drew _ k hk⟩, .inr rfl⟩
   · rw [Array.size_append, size_zeroCells, e1]
     simp
     omega
   · rw [List.length_append, Nat.mul_one, Array.toList_append, List.map_append]
     show List.take _ ((xs.map (Value.int .i64) ++ l.map (Value.int .i64)) ++ _) = _
     rw [← hxl, List.take_left]
 rcases hown.2 with ⟨rfl, hl0⟩ | ⟨g, cap, cur, rfl, hg, hh, hcap, hmax, hcs, hct⟩
 · obtain rfl := List.length_eq_zero_iff.1 hl0
   exact grow none 0 (by simpa using h0) (run_firstCells_none w.drew i.size 0 0 0) (Nat.le_refl _)
 · rw [Nat.mul_one] at hcs hct
   by_cases hroom : xs.length + l.length ≤ cap
   · have hr := run_append_room_src w 59 59 ty 3 i ht hi g 0 xs.length cap _ l.length _ hsrc hroom
       (fun j hj => by rw [hs, cellAt hh, Array.getElem?_eq_getElem (by rw [hlm] at hj; omega)]; rfl) (fun j hj => freeAt hh _)
     rw [hs, Nat.mul_one, Nat.zero_add] at hr
     obtain ⟨cur', k1, k2, k3⟩ := setCells_heap (l.map (Value.int .i64)) xs.length w cur hh (by rw [hlm]; omega)
     refine ⟨_, _, hr, ⟨by simp, .inr ⟨g, cap, cur', by rw [List.length_append], hg, k1, by rw [List.length_append]; exact hroom, hmax, by omega, ?_⟩⟩, ⟨?_, ?_, ?_, ?_, ?_⟩, .inl rfl⟩
     · rw [List.length_append, Nat.mul_one, k3, hct, List.map_append, ← hxl, List.take_left]
     · exact (setCells_ch _ _ _).os
     · exact (setCells_ch _ _ _).tape
     · exact (setCells_ch _ _ _).output
     · exact (setCells_ch (b := g) _ _ _).size
     · intro k hk hne
       have ho : w.heap[k]? = some w.heap[k] := Array.getElem?_eq_getElem hk
       rw [ho]
       exact (setCells_ch (b := g) _ _ _).keep k _ ho (fun e => hne (by rw [e]; rfl))
   · refine grow (some ⟨g, 0, none⟩) cap (by omega) ?_ hcap
     rw [hs]
     exact run_firstCells_some w.drew 1 xs.length ⟨g, 0, none⟩ xs.length cap _ (by simp) (fun j v hj => by
       have hj' := (List.getElem?_eq_some_iff.1 hj).1
       rw [List.length_map] at hj'
       rw [Addr.add_lit]
       show w.cell? _ = _
       rw [cellAt hh, Nat.zero_add, ← Array.getElem?_toList]
       rw [← hct, List.getElem?_take, if_pos hj'] at hj
       exact hj)
theorem wpAppendI2 {w : World} {ops : Array Oper} {rest : List Oper} {o : Oper} {a : Act} {Q : Exit → Act → World → Prop} (hgd : o.guard = none) (s x : Operand)
   (ho : o.op = .call { callee := .builtin .append, args := #[s, x], argTypes := #[59, 59] })
   (base : Nat) (v : Value) (xs l : List Int) (hs : a.eval s = v) (hown : IntsOwn w base v xs) (u : Value) (hx : a.eval x = u) (hu : IntsAt w u l) (h0 : 0 < l.length)
   (hb : xs.length + l.length ≤ 10000000) (hbase : base ≤ w.heap.size)
   (h : ∀ v' w', IntsOwn w' base v' (xs ++ l) → w.grownBy w' v.ownBlock → (v'.ownBlock = v.ownBlock ∨ v'.ownBlock = some w.heap.size) → wpList Tryz.prog ops Q rest (a.put o.dst v') w') : wpList Tryz.prog ops Q (o :: rest) a w := by
 obtain ⟨v', w', hr, h1, h2, h3⟩ := run_appendI2 w base v xs hown u l hu h0 hb hbase o.type
 exact Go.Lib.wpList_append_run w hgd s x _ _ ho _ _ hs hx _ _ hr (h v' w' h1 h2 h3)
end Go.Proofs.YtgjpgfedlgdjhaaGreatDoor
end
section
set_option linter.unusedVariables false
set_option linter.unusedSimpArgs false
namespace Go.Proofs.YtgjpgfedlgdjhaaGreatDoor
open Go.RowKit Go.W
def SetNew (B : Nat) (w : World) (pv : Value) (l : List Int) : Prop :=
 ∃ sb ob, pv = .pointer (some ⟨sb, 0, none⟩) ∧ SetAt w sb l ob ∧ B ≤ sb ∧ ∀ b, ob = some b → B ≤ b
theorem set_zero (w : World) : SetAt (w.alloc (.cells #[.slice none 0 0, .slice none 0 0, .int .i64 0] 182)) w.heap.size [] none :=
 ⟨good_nil, .inl ⟨.slice none 0 0, heap_alloc_new w _, IntsOwn.nil _ _, rfl, (fun h => by cases h), by simp⟩⟩
set_option maxHeartbeats 2000000 in
theorem sof {w : World} {v : Value} {ns : List Int} (h : IntsAt w v ns) :
   Calls Tryz.prog 76 #[v] w fun e w' => ∃ u, e = .returned u ∧ SetNew w.heap.size w' u (ns.foldl putS []) ∧ Ch No w w' := by
 obtain ⟨ao, cap, rfl, hcap, hmax, hnc, hcell⟩ := h
 obtain ⟨len, hlen⟩ : ∃ len, ns.length = len := ⟨_, rfl⟩
 rw [hlen] at hcap hcell ⊢
 unfold maxLen at hmax
 have HL := hid hlen
 have HZ := hid (set_zero w)
 have HCZ := hid ((Ch.refl No w).alloc (.cells #[.slice none 0 0, .slice none 0 0, .int .i64 0] 182))
 clear hlen hnc
 go_enter Tryz.func76, Tryz.ntmps76
 go_wp2_with fail
 go_loopg [10] len (fun g s10 wr => ∃ (k : Nat) (ob : Option Nat), k ≤ len ∧ len - k ≤ g ∧ s10 = .int .i64 k ∧ SetAt wr w.heap.size ((ns.take k).foldl putS []) ob ∧ Ch No w wr ∧ (∀ b, ob = some b → w.heap.size ≤ b))
 case atStart => exact ⟨0, none, Nat.zero_le _, by omega, rfl, HZ.out, HCZ.out, fun _ h => by cases h⟩
 case round =>
   obtain ⟨k, ob, hk, hg, rfl, hset, hch, hob⟩ := hrel
   cases hd : decide (k < len) with
   | false =>
     go_wp2_with fail
     go_ret
     have hkl : ¬ k < len := by simpa using hd
     rw [List.take_of_length_le (by have := HL.out; omega)] at hset
     exact ⟨_, rfl, ⟨_, ob, rfl, hset, Nat.le_refl _, hob⟩, hch⟩
   | true =>
     have hkl : k < len := by simpa using hd
     obtain ⟨b, off, rfl, hc⟩ := hcell (by omega)
     obtain ⟨x, hx⟩ : ∃ x, ns[k]? = some x := ⟨_, List.getElem?_eq_getElem (by have := HL.out; omega)⟩
     have hq := cell_ch (hc k x hx) hch (fun _ _ h => h)
     have HX := hid hx
     have hcall := sadd hset x
     clear hc hcell hx hset
     go_wp2_with fail
     refine hcall.mono ?_
     rintro e w' ⟨rfl, ob', hset', hch', hob'⟩
     go_wp2_with fail
     go_roundg (len - k - 1)
     case rel =>
       refine ⟨k + 1, ob', by omega, by omega, by go_num, ?_, hch.trans' hch' (fun j o ho h => ?_), fun b hb => ?_⟩
       · rw [List.take_add_one, HX.out, List.foldl_append]
         exact hset'
       · have := lt_size ho
         rcases h with h | h
         · omega
         · have := hob j h; omega
       · rcases hob' with h | ⟨g, h, h2⟩
         · exact hob b (h ▸ hb)
         · rw [h] at hb; cases hb
           have := hch.size; omega
     case measure => omega
theorem grown_ch {w w' : World} {o : Obj} {row : Option Nat} (hg : (w.alloc o).grownBy w' row) : Ch (fun j _ => row = some j) w w' := ((Ch.refl _ w).alloc o).grown hg (fun _ _ h _ => h)
def fresh (l l' : List Int) : List Int := l'.filter (fun x => !decide (x ∈ l))
theorem mem_fold {l l' : List Int} {m : Int} : m ∈ l'.foldl putS l ↔ m ∈ l ∨ (m ∈ l' ∧ 0 ≤ m ∧ m ≤ 1048575) := by
 induction l' generalizing l with
 | nil => simp
 | cons x r ih =>
   simp only [List.foldl_cons]
   rw [ih, mem_putS, List.mem_cons]
   constructor
   · rintro ((h | ⟨rfl, h⟩) | ⟨h, h2⟩)
     · exact .inl h
     · exact .inr ⟨.inl rfl, h⟩
     · exact .inr ⟨.inr h, h2⟩
   · rintro (h | ⟨rfl | h, h2⟩)
     · exact .inl (.inl h)
     · exact .inl (.inr ⟨rfl, h2⟩)
     · exact .inr ⟨h, h2⟩
theorem Good.fold {l : List Int} (h : Good l) (l' : List Int) : Good (l'.foldl Go.Proofs.YtgjpgfedlgdjhaaGreatDoor.putS l) := by
 induction l' generalizing l with
 | nil => exact h
 | cons x r ih => exact ih (h.putS x)
theorem not_before {l : List Int} (h : Good l) {k : Nat} {x : Int} (hx : l[k]? = some x) : x ∉ l.take k := by
 intro hm
 have hp := h.1
 rw [← List.take_append_drop k l] at hp
 have h3 := (List.pairwise_append.1 hp).2.2 x hm x (by
   rw [← Nat.add_zero k, ← List.getElem?_drop] at hx
   exact List.mem_of_getElem? hx)
 omega
set_option maxHeartbeats 4000000 in
theorem smerge {w : World} {sb : Nat} {l : List Int} {ob : Option Nat} {tv : Value} {l' : List Int} {tsb tob : Option Nat} (hT : Tab w) (h : SetAt w sb l ob) (h' : SetV w tv l' tsb tob) :
   Calls Tryz.prog 111 #[.pointer (some ⟨sb, 0, none⟩), tv] w fun e w' => ∃ u ob', e = .returned u ∧ IntsOwn w' w.heap.size u (fresh l l') ∧ SetAt w' sb (l'.foldl putS l) ob' ∧
     Ch (So sb ob) w w' ∧ (ob' = ob ∨ ∃ g, ob' = some g ∧ w.heap.size ≤ g) := by
 have hli := slist hT h'
 have hg' := h'.good
 have hlt := h.lt
 have hl2 := hg'.len
 clear h' hT
 go_enter Tryz.func111, Tryz.ntmps111
 go_wp2_with fail
 refine hli.mono ?_
 rintro e w0 ⟨u0, rfl, hu0, hch0⟩
 have hlt0 := fun k => hu0.lt k
 have hat := hu0.at_
 obtain ⟨ao, cap, rfl, hcap, hmax, hnc, hcell⟩ := hat
 obtain ⟨len, hlen⟩ : ∃ len, l'.length = len := ⟨_, rfl⟩
 rw [hlen] at hcap hcell hlt0 hl2 ⊢
 unfold maxLen at hmax
 have HL := hid hlen
 have HG := hid hg'
 have hs0 := h.no hch0
 have hsz0 := hch0.size
 clear hlen hnc hli h hg' hu0
 go_wp2_with fail
 go_loopg [5, 13] len (fun g s5 s13 wr => ∃ (k : Nat) (ob' : Option Nat), k ≤ len ∧ len - k ≤ g ∧ s13 = .int .i64 k ∧ IntsOwn wr w0.heap.size s5 (fresh l (l'.take k)) ∧ SetAt wr sb ((l'.take k).foldl putS l) ob' ∧
   Ch (So sb ob) w0 wr ∧ (ob' = ob ∨ ∃ g, ob' = some g ∧ w0.heap.size ≤ g) ∧ (∀ g, s5.ownBlock = some g → ob' ≠ some g))
 case atStart => exact ⟨0, ob, Nat.zero_le _, by omega, rfl, IntsOwn.nil _ _, hs0, Ch.refl _ _, .inl rfl, fun _ h => by cases h⟩
 case round =>
   obtain ⟨k, ob', hk, hg, rfl, hown, hset, hch, hob, hdis⟩ := hrel
   cases hd : decide (k < len) with
   | false =>
     go_wp2_with fail
     go_ret
     have hkl : ¬ k < len := by simpa using hd
     rw [List.take_of_length_le (by have := HL.out; omega)] at hset hown
     refine ⟨_, ob', rfl, hown.base hsz0, hset, (hch0.mono (fun _ _ _ h => False.elim h)).trans hch, ?_⟩
     rcases hob with h | ⟨g, h, h2⟩
     · exact .inl h
     · exact .inr ⟨g, h, by omega⟩
   | true =>
     have hkl : k < len := by simpa using hd
     obtain ⟨b, off, rfl, hc⟩ := hcell (by omega)
     obtain ⟨x, hx⟩ : ∃ x, l'[k]? = some x := ⟨_, List.getElem?_eq_getElem (by have := HL.out; omega)⟩
     have hb0 := hlt0 b rfl
     have hq := cell_ch (hc k x hx) hch (fun o _ h => by
       rcases h with h | h
       · have : b = sb := h
         omega
       · have := hlt.2 _ h
         have : b < w.heap.size := this
         omega)
     have HX := hid hx
     have hxr := HG.out.2 x (List.mem_of_getElem? hx)
     have hcall := sadd hset x
     have hnb := not_before HG.out hx
     have hmx : x ∈ (l'.take k).foldl putS l ↔ x ∈ l := by
       rw [mem_fold]
       exact ⟨fun h => h.elim id (fun h => absurd h.1 hnb), .inl⟩
     have hdec : decide (0 ≤ x ∧ x ≤ 1048575 ∧ x ∉ (l'.take k).foldl putS l) = !decide (x ∈ l) := by
       cases hxl : decide (x ∈ l) with
       | true => have : x ∈ l := by simpa using hxl
                 simp [hmx.2 this]
       | false => have : x ∉ l := by simpa using hxl
                  have h2 : x ∉ (l'.take k).foldl putS l := fun h => this (hmx.1 h)
                  simp [h2, hxr.1, hxr.2]
     unfold AddP at hcall
     rw [hdec] at hcall
     have HM := hid hmx
     have hfl : (fresh l (l'.take k)).length ≤ 1048576 := Nat.le_trans (List.length_filter_le _ _) (by rw [List.length_take]; omega)
     have hb1 : (fresh l (l'.take k)).length + [x].length ≤ 10000000 := by simp only [List.length_singleton]; omega
     have hsetlt := hset.lt
     clear hc hcell hx hset hdec hmx hnb
     go_wp2_with fail
     refine hcall.mono ?_
     rintro e w1 ⟨rfl, ob1, hset1, hch1, hob1⟩
     have hown1 := hown.ch hch1 (fun g o h1 h2 _ h => by
       rcases h with h | h
       · omega
       · exact hdis g h1 h)
     have hlt5 := fun j h => hown1.lt j h
     have hlt6 := fun j h => hown.lt j h
     have hch2 : Ch (So sb ob) w0 w1 := hch.trans' hch1 (fun j o ho h => by
       rcases h with h | h
       · exact .inl h
       · rcases hob with h2 | ⟨g, h2, h3⟩
         · exact .inr (h2 ▸ h)
         · rw [h2] at h; cases h
           have := lt_size ho; omega)
     have hob2 : ob1 = ob ∨ ∃ g, ob1 = some g ∧ w0.heap.size ≤ g := by
       rcases hob1 with h | ⟨g, h, h2⟩
       · rw [h]; exact hob
       · have := hch.size
         exact .inr ⟨g, h, by omega⟩
     have htk : l'.take (k + 1) = l'.take k ++ [x] := by rw [List.take_add_one, HX.out]; rfl
     have hset2 : SetAt w1 sb ((l'.take (k + 1)).foldl putS l) ob1 := by
       rw [htk, List.foldl_append]; exact hset1
     have hfr : fresh l (l'.take (k + 1)) = fresh l (l'.take k) ++ (if decide (x ∈ l) = true then [] else [x]) := by
       unfold fresh
       rw [htk, List.filter_append]
       congr 1
       cases h : decide (x ∈ l) <;> simp [h]
     have dis1 := fun g (h : _ = some g) (e : ob1 = some g) => show False from by
       rcases hob1 with h2 | ⟨g2, h2, h3⟩
       · exact hdis g h (h2.symm.trans e)
       · have := hlt6 g h
         rw [h2] at e; cases e
         omega
     cases hxl : decide (x ∈ l) with
     | true =>
       rw [hxl] at hfr
       go_wp2_with fail
       go_roundg (len - k - 1)
       case rel =>
         refine ⟨k + 1, ob1, by omega, by omega, by go_num, ?_, hset2, hch2, hob2, dis1⟩
         rw [hfr]; simpa using hown1
       case measure => omega
     | false =>
       rw [hxl] at hfr
       have hsz1 : w0.heap.size ≤ w1.heap.size := hch2.size
       have hch3 := (Ch.refl No w1).alloc (.cells #[.int .i64 x] 3)
       go_wp2_with (at_builtin; go_must (refine wpAppendI2 rfl _ _ rfl w0.heap.size _ _ [x] rfl (hown1.alloc _) (.slice (some ⟨w1.heap.size, 0, none⟩) 1 1) rfl (one_at w1 x) Nat.zero_lt_one hb1 (Nat.le_trans hsz1 hch3.size) ?_))
       intro v2 w2 hown2 hgrow2 hblk2
       go_wp2_with fail
       go_roundg (len - k - 1)
       case rel =>
         have hsetlt1 := hset1.lt
         have hgc := grown_ch hgrow2
         refine ⟨k + 1, ob1, by omega, by omega, by go_num, ?_, ?_, ?_, hob2, fun g h e => ?_⟩
         · rw [hfr]; simpa using hown2
         · exact hset2.ch hgc (fun o h => by have := (hlt5 _ h).1; omega) (fun b o h1 h2 => dis1 b h2 h1)
         · exact hch2.trans' hgc (fun j o ho h => by have := (hlt5 _ h).1; have := lt_size ho; omega)
         · rcases hblk2 with h2 | h2
           · exact dis1 g (h2.symm.trans h) e
           · rw [h2] at h; cases h
             have := hsetlt1.2 _ e
             have := hch3.size
             omega
       case measure => omega
end Go.Proofs.YtgjpgfedlgdjhaaGreatDoor
end
section
set_option linter.unusedVariables false
set_option linter.unusedSimpArgs false
namespace Go.Proofs.YtgjpgfedlgdjhaaGreatDoor
open Go.RowKit Go.W
theorem fold_self {l : List Int} (h : Good l) : l.foldl putS [] = l :=
 sorted_eq (good_nil.fold l).1 h.1 (fun m => by
   rw [mem_fold]
   exact ⟨fun h2 => h2.elim (fun h => by cases h) (fun h => h.1), fun h2 => .inr ⟨h2, h.2 m h2⟩⟩)
theorem SetNew.openIt {B : Nat} {w : World} {pv : Value} {l : List Int} (h : SetNew B w pv l) :
   ∃ sb ob, pv = .pointer (some ⟨sb, 0, none⟩) ∧ SetAt w sb l ob ∧ (B ≤ sb ∧ sb < w.heap.size) ∧ ∀ b, ob = some b → B ≤ b ∧ b < w.heap.size := by
 obtain ⟨sb, ob, h0, h, h1, h2⟩ := h
 exact ⟨sb, ob, h0, h, ⟨h1, h.lt.1⟩, fun b hb => ⟨h2 b hb, h.lt.2 b hb⟩⟩
theorem shas' {w : World} {pv : Value} {l : List Int} {sb ob : Option Nat} (h : SetV w pv l sb ob) (n : Int) :
   Calls Tryz.prog 161 #[pv, .int .i64 n] w fun e w' => e = .returned (.bool (decide (n ∈ l))) ∧ Ch No w w' :=
 (shas h n).mono fun e w' ⟨he, q, hw⟩ => ⟨he, by rw [hw]; exact (Ch.refl _ _).drewN q⟩
end Go.Proofs.YtgjpgfedlgdjhaaGreatDoor
end
end
