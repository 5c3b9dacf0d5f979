/- What the claim uses: part 13. -/
import Derived.Test.YtgjpgfedlgdjhaaGreatDoorZal
section
section
set_option linter.unusedVariables false
set_option linter.unusedSimpArgs false
namespace Go.Proofs.YtgjpgfedlgdjhaaGreatDoor
open Go.RowKit Go.W
def U (ws : List Nat) : List Value := ws.map fun (x : Nat) => Value.int .u64 x
theorem U_get {ws : List Nat} {i : Nat} {x : Nat} (h : ws[i]? = some x) : (U ws)[i]? = some (.int .u64 x) := by
 unfold U; rw [List.getElem?_map, h]; rfl
def RowsAt (w : World) (sb ob : Nat) (c : Int) (ws : List Nat) : Prop :=
 ob ≠ sb ∧ ∃ cap, w.heap[sb]? = some (.cells #[.slice none 0 0, .slice (some ⟨ob, 0, none⟩) ws.length cap, .int .i64 c] 182 (0, 0)) ∧
   w.ownsRow 0 205 1 (.slice (some ⟨ob, 0, none⟩) ws.length cap) ws.length (U ws)
def bit (ws : List Nat) (n : Nat) : Bool := (ws.getD (n / 64) 0).testBit (n % 64)
def SO (sb ob : Nat) : Nat → Obj → Prop := fun k _ => k = sb ∨ k = ob
theorem pow_lt64 {k : Nat} (hk : k < 64) : 2 ^ k < 18446744073709551616 := by
 have h := @Nat.pow_lt_pow_right 2 k 64 (by omega) hk
 have e : 2 ^ 64 = 18446744073709551616 := by decide
 rwa [e] at h
theorem wrap_pow (k : Nat) (hk : k < 64) : IntKind.u64.wrap (2 ^ k) = ((2 ^ k : Nat) : Int) := by
 have h := pow_lt64 hk
 have e : (2 : Int) ^ k = ((2 ^ k : Nat) : Int) := by simp
 rw [e, IntKind.wrap_u64]
 generalize 2 ^ k = p at h ⊢
 omega
theorem bits_or_u64_nat (a b : Nat) (ha : a < 18446744073709551616) (hb : b < 18446744073709551616) : bits .or .u64 (a : Int) (b : Int) = ((a ||| b : Nat) : Int) := by
 have hx : a ||| b < 2 ^ 64 := Nat.or_lt_two_pow (by omega) (by omega)
 have h1 : (BitVec.ofInt 64 (a : Int)).toNat = a := by
   rw [BitVec.ofInt_natCast, BitVec.toNat_ofNat]; exact Nat.mod_eq_of_lt (by omega)
 have h2 : (BitVec.ofInt 64 (b : Int)).toNat = b := by
   rw [BitVec.ofInt_natCast, BitVec.toNat_ofNat]; exact Nat.mod_eq_of_lt (by omega)
 show IntKind.u64.wrap ((BitVec.ofInt 64 (a : Int) ||| BitVec.ofInt 64 (b : Int)).toNat : Int) = _
 rw [BitVec.toNat_or, h1, h2, IntKind.wrap_u64]
 omega
theorem bits_and_u64_nat' (a b : Nat) (ha : a < 18446744073709551616) (hb : b < 18446744073709551616) : bits .and .u64 (a : Int) (b : Int) = ((a &&& b : Nat) : Int) := by
 have hx : a &&& b < 2 ^ 64 := Nat.and_lt_two_pow _ (by omega)
 have h1 : (BitVec.ofInt 64 (a : Int)).toNat = a := by
   rw [BitVec.ofInt_natCast, BitVec.toNat_ofNat]; exact Nat.mod_eq_of_lt (by omega)
 have h2 : (BitVec.ofInt 64 (b : Int)).toNat = b := by
   rw [BitVec.ofInt_natCast, BitVec.toNat_ofNat]; exact Nat.mod_eq_of_lt (by omega)
 show IntKind.u64.wrap ((BitVec.ofInt 64 (a : Int) &&& BitVec.ofInt 64 (b : Int)).toNat : Int) = _
 rw [BitVec.toNat_and, h1, h2, IntKind.wrap_u64]
 omega
theorem and_bit (x k : Nat) (hx : x < 18446744073709551616) (hk : k < 64) : (bits .and .u64 (x : Int) (IntKind.u64.wrap (2 ^ k)) != 0) = x.testBit k := by
 rw [wrap_pow k hk, bits_and_u64_nat' x _ hx (pow_lt64 hk)]
 have e : x &&& 2 ^ k = if x.testBit k then 2 ^ k else 0 := by
   apply Nat.eq_of_testBit_eq
   intro j
   rw [Nat.testBit_and, Nat.testBit_two_pow]
   by_cases hj : k = j
   · subst hj
     cases hb : x.testBit k
     · simp
     · simp [Nat.testBit_two_pow]
   · cases hb : x.testBit k <;> simp [Nat.testBit_two_pow, hj]
 rw [e]
 cases hb : x.testBit k
 · simp
 · have : 2 ^ k ≠ 0 := by have := Nat.two_pow_pos k; omega
   simp
   exact_mod_cast this
theorem or_bit (x k : Nat) (hx : x < 18446744073709551616) (hk : k < 64) : bits .or .u64 (x : Int) (IntKind.u64.wrap (2 ^ k)) = ((x ||| 2 ^ k : Nat) : Int) := by
 rw [wrap_pow k hk, bits_or_u64_nat x _ hx (pow_lt64 hk)]
theorem bit_pad (ws : List Nat) (k n : Nat) : bit (ws ++ List.replicate k 0) n = bit ws n := by
 unfold bit
 congr 1
 rw [List.getD_eq_getElem?_getD, List.getD_eq_getElem?_getD]
 by_cases h : n / 64 < ws.length
 · rw [List.getElem?_append_left h]
 · rw [List.getElem?_append_right (by omega), List.getElem?_replicate, List.getElem?_eq_none (by omega)]
   split <;> rfl
theorem bit_set (ws : List Nat) (n m x : Nat) (hx : ws[n / 64]? = some x) : bit (ws.set (n / 64) (x ||| 2 ^ (n % 64))) m = (bit ws m || m == n) := by
 unfold bit
 rw [List.getD_eq_getElem?_getD, List.getD_eq_getElem?_getD]
 have hl := (List.getElem?_eq_some_iff.1 hx).1
 by_cases h : n / 64 = m / 64
 · rw [h, List.getElem?_set_self (by omega), ← h, hx]
   simp only [Option.getD_some]
   rw [Nat.testBit_or, Nat.testBit_two_pow]
   congr 1
   by_cases h2 : n % 64 = m % 64
   · have : m = n := by omega
     simp [this]
   · have : m ≠ n := by rintro rfl; exact h2 rfl
     simp [h2, this]
 · rw [List.getElem?_set_ne h]
   have : m ≠ n := by rintro rfl; exact h rfl
   simp [this]
theorem bit_at {ws : List Nat} {n x : Nat} (hx : ws[n / 64]? = some x) : bit ws n = x.testBit (n % 64) := by
 unfold bit; rw [List.getD_eq_getElem?_getD, hx]; rfl
def upC (b : Bool) (c : Int) : Int := if b then c else c + 1
set_option maxHeartbeats 4000000 in
theorem mark_walk {w : World} {sb ob : Nat} {c : Int} {ws : List Nat} (h : RowsAt w sb ob c ws) (n : Nat) (hn : n < 1048576) (hlen : 0 < ws.length) (hlen2 : ws.length ≤ 32768) (hc : 0 ≤ c ∧ c ≤ 2000000)
   (hws : ∀ x ∈ ws, x < 18446744073709551616) :
   Calls Tryz.prog 147 #[.pointer (some ⟨sb, 0, none⟩), .int .i64 n] w fun e w' => e = .returned (.bool (!bit ws n)) ∧
     ∃ ob' ws', RowsAt w' sb ob' (upC (bit ws n) c) ws' ∧ (∀ m, bit ws' m = (bit ws m || m == n)) ∧ 0 < ws'.length ∧ ws'.length ≤ 32768 ∧ (∀ x ∈ ws', x < 18446744073709551616) ∧
       Ch (SO sb ob) w w' ∧ (ob' = ob ∨ w.heap.size ≤ ob') := by
 go_enter Tryz.func147, Tryz.ntmps147
 go_wp2_with fail
 go_loopg [] 40000 (fun g wr => ∃ (ob' : Nat) (ws' : List Nat), RowsAt wr sb ob' c ws' ∧ Hid (∃ k, ws' = ws ++ List.replicate k 0) ∧ ws'.length ≤ 32768 ∧ 0 < ws'.length ∧ n / 64 + 1 - ws'.length ≤ g ∧ Ch (SO sb ob) w wr ∧ (ob' = ob ∨ w.heap.size ≤ ob'))
 case atStart => exact ⟨ob, ws, h, hid ⟨0, by simp⟩, hlen2, hlen, by omega, Ch.refl _ _, .inl rfl⟩
 case round =>
   obtain ⟨ob', ws', ⟨hne, cap, hsb, hown⟩, HW, hl1, hl2, hg, hch, hob⟩ := hrel
   obtain ⟨len, hlen'⟩ : ∃ len, ws'.length = len := ⟨_, rfl⟩
   rw [hlen'] at hl1 hl2 hg hsb hown
   have HL := hid hlen'
   have HWS := hid hws
   clear hlen' h hlen hlen2 hws
   have c1 := cellAt hsb 1
   have f1 := freeAt hsb 1
   have HSB := hid hsb
   have HO := hid hown
   clear hsb hown
   cases hd : decide ((len : Int) ≤ (n / 64 : Nat)) with
   | true =>
     have e1 : (len : Int) ≤ (n / 64 : Nat) := by simpa using hd
     go_wp2_with fail
     go_region_law (refine step_zeros rfl _ _ rfl 0 _ len (U ws') rfl rfl HO.out hl2 (by omega) (Nat.zero_le _) ?_; intro v1 w1 hown1 hgrow1 hob1; obtain ⟨g2, cap2, cur2, rfl, _, hh2, hcap2, hm2⟩ := ownsRow_pos hown1 (Nat.add_pos_left hl2 len); have hs1 := hid ((hgrow1.block sb (lt_size HSB.out) (fun e => hne (Option.some.inj e).symm)).trans HSB.out); have c2 := cellAt hs1.out 1; have f2 := freeAt hs1.out 1)
     all_goals (
       go_wp2_with fail
       go_roundg (n / 64 + 1 - (len + len))
       case rel =>
         have hlen3 : (ws' ++ List.replicate len 0).length = len + len := by rw [List.length_append, List.length_replicate, HL.out]
         have hg2 : g2 ≠ sb := by
           rcases hob1 g2 rfl with e | e
           · cases e; exact hne
           · have := lt_size HSB.out; intro e2; subst e2; simp at e; omega
         refine ⟨g2, ws' ++ List.replicate len 0, ⟨hg2, cap2, ?_, ?_⟩, hid ?_, by omega, by omega, by omega, ?_, ?_⟩
         · rw [hlen3]; exact setCell_heap hs1.out 1 _
         · rw [hlen3]
           have e : U (ws' ++ List.replicate len 0) = U ws' ++ List.replicate len (Value.int .u64 0) := by simp [U]
           rw [e]
           exact ownsRow_ch hown1 (((Ch.refl (fun k _ => k = sb) _)).setCell (fun _ _ => rfl) _) (fun g cur h1 _ _ h2 => by cases h1; exact hg2 h2)
         · obtain ⟨k, hk⟩ := HW.out
           exact ⟨k + len, by rw [hk, List.append_assoc, List.replicate_append_replicate]⟩
         · refine ((hch.drew.grown hgrow1 (fun k o h1 h2 => ?_)).setCell (fun _ _ => .inl rfl) _)
           have e : ob' = k := Option.some.inj h1
           rw [← e] at h2 ⊢
           rcases hob with hob | hob
           · exact .inr hob
           · exact absurd (lt_size h2) (by omega)
         · rcases hob1 g2 rfl with e | e
           · cases e; exact hob
           · have := hch.size; simp at e; exact .inr (by omega)
       case measure => omega)
   | false =>
     have e1 : ¬ (len : Int) ≤ (n / 64 : Nat) := by simpa using hd
     have hlt : n / 64 < len := by omega
     obtain ⟨x, hx⟩ : ∃ x, ws'[n / 64]? = some x := ⟨_, List.getElem?_eq_getElem (by have := HL.out; omega)⟩
     obtain ⟨h1, h2 | ⟨g, cap', cur, hv, _, hob2, hcap2, hm2, hcs, hct⟩⟩ := HO.out
     · exact absurd h2.2 (by omega)
     cases hv
     rw [Nat.mul_one] at hct hcs
     have hcx : cur[n / 64]? = some (.int .u64 x) := by
       have := U_get hx
       rw [← hct, List.getElem?_take, if_pos hlt] at this
       rw [← Array.getElem?_toList]; exact this
     have c3 : wr.cell? ⟨ob', n / 64, none⟩ = some (.int .u64 x) := (cellAt hob2 _).trans hcx
     have f3 := freeAt hob2 (n / 64)
     have HB := hid hob2
     have HCT := hid hct
     have HX := hid hx
     clear hob2 hct hcx h1 hx
     have hx64 : x < 18446744073709551616 := by
       obtain ⟨k, hk⟩ := HW.out
       have := List.mem_of_getElem? HX.out
       rw [hk, List.mem_append] at this
       rcases this with h | h
       · exact HWS.out x h
       · rw [List.eq_of_mem_replicate h]; decide
     have hbit : bit ws n = bit ws' n := by obtain ⟨k, hk⟩ := HW.out; rw [hk, bit_pad]
     have hbs : ∀ m, bit ws m = bit ws' m := fun m => by obtain ⟨k, hk⟩ := HW.out; rw [hk, bit_pad]
     have HBS := hid hbs
     have hball : ∀ y ∈ ws', y < 18446744073709551616 := fun y hy => by
       obtain ⟨k, hk⟩ := HW.out
       rw [hk, List.mem_append] at hy
       rcases hy with h | h
       · exact HWS.out y h
       · rw [List.eq_of_mem_replicate h]; decide
     have HALL := hid hball
     have HBW := hid (hbit.trans (bit_at HX.out))
     have hk64 : n % 64 < 64 := Nat.mod_lt _ (by omega)
     have ht := and_bit x (n % 64) hx64 hk64
     have c2 := cellAt HSB.out 2
     have f2 := freeAt HSB.out 2
     have e2 : decide ((len : Int) ≤ (n : Int) / 64) = false := by rw [decide_eq_false_iff_not]; omega
     clear hball hbs hbit
     cases htb : x.testBit (n % 64) with
     | true =>
       rw [htb] at ht
       go_wp2_with fail
       go_ret
       refine ⟨ret_bool (by rw [HBW.out, htb]; rfl), ob', ws', ⟨hne, cap, by rw [HBW.out, htb, HL.out]; exact HSB.out, by rw [HL.out]; exact HO.out⟩, fun m => ?_, by have := HL.out; omega, by have := HL.out; omega, HALL.out, hch, hob⟩
       rw [HBS.out]
       by_cases hm : m = n
       · subst hm; rw [bit_at HX.out, htb]; simp
       · simp [hm]
     | false =>
       rw [htb] at ht
       go_wp2_with fail
       go_ret
       have hs3 := setCell_heap HB.out (n / 64) (.int .u64 (bits .or .u64 (x : Int) (IntKind.u64.wrap (2 ^ (n % 64)))))
       have hsb3 : (wr.setCell ⟨ob', n / 64, none⟩ (.int .u64 (bits .or .u64 (x : Int) (IntKind.u64.wrap (2 ^ (n % 64)))))).heap[sb]? = wr.heap[sb]? := heap_setCell_other _ _ _ _ (fun e => hne e.symm)
       have hsb4 := setCell_heap (hsb3.trans HSB.out) 2 (.int .i64 (c + 1))
       have hrow4 := (heap_setCell_other (wr.setCell ⟨ob', n / 64, none⟩ (.int .u64 (bits .or .u64 (x : Int) (IntKind.u64.wrap (2 ^ (n % 64)))))) ⟨sb, 2, none⟩ ob' (.int .i64 (c + 1)) hne).trans hs3
       rw [or_bit x _ hx64 hk64] at hrow4 hsb4 ⊢
       have hl3 : (ws'.set (n / 64) (x ||| 2 ^ (n % 64))).length = len := by rw [List.length_set, HL.out]
       refine ⟨ret_bool (by rw [HBW.out, htb]; rfl), ob', ws'.set (n / 64) (x ||| 2 ^ (n % 64)), ⟨hne, cap, ?_, ?_⟩, fun m => by rw [bit_set _ _ _ _ HX.out, HBS.out], by omega, by omega, ?_, ?_, hob⟩
       · rw [hl3, hsb4, HBW.out, htb]; rfl
       · rw [hl3]
         refine ⟨by simp [U, HL.out], .inr ⟨ob', cap, _, rfl, Nat.zero_le _, hrow4, hcap2, hm2, by simp; omega, ?_⟩⟩
         rw [Nat.mul_one, Array.toList_setIfInBounds, List.take_set, HCT.out]
         unfold U
         rw [← List.map_set]
       · intro y hy
         rcases List.mem_or_eq_of_mem_set hy with h | h
         · exact HALL.out y h
         · subst h; exact Nat.or_lt_two_pow (n := 64) hx64 (pow_lt64 hk64)
       · refine (hch.setCell (fun o ho => ?_) _).setCell (fun _ _ => .inl rfl) _
         rcases hob with hob | hob
         · exact .inr hob
         · exact absurd (lt_size ho) (by show ¬ ob' < _; omega)
end Go.Proofs.YtgjpgfedlgdjhaaGreatDoor
end
section
set_option linter.unusedVariables false
set_option linter.unusedSimpArgs false
namespace Go.Proofs.YtgjpgfedlgdjhaaGreatDoor
open Go.RowKit Go.W
def Good (l : List Int) : Prop := l.Pairwise (· < ·) ∧ ∀ x ∈ l, 0 ≤ x ∧ x ≤ 1048575
theorem good_nil : Good [] := ⟨List.Pairwise.nil, by simp⟩
theorem len_le : ∀ (l : List Int) (a b : Int), l.Pairwise (· < ·) → (∀ x ∈ l, a ≤ x ∧ x ≤ b) → (l.length : Int) ≤ max 0 (b - a + 1)
 | [], a, b, _, _ => by simp; omega
 | x :: r, a, b, h, h2 => by
   obtain ⟨h3, h4⟩ := List.pairwise_cons.1 h
   have := h2 x (by simp)
   have := len_le r (x + 1) b h4 (fun y hy => ⟨by have := h3 y hy; omega, (h2 y (by simp [hy])).2⟩)
   simp only [List.length_cons]
   omega
theorem Good.len {l : List Int} (h : Good l) : l.length ≤ 1048576 := by
 have := len_le l 0 1048575 h.1 h.2
 omega
theorem mem_putS {l : List Int} {n m : Int} : m ∈ putS l n ↔ m ∈ l ∨ (m = n ∧ 0 ≤ n ∧ n ≤ 1048575) := by
 unfold putS
 split
 · rename_i h
   constructor
   · exact .inl
   · rintro (h1 | ⟨rfl, h1, h2⟩)
     · exact h1
     · rcases h with h | h | h
       · omega
       · omega
       · exact h
 · rename_i h
   have hl := List.takeWhile_append_dropWhile (p := (· < n)) (l := l)
   constructor
   · intro hm
     rcases List.mem_append.1 hm with hm | hm
     · exact .inl (by rw [← hl]; exact List.mem_append_left _ hm)
     · rcases List.mem_cons.1 hm with rfl | hm
       · exact .inr ⟨rfl, by omega, by omega⟩
       · exact .inl (by rw [← hl]; exact List.mem_append_right _ hm)
   · rintro (hm | ⟨rfl, _, _⟩)
     · rw [← hl] at hm
       rcases List.mem_append.1 hm with hm | hm
       · exact List.mem_append_left _ hm
       · exact List.mem_append_right _ (List.mem_cons_of_mem _ hm)
     · exact List.mem_append_right _ (List.mem_cons_self)
theorem tw_lt {l : List Int} {n : Int} : ∀ x ∈ l.takeWhile (· < n), x < n := by
 induction l with
 | nil => simp
 | cons y r ih =>
   intro x hx
   by_cases hy : y < n
   · simp only [List.takeWhile, hy, decide_true] at hx
     rcases List.mem_cons.1 hx with rfl | hx
     · exact hy
     · exact ih x hx
   · simp [List.takeWhile, hy] at hx
theorem dw_ge {l : List Int} {n : Int} (h : l.Pairwise (· < ·)) : ∀ x ∈ l.dropWhile (· < n), n ≤ x := by
 induction l with
 | nil => simp
 | cons y r ih =>
   obtain ⟨h3, h4⟩ := List.pairwise_cons.1 h
   intro x hx
   by_cases hy : y < n
   · simp only [List.dropWhile, hy, decide_true] at hx
     exact ih h4 x hx
   · simp only [List.dropWhile, hy, decide_false] at hx
     rcases List.mem_cons.1 hx with rfl | hx
     · omega
     · have := h3 x hx; omega
theorem Good.putS {l : List Int} (h : Good l) (n : Int) : Good (putS l n) := by
 refine ⟨?_, fun x hx => ?_⟩
 · unfold Go.Proofs.YtgjpgfedlgdjhaaGreatDoor.putS
   split
   · exact h.1
   · rename_i hn
     have hl := List.takeWhile_append_dropWhile (p := (· < n)) (l := l)
     have h1 := h.1
     rw [← hl] at h1
     obtain ⟨ha, hb, hc⟩ := List.pairwise_append.1 h1
     refine List.pairwise_append.2 ⟨ha, List.pairwise_cons.2 ⟨fun y hy => ?_, hb⟩, fun x hx y hy => ?_⟩
     · have := dw_ge h.1 y hy
       have : y ≠ n := by
         rintro rfl
         exact hn (.inr (.inr (by rw [← hl]; exact List.mem_append_right _ hy)))
       omega
     · rcases List.mem_cons.1 hy with rfl | hy
       · exact tw_lt x hx
       · exact hc x hx y hy
 · rcases mem_putS.1 hx with hx | ⟨rfl, h1, h2⟩
   · exact h.2 x hx
   · exact ⟨h1, h2⟩
theorem sorted_eq : ∀ {l l' : List Int}, l.Pairwise (· < ·) → l'.Pairwise (· < ·) → (∀ m, m ∈ l ↔ m ∈ l') → l = l'
 | [], [], _, _, _ => rfl
 | [], y :: r, _, _, h => absurd ((h y).2 (by simp)) (by simp)
 | x :: r, [], _, _, h => absurd ((h x).1 (by simp)) (by simp)
 | x :: r, y :: s, h1, h2, h => by
   obtain ⟨a, b⟩ := List.pairwise_cons.1 h1
   obtain ⟨c, d⟩ := List.pairwise_cons.1 h2
   have hxy : x = y := by
     have e1 := (h x).1 (by simp)
     have e2 := (h y).2 (by simp)
     rcases List.mem_cons.1 e1 with e | e1
     · exact e
     · rcases List.mem_cons.1 e2 with e | e2
       · exact e.symm
       · have := c x e1; have := a y e2; omega
   subst hxy
   rw [sorted_eq b d (fun m => ?_)]
   constructor
   · intro hm
     rcases List.mem_cons.1 ((h m).1 (by simp [hm])) with rfl | hm'
     · exact absurd (a m hm) (by omega)
     · exact hm'
   · intro hm
     rcases List.mem_cons.1 ((h m).2 (by simp [hm])) with rfl | hm'
     · exact absurd (c m hm) (by omega)
     · exact hm'
theorem countP_tw {l : List Int} {n : Int} (h : l.Pairwise (· < ·)) : l.takeWhile (· < n) = l.take (l.countP (· < n)) ∧ l.dropWhile (· < n) = l.drop (l.countP (· < n)) := by
 have hl := List.takeWhile_append_dropWhile (p := (· < n)) (l := l)
 have e : l.countP (· < n) = (l.takeWhile (· < n)).length := by
   conv => lhs; rw [← hl]
   rw [List.countP_append, List.countP_eq_length.2 (fun x hx => by simpa using tw_lt x hx), List.countP_eq_zero.2 (fun x hx => by have := dw_ge h x hx; simpa using this)]
   omega
 rw [e]
 constructor
 · have := @List.take_left _ (l.takeWhile (· < n)) (l.dropWhile (· < n))
   rw [hl] at this
   exact this.symm
 · have := @List.drop_left _ (l.takeWhile (· < n)) (l.dropWhile (· < n))
   rw [hl] at this
   exact this.symm
theorem putS_ins {l : List Int} {n : Int} (h : l.Pairwise (· < ·)) (h0 : 0 ≤ n) (h1 : n ≤ 1048575) (hn : n ∉ l) : putS l n = l.take (l.countP (· < n)) ++ n :: l.drop (l.countP (· < n)) := by
 obtain ⟨a, b⟩ := countP_tw (n := n) h
 unfold putS
 rw [if_neg (fun h => by rcases h with h | h | h <;> first | omega | exact hn h), a, b]
theorem putS_len {l : List Int} {n : Int} (h0 : 0 ≤ n) (h1 : n ≤ 1048575) (hn : n ∉ l) : (putS l n).length = l.length + 1 := by
 unfold putS
 rw [if_neg (fun h => by rcases h with h | h | h <;> first | omega | exact hn h)]
 have := congrArg List.length (List.takeWhile_append_dropWhile (p := (· < n)) (l := l))
 simp only [List.length_append, List.length_cons] at this ⊢
 omega
theorem putS_same {l : List Int} {n : Int} (h : ¬ (0 ≤ n ∧ n ≤ 1048575 ∧ n ∉ l)) : putS l n = l := by
 unfold putS
 rw [if_pos (by
   by_cases h1 : n < 0
   · exact .inl h1
   · by_cases h2 : 1048575 < n
     · exact .inr (.inl h2)
     · exact .inr (.inr (Classical.byContradiction fun h3 => h ⟨by omega, by omega, h3⟩)))]
def SetAt (w : World) (sb : Nat) (l : List Int) (ob : Option Nat) : Prop :=
 Good l ∧ ((∃ lv, w.heap[sb]? = some (.cells #[lv, .slice none 0 0, .int .i64 l.length] 182 (0, 0)) ∧ IntsOwn w 0 lv l ∧ lv.ownBlock = ob ∧ ob ≠ some sb ∧ l.length ≤ 16) ∨
   (∃ b ws, ob = some b ∧ RowsAt w sb b l.length ws ∧ 0 < ws.length ∧ ws.length ≤ 32768 ∧ (∀ x ∈ ws, x < 18446744073709551616) ∧ ∀ n : Nat, (n : Int) ∈ l ↔ bit ws n = true))
def So (sb : Nat) (ob : Option Nat) : Nat → Obj → Prop := fun k _ => k = sb ∨ ob = some k
theorem RowsAt.ch {S : Nat → Obj → Prop} {w w' : World} {sb ob : Nat} {c : Int} {ws : List Nat} (h : RowsAt w sb ob c ws) (hc : Ch S w w') (h1 : ∀ o, ¬ S sb o) (h2 : ∀ o, ¬ S ob o) : RowsAt w' sb ob c ws := by
 obtain ⟨hne, cap, ha, hb⟩ := h
 exact ⟨hne, cap, hc.keep _ _ ha (h1 _), ownsRow_ch hb hc (fun g cur e _ _ => by cases e; exact h2 _)⟩
theorem SetAt.ch {S : Nat → Obj → Prop} {w w' : World} {sb : Nat} {l : List Int} {ob : Option Nat} (h : SetAt w sb l ob) (hc : Ch S w w') (h1 : ∀ o, ¬ S sb o) (h2 : ∀ b o, ob = some b → ¬ S b o) : SetAt w' sb l ob := by
 obtain ⟨hg, h | ⟨b, ws, rfl, h, r⟩⟩ := h
 · obtain ⟨lv, ha, hb, hcb, r⟩ := h
   exact ⟨hg, .inl ⟨lv, hc.keep _ _ ha (h1 _), hb.ch hc (fun g o e _ _ => h2 g o (by rw [← hcb]; exact e)), hcb, r⟩⟩
 · exact ⟨hg, .inr ⟨b, ws, rfl, h.ch hc h1 (fun o => h2 b o rfl), r⟩⟩
theorem SetAt.no {w w' : World} {sb : Nat} {l : List Int} {ob : Option Nat} (h : SetAt w sb l ob) (hc : Ch No w w') : SetAt w' sb l ob := h.ch hc (fun _ h => h) (fun _ _ _ h => h)
theorem SetAt.lt {w : World} {sb : Nat} {l : List Int} {ob : Option Nat} (h : SetAt w sb l ob) : sb < w.heap.size ∧ ∀ b, ob = some b → b < w.heap.size := by
 obtain ⟨hg, h | ⟨b, ws, rfl, ⟨hne, cap, ha, hb⟩, r⟩⟩ := h
 · obtain ⟨lv, ha, hb, hcb, r⟩ := h
   exact ⟨lt_size ha, fun b e => (hb.lt b (hcb.trans e)).2⟩
 · exact ⟨lt_size ha, fun b' e => by cases e; exact (hb.lt b rfl).2⟩
set_option maxHeartbeats 1000000 in
theorem many_list {w : World} {sb : Nat} {lv : Value} {c : Int} (h : w.heap[sb]? = some (.cells #[lv, .slice none 0 0, .int .i64 c] 182 (0, 0))) :
   Calls Tryz.prog 146 #[.pointer (some ⟨sb, 0, none⟩)] w fun e w' => e = .returned (.bool false) ∧ w' = w := by
 have c1 := cellAt h 1
 have H := hid h
 clear h
 go_enter Tryz.func146, Tryz.ntmps146
 go_wp2_with fail
 go_ret
 exact ⟨rfl, rfl⟩
set_option maxHeartbeats 1000000 in
theorem many_rows {w : World} {sb b : Nat} {c : Int} {ws : List Nat} (h : RowsAt w sb b c ws) :
   Calls Tryz.prog 146 #[.pointer (some ⟨sb, 0, none⟩)] w fun e w' => e = .returned (.bool true) ∧ w' = w := by
 obtain ⟨_, cap, h, _⟩ := h
 have c1 := cellAt h 1
 have H := hid h
 clear h
 go_enter Tryz.func146, Tryz.ntmps146
 go_wp2_with fail
 go_ret
 exact ⟨rfl, rfl⟩
end Go.Proofs.YtgjpgfedlgdjhaaGreatDoor
end
section
set_option linter.unusedVariables false
set_option linter.unusedSimpArgs false
namespace Go.Proofs.YtgjpgfedlgdjhaaGreatDoor
open Go.RowKit Go.W
def Holds (ws : List Nat) (l : List Int) : Prop := 0 < ws.length ∧ ws.length ≤ 32768 ∧ (∀ x ∈ ws, x < 18446744073709551616) ∧ ∀ n : Nat, (n : Int) ∈ l ↔ bit ws n = true
theorem Holds.zero : Holds [0] [] := ⟨by simp, by simp, by simp, fun n => by
 have : bit [0] n = false := (bit_pad [] 1 n).trans (by simp [bit])
 simp [this]⟩
set_option maxHeartbeats 4000000 in
theorem spread_walk {w : World} {sb : Nat} {lv : Value} {l : List Int} (hsb : w.heap[sb]? = some (.cells #[lv, .slice none 0 0, .int .i64 l.length] 182 (0, 0))) (hown : IntsOwn w 0 lv l) (hne : lv.ownBlock ≠ some sb)
   (hg : Good l) (hlen : l.length ≤ 16) :
   Calls Tryz.prog 149 #[.pointer (some ⟨sb, 0, none⟩)] w fun e w' => e = .returned (.tuple #[]) ∧ ∃ ob' ws', RowsAt w' sb ob' l.length ws' ∧ Holds ws' l ∧ Ch (fun k _ => k = sb) w w' ∧ w.heap.size ≤ ob' := by
 have hat := hown.at_
 obtain ⟨ao, cap, rfl, hcap, hmax, hnc, hcell⟩ := hat
 obtain ⟨len, hlen'⟩ : ∃ len, l.length = len := ⟨_, rfl⟩
 rw [hlen'] at hcap hcell hlen hsb hown hne ⊢
 unfold maxLen at hmax
 have HL := hid hlen'
 have HG := hid hg
 have HSB := hid hsb
 have hlt := lt_size hsb
 have c0 := cellAt hsb 0
 obtain ⟨i, hi, hz, hs, hby⟩ := info_parts Tryz.infoU64
 have ht : Tryz.prog.underlying 180 = some (.slice 205) := by kernel_rfl
 have HI := hid (show i.bytes * 1 ≤ 281474976710656 by rw [hby]; decide)
 have HZ := hid hz
 have HS := hid hs
 have HT := hid ht
 have hi' := hid hi
 have HN := hid hne
 have HO := hid hown
 clear hlen' hg hsb hown hnc hz hs ht hi hby hne
 go_enter Tryz.func149, Tryz.ntmps149
 go_wp2_with (at_make; go_must (refine wpList_make_full _ rfl _ _ 180 rfl 0 205 i _ 1 HT.out hi'.out HZ.out HS.out .i64 .i64 1 1 1 rfl rfl rfl rfl HI.out (by decide) (Nat.zero_le _) ?_))
 intro w1 hown1 hgrow1
 have HSB1 := hid ((hgrow1.block sb hlt (by simp)).trans HSB.out)
 have d0 := cellAt HSB1.out 0
 have d1 := cellAt HSB1.out 1
 have d2 := cellAt HSB1.out 2
 have f0 := freeAt HSB1.out 0
 have f1 := freeAt HSB1.out 1
 have f2 := freeAt HSB1.out 2
 have HO1 := hid hown1
 clear hown1
 go_wp2_with fail
 have hst : (((w1.setCell ⟨sb, 1, none⟩ (.slice (some ⟨w.heap.size, 0, none⟩) 1 1)).setCell ⟨sb, 0, none⟩ (.slice none 0 0)).setCell ⟨sb, 2, none⟩ (.int .i64 0)).heap[sb]? = some (.cells #[.slice none 0 0, .slice (some ⟨w.heap.size, 0, none⟩) 1 1, .int .i64 0] 182 (0, 0)) :=
   setCell_heap (setCell_heap (setCell_heap HSB1.out 1 _) 0 _) 2 _
 have hch0 : Ch (fun k _ => k = sb) w (((w1.setCell ⟨sb, 1, none⟩ (.slice (some ⟨w.heap.size, 0, none⟩) 1 1)).setCell ⟨sb, 0, none⟩ (.slice none 0 0)).setCell ⟨sb, 2, none⟩ (.int .i64 0)) :=
   ((((Ch.refl _ w).grown hgrow1 (fun _ _ h => by cases h)).setCell (fun _ _ => rfl) _).setCell (fun _ _ => rfl) _).setCell (fun _ _ => rfl) _
 have hrow0 : RowsAt (((w1.setCell ⟨sb, 1, none⟩ (.slice (some ⟨w.heap.size, 0, none⟩) 1 1)).setCell ⟨sb, 0, none⟩ (.slice none 0 0)).setCell ⟨sb, 2, none⟩ (.int .i64 0)) sb w.heap.size 0 [0] := by
   refine ⟨by omega, 1, hst, ?_⟩
   have hz2 : (madeCells (Value.int .u64 0).cells (1 * 1)).toList = U [0] := by
     have e : (Value.int .u64 0).cells = #[Value.int .u64 0] := rfl
     rw [e]; simp [madeCells, U, List.range_succ]
   rw [← hz2]
   have hne2 : ∀ g cur, (Value.slice (some ⟨w.heap.size, 0, none⟩) 1 1).ownBlock = some g → 0 ≤ g → ∀ w : World, w.heap[g]? = some (.cells cur 205 (0, 0)) → ¬ g = sb := fun g cur h _ _ _ => by have e : w.heap.size = g := Option.some.inj h; omega
   exact ownsRow_ch HO1.out ((((Ch.refl (fun k _ => k = sb) w1).setCell (fun _ _ => rfl) _).setCell (fun _ _ => rfl) _).setCell (fun _ _ => rfl) _) (fun g cur h h2 h3 => hne2 g cur h h2 _ h3)
 generalize (((w1.setCell ⟨sb, 1, none⟩ (.slice (some ⟨w.heap.size, 0, none⟩) 1 1)).setCell ⟨sb, 0, none⟩ (.slice none 0 0)).setCell ⟨sb, 2, none⟩ (.int .i64 0)) = w2 at hst hch0 hrow0 ⊢
 clear hst HO1 hgrow1 d0 d1 d2 f0 f1 f2 HSB1 HI HZ HS HT hi' c0
 go_loopg [21] len (fun g s21 wr => ∃ (k : Nat) (ob' : Nat) (ws' : List Nat), k ≤ len ∧ len - k ≤ g ∧ s21 = .int .i64 k ∧ RowsAt wr sb ob' k ws' ∧ Hid (Holds ws' (l.take k)) ∧ Ch (fun k _ => k = sb) w wr ∧ w.heap.size ≤ ob')
 case atStart => exact ⟨0, w.heap.size, [0], Nat.zero_le _, by omega, rfl, hrow0, hid Holds.zero, hch0, Nat.le_refl _⟩
 case round =>
   obtain ⟨k, ob', ws', hk, hg, rfl, hrow, HH, hch, hob⟩ := hrel
   cases hd : decide (k < len) with
   | true =>
     have hkl : k < len := by simpa using hd
     obtain ⟨b, off, rfl, hc⟩ := hcell (by omega)
     obtain ⟨x, hx⟩ : ∃ x, l[k]? = some x := ⟨_, List.getElem?_eq_getElem (by have := HL.out; omega)⟩
     have hxl := List.mem_of_getElem? hx
     obtain ⟨m, rfl⟩ : ∃ m : Nat, x = (m : Int) := ⟨x.toNat, by have := (HG.out.2 x hxl).1; omega⟩
     have hm := (HG.out.2 _ hxl).2
     have hq := cell_ch (hc k _ hx) hch (fun o _ h => HN.out (congrArg some (show b = sb from h)))
     have HX := hid hx
     clear hc hcell hx hrow0 hch0
     have hcall := mark_walk hrow m (by omega) HH.out.1 HH.out.2.1 (by omega) HH.out.2.2.1
     have hnew : bit ws' m = false := by
       cases hb : bit ws' m with
       | false => rfl
       | true =>
         have := (HH.out.2.2.2 m).2 hb
         have hp := HG.out.1
         rw [← List.take_append_drop k l] at hp
         have h3 := (List.pairwise_append.1 hp).2.2 m this m (by
           have := HX.out
           rw [← Nat.add_zero k, ← List.getElem?_drop] at this
           exact List.mem_of_getElem? this)
         omega
     rw [hnew] at hcall
     go_wp2_with fail
     refine hcall.mono ?_
     rintro e w' ⟨rfl, ob2, ws2, hrow2, hbit2, hl2, hl3, hall2, hch2, hob2⟩
     go_wp2_with fail
     go_roundg (len - k - 1)
     case rel =>
       refine ⟨k + 1, ob2, ws2, by omega, by omega, by go_num, hrow2, hid ⟨hl2, hl3, hall2, fun n => ?_⟩, hch.trans' hch2 (fun k o ho h => ?_), ?_⟩
       · rw [hbit2, List.take_add_one, HX.out]
         have := HH.out.2.2.2 n
         cases hb : bit ws' n with
         | true => rw [hb] at this; simp [this.2 rfl]
         | false =>
           have h0 : ¬ (n : Int) ∈ l.take k := fun h => by have := this.1 h; rw [hb] at this; cases this
           simp [h0]
           omega
       · rcases h with h | h
         · exact h
         · have := lt_size ho; omega
       · rcases hob2 with h | h
         · omega
         · have := hch.size; omega
     case measure => omega
   | false =>
     go_wp2_with fail
     refine bodyPost_end (results_none rfl _ _ _) rfl ?_
     have hkl : ¬ k < len := by simpa using hd
     have hkk : k = len := by omega
     subst hkk
     have := HH.out
     rw [List.take_of_length_le (by have := HL.out; omega)] at this
     exact ⟨rfl, ob', ws', hrow, this, hch, hob⟩
end Go.Proofs.YtgjpgfedlgdjhaaGreatDoor
end
section
set_option linter.unusedVariables false
set_option linter.unusedSimpArgs false
namespace Go.Proofs.YtgjpgfedlgdjhaaGreatDoor
open Go.RowKit Go.W
def AddP (w : World) (sb : Nat) (l : List Int) (ob : Option Nat) (n : Int) (e : Ending) (w' : World) : Prop :=
 e = .returned (.bool (decide (0 ≤ n ∧ n ≤ 1048575 ∧ n ∉ l))) ∧ ∃ ob', SetAt w' sb (putS l n) ob' ∧ Ch (So sb ob) w w' ∧ (ob' = ob ∨ ∃ g, ob' = some g ∧ w.heap.size ≤ g)
set_option maxHeartbeats 2000000 in
theorem add_out {w : World} {sb : Nat} {l : List Int} {ob : Option Nat} (h : SetAt w sb l ob) (n : Int) (hn : ¬ (0 ≤ n ∧ n ≤ 1048575)) :
   Calls Tryz.prog 112 #[.pointer (some ⟨sb, 0, none⟩), .int .i64 n] w (AddP w sb l ob n) := by
 have fin : AddP w sb l ob n (.returned (.bool false)) w :=
   ⟨ret_bool (by symm; rw [decide_eq_false_iff_not]; exact fun h => hn ⟨h.1, h.2.1⟩), ob, by rw [putS_same (fun h => hn ⟨h.1, h.2.1⟩)]; exact h, Ch.refl _ _, .inl rfl⟩
 have FIN := hid fin
 clear fin h
 cases e1 : decide (n < 0) with
 | true =>
   go_enter Tryz.func112, Tryz.ntmps112
   go_wp2_with fail
   go_ret
   exact FIN.out
 | false =>
   have e2 : decide (1048576 ≤ n) = true := by simp at e1 ⊢; omega
   go_enter Tryz.func112, Tryz.ntmps112
   go_wp2_with fail
   go_ret
   exact FIN.out
set_option maxHeartbeats 2000000 in
theorem add_rows {w : World} {sb b : Nat} {l : List Int} {ws : List Nat} (hg : Good l) (h : RowsAt w sb b l.length ws) (hh : Holds ws l) (m : Nat) (hm : m < 1048576) :
   Calls Tryz.prog 112 #[.pointer (some ⟨sb, 0, none⟩), .int .i64 m] w (AddP w sb l (some b) m) := by
 have hmk := mark_walk h m hm hh.1 hh.2.1 ⟨by omega, by have := hg.len; omega⟩ hh.2.2.1
 have hmy := many_rows h
 have fin : ∀ w' ob' ws', RowsAt w' sb ob' (upC (bit ws m) l.length) ws' → (∀ k, bit ws' k = (bit ws k || k == m)) → 0 < ws'.length → ws'.length ≤ 32768 → (∀ x ∈ ws', x < 18446744073709551616) →
     Ch (SO sb b) w w' → (ob' = b ∨ w.heap.size ≤ ob') → AddP w sb l (some b) m (.returned (.bool (!bit ws m))) w' := by
   intro w' ob' ws' h1 h2 h3 h4 h5 h6 h7
   have hiff := hh.2.2.2 m
   refine ⟨ret_bool ?_, some ob', ⟨hg.putS _, .inr ⟨ob', ws', rfl, ?_, h3, h4, h5, fun k => ?_⟩⟩, h6.mono (fun k o _ h => h.imp id (fun h => by rw [h])), ?_⟩
   · symm
     cases hb : bit ws m with
     | true => rw [hb] at hiff; simp [hiff.2 rfl]
     | false =>
       have : ¬ (m : Int) ∈ l := fun h => by have := hiff.1 h; rw [hb] at this; cases this
       simp [this]; omega
   · cases hb : bit ws m with
     | true =>
       rw [hb] at h1 hiff
       rw [putS_same (fun h => h.2.2 (hiff.2 rfl))]; exact h1
     | false =>
       have : ¬ (m : Int) ∈ l := fun h => by have := hiff.1 h; rw [hb] at this; cases this
       rw [hb] at h1
       rw [putS_len (by omega) (by omega) this]
       exact h1
   · rw [mem_putS, h2]
     have := hh.2.2.2 k
     by_cases hk : k = m
     · subst hk; simp; omega
     · have hk' : ¬ (k : Int) = (m : Int) := by omega
       simp [hk, hk', this]
   · rcases h7 with h7 | h7
     · exact .inl (by rw [h7])
     · exact .inr ⟨ob', rfl, h7⟩
 have FIN := hid fin
 have e1 : decide ((m : Int) < 0) = false := by rw [decide_eq_false_iff_not]; omega
 have e2 : decide (1048576 ≤ (m : Int)) = false := by rw [decide_eq_false_iff_not]; omega
 clear fin h hh hg
 go_enter Tryz.func112, Tryz.ntmps112
 go_wp2_with fail
 refine hmy.mono ?_
 rintro e w' ⟨rfl, rfl⟩
 go_wp2_with fail
 refine hmk.mono ?_
 rintro e w2 ⟨rfl, ob2, ws2, h1, h2, h3, h4, h5, h6, h7⟩
 go_wp2_with fail
 go_ret
 exact FIN.out _ _ _ h1 h2 h3 h4 h5 h6 h7
set_option maxHeartbeats 4000000 in
theorem add_list {w : World} {sb : Nat} {l : List Int} {lv : Value} (hg : Good l) (hsb : w.heap[sb]? = some (.cells #[lv, .slice none 0 0, .int .i64 l.length] 182 (0, 0))) (hown : IntsOwn w 0 lv l)
   (hne : lv.ownBlock ≠ some sb) (hlen : l.length ≤ 16) (n : Int) (h0 : 0 ≤ n) (h1 : n ≤ 1048575) :
   Calls Tryz.prog 112 #[.pointer (some ⟨sb, 0, none⟩), .int .i64 n] w (AddP w sb l lv.ownBlock n) := by
 have hat := hown.at_
 have hmy := many_list hsb
 have hbs := binS hat hg.1 n (by omega)
 obtain ⟨ao, cap, rfl, hcap, hmax, hnc, hcell⟩ := hat
 obtain ⟨len, hlen'⟩ : ∃ len, l.length = len := ⟨_, rfl⟩
 rw [hlen'] at hcap hcell hlen hsb hown hne hbs ⊢
 unfold maxLen at hmax
 have HL := hid hlen'
 have HG := hid hg
 have HSB := hid hsb
 have hlt := lt_size hsb
 have c0 := cellAt hsb 0
 have c1 := cellAt hsb 1
 have c2 := cellAt hsb 2
 have f0 := freeAt hsb 0
 have f1 := freeAt hsb 1
 have f2 := freeAt hsb 2
 have HO := hid hown
 have HN := hid hne
 have e1 : decide (n < 0) = false := by rw [decide_eq_false_iff_not]; omega
 have e2 : decide (1048576 ≤ n) = false := by rw [decide_eq_false_iff_not]; omega
 clear hlen' hg hsb hown hnc hne hcell
 cases hin : decide (n ∈ l) with
 | true =>
   rw [hin] at hbs
   go_enter Tryz.func112, Tryz.ntmps112
   go_wp2_with fail
   refine hmy.mono ?_
   rintro e w' ⟨rfl, rfl⟩
   go_wp2_with fail
   refine hbs.mono ?_
   rintro e w' ⟨rfl, q, rfl⟩
   go_wp2_with fail
   go_ret
   have hm : n ∈ l := by simpa using hin
   refine ⟨ret_bool (by simp [hm]), _, ?_, (Ch.refl _ _).drewN _, .inl rfl⟩
   rw [putS_same (fun h => h.2.2 hm)]
   exact ⟨HG.out, .inl ⟨_, by rw [HL.out]; exact HSB.out, HO.out, rfl, HN.out, by rw [HL.out]; exact hlen⟩⟩
 | false =>
   have hm : n ∉ l := by simpa using hin
   rw [hin] at hbs
   cases e5 : ((len : Int) == 16) with
   | true =>
     go_enter Tryz.func112, Tryz.ntmps112
     go_wp2_with fail
     refine hmy.mono ?_
     rintro e w0 ⟨rfl, rfl⟩
     go_wp2_with fail
     refine hbs.mono ?_
     rintro e w' ⟨rfl, q, rfl⟩
     go_wp2_with fail
     have hl16 : len = 16 := by simp at e5; omega
     have hsp := spread_walk (w := w0.drewN q) (sb := sb) (lv := .slice ao len cap) (l := l) (by rw [HL.out]; exact HSB.out) HO.out HN.out HG.out (by rw [HL.out]; exact hlen)
     clear c0 c1 c2 f0 f1 f2 hmy hbs
     refine hsp.mono ?_
     rintro e w1 ⟨rfl, ob1, ws1, hr1, hh1, hc1, ho1⟩
     go_wp2_with fail
     obtain ⟨m, rfl⟩ : ∃ m : Nat, n = (m : Int) := ⟨n.toNat, by omega⟩
     have hbm : bit ws1 m = false := by
       cases hb : bit ws1 m with
       | false => rfl
       | true => exact absurd ((hh1.2.2.2 m).2 hb) hm
     have hmk := mark_walk hr1 m (by omega) hh1.1 hh1.2.1 (by rw [HL.out]; omega) hh1.2.2.1
     rw [hbm] at hmk
     refine hmk.mono ?_
     rintro e w2 ⟨rfl, ob2, ws2, g1, g2, g3, g4, g5, g6, g7⟩
     go_wp2_with fail
     go_ret
     refine ⟨ret_bool (by simp [hm]; omega), some ob2, ⟨HG.out.putS _, .inr ⟨ob2, ws2, rfl, ?_, g3, g4, g5, fun k => ?_⟩⟩, ?_, .inr ⟨ob2, rfl, ?_⟩⟩
     · rw [putS_len (by omega) (by omega) hm]
       exact g1
     · rw [mem_putS, g2]
       have := hh1.2.2.2 k
       by_cases hk : k = m
       · subst hk; simp; omega
       · have hk' : ¬ (k : Int) = (m : Int) := by omega
         simp [hk, hk', this]
     · refine ((((Ch.refl (fun k _ => k = sb) w0).drewN q).trans hc1).trans' g6 (fun k o ho h => ?_)).mono (fun k o _ h => .inl h)
       rcases h with h | h
       · exact h
       · have := lt_size ho
         have : w0.heap.size ≤ ob1 := ho1
         omega
     · have : w0.heap.size ≤ ob1 := ho1
       have : w0.heap.size ≤ w1.heap.size := hc1.size
       rcases g7 with h | h <;> omega
   | false =>
     go_enter Tryz.func112, Tryz.ntmps112
     go_wp2_with fail
     refine hmy.mono ?_
     rintro e w0 ⟨rfl, rfl⟩
     go_wp2_with fail
     refine hbs.mono ?_
     rintro e w' ⟨rfl, q, rfl⟩
     go_wp2_with fail
     have hin1 := insertS (w := (w0.drewN q).alloc (.cells #[.int .i64 n] 3)) (base := 0) (v := .slice ao len cap) (l := l) (HO.out.alloc (w := w0.drewN q) _) (l.countP (· < n)) List.countP_le_length (by rw [HL.out]; omega) n w0.heap.size (heap_alloc_new (w0.drewN q) _)
       (fun e => by have := (HO.out.lt _ e).2; omega) (Nat.zero_le _)
     refine hin1.mono ?_
     rintro e w1 ⟨v1, rfl, hown1, hch1, hob1⟩
     have hcnt : l.countP (· < n) ≤ len := by rw [← HL.out]; exact List.countP_le_length
     have hl1 : (l.take (l.countP (· < n)) ++ n :: l.drop (l.countP (· < n))).length = len + 1 := by
       simp only [List.length_append, List.length_cons, List.length_take, List.length_drop, HL.out]; omega
     have HS1 := hid (hch1.keep sb _ (heapOld (w := w0.drewN q) HSB.out _) (fun h => HN.out h))
     obtain ⟨g1, cap1, cur1, hv1, _, _, _, hcm1⟩ := ownsRow_pos hown1 (by omega)
     rw [hl1] at hv1
     subst hv1
     have HOW := hid hown1
     clear c0 c1 c2 f0 f1 f2 hmy hbs hown1
     have c0 := cellAt HS1.out 0
     have c2 := cellAt HS1.out 2
     have f0 := freeAt HS1.out 0
     have f2 := freeAt HS1.out 2
     go_wp2_with fail
     go_ret
     have hst := setCell_heap (setCell_heap HS1.out 0 (.slice (some ⟨g1, 0, none⟩) (len + 1) cap1)) 2 (.int .i64 ((len : Int) + 1))
     have hg1 : g1 ≠ sb := by
       rcases hob1 with h | ⟨g, h, h2⟩
       · intro e; subst e; exact HN.out h.symm
       · cases h; intro e; simp at h2; omega
     have hps := putS_ins HG.out.1 h0 h1 hm
     have hpl : (((putS l n).length : Nat) : Int) = (len : Int) + 1 := by rw [putS_len h0 h1 hm, HL.out]; omega
     have hch2 : Ch (fun k _ => k = sb) w1 ((w1.setCell ⟨sb, 0, none⟩ (.slice (some ⟨g1, 0, none⟩) (len + 1) cap1)).setCell ⟨sb, 2, none⟩ (.int .i64 ((len : Int) + 1))) :=
       ((Ch.refl _ _).setCell (fun _ _ => rfl) _).setCell (fun _ _ => rfl) _
     refine ⟨ret_bool (by simp [hm]; omega), some g1, ⟨HG.out.putS _, .inl ⟨.slice (some ⟨g1, 0, none⟩) (len + 1) cap1, ?_, ?_, rfl, fun h => hg1 (Option.some.inj h), ?_⟩⟩, ?_, ?_⟩
     · rw [hpl]; exact hst
     · rw [hps]
       exact HOW.out.ch hch2 (fun g o h _ _ h2 => by cases h; exact hg1 h2)
     · rw [putS_len h0 h1 hm, HL.out]; simp at e5; omega
     · refine ((((Ch.refl (So sb (Value.slice ao len cap).ownBlock) w0).drewN q).alloc _).trans' hch1 (fun k o ho h => .inr h)).trans' hch2 (fun k o ho h => .inl h)
     · rcases hob1 with h | ⟨g, h, h2⟩
       · exact .inl h
       · refine .inr ⟨g, h, ?_⟩
         have : ((w0.drewN q).alloc (.cells #[.int .i64 n] 3)).heap.size = w0.heap.size + 1 := by simp
         omega
end Go.Proofs.YtgjpgfedlgdjhaaGreatDoor
end
section
set_option linter.unusedVariables false
set_option linter.unusedSimpArgs false
namespace Go.Proofs.YtgjpgfedlgdjhaaGreatDoor
open Go.RowKit Go.W
theorem sadd {w : World} {sb : Nat} {l : List Int} {ob : Option Nat} (h : SetAt w sb l ob) (n : Int) :
   Calls Tryz.prog 112 #[.pointer (some ⟨sb, 0, none⟩), .int .i64 n] w (AddP w sb l ob n) := by
 by_cases hn : 0 ≤ n ∧ n ≤ 1048575
 · obtain ⟨hg, h | ⟨b, ws, rfl, hr, hh⟩⟩ := h
   · obtain ⟨lv, h1, h2, rfl, h4, h5⟩ := h
     exact add_list hg h1 h2 h4 h5 n hn.1 hn.2
   · obtain ⟨m, rfl⟩ : ∃ m : Nat, n = (m : Int) := ⟨n.toNat, by omega⟩
     exact add_rows hg hr hh m (by omega)
 · exact add_out h n hn
def SetV (w : World) (pv : Value) (l : List Int) (sb ob : Option Nat) : Prop :=
 (pv = .pointer none ∧ l = [] ∧ sb = none ∧ ob = none) ∨ ∃ s, pv = .pointer (some ⟨s, 0, none⟩) ∧ sb = some s ∧ SetAt w s l ob
theorem SetAt.v {w : World} {s : Nat} {l : List Int} {ob : Option Nat} (h : SetAt w s l ob) : SetV w (.pointer (some ⟨s, 0, none⟩)) l (some s) ob := .inr ⟨s, rfl, rfl, h⟩
theorem SetV.nil (w : World) : SetV w (.pointer none) [] none none := .inl ⟨rfl, rfl, rfl, rfl⟩
theorem SetV.good {w : World} {pv : Value} {l : List Int} {sb ob : Option Nat} (h : SetV w pv l sb ob) : Good l := by
 rcases h with ⟨_, rfl, _, _⟩ | ⟨s, _, _, h⟩
 · exact good_nil
 · exact h.1
theorem SetV.ch {S : Nat → Obj → Prop} {w w' : World} {pv : Value} {l : List Int} {sb ob : Option Nat} (h : SetV w pv l sb ob) (hc : Ch S w w') (h1 : ∀ b o, sb = some b → ¬ S b o) (h2 : ∀ b o, ob = some b → ¬ S b o) : SetV w' pv l sb ob := by
 rcases h with h | ⟨s, hp, rfl, h⟩
 · exact .inl h
 · exact .inr ⟨s, hp, rfl, h.ch hc (fun o => h1 s o rfl) h2⟩
theorem SetV.no {w w' : World} {pv : Value} {l : List Int} {sb ob : Option Nat} (h : SetV w pv l sb ob) (hc : Ch No w w') : SetV w' pv l sb ob := h.ch hc (fun _ _ _ h => h) (fun _ _ _ h => h)
theorem shr_bit (x k : Nat) (hx : x < 18446744073709551616) : (bits .and .u64 ((x : Int) / 2 ^ k) 1 == 1) = x.testBit k := by
 have e : (x : Int) / 2 ^ k = ((x / 2 ^ k : Nat) : Int) := by simp
 rw [e]
 have h1 : x / 2 ^ k < 18446744073709551616 := Nat.lt_of_le_of_lt (Nat.div_le_self _ _) hx
 have := bits_and_u64_nat' (x / 2 ^ k) 1 h1 (by decide)
 rw [show ((1 : Nat) : Int) = 1 from rfl] at this
 rw [this, Nat.and_one_is_mod, Nat.testBit_eq_decide_div_mod_eq]
 by_cases h : x / 2 ^ k % 2 = 1
 · simp [h]
 · have : x / 2 ^ k % 2 = 0 := by omega
   simp [this]
set_option maxHeartbeats 2000000 in
theorem shas {w : World} {pv : Value} {l : List Int} {sb ob : Option Nat} (h : SetV w pv l sb ob) (n : Int) :
   Calls Tryz.prog 161 #[pv, .int .i64 n] w fun e w' => e = .returned (.bool (decide (n ∈ l))) ∧ ∃ q, w' = w.drewN q := by
 rcases h with ⟨rfl, rfl, _, _⟩ | ⟨s, rfl, rfl, hs⟩
 · go_enter Tryz.func161, Tryz.ntmps161
   go_wp2_with fail
   go_ret
   exact ⟨ret_bool (by simp), 0, rfl⟩
 · by_cases hn : 0 ≤ n ∧ n ≤ 1048575
   · have e1 : decide (n < 0) = false := by rw [decide_eq_false_iff_not]; omega
     have e2 : decide (1048576 ≤ n) = false := by rw [decide_eq_false_iff_not]; omega
     obtain ⟨hg, h | ⟨b, ws, rfl, hr, hh⟩⟩ := hs
     · obtain ⟨lv, h1, h2, rfl, h4, h5⟩ := h
       have hmy := many_list h1
       have hbs := binS h2.at_ hg.1 n (by omega)
       have c0 := cellAt h1 0
       have hat := h2.at_
       obtain ⟨ao, cap, rfl, _⟩ := hat
       clear h1 h2 h4 h5 hg
       go_enter Tryz.func161, Tryz.ntmps161
       go_wp2_with fail
       refine hmy.mono ?_
       rintro e w0 ⟨rfl, rfl⟩
       go_wp2_with fail
       refine hbs.mono ?_
       rintro e w' ⟨rfl, q, rfl⟩
       go_wp2_with fail
       go_ret
       exact ⟨rfl, q, rfl⟩
     · obtain ⟨m, rfl⟩ : ∃ m : Nat, n = (m : Int) := ⟨n.toNat, by omega⟩
       have hmy := many_rows hr
       have HI := hid (hh.2.2.2 m)
       obtain ⟨hne, cap, h1, h2⟩ := hr
       have c1 := cellAt h1 1
       obtain ⟨len, hlen⟩ : ∃ len, ws.length = len := ⟨_, rfl⟩
       rw [hlen] at c1 h2
       have hll : len ≤ 32768 := by rw [← hlen]; exact hh.2.1
       by_cases hlt : m / 64 < len
       · obtain ⟨x, hx⟩ : ∃ x, ws[m / 64]? = some x := ⟨_, List.getElem?_eq_getElem (by omega)⟩
         obtain ⟨_, h2 | ⟨g, cap', cur, hv, _, hob2, hcap2, hm2, hcs, hct⟩⟩ := h2
         · cases h2.1
         cases hv
         rw [Nat.mul_one] at hct
         have hcx : cur[m / 64]? = some (.int .u64 x) := by
           have := U_get hx
           rw [← hct, List.getElem?_take, if_pos hlt] at this
           rw [← Array.getElem?_toList]; exact this
         have c3 : w.cell? ⟨b, m / 64, none⟩ = some (.int .u64 x) := (cellAt hob2 _).trans hcx
         have e3 : decide ((m : Int) / 64 < (len : Int)) = true := by rw [decide_eq_true_eq]; omega
         have hb := shr_bit x (m % 64) (hh.2.2.1 x (List.mem_of_getElem? hx))
         have HB := hid ((bit_at hx).trans hb.symm)
         clear hcx hct hob2 h1 hh hx
         go_enter Tryz.func161, Tryz.ntmps161
         go_wp2_with fail
         refine hmy.mono ?_
         rintro e w0 ⟨rfl, rfl⟩
         go_wp2_with fail
         go_ret
         refine ⟨ret_bool ?_, 0, rfl⟩
         have e4 := HI.out
         rw [HB.out] at e4
         rw [← hb]
         cases hbb : (bits .and .u64 ((x : Int) / 2 ^ (m % 64)) 1 == 1) with
         | true => rw [hbb] at e4; simp [e4]
         | false => rw [hbb] at e4; simp [e4]
       · have e3 : decide ((m : Int) / 64 < (len : Int)) = false := by rw [decide_eq_false_iff_not]; omega
         have hb : bit ws m = false := by
           unfold bit
           rw [List.getD_eq_getElem?_getD, List.getElem?_eq_none (by omega)]
           simp
         have HB := hid hb
         clear h1 h2 hh hb
         go_enter Tryz.func161, Tryz.ntmps161
         go_wp2_with fail
         refine hmy.mono ?_
         rintro e w0 ⟨rfl, rfl⟩
         go_wp2_with fail
         go_ret
         refine ⟨ret_bool ?_, 0, rfl⟩
         have e4 := HI.out
         rw [HB.out] at e4
         simp [e4]
   · have fin : decide (n ∈ l) = false := by
       rw [decide_eq_false_iff_not]
       intro h
       have := hs.1.2 n h
       exact hn this
     rw [fin]
     clear hs fin
     cases e1 : decide (n < 0) with
     | true =>
       go_enter Tryz.func161, Tryz.ntmps161
       go_wp2_with fail
       go_ret
       exact ⟨rfl, 0, rfl⟩
     | false =>
       have e2 : decide (1048576 ≤ n) = true := by simp at e1 ⊢; omega
       go_enter Tryz.func161, Tryz.ntmps161
       go_wp2_with fail
       go_ret
       exact ⟨rfl, 0, rfl⟩
end Go.Proofs.YtgjpgfedlgdjhaaGreatDoor
end
end
