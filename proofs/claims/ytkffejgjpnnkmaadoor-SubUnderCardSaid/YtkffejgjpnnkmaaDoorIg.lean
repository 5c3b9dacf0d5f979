/- mark: a number into the rows of bits. -/
import Derived.Test.YtkffejgjpnnkmaaDoorIf
set_option linter.unusedVariables false
set_option linter.unusedSimpArgs false
namespace Go.Proofs.YtkffejgjpnnkmaaDoor
open Go.RowKit Go.W

def U (ws : List Nat) : List Value := ws.map fun (x : Nat) => Value.int .u64 x

theorem U_get {ws : List Nat} {i : Nat} {x : Nat} (h : ws[i]? = some x) : (U ws)[i]? = some (.int .u64 x) := by
  unfold U; rw [List.getElem?_map, h]; rfl

/-- the set's struct and its rows of bits -/
def RowsAt (w : World) (sb ob : Nat) (c : Int) (ws : List Nat) : Prop :=
  ob ≠ sb ∧ ∃ cap, w.heap[sb]? = some (.cells #[.slice none 0 0, .slice (some ⟨ob, 0, none⟩) ws.length cap, .int .i64 c] 108 (0, 0)) ∧
    w.ownsRow 0 109 1 (.slice (some ⟨ob, 0, none⟩) ws.length cap) ws.length (U ws)

def bit (ws : List Nat) (n : Nat) : Bool := (ws.getD (n / 64) 0).testBit (n % 64)

/-- a set's struct and its rows may change -/
def SO (sb ob : Nat) : Nat → Obj → Prop := fun k _ => k = sb ∨ k = ob

theorem pow_lt64 {k : Nat} (hk : k < 64) : 2 ^ k < 18446744073709551616 := by
  have h := @Nat.pow_lt_pow_right 2 k 64 (by omega) hk
  have e : 2 ^ 64 = 18446744073709551616 := by decide
  rwa [e] at h

theorem wrap_pow (k : Nat) (hk : k < 64) : IntKind.u64.wrap (2 ^ k) = ((2 ^ k : Nat) : Int) := by
  have h := pow_lt64 hk
  have e : (2 : Int) ^ k = ((2 ^ k : Nat) : Int) := by simp
  rw [e, IntKind.wrap_u64]
  generalize 2 ^ k = p at h ⊢
  omega

theorem bits_or_u64_nat (a b : Nat) (ha : a < 18446744073709551616) (hb : b < 18446744073709551616) : bits .or .u64 (a : Int) (b : Int) = ((a ||| b : Nat) : Int) := by
  have hx : a ||| b < 2 ^ 64 := Nat.or_lt_two_pow (by omega) (by omega)
  have h1 : (BitVec.ofInt 64 (a : Int)).toNat = a := by
    rw [BitVec.ofInt_natCast, BitVec.toNat_ofNat]; exact Nat.mod_eq_of_lt (by omega)
  have h2 : (BitVec.ofInt 64 (b : Int)).toNat = b := by
    rw [BitVec.ofInt_natCast, BitVec.toNat_ofNat]; exact Nat.mod_eq_of_lt (by omega)
  show IntKind.u64.wrap ((BitVec.ofInt 64 (a : Int) ||| BitVec.ofInt 64 (b : Int)).toNat : Int) = _
  rw [BitVec.toNat_or, h1, h2, IntKind.wrap_u64]
  omega

theorem bits_and_u64_nat' (a b : Nat) (ha : a < 18446744073709551616) (hb : b < 18446744073709551616) : bits .and .u64 (a : Int) (b : Int) = ((a &&& b : Nat) : Int) := by
  have hx : a &&& b < 2 ^ 64 := Nat.and_lt_two_pow _ (by omega)
  have h1 : (BitVec.ofInt 64 (a : Int)).toNat = a := by
    rw [BitVec.ofInt_natCast, BitVec.toNat_ofNat]; exact Nat.mod_eq_of_lt (by omega)
  have h2 : (BitVec.ofInt 64 (b : Int)).toNat = b := by
    rw [BitVec.ofInt_natCast, BitVec.toNat_ofNat]; exact Nat.mod_eq_of_lt (by omega)
  show IntKind.u64.wrap ((BitVec.ofInt 64 (a : Int) &&& BitVec.ofInt 64 (b : Int)).toNat : Int) = _
  rw [BitVec.toNat_and, h1, h2, IntKind.wrap_u64]
  omega

theorem and_bit (x k : Nat) (hx : x < 18446744073709551616) (hk : k < 64) : (bits .and .u64 (x : Int) (IntKind.u64.wrap (2 ^ k)) != 0) = x.testBit k := by
  rw [wrap_pow k hk, bits_and_u64_nat' x _ hx (pow_lt64 hk)]
  have e : x &&& 2 ^ k = if x.testBit k then 2 ^ k else 0 := by
    apply Nat.eq_of_testBit_eq
    intro j
    rw [Nat.testBit_and, Nat.testBit_two_pow]
    by_cases hj : k = j
    · subst hj
      cases hb : x.testBit k
      · simp
      · simp [Nat.testBit_two_pow]
    · cases hb : x.testBit k <;> simp [Nat.testBit_two_pow, hj]
  rw [e]
  cases hb : x.testBit k
  · simp
  · have : 2 ^ k ≠ 0 := by have := Nat.two_pow_pos k; omega
    simp
    exact_mod_cast this

theorem or_bit (x k : Nat) (hx : x < 18446744073709551616) (hk : k < 64) : bits .or .u64 (x : Int) (IntKind.u64.wrap (2 ^ k)) = ((x ||| 2 ^ k : Nat) : Int) := by
  rw [wrap_pow k hk, bits_or_u64_nat x _ hx (pow_lt64 hk)]

theorem bit_pad (ws : List Nat) (k n : Nat) : bit (ws ++ List.replicate k 0) n = bit ws n := by
  unfold bit
  congr 1
  rw [List.getD_eq_getElem?_getD, List.getD_eq_getElem?_getD]
  by_cases h : n / 64 < ws.length
  · rw [List.getElem?_append_left h]
  · rw [List.getElem?_append_right (by omega), List.getElem?_replicate, List.getElem?_eq_none (by omega)]
    split <;> rfl

theorem bit_set (ws : List Nat) (n m x : Nat) (hx : ws[n / 64]? = some x) : bit (ws.set (n / 64) (x ||| 2 ^ (n % 64))) m = (bit ws m || m == n) := by
  unfold bit
  rw [List.getD_eq_getElem?_getD, List.getD_eq_getElem?_getD]
  have hl := (List.getElem?_eq_some_iff.1 hx).1
  by_cases h : n / 64 = m / 64
  · rw [h, List.getElem?_set_self (by omega), ← h, hx]
    simp only [Option.getD_some]
    rw [Nat.testBit_or, Nat.testBit_two_pow]
    congr 1
    by_cases h2 : n % 64 = m % 64
    · have : m = n := by omega
      simp [this]
    · have : m ≠ n := by rintro rfl; exact h2 rfl
      simp [h2, this]
  · rw [List.getElem?_set_ne h]
    have : m ≠ n := by rintro rfl; exact h rfl
    simp [this]

theorem bit_at {ws : List Nat} {n x : Nat} (hx : ws[n / 64]? = some x) : bit ws n = x.testBit (n % 64) := by
  unfold bit; rw [List.getD_eq_getElem?_getD, hx]; rfl

/-- the number of those that are there, with one more or not -/
def upC (b : Bool) (c : Int) : Int := if b then c else c + 1

set_option maxHeartbeats 4000000 in
theorem mark_walk {w : World} {sb ob : Nat} {c : Int} {ws : List Nat} (h : RowsAt w sb ob c ws) (n : Nat) (hn : n < 1048576) (hlen : 0 < ws.length) (hlen2 : ws.length ≤ 32768) (hc : 0 ≤ c ∧ c ≤ 2000000)
    (hws : ∀ x ∈ ws, x < 18446744073709551616) :
    Calls Tryd.prog 78 #[.pointer (some ⟨sb, 0, none⟩), .int .i64 n] w fun e w' => e = .returned (.bool (!bit ws n)) ∧
      ∃ ob' ws', RowsAt w' sb ob' (upC (bit ws n) c) ws' ∧ (∀ m, bit ws' m = (bit ws m || m == n)) ∧ 0 < ws'.length ∧ ws'.length ≤ 32768 ∧ (∀ x ∈ ws', x < 18446744073709551616) ∧
        Ch (SO sb ob) w w' ∧ (ob' = ob ∨ w.heap.size ≤ ob') := by
  go_enter Tryd.func78, Tryd.ntmps78
  go_wp2_with fail
  go_loopg [] 40000 (fun g wr => ∃ (ob' : Nat) (ws' : List Nat), RowsAt wr sb ob' c ws' ∧ Hid (∃ k, ws' = ws ++ List.replicate k 0) ∧ ws'.length ≤ 32768 ∧ 0 < ws'.length ∧ n / 64 + 1 - ws'.length ≤ g ∧ Ch (SO sb ob) w wr ∧ (ob' = ob ∨ w.heap.size ≤ ob'))
  case atStart => exact ⟨ob, ws, h, hid ⟨0, by simp⟩, hlen2, hlen, by omega, Ch.refl _ _, .inl rfl⟩
  case round =>
    obtain ⟨ob', ws', ⟨hne, cap, hsb, hown⟩, HW, hl1, hl2, hg, hch, hob⟩ := hrel
    obtain ⟨len, hlen'⟩ : ∃ len, ws'.length = len := ⟨_, rfl⟩
    rw [hlen'] at hl1 hl2 hg hsb hown
    have HL := hid hlen'
    have HWS := hid hws
    clear hlen' h hlen hlen2 hws
    have c1 := cellAt hsb 1
    have f1 := freeAt hsb 1
    have HSB := hid hsb
    have HO := hid hown
    clear hsb hown
    cases hd : decide ((len : Int) ≤ (n / 64 : Nat)) with
    | true =>
      have e1 : (len : Int) ≤ (n / 64 : Nat) := by simpa using hd
      go_wp2_with fail
      go_region_law (refine step_zeros rfl _ _ rfl 0 _ len (U ws') rfl rfl HO.out hl2 (by omega) (Nat.zero_le _) ?_; intro v1 w1 hown1 hgrow1 hob1; obtain ⟨g2, cap2, cur2, rfl, _, hh2, hcap2, hm2⟩ := ownsRow_pos hown1 (Nat.add_pos_left hl2 len); have hs1 := hid ((hgrow1.block sb (lt_size HSB.out) (fun e => hne (Option.some.inj e).symm)).trans HSB.out); have c2 := cellAt hs1.out 1; have f2 := freeAt hs1.out 1)
      all_goals (
        go_wp2_with fail
        go_roundg (n / 64 + 1 - (len + len))
        case rel =>
          have hlen3 : (ws' ++ List.replicate len 0).length = len + len := by rw [List.length_append, List.length_replicate, HL.out]
          have hg2 : g2 ≠ sb := by
            rcases hob1 g2 rfl with e | e
            · cases e; exact hne
            · have := lt_size HSB.out; intro e2; subst e2; simp at e; omega
          refine ⟨g2, ws' ++ List.replicate len 0, ⟨hg2, cap2, ?_, ?_⟩, hid ?_, by omega, by omega, by omega, ?_, ?_⟩
          · rw [hlen3]; exact setCell_heap hs1.out 1 _
          · rw [hlen3]
            have e : U (ws' ++ List.replicate len 0) = U ws' ++ List.replicate len (Value.int .u64 0) := by simp [U]
            rw [e]
            exact ownsRow_ch hown1 (((Ch.refl (fun k _ => k = sb) _)).setCell (fun _ _ => rfl) _) (fun g cur h1 _ _ h2 => by cases h1; exact hg2 h2)
          · obtain ⟨k, hk⟩ := HW.out
            exact ⟨k + len, by rw [hk, List.append_assoc, List.replicate_append_replicate]⟩
          · refine ((hch.drew.grown hgrow1 (fun k o h1 h2 => ?_)).setCell (fun _ _ => .inl rfl) _)
            have e : ob' = k := Option.some.inj h1
            rw [← e] at h2 ⊢
            rcases hob with hob | hob
            · exact .inr hob
            · exact absurd (lt_size h2) (by omega)
          · rcases hob1 g2 rfl with e | e
            · cases e; exact hob
            · have := hch.size; simp at e; exact .inr (by omega)
        case measure => omega)
    | false =>
      have e1 : ¬ (len : Int) ≤ (n / 64 : Nat) := by simpa using hd
      have hlt : n / 64 < len := by omega
      obtain ⟨x, hx⟩ : ∃ x, ws'[n / 64]? = some x := ⟨_, List.getElem?_eq_getElem (by have := HL.out; omega)⟩
      obtain ⟨h1, h2 | ⟨g, cap', cur, hv, _, hob2, hcap2, hm2, hcs, hct⟩⟩ := HO.out
      · exact absurd h2.2 (by omega)
      cases hv
      rw [Nat.mul_one] at hct hcs
      have hcx : cur[n / 64]? = some (.int .u64 x) := by
        have := U_get hx
        rw [← hct, List.getElem?_take, if_pos hlt] at this
        rw [← Array.getElem?_toList]; exact this
      have c3 : wr.cell? ⟨ob', n / 64, none⟩ = some (.int .u64 x) := (cellAt hob2 _).trans hcx
      have f3 := freeAt hob2 (n / 64)
      have HB := hid hob2
      have HCT := hid hct
      have HX := hid hx
      clear hob2 hct hcx h1 hx
      have hx64 : x < 18446744073709551616 := by
        obtain ⟨k, hk⟩ := HW.out
        have := List.mem_of_getElem? HX.out
        rw [hk, List.mem_append] at this
        rcases this with h | h
        · exact HWS.out x h
        · rw [List.eq_of_mem_replicate h]; decide
      have hbit : bit ws n = bit ws' n := by obtain ⟨k, hk⟩ := HW.out; rw [hk, bit_pad]
      have hbs : ∀ m, bit ws m = bit ws' m := fun m => by obtain ⟨k, hk⟩ := HW.out; rw [hk, bit_pad]
      have HBS := hid hbs
      have hball : ∀ y ∈ ws', y < 18446744073709551616 := fun y hy => by
        obtain ⟨k, hk⟩ := HW.out
        rw [hk, List.mem_append] at hy
        rcases hy with h | h
        · exact HWS.out y h
        · rw [List.eq_of_mem_replicate h]; decide
      have HALL := hid hball
      have HBW := hid (hbit.trans (bit_at HX.out))
      have hk64 : n % 64 < 64 := Nat.mod_lt _ (by omega)
      have ht := and_bit x (n % 64) hx64 hk64
      have c2 := cellAt HSB.out 2
      have f2 := freeAt HSB.out 2
      have e2 : decide ((len : Int) ≤ (n : Int) / 64) = false := by rw [decide_eq_false_iff_not]; omega
      clear hball hbs hbit
      cases htb : x.testBit (n % 64) with
      | true =>
        rw [htb] at ht
        go_wp2_with fail
        go_ret
        refine ⟨ret_bool (by rw [HBW.out, htb]; rfl), ob', ws', ⟨hne, cap, by rw [HBW.out, htb, HL.out]; exact HSB.out, by rw [HL.out]; exact HO.out⟩, fun m => ?_, by have := HL.out; omega, by have := HL.out; omega, HALL.out, hch, hob⟩
        rw [HBS.out]
        by_cases hm : m = n
        · subst hm; rw [bit_at HX.out, htb]; simp
        · simp [hm]
      | false =>
        rw [htb] at ht
        go_wp2_with fail
        go_ret
        have hs3 := setCell_heap HB.out (n / 64) (.int .u64 (bits .or .u64 (x : Int) (IntKind.u64.wrap (2 ^ (n % 64)))))
        have hsb3 : (wr.setCell ⟨ob', n / 64, none⟩ (.int .u64 (bits .or .u64 (x : Int) (IntKind.u64.wrap (2 ^ (n % 64)))))).heap[sb]? = wr.heap[sb]? := heap_setCell_other _ _ _ _ (fun e => hne e.symm)
        have hsb4 := setCell_heap (hsb3.trans HSB.out) 2 (.int .i64 (c + 1))
        have hrow4 := (heap_setCell_other (wr.setCell ⟨ob', n / 64, none⟩ (.int .u64 (bits .or .u64 (x : Int) (IntKind.u64.wrap (2 ^ (n % 64)))))) ⟨sb, 2, none⟩ ob' (.int .i64 (c + 1)) hne).trans hs3
        rw [or_bit x _ hx64 hk64] at hrow4 hsb4 ⊢
        have hl3 : (ws'.set (n / 64) (x ||| 2 ^ (n % 64))).length = len := by rw [List.length_set, HL.out]
        refine ⟨ret_bool (by rw [HBW.out, htb]; rfl), ob', ws'.set (n / 64) (x ||| 2 ^ (n % 64)), ⟨hne, cap, ?_, ?_⟩, fun m => by rw [bit_set _ _ _ _ HX.out, HBS.out], by omega, by omega, ?_, ?_, hob⟩
        · rw [hl3, hsb4, HBW.out, htb]; rfl
        · rw [hl3]
          refine ⟨by simp [U, HL.out], .inr ⟨ob', cap, _, rfl, Nat.zero_le _, hrow4, hcap2, hm2, by simp; omega, ?_⟩⟩
          rw [Nat.mul_one, Array.toList_setIfInBounds, List.take_set, HCT.out]
          unfold U
          rw [← List.map_set]
        · intro y hy
          rcases List.mem_or_eq_of_mem_set hy with h | h
          · exact HALL.out y h
          · subst h; exact Nat.or_lt_two_pow (n := 64) hx64 (pow_lt64 hk64)
        · refine (hch.setCell (fun o ho => ?_) _).setCell (fun _ _ => .inl rfl) _
          rcases hob with hob | hob
          · exact .inr hob
          · exact absurd (lt_size ho) (by show ¬ ob' < _; omega)
end Go.Proofs.YtkffejgjpnnkmaaDoor
