/- Equal; List of a set. -/
import Derived.Test.YtkffejgjpnnkmaaDoorIl
set_option linter.unusedVariables false
set_option linter.unusedSimpArgs false
namespace Go.Proofs.YtkffejgjpnnkmaaDoor
open Go.RowKit Go.W


/-- the table of TrailingZeros64 lies in its variable -/
def Tab (w : World) : Prop := TabAt 0 Go.Lib.deBruijn64tab w

theorem Tab.ch {S : Nat → Obj → Prop} {w w' : World} (h : Tab w) (hc : Ch S w w') (hS : ∀ o, ¬ S 0 o) : Tab w' :=
  fun j hj => cell_ch (h j hj) hc (fun o _ => hS o)
theorem Tab.no {w w' : World} (h : Tab w) (hc : Ch No w w') : Tab w' := h.ch hc (fun _ h => h)

theorem and_pred (x : Nat) (h0 : x ≠ 0) (hx : x < 18446744073709551616) : bits .and .u64 (x : Int) ((x : Int) - 1) = ((x &&& (x - 1) : Nat) : Int) := by
  have := bits_and_u64_nat' x (x - 1) hx (by omega)
  rw [show (((x - 1 : Nat) : Int)) = (x : Int) - 1 by omega] at this
  exact this

set_option maxHeartbeats 4000000 in
theorem slist_rows {w : World} {sb b : Nat} {c : Int} {ws : List Nat} (hT : Tab w) (h : RowsAt w sb b c ws) (hl : ws.length ≤ 32768) (hws : ∀ x ∈ ws, x < 18446744073709551616) :
    Calls Tryd.prog 56 #[.pointer (some ⟨sb, 0, none⟩)] w fun e w' => ∃ u, e = .returned u ∧ IntsOwn w' w.heap.size u (rl ws ws.length) ∧ Ch No w w' := by
  have hmy := many_rows h
  obtain ⟨hne, cap, h1, h2⟩ := h
  have c1 := cellAt h1 1
  obtain ⟨len, hlen⟩ : ∃ len, ws.length = len := ⟨_, rfl⟩
  rw [hlen] at c1 h2 hl ⊢
  have hcells : ∀ (i : Nat) (x : Nat), ws[i]? = some x → w.cell? ⟨b, i, none⟩ = some (.int .u64 x) := by
    intro i x hx
    have hi := (List.getElem?_eq_some_iff.1 hx).1
    have := h2.cellAt i (by omega)
    rw [U_get hx] at this
    exact this
  have hm : len ≤ 9223372036854775807 := by omega
  have HL := hid hlen
  have HC := hid hcells
  have HWS := hid hws
  have HT := hid hT
  clear hlen h1 h2 hcells hws hT
  go_enter Tryd.func56, Tryd.ntmps56
  go_wp2_with fail
  refine hmy.mono ?_
  rintro e w0 ⟨rfl, rfl⟩
  clear hmy
  go_wp2_with fail
  go_loopg [3, 21] len (fun g s3 s21 wr => ∃ (k : Nat), k ≤ len ∧ len - k ≤ g ∧ s21 = .int .i64 k ∧ IntsOwn wr w0.heap.size s3 (rl ws k) ∧ Ch No w0 wr)
  case atStart => exact ⟨0, Nat.zero_le _, by omega, rfl, IntsOwn.nil _ _, Ch.refl _ _⟩
  case round =>
    obtain ⟨k, hk, hg, rfl, hown, hch⟩ := hrel
    cases hd : decide (k < len) with
    | false =>
      go_wp2_with fail
      go_ret
      have hkl : ¬ k < len := by simpa using hd
      have hkk : k = len := by omega
      subst hkk
      exact ⟨_, rfl, hown, hch⟩
    | true =>
      have hkl : k < len := by simpa using hd
      obtain ⟨x, hx⟩ : ∃ x, ws[k]? = some x := ⟨_, List.getElem?_eq_getElem (by have := HL.out; omega)⟩
      have hq := cell_ch (HC.out k x hx) hch (fun _ _ h => h)
      have hx64 := HWS.out x (List.mem_of_getElem? hx)
      have hxd : ws.getD k 0 = x := by rw [List.getD_eq_getElem?_getD, hx]; rfl
      have HXD := hid hxd
      clear hx hxd
      go_wp2_with fail
      go_loopg [3, 5] x (fun g s3 s5 wr => ∃ (y : Nat) (done : List Int), y ≤ g ∧ y < 18446744073709551616 ∧ s5 = .int .u64 y ∧ IntsOwn wr w0.heap.size s3 (rl ws k ++ done) ∧ Ch No w0 wr ∧ Hid (wb k x = done ++ wb k y))
      case atStart => exact ⟨x, [], Nat.le_refl _, hx64, rfl, by simpa using hown, hch, hid (by simp)⟩
      case round =>
        clear hown hch hq hx64
        obtain ⟨y, done, hyg, hy64, rfl, hown2, hch2, HD⟩ := hrel
        cases e0 : ((y : Int) != 0) with
        | false =>
          go_wp2_with fail
          go_roundg (len - k - 1)
          case rel =>
            have hy0 : y = 0 := by simp at e0; omega
            refine ⟨k + 1, by omega, by omega, by go_num, ?_, hch2⟩
            rw [rl_succ, HXD.out, HD.out, hy0, wb_zero, List.append_nil]
            exact hown2
          case measure => omega
        | true =>
          have hy0 : y ≠ 0 := by rintro rfl; simp at e0
          have htz := tz64 y hy64 wr (HT.out.no hch2)
          obtain ⟨z, hz⟩ : ∃ z, Go.Lib.ctz 64 y = z := ⟨_, rfl⟩
          have hlow := low_bits y hy0 hy64
          have hw := wb_low k y hy0 hy64
          have hap := and_pred y hy0 hy64
          rw [hz] at htz hlow hw
          have hz64 : z < 64 := hlow.2.1
          have hlt := hlow.2.2
          have HW := hid hw
          have hdl : (rl ws k ++ done).length ≤ 5000000 := by
            have h1 := rl_len ws k
            have h2 := congrArg List.length HD.out
            have h3 := wb_len k x
            rw [List.length_append] at h2
            rw [List.length_append]
            omega
          have hb1 : (rl ws k ++ done).length + [(k : Int) * 64 + (z : Int)].length ≤ 10000000 := by simp only [List.length_singleton]; omega
          clear hlow hw hz
          go_wp2_with fail
          refine htz.mono ?_
          rintro e w2 ⟨rfl, rfl⟩
          go_wp2_with (at_builtin; go_must (refine wpAppendI rfl _ _ rfl w0.heap.size _ _ [(k : Int) * 64 + (z : Int)] rfl (hown2.alloc _) (.slice (some ⟨w2.heap.size, 0, none⟩) 1 1) rfl (one_at w2 _) hb1 (hch2.alloc _).size ?_))
          intro v1 w1 hown1 hgrow1
          go_wp2_with fail
          go_roundg (y &&& (y - 1))
          case rel =>
            refine ⟨y &&& (y - 1), done ++ [(k : Int) * 64 + (z : Int)], Nat.le_refl _, by omega, ?_, ?_, ?_, hid ?_⟩
            · rfl
            · simpa using hown1
            · exact (hch2.alloc _).grown hgrow1 (fun k o hk ho => by
                have := hown2.lt k hk
                have := lt_size ho
                omega)
            · rw [HD.out, HW.out]
              have e : ((64 * k + z : Nat) : Int) = (k : Int) * 64 + (z : Int) := by omega
              rw [e]; simp
          case measure => omega

set_option maxHeartbeats 1000000 in
theorem slist {w : World} {pv : Value} {l : List Int} {sb ob : Option Nat} (hT : Tab w) (h : SetV w pv l sb ob) :
    Calls Tryd.prog 56 #[pv] w fun e w' => ∃ u, e = .returned u ∧ IntsOwn w' w.heap.size u l ∧ Ch No w w' := by
  rcases h with ⟨rfl, rfl, _, _⟩ | ⟨s, rfl, rfl, hg, h | ⟨b, ws, rfl, hr, hh⟩⟩
  · clear hT
    go_enter Tryd.func56, Tryd.ntmps56
    go_wp2_with fail
    go_ret
    exact ⟨_, rfl, IntsOwn.nil _ _, Ch.refl _ _⟩
  · obtain ⟨lv, h1, h2, rfl, h4, h5⟩ := h
    have hmy := many_list h1
    have c0 := cellAt h1 0
    have hcl := sclone h2.at_ (by omega)
    have hat := h2.at_
    obtain ⟨ao, cap, rfl, _⟩ := hat
    clear h1 h2 h4 h5 hg hT
    go_enter Tryd.func56, Tryd.ntmps56
    go_wp2_with fail
    refine hmy.mono ?_
    rintro e w0 ⟨rfl, rfl⟩
    go_wp2_with fail
    refine hcl.mono ?_
    rintro e w1 ⟨u, rfl, hu, hch⟩
    go_wp2_with fail
    go_ret
    exact ⟨_, rfl, hu, hch⟩
  · have := slist_rows hT hr hh.2.1 hh.2.2.1
    rw [rl_good hg hh] at this
    exact this
end Go.Proofs.YtkffejgjpnnkmaaDoor
