/- spread: a list becomes rows of bits. -/
import Derived.Test.YtkffejgjpnnkmaaDoorIh
set_option linter.unusedVariables false
set_option linter.unusedSimpArgs false
namespace Go.Proofs.YtkffejgjpnnkmaaDoor
open Go.RowKit Go.W

/-- the rows ws hold the numbers l -/
def Holds (ws : List Nat) (l : List Int) : Prop := 0 < ws.length ∧ ws.length ≤ 32768 ∧ (∀ x ∈ ws, x < 18446744073709551616) ∧ ∀ n : Nat, (n : Int) ∈ l ↔ bit ws n = true

theorem Holds.zero : Holds [0] [] := ⟨by simp, by simp, by simp, fun n => by
  have : bit [0] n = false := (bit_pad [] 1 n).trans (by simp [bit])
  simp [this]⟩

set_option maxHeartbeats 4000000 in
theorem spread_walk {w : World} {sb : Nat} {lv : Value} {l : List Int} (hsb : w.heap[sb]? = some (.cells #[lv, .slice none 0 0, .int .i64 l.length] 108 (0, 0))) (hown : IntsOwn w 0 lv l) (hne : lv.ownBlock ≠ some sb)
    (hg : Good l) (hlen : l.length ≤ 16) :
    Calls Tryd.prog 79 #[.pointer (some ⟨sb, 0, none⟩)] w fun e w' => e = .returned (.tuple #[]) ∧ ∃ ob' ws', RowsAt w' sb ob' l.length ws' ∧ Holds ws' l ∧ Ch (fun k _ => k = sb) w w' ∧ w.heap.size ≤ ob' := by
  have hat := hown.at_
  obtain ⟨ao, cap, rfl, hcap, hmax, hnc, hcell⟩ := hat
  obtain ⟨len, hlen'⟩ : ∃ len, l.length = len := ⟨_, rfl⟩
  rw [hlen'] at hcap hcell hlen hsb hown hne ⊢
  unfold maxLen at hmax
  have HL := hid hlen'
  have HG := hid hg
  have HSB := hid hsb
  have hlt := lt_size hsb
  have c0 := cellAt hsb 0
  obtain ⟨i, hi, hz, hs, hby⟩ := info_parts Tryd.infoU64
  have ht : Tryd.prog.underlying 106 = some (.slice 109) := by kernel_rfl
  have HI := hid (show i.bytes * 1 ≤ 281474976710656 by rw [hby]; decide)
  have HZ := hid hz
  have HS := hid hs
  have HT := hid ht
  have hi' := hid hi
  have HN := hid hne
  have HO := hid hown
  clear hlen' hg hsb hown hnc hz hs ht hi hby hne
  go_enter Tryd.func79, Tryd.ntmps79
  go_wp2_with (at_make; go_must (refine wpList_make_full _ rfl _ _ 106 rfl 0 109 i _ 1 HT.out hi'.out HZ.out HS.out .i64 .i64 1 1 1 rfl rfl rfl rfl HI.out (by decide) (Nat.zero_le _) ?_))
  intro w1 hown1 hgrow1
  have HSB1 := hid ((hgrow1.block sb hlt (by simp)).trans HSB.out)
  have d0 := cellAt HSB1.out 0
  have d1 := cellAt HSB1.out 1
  have d2 := cellAt HSB1.out 2
  have f0 := freeAt HSB1.out 0
  have f1 := freeAt HSB1.out 1
  have f2 := freeAt HSB1.out 2
  have HO1 := hid hown1
  clear hown1
  go_wp2_with fail
  have hst : (((w1.setCell ⟨sb, 1, none⟩ (.slice (some ⟨w.heap.size, 0, none⟩) 1 1)).setCell ⟨sb, 0, none⟩ (.slice none 0 0)).setCell ⟨sb, 2, none⟩ (.int .i64 0)).heap[sb]? = some (.cells #[.slice none 0 0, .slice (some ⟨w.heap.size, 0, none⟩) 1 1, .int .i64 0] 108 (0, 0)) :=
    setCell_heap (setCell_heap (setCell_heap HSB1.out 1 _) 0 _) 2 _
  have hch0 : Ch (fun k _ => k = sb) w (((w1.setCell ⟨sb, 1, none⟩ (.slice (some ⟨w.heap.size, 0, none⟩) 1 1)).setCell ⟨sb, 0, none⟩ (.slice none 0 0)).setCell ⟨sb, 2, none⟩ (.int .i64 0)) :=
    ((((Ch.refl _ w).grown hgrow1 (fun _ _ h => by cases h)).setCell (fun _ _ => rfl) _).setCell (fun _ _ => rfl) _).setCell (fun _ _ => rfl) _
  have hrow0 : RowsAt (((w1.setCell ⟨sb, 1, none⟩ (.slice (some ⟨w.heap.size, 0, none⟩) 1 1)).setCell ⟨sb, 0, none⟩ (.slice none 0 0)).setCell ⟨sb, 2, none⟩ (.int .i64 0)) sb w.heap.size 0 [0] := by
    refine ⟨by omega, 1, hst, ?_⟩
    have hz2 : (madeCells (Value.int .u64 0).cells (1 * 1)).toList = U [0] := by
      have e : (Value.int .u64 0).cells = #[Value.int .u64 0] := rfl
      rw [e]; simp [madeCells, U, List.range_succ]
    rw [← hz2]
    have hne2 : ∀ g cur, (Value.slice (some ⟨w.heap.size, 0, none⟩) 1 1).ownBlock = some g → 0 ≤ g → ∀ w : World, w.heap[g]? = some (.cells cur 109 (0, 0)) → ¬ g = sb := fun g cur h _ _ _ => by have e : w.heap.size = g := Option.some.inj h; omega
    exact ownsRow_ch HO1.out ((((Ch.refl (fun k _ => k = sb) w1).setCell (fun _ _ => rfl) _).setCell (fun _ _ => rfl) _).setCell (fun _ _ => rfl) _) (fun g cur h h2 h3 => hne2 g cur h h2 _ h3)
  generalize (((w1.setCell ⟨sb, 1, none⟩ (.slice (some ⟨w.heap.size, 0, none⟩) 1 1)).setCell ⟨sb, 0, none⟩ (.slice none 0 0)).setCell ⟨sb, 2, none⟩ (.int .i64 0)) = w2 at hst hch0 hrow0 ⊢
  clear hst HO1 hgrow1 d0 d1 d2 f0 f1 f2 HSB1 HI HZ HS HT hi' c0
  go_loopg [21] len (fun g s21 wr => ∃ (k : Nat) (ob' : Nat) (ws' : List Nat), k ≤ len ∧ len - k ≤ g ∧ s21 = .int .i64 k ∧ RowsAt wr sb ob' k ws' ∧ Hid (Holds ws' (l.take k)) ∧ Ch (fun k _ => k = sb) w wr ∧ w.heap.size ≤ ob')
  case atStart => exact ⟨0, w.heap.size, [0], Nat.zero_le _, by omega, rfl, hrow0, hid Holds.zero, hch0, Nat.le_refl _⟩
  case round =>
    obtain ⟨k, ob', ws', hk, hg, rfl, hrow, HH, hch, hob⟩ := hrel
    cases hd : decide (k < len) with
    | true =>
      have hkl : k < len := by simpa using hd
      obtain ⟨b, off, rfl, hc⟩ := hcell (by omega)
      obtain ⟨x, hx⟩ : ∃ x, l[k]? = some x := ⟨_, List.getElem?_eq_getElem (by have := HL.out; omega)⟩
      have hxl := List.mem_of_getElem? hx
      obtain ⟨m, rfl⟩ : ∃ m : Nat, x = (m : Int) := ⟨x.toNat, by have := (HG.out.2 x hxl).1; omega⟩
      have hm := (HG.out.2 _ hxl).2
      have hq := cell_ch (hc k _ hx) hch (fun o _ h => HN.out (congrArg some (show b = sb from h)))
      have HX := hid hx
      clear hc hcell hx hrow0 hch0
      have hcall := mark_walk hrow m (by omega) HH.out.1 HH.out.2.1 (by omega) HH.out.2.2.1
      have hnew : bit ws' m = false := by
        cases hb : bit ws' m with
        | false => rfl
        | true =>
          have := (HH.out.2.2.2 m).2 hb
          have hp := HG.out.1
          rw [← List.take_append_drop k l] at hp
          have h3 := (List.pairwise_append.1 hp).2.2 m this m (by
            have := HX.out
            rw [← Nat.add_zero k, ← List.getElem?_drop] at this
            exact List.mem_of_getElem? this)
          omega
      rw [hnew] at hcall
      go_wp2_with fail
      refine hcall.mono ?_
      rintro e w' ⟨rfl, ob2, ws2, hrow2, hbit2, hl2, hl3, hall2, hch2, hob2⟩
      go_wp2_with fail
      go_roundg (len - k - 1)
      case rel =>
        refine ⟨k + 1, ob2, ws2, by omega, by omega, by go_num, hrow2, hid ⟨hl2, hl3, hall2, fun n => ?_⟩, hch.trans' hch2 (fun k o ho h => ?_), ?_⟩
        · rw [hbit2, List.take_add_one, HX.out]
          have := HH.out.2.2.2 n
          cases hb : bit ws' n with
          | true => rw [hb] at this; simp [this.2 rfl]
          | false =>
            have h0 : ¬ (n : Int) ∈ l.take k := fun h => by have := this.1 h; rw [hb] at this; cases this
            simp [h0]
            omega
        · rcases h with h | h
          · exact h
          · have := lt_size ho; omega
        · rcases hob2 with h | h
          · omega
          · have := hch.size; omega
      case measure => omega
    | false =>
      go_wp2_with fail
      refine bodyPost_end (results_none rfl _ _ _) rfl ?_
      have hkl : ¬ k < len := by simpa using hd
      have hkk : k = len := by omega
      subst hkk
      have := HH.out
      rw [List.take_of_length_le (by have := HL.out; omega)] at this
      exact ⟨rfl, ob', ws', hrow, this, hch, hob⟩
end Go.Proofs.YtkffejgjpnnkmaaDoor
