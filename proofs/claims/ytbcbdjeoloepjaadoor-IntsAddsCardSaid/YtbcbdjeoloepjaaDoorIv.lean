/- The law IntsAdds. -/
import Derived.Test.YtbcbdjeoloepjaaDoorIs
set_option linter.unusedVariables false
namespace Go.Proofs.YtbcbdjeoloepjaaDoor
open Go.RowKit Go.W

theorem putS_gt (l : List Int) (n : Int) : decide (((putS l n).length : Int) > (l.length : Int)) = decide (0 ≤ n ∧ n ≤ 1048575 ∧ n ∉ l) := by
  by_cases h : 0 ≤ n ∧ n ≤ 1048575 ∧ n ∉ l
  · rw [putS_len h.1 h.2.1 h.2.2, decide_eq_true h, decide_eq_true_eq]; omega
  · rw [putS_same h, decide_eq_false h, decide_eq_false_iff_not]; omega

set_option maxHeartbeats 8000000 in
theorem law_adds {w : World} {va : Value} {ns : List Int} {more : Int} (hT : Tab w) (ha : IntsAt w va ns) :
    Calls Tryd.prog 4 #[va, .int .i64 more] w fun e w' => e = .returned (.bool true) ∧ Ch No w w' := by
  have haw := awake01 hT
  have ha' := ha
  obtain ⟨aoa, capa, rfl, hcapa, hmaxa, _, hcell⟩ := ha
  obtain ⟨la, hla⟩ : ∃ la, ns.length = la := ⟨_, rfl⟩
  rw [hla] at ha' hcapa hcell ⊢
  unfold maxLen at hmaxa
  have HA := hid ha'
  have HT := hid hT
  have HLA := hid hla
  clear ha' hT hla
  cases e1 : decide ((la : Int) > 100) with
  | true =>
    clear hcell
    go_enter Tryd.func4, Tryd.ntmps4
    go_wp2_with fail
    refine haw.mono ?_
    rintro e w1 ⟨rfl, hc1⟩
    go_wp2_with fail
    refine (awake01 (HT.out.no hc1)).mono ?_
    rintro e w2 ⟨rfl, hc2⟩
    go_wp2_with fail
    go_ret
    exact ⟨rfl, hc1.trans hc2⟩
  | false =>
    have hla100 : la ≤ 100 := by simp at e1; omega
    have HCELL := hid hcell
    clear hcell
    go_enter Tryd.func4, Tryd.ntmps4
    go_wp2_with fail
    refine haw.mono ?_
    rintro e w1 ⟨rfl, hc1⟩
    clear haw
    go_wp2_with fail
    refine (sof (IntsAt.nil w1)).mono ?_
    rintro e w2 ⟨us, rfl, hs, hc12⟩
    obtain ⟨sb, ob, rfl, hs, hrs, hrs'⟩ := hs.openIt
    have hc2 := hc1.trans hc12
    have z1 := hc1.size
    clear hc12
    go_wp2_with fail
    go_loopg [6, 7] la (fun g s6 s7 wr => ∃ (k : Nat) (ob' : Option Nat), k ≤ la ∧ la - k ≤ g ∧ s7 = .int .i64 k ∧ SetAt wr sb ((ns.take k).foldl putS []) ob' ∧ IntsOwn wr w2.heap.size s6 ((ns.take k).foldl putS []) ∧
      Ch No w wr ∧ w2.heap.size ≤ wr.heap.size ∧ (∀ b, ob' = some b → w.heap.size ≤ b) ∧ (∀ g, s6.ownBlock = some g → ob' ≠ some g))
    case atStart => exact ⟨0, ob, Nat.zero_le _, by omega, rfl, hs, IntsOwn.nil _ _, hc2, Nat.le_refl _, fun b hb => by have := hrs' b hb; omega, fun _ h => by cases h⟩
    case round =>
      clear hs
      obtain ⟨k, ob', hk, hg, rfl, hs, hl, hch, hsz, hob, hdis⟩ := hrel
      cases hd : decide (k < la) with
      | false =>
        have hkl : ¬ k < la := by simpa using hd
        rw [List.take_of_length_le (by have := HLA.out; omega)] at hs hl
        obtain ⟨L, hL⟩ : ∃ L, ns.foldl putS [] = L := ⟨_, rfl⟩
        rw [hL] at hs hl
        have HL := hid hL
        clear hL hdis hob
        go_wp2_with fail
        refine (slist (HT.out.no hch) hs.v).mono ?_
        rintro e w3 ⟨v3, rfl, hv3, hc3⟩
        have hs := hs.no hc3
        have hl := hl.no hc3
        have hch := hch.trans hc3
        have hsm := rsame' hv3.at_ hl.at_
        rw [decide_eq_true (Eq.refl _)] at hsm
        go_wp2_with fail
        refine hsm.mono ?_
        rintro e w4 ⟨rfl, hc4⟩
        clear hsm hv3
        have hs := hs.no hc4
        have hl := hl.no hc4
        have hch := hch.trans hc4
        have hof := sof (HA.out.no hch)
        rw [HL.out] at hof
        go_wp2_with fail
        refine hof.mono ?_
        rintro e w5 ⟨u5, rfl, hu5, hc5⟩
        clear hof
        obtain ⟨tb, tob, rfl, hu5, _, _⟩ := hu5.openIt
        have hs := hs.no hc5
        have hl := hl.no hc5
        have hch := hch.trans hc5
        have hss := ssame (HT.out.no hch) hs.v hu5.v
        rw [decide_eq_true (Eq.refl _)] at hss
        go_wp2_with fail
        refine hss.mono ?_
        rintro e w6 ⟨rfl, hc6⟩
        clear hss hu5 hs
        have hl := hl.no hc6
        have hch := hch.trans hc6
        have hof := sof (HA.out.no hch)
        rw [HL.out] at hof
        go_wp2_with fail
        refine hof.mono ?_
        rintro e w7 ⟨u7, rfl, hu7, hc7⟩
        clear hof
        obtain ⟨tb2, tob2, rfl, hu7, _, _⟩ := hu7.openIt
        have hl := hl.no hc7
        have hch := hch.trans hc7
        go_wp2_with fail
        refine (slist (HT.out.no hch) hu7.v).mono ?_
        rintro e w8 ⟨v8, rfl, hv8, hc8⟩
        have hl := hl.no hc8
        have hch := hch.trans hc8
        have hsm := rsame' hv8.at_ hl.at_
        rw [decide_eq_true (Eq.refl _)] at hsm
        go_wp2_with fail
        refine hsm.mono ?_
        rintro e w9 ⟨rfl, hc9⟩
        go_wp2_with fail
        go_ret
        exact ⟨rfl, hch.trans hc9⟩
      | true =>
        have hkl : k < la := by simpa using hd
        obtain ⟨b, off, rfl, hc⟩ := HCELL.out (by omega)
        obtain ⟨x, hx⟩ : ∃ x, ns[k]? = some x := ⟨_, List.getElem?_eq_getElem (by have := HLA.out; omega)⟩
        have hq0 := hc k x hx
        have HQ := hid hq0
        have hq := cell_ch hq0 hch (fun _ _ h => h)
        have HX := hid hx
        have htk : (ns.take (k + 1)).foldl putS [] = putS ((ns.take k).foldl putS []) x := by
          rw [List.take_add_one, hx, List.foldl_append]; rfl
        obtain ⟨L, hL⟩ : ∃ L, (ns.take k).foldl putS [] = L := ⟨_, rfl⟩
        have hLl : L.length ≤ 1048576 := by rw [← hL]; exact fold_len _
        rw [hL] at hs hl htk
        have HTK := hid htk
        have hslt := hs.lt
        have hllt := fun g h => hl.lt g h
        clear hc hx htk hL hq0
        obtain ⟨aol, capl, rfl, _⟩ := hl.at_
        go_wp2_with fail
        refine (rput hl.at_ x (by omega)).mono ?_
        rintro e w3 ⟨vn, rfl, hn, hc3⟩
        have hn2 : IntsOwn w3 w2.heap.size vn (putS L x) ∧ ∀ g, vn.ownBlock = some g → ob' ≠ some g ∧ g ≠ sb := by
          rcases hn with ⟨rfl, h2⟩ | h2
          · rw [h2]; exact ⟨hl.no hc3, fun g h => ⟨hdis g h, by have := hllt g h; omega⟩⟩
          · exact ⟨h2.base hsz, fun g h => ⟨fun e => by have := hslt.2 g e; have := h2.lt g h; omega, by have := h2.lt g h; omega⟩⟩
        clear hn
        obtain ⟨hn, hnd⟩ := hn2
        obtain ⟨aon, capn, rfl, _⟩ := hn.at_
        have hs3 := hs.no hc3
        have hq3 := cell_ch hq hc3 (fun _ _ h => h)
        have hch3 := hch.trans hc3
        have hadd := sadd hs3 x
        have hgt := putS_gt L x
        unfold AddP at hadd
        obtain ⟨r, hr⟩ : ∃ r, decide (0 ≤ x ∧ x ≤ 1048575 ∧ x ∉ L) = r := ⟨_, rfl⟩
        rw [hr] at hadd hgt
        have z3 := hc3.size
        clear hs hl hr
        obtain ⟨ll, hll⟩ : ∃ ll, L.length = ll := ⟨_, rfl⟩
        obtain ⟨ln, hln⟩ : ∃ ln, (putS L x).length = ln := ⟨_, rfl⟩
        rw [hll, hln] at hgt
        rw [hll]
        rw [hln] at hn hnd ⊢
        have HLN := hid hln
        clear hll hln
        go_wp2_with fail
        refine hadd.mono ?_
        rintro e w4 ⟨rfl, ob4, hs4, hc4, hob4⟩
        have hq4 := cell_ch hq3 hc4 (fun o ho h => by
          have hlt := block_lt_of_cell HQ.out
          have hlt' : b < w.heap.size := hlt
          rcases h with h | h
          · have : b = sb := h
            omega
          · have := hob b h
            omega)
        have hnl := fun g h => hn.lt g h
        have hn4 := hn.ch hc4 (fun g o h1 _ _ h => by
          rcases h with h | h
          · exact (hnd g h1).2 h
          · exact (hnd g h1).1 h)
        have hch4 : Ch No w w4 := So.new hch3 hc4 (B := w.heap.size) (Nat.le_refl _) (by omega) hob
        have z4 := hc4.size
        have hgt2 : decide (ll < ln) = r := by rw [← hgt]; simp
        have hrr : (!r == decide (ll < ln)) = false := by rw [hgt2]; cases r <;> rfl
        have hob4' : ∀ b, ob4 = some b → w.heap.size ≤ b := fun b hb => by
          rcases hob4 with h | ⟨g, h, h2⟩
          · exact hob b (h ▸ hb)
          · rw [h] at hb; cases hb; omega
        have hdis4 : ∀ g, (Value.slice aon ln capn).ownBlock = some g → ob4 ≠ some g := fun g hg1 e => by
          rcases hob4 with h | ⟨g', h, h2⟩
          · exact (hnd g hg1).1 (h.symm.trans e)
          · rw [h] at e; cases e
            have := hnl g hg1; omega
        clear hn hs3 hadd hc3
        go_wp2_with fail
        have hlen := slen' hs4.v
        rw [HLN.out] at hlen
        refine hlen.mono ?_
        rintro e w5 ⟨rfl, hc5⟩
        have hs5 := hs4.no hc5
        have hn5 := hn4.no hc5
        have hq5 := cell_ch hq4 hc5 (fun _ _ h => h)
        have hch5 := hch4.trans hc5
        have z5 := hc5.size
        have hbn : ((ln : Int) != (ln : Int)) = false := by simp
        clear hlen hs4 hn4 hq4 hc5
        have hh := shas' hs5.v x
        have hfin : ∀ w6, Ch No w5 w6 → Hid (SetAt w6 sb (putS L x) ob4 ∧ IntsOwn w6 w2.heap.size (.slice aon ln capn) (putS L x) ∧ Ch No w w6 ∧ w2.heap.size ≤ w6.heap.size) :=
          fun w6 h => hid ⟨hs5.no h, hn5.no h, hch5.trans h, by have := h.size; omega⟩
        obtain ⟨m1, hm1⟩ : ∃ m1, decide (more ∈ putS L x) = m1 := ⟨_, rfl⟩
        have hmm : (m1 != m1) = false := by simp
        have hmm2 : (!m1 == m1) = false := by cases m1 <;> rfl
        have HM1 := hid hm1
        cases hin : decide (x ∈ putS L x) with
        | true =>
          rw [hin] at hh
          go_wp2_with fail
          refine hh.mono ?_
          rintro e w6 ⟨rfl, hc6⟩
          have F6 := hfin w6 hc6
          clear hfin hh hs5 hn5 hch5
          have hh7 := shas' F6.out.1.v more
          rw [HM1.out] at hh7
          go_wp2_with fail
          refine hh7.mono ?_
          rintro e w7 ⟨rfl, hc7⟩
          have hh8 := rhas' (F6.out.2.1.no hc7).at_ more
          rw [HM1.out] at hh8
          clear hh7
          go_wp2_with fail
          refine hh8.mono ?_
          rintro e w8 ⟨rfl, hc8⟩
          clear hh8
          have hc78 := hc7.trans hc8
          go_wp2_with fail
          go_roundg (la - k - 1)
          case rel =>
            refine ⟨k + 1, ob4, by omega, by omega, by go_num, ?_, ?_, F6.out.2.2.1.trans hc78, ?_, hob4', hdis4⟩
            · rw [HTK.out]; exact F6.out.1.no hc78
            · rw [HTK.out]; exact F6.out.2.1.no hc78
            · have := F6.out.2.2.2; have := hc78.size; omega
          case measure => omega
        | false =>
          rw [hin] at hh
          go_wp2_with fail
          refine hh.mono ?_
          rintro e w6 ⟨rfl, hc6⟩
          have F6 := hfin w6 hc6
          have hq6 := cell_ch hq5 hc6 (fun _ _ h => h)
          have hhr := rhas' F6.out.2.1.at_ x
          rw [hin] at hhr
          clear hfin hh hs5 hn5 hch5
          go_wp2_with fail
          refine hhr.mono ?_
          rintro e wr7 ⟨rfl, hcr7⟩
          have hh7 := shas' (F6.out.1.no hcr7).v more
          rw [HM1.out] at hh7
          clear hhr
          go_wp2_with fail
          refine hh7.mono ?_
          rintro e w7 ⟨rfl, hc7⟩
          have hc67 := hcr7.trans hc7
          have hh8 := rhas' (F6.out.2.1.no hc67).at_ more
          rw [HM1.out] at hh8
          clear hh7
          go_wp2_with fail
          refine hh8.mono ?_
          rintro e w8 ⟨rfl, hc8⟩
          clear hh8
          have hc78 := hc67.trans hc8
          go_wp2_with fail
          go_roundg (la - k - 1)
          case rel =>
            refine ⟨k + 1, ob4, by omega, by omega, by go_num, ?_, ?_, F6.out.2.2.1.trans hc78, ?_, hob4', hdis4⟩
            · rw [HTK.out]; exact F6.out.1.no hc78
            · rw [HTK.out]; exact F6.out.2.1.no hc78
            · have := F6.out.2.2.2; have := hc78.size; omega
          case measure => omega
end Go.Proofs.YtbcbdjeoloepjaaDoor
