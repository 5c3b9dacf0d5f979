/- The table of classes: Above. -/
import Derived.Test.YtkffejgjpnnkmaaDoorHl
set_option linter.unusedVariables false
set_option linter.unusedSimpArgs false
namespace Go.Proofs.YtkffejgjpnnkmaaDoor
open Go.RowKit Go.W

theorem SetsAt.v {w : World} {v : Value} {ss : List SetP} (h : SetsAt w v ss) {i : Nat} {s : SetP} (hs : ss[i]? = some s) : ∃ sb ob, SetV w s.val s.l sb ob := by
  have hm := List.mem_of_getElem? hs
  unfold SetP.val
  cases hb : s.b with
  | none => rw [h.nil s hm hb]; exact ⟨_, _, SetV.nil w⟩
  | some b =>
    obtain ⟨ob, ho⟩ := h.sets s hm b hb
    exact ⟨_, _, ho.v⟩

/-- the set of a number, if there is one -/
def rowS (ss : List SetP) (i : Int) : List Int := if 0 ≤ i then ((ss[i.toNat]?).map SetP.l).getD [] else []
/-- what is above several -/
def aboveF (ss : List SetP) (is : List Int) : List Int := is.foldl (fun acc i => (rowS ss i).foldl putS acc) []

theorem aboveSnoc {ss : List SetP} {is : List Int} {k : Nat} {i : Int} (h : is[k]? = some i) : aboveF ss (is.take (k + 1)) = (rowS ss i).foldl putS (aboveF ss (is.take k)) := by
  unfold aboveF
  rw [List.take_add_one, h]
  simp

set_option maxHeartbeats 2000000 in
theorem habove {w : World} {tb : Nat} {T : TabD} (hT : Tab w) (h : TabAt w tb T) (hn : T.ss.length = T.ks.length) {v : Value} {is : List Int} (hi : IntsAt w v is) :
    Calls Tryd.prog 17 #[.pointer (some ⟨tb, 0, none⟩), v] w fun e w' => ∃ u, e = .returned u ∧ IntsOwn w' w.heap.size u (aboveF T.ss is) ∧ Ch No w w' := by
  have hof := sof (IntsAt.nil w)
  have HT := hid hT
  have H := hid h
  have HI := hid hi
  have HN := hid hn
  obtain ⟨ao, cap, rfl, hcap, hmax, hnc, hcell⟩ := hi
  obtain ⟨len, hlen⟩ : ∃ len, is.length = len := ⟨_, rfl⟩
  rw [hlen] at hcap hcell HI ⊢
  unfold maxLen at hmax
  have HL := hid hlen
  have HC := hid hcell
  obtain ⟨sa, sc, es, hsc, hsm⟩ := h.sets.slice
  unfold maxLen at hsm
  have ES := hid es
  have hsl : T.ss.length ≤ 9223372036854775807 := by omega
  clear hT h hlen hnc hcell hn es
  go_enter Tryd.func17, Tryd.ntmps17
  go_wp2_with fail
  refine hof.mono ?_
  rintro e w1 ⟨u, rfl, hs, hc1⟩
  obtain ⟨sb, ob, rfl, hs, hr, hr'⟩ := hs.openIt
  go_wp2_with fail
  go_loopg [7, 11] len (fun g s7 s11 wr => ∃ (k : Nat) (ob : Option Nat), k ≤ len ∧ len - k ≤ g ∧ s11 = .int .i64 k ∧ SetAt wr sb (aboveF T.ss (is.take k)) ob ∧ Ch No w wr ∧ (∀ b, ob = some b → w.heap.size ≤ b))
  case atStart => exact ⟨0, ob, Nat.zero_le _, by omega, rfl, hs, hc1, fun b hb => (hr' b hb).1⟩
  case round =>
    obtain ⟨k, ob, hk, hg, rfl, hset, hch, hob⟩ := hrel
    cases hd : decide (k < len) with
    | false =>
      have hli := slist (HT.out.no hch) hset.v
      clear hs
      go_wp2_with fail
      refine hli.mono ?_
      rintro e w2 ⟨u2, rfl, hu2, hc2⟩
      go_wp2_with fail
      go_ret
      have hkl : ¬ k < len := by simpa using hd
      rw [List.take_of_length_le (by have := HL.out; omega)] at hu2
      exact ⟨_, rfl, hu2.base hch.size, hch.trans hc2⟩
    | true =>
      have hkl : k < len := by simpa using hd
      obtain ⟨b, off, rfl, hc⟩ := HC.out (by omega)
      obtain ⟨x, hx⟩ : ∃ x, is[k]? = some x := ⟨_, List.getElem?_eq_getElem (by have := HL.out; omega)⟩
      have hq := cell_ch (hc k x hx) hch (fun _ _ h => h)
      have HX := hid hx
      have htab := H.out.no hch
      clear hs hc hx
      cases hrw : rowZ T.ks x with
      | none =>
        have ht := hthere_no htab (rowZ_none hrw)
        have HR := hid (rowZ_none hrw)
        clear hrw htab
        go_wp2_with fail
        refine ht.mono ?_
        rintro e w2 ⟨rfl, rfl⟩
        go_wp2_with fail
        go_roundg (len - k - 1)
        case rel =>
          refine ⟨k + 1, ob, by omega, by omega, by go_num, ?_, hch, hob⟩
          rw [aboveSnoc HX.out]
          have e0 : rowS T.ss x = [] := by
            unfold rowS
            by_cases h0 : 0 ≤ x
            · rw [if_pos h0, List.getElem?_eq_none (by have := HN.out; have := HR.out; omega)]; rfl
            · rw [if_neg h0]
          rw [e0]
          exact hset
        case measure => omega
      | some kd =>
        obtain ⟨n, rfl, hkn⟩ := rowZ_some hrw
        have ht := hthere_yes htab hkn
        have hnl := (List.getElem?_eq_some_iff.1 hkn).1
        obtain ⟨s, hs⟩ : ∃ s, T.ss[n]? = some s := ⟨_, List.getElem?_eq_getElem (by have := HN.out; omega)⟩
        have hns : n < T.ss.length := (List.getElem?_eq_some_iff.1 hs).1
        obtain ⟨b2, off2, cap2, e2, hc2, _, _⟩ := htab.sets.cell hs
        obtain ⟨tsb, tob, hv⟩ := htab.sets.v hs
        have c2 := cellAt htab.blk 2
        rw [e2] at c2
        have hme := smerge (HT.out.no hch) hset hv
        have HS := hid hs
        have HB := hid (lt_size htab.blk)
        clear hrw htab hkn hs e2 hv
        go_wp2_with fail
        refine ht.mono ?_
        rintro e w2 ⟨rfl, rfl⟩
        go_wp2_with fail
        refine hme.mono ?_
        rintro e w2 ⟨u2, ob2, rfl, _, hset2, hch2, hob2⟩
        go_wp2_with fail
        go_roundg (len - k - 1)
        case rel =>
          refine ⟨k + 1, ob2, by omega, by omega, by go_num, ?_, hch.trans' hch2 (fun j o ho h => ?_), ?_⟩
          · rw [aboveSnoc HX.out]
            have e0 : rowS T.ss (n : Int) = s.l := by
              unfold rowS
              rw [if_pos (by omega)]
              simp [HS.out]
            rw [e0]
            exact hset2
          · have := lt_size ho
            rcases h with h | h
            · omega
            · have := hob _ h; omega
          · rintro b rfl
            rcases hob2 with h | ⟨g, h, hg⟩
            · exact hob b h.symm
            · cases h
              have := hch.size
              omega
        case measure => omega
end Go.Proofs.YtkffejgjpnnkmaaDoor
