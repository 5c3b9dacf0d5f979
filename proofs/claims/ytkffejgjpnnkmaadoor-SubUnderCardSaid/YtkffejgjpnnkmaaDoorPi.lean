/- Types of a program: Under. -/
import Derived.Test.YtkffejgjpnnkmaaDoorPe
set_option linter.unusedVariables false
set_option linter.unusedSimpArgs false
namespace Go.Proofs.YtkffejgjpnnkmaaDoor
open Go.RowKit Go.W

theorem oneStr1 (a : ByteArray) : ∀ u ∈ [Value.string a], u.oneCell' = true := by
  intro u hu
  simp at hu
  subst hu; rfl
theorem unLen (cs : List Cls) (k n : Nat) : (unL cs k n).length ≤ n := by
  unfold unL
  rw [List.length_map]
  have := List.length_filter_le (fun j => @decide (UnP cs k j) (Classical.propDecidable _)) (List.range n)
  simpa using this
theorem StrsOwn.rowN {w w' : World} {base n : Nat} {v : Value} {l : List ByteArray} (h : StrsOwn w base v l) (hn : l.length = n) (hc : Ch No w w') : w'.ownsRow base 9 1 v n (l.map Value.string) := by
  have := h.no hc
  unfold StrsOwn at this
  rw [hn] at this
  exact this
set_option maxRecDepth 100000 in
set_option maxHeartbeats 8000000 in
theorem xunder {w : World} {xv : Value} {cs : List Cls} (h : TypesIs w xv cs) {t : ByteArray} (ht : t.size ≤ maxLen) (hn : cs.length ≤ 1000) :
    Calls Tryd.prog 44 #[xv, .string t] w fun e w' => ∃ v, e = .returned v ∧ StrsAt w' v (underL cs t) ∧ Ch No w w' := by
  have H := hid h
  obtain ⟨xb, tb, abv, ss, rfl, hx⟩ := h
  have hel := xelem H.out ht
  have hcl := xclass H.out ht
  obtain ⟨ao, cap, rfl, hcap, hmax⟩ := hx.sets.slice
  obtain ⟨n, hn'⟩ : ∃ n, ss.length = n := ⟨_, rfl⟩
  have hlen := hx.len
  rw [hn'] at hcap
  have HX : Hid (TypAt w xb tb (.slice ao n cap) ss cs) := hid (by rw [hn'] at hx; exact hx)
  have HN := hid hn'
  have hnc : cs.length = n := by omega
  have HNC := hid hnc
  have hn1 : n ≤ 1000 := by omega
  unfold maxLen at hmax
  have c0 := cellAt HX.out.blk 0
  have c1 := cellAt HX.out.blk 1
  clear hx hlen hn' hnc hn
  go_enter Tryd.func44, Tryd.ntmps44
  go_wp2_with fail
  refine hel.mono ?_
  rintro e w1 ⟨⟨el, hel, rfl⟩ | ⟨hel, rfl⟩, rfl⟩
  · have HE := hid hel
    clear hcl hel
    go_wp2_with fail
    go_ret
    refine ⟨_, rfl, ?_, (Ch.refl No w).alloc _⟩
    unfold underL
    rw [HE.out]
    exact StrsAt.one [t] (Nat.le_of_ble_eq_true rfl)
  · have HE := hid hel
    clear hel
    cases hf : find cs t with
    | none =>
      have b1 : getB (find cs) t = false := by unfold getB; rw [hf]; rfl
      rw [b1] at hcl
      have HF := hid hf
      clear b1 hf
      go_wp2_with fail
      refine hcl.mono ?_
      rintro e w1 ⟨rfl, rfl⟩
      clear hcl
      go_wp2_with fail
      go_ret
      refine ⟨_, rfl, ?_, Ch.refl No w⟩
      unfold underL
      rw [HE.out, HF.out]
      exact StrsAt.nil w
    | some k =>
      have b1 : getB (find cs) t = true := by unfold getB; rw [hf]; rfl
      rw [b1, getI_some hf] at hcl
      have HF := hid hf
      have hk := find_lt hf
      clear b1 hf
      go_wp2_with fail
      refine hcl.mono ?_
      rintro e w1 ⟨rfl, rfl⟩
      clear hcl
      go_wp2_with fail
      go_loopg [9, 34] n (fun g s9 s34 wr => ∃ (j : Nat), j ≤ n ∧ n - j ≤ g ∧ s34 = .int .i64 j ∧ Hid (StrsOwn wr w.heap.size s9 (unL cs k j)) ∧ Ch No w wr)
      case atStart => exact ⟨0, Nat.zero_le _, by omega, rfl, hid (StrsOwn.nil _ _), Ch.refl _ _⟩
      case round =>
        obtain ⟨j, hj, hg, rfl, HS, hc⟩ := hrel
        obtain ⟨a9, cap9, rfl, hcap9, hmax9, _⟩ := HS.out.at_
        obtain ⟨nu, hnu⟩ : ∃ nu, (unL cs k j).length = nu := ⟨_, rfl⟩
        rw [hnu] at HS hcap9 ⊢
        unfold maxLen at hmax9
        have hnu1 : nu + 1 ≤ 100000 := by have := unLen cs k j; omega
        have HNU := hid hnu
        have HXR := hid (HX.out.no hc)
        have HCR := hid hc
        have d0 := cellAt HXR.out.blk 0
        have d1 := cellAt HXR.out.blk 1
        clear hnu hc
        cases hd : decide (j < n) with
        | false =>
          have hjl : ¬ j < n := by simpa using hd
          have e : j = n := by omega
          go_wp2_with fail
          go_ret
          refine ⟨_, rfl, ?_, HCR.out⟩
          have h1 := HS.out.at_
          unfold underL
          rw [HE.out, HF.out]
          rw [e, ← HNC.out] at h1
          exact h1
        | true =>
          have hjl : j < n := by simpa using hd
          obtain ⟨s, hs⟩ : ∃ s, ss[j]? = some s := ⟨_, List.getElem?_eq_getElem (by have := HN.out; omega)⟩
          obtain ⟨c, hcj⟩ : ∃ c, cs[j]? = some c := ⟨_, List.getElem?_eq_getElem (by have := HNC.out; omega)⟩
          obtain ⟨b, off, cap', eab, hcell, _, _⟩ := HXR.out.sets.cell hs
          rw [HN.out] at eab
          cases eab
          obtain ⟨tsb, tob, hv⟩ := HXR.out.sets.v hs
          have hhas := shas' hv (k : Int)
          rw [HXR.out.ab j s hs] at hhas
          have hfc := tFace HXR.out.tab hcj
          have HCJ := hid hcj
          have hjc : j < cs.length := by have := HNC.out; omega
          clear hs hv hcj
          cases hface : c.face with
          | true =>
            rw [hface] at hfc
            have HNO := hid (show ¬ UnP cs k j from fun ⟨d, hd, h1, _⟩ => by rw [HCJ.out] at hd; cases hd; rw [hface] at h1; cases h1)
            clear hhas hface
            go_wp2_with fail
            refine hfc.mono ?_
            rintro e w5 ⟨rfl, rfl⟩
            clear hfc
            go_wp2_with fail
            go_roundg (n - j - 1)
            case rel =>
              refine ⟨j + 1, by omega, by omega, by go_num, hid ?_, HCR.out⟩
              have h1 := HS.out
              rw [← HNU.out] at h1 ⊢
              rw [unNo HNO.out]
              exact h1
            case measure => omega
          | false =>
            rw [hface] at hfc
            by_cases hup : upT cs j k
            · have HY := hid (show UnP cs k j from ⟨c, HCJ.out, hface, hup⟩)
              rw [decide_eq_true ((mem_ab hjc hk).2 hup)] at hhas
              clear hface hup
              go_wp2_with fail
              refine hfc.mono ?_
              rintro e w5 ⟨rfl, rfl⟩
              clear hfc
              go_wp2_with fail
              refine hhas.mono ?_
              rintro e w5 ⟨rfl, hc5⟩
              have HC5 := hid (HCR.out.trans hc5)
              have HX5 := hid (HXR.out.no hc5)
              have d0 := cellAt HX5.out.blk 0
              have d1 := cellAt HX5.out.blk 1
              have hnm := tName HX5.out.tab HCJ.out
              have hrow := HS.out.rowN HNU.out (hc5.alloc (.cells #[.string c.name] 9))
              have hbase : w.heap.size ≤ _ := ((HCR.out.trans hc5).alloc (.cells #[.string c.name] 9)).size
              have HROW := hid hrow
              have HCA := hid ((HCR.out.trans hc5).alloc (.cells #[.string c.name] 9))
              clear hhas hc5 hrow
              go_wp2_with fail
              refine hnm.mono ?_
              rintro e w6 ⟨rfl, rfl⟩
              clear hnm
              go_wp2_with (at_builtin; go_must (refine wpAppendOwn rfl _ _ rfl Tryd.sliceStr Tryd.infoStr Nat.zero_lt_one (Nat.le_of_ble_eq_true rfl) w.heap.size (.slice a9 nu cap9) nu ((unL cs k j).map Value.string) rfl HROW.out w5.heap.size 1 1 [.string c.name] rfl rfl (heap_alloc_new w5 _) (oneStr1 _) hnu1 hbase ?_))
              intro v7 w7 hr7 hc7
              have hown : StrsOwn w7 w.heap.size v7 (unL cs k (j + 1)) := by
                unfold StrsOwn
                rw [unYes HY.out, List.length_append, List.map_append, HNU.out]
                have en : nameAt cs j = c.name := by unfold nameAt; rw [HCJ.out]
                rw [en]
                exact hr7
              have hch7 : Ch No w w7 := HCA.out.trans' hc7 (fun j o ho e => by
                obtain ⟨h1, _⟩ := owned_typed HROW.out j e
                have := lt_size ho
                omega)
              have HOWN := hid hown
              have HC7 := hid hch7
              clear hr7 hc7 hown hch7
              go_wp2_with fail
              go_roundg (n - j - 1)
              case rel => exact ⟨j + 1, by omega, by omega, by go_num, HOWN, HC7.out⟩
              case measure => omega
            · have HNO := hid (show ¬ UnP cs k j from fun ⟨d, hd, _, h1⟩ => hup h1)
              rw [decide_eq_false (fun h => hup ((mem_ab hjc hk).1 h))] at hhas
              clear hface hup
              go_wp2_with fail
              refine hfc.mono ?_
              rintro e w5 ⟨rfl, rfl⟩
              clear hfc
              go_wp2_with fail
              refine hhas.mono ?_
              rintro e w5 ⟨rfl, hc5⟩
              have HC5 := hid (HCR.out.trans hc5)
              have HS5 := hid (HS.out.no hc5)
              clear hhas hc5
              go_wp2_with fail
              go_roundg (n - j - 1)
              case rel =>
                refine ⟨j + 1, by omega, by omega, by go_num, hid ?_, HC5.out⟩
                have h1 := HS5.out
                rw [← HNU.out] at h1 ⊢
                rw [unNo HNO.out]
                exact h1
              case measure => omega
end Go.Proofs.YtkffejgjpnnkmaaDoor
