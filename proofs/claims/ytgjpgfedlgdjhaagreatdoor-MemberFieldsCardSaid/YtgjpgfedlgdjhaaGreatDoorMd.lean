/- Members: Params, alike, typed of the reference 10. -/
import Derived.Test.YtgjpgfedlgdjhaaGreatDoorMc
set_option linter.unusedVariables false
set_option linter.unusedSimpArgs false
set_option maxRecDepth 8192
namespace Go.Proofs.YtgjpgfedlgdjhaaGreatDoor
open Go.RowKit Go.W

set_option maxHeartbeats 4000000 in
theorem rparams {w : World} {x : Mt} (hp : VarsAt w (.slice x.pa x.ps.length x.pc) x.ps) (hl : x.ps.length ≤ 1000) :
    Calls Tryz.prog 105 #[.agg #[.string x.ret, .string x.nm, .bool x.st, .bool x.ba, .slice x.pa x.ps.length x.pc, .slice x.s5.1 x.s5.2.1 x.s5.2.2, .slice x.s6.1 x.s6.2.1 x.s6.2.2, .int .i64 x.line, .int .i64 x.col]] w fun e w' => ∃ v, e = .returned v ∧ StrsAt w' v (x.ps.map Vr.ty) ∧ Ch No w w' := by
  obtain ⟨n, hn⟩ : ∃ n, x.ps.length = n := ⟨_, rfl⟩
  rw [hn] at hp hl ⊢
  obtain ⟨wa, hwa⟩ : ∃ wa, w.alloc (.cells #[.string x.ret, .string x.nm, .bool x.st, .bool x.ba, .slice x.pa n x.pc, .slice x.s5.1 x.s5.2.1 x.s5.2.2, .slice x.s6.1 x.s6.2.1 x.s6.2.2, .int .i64 x.line, .int .i64 x.col] 29) = wa := ⟨_, rfl⟩
  have hpb := heap_alloc_new w (.cells #[.string x.ret, .string x.nm, .bool x.st, .bool x.ba, .slice x.pa n x.pc, .slice x.s5.1 x.s5.2.1 x.s5.2.2, .slice x.s6.1 x.s6.2.1 x.s6.2.2, .int .i64 x.line, .int .i64 x.col] 29)
  have hch := (Ch.refl No w).alloc (.cells #[.string x.ret, .string x.nm, .bool x.st, .bool x.ba, .slice x.pa n x.pc, .slice x.s5.1 x.s5.2.1 x.s5.2.2, .slice x.s6.1 x.s6.2.1 x.s6.2.2, .int .i64 x.line, .int .i64 x.col] 29)
  rw [hwa] at hch hpb
  obtain ⟨-, hcap, hmax⟩ := hp.shape
  unfold maxLen at hmax
  rw [hn] at hcap
  have HN := hid hn
  have HB := hid hpb
  have HP := hid (hp.no hch)
  have HCH := hid hch
  clear hn hp hch hpb
  go_enter Tryz.func105, Tryz.ntmps105
  go_wp2_with fail
  clear hwa
  go_loopg [3, 4] n (fun g s3 s4 wr => ∃ k : Nat, k ≤ n ∧ n - k ≤ g ∧ s4 = .int .i64 k ∧ Hid (StrsOwn wr wa.heap.size s3 ((x.ps.take k).map Vr.ty)) ∧ Ch No wa wr)
  case atStart => exact ⟨0, Nat.zero_le _, by omega, rfl, hid (StrsOwn.nil _ _), Ch.refl _ _⟩
  case round =>
    obtain ⟨k, hk, hg, rfl, HS, hc⟩ := hrel
    obtain ⟨a3, cap3, rfl, hcap3, hmax3, _⟩ := HS.out.at_
    obtain ⟨nu, hnu⟩ : ∃ nu, ((x.ps.take k).map Vr.ty).length = nu := ⟨_, rfl⟩
    rw [hnu] at HS hcap3 ⊢
    unfold maxLen at hmax3
    have hnu1 : nu + 1 ≤ 100000 := by rw [← hnu, List.length_map, List.length_take]; omega
    have HNU := hid hnu
    have HPR := hid (HP.out.no hc)
    have d4 := cellAt (hc.keep _ _ HB.out (fun h => h)) 4
    have HCR := hid hc
    clear hnu hc
    cases hd : decide (k < n) with
    | false =>
      have hjl : ¬ k < n := by simpa using hd
      go_wp2_with fail
      go_ret
      refine ⟨_, rfl, ?_, HCH.out.trans HCR.out⟩
      have h1 := HS.out.at_
      rw [List.take_of_length_le (by have := HN.out; omega)] at h1
      exact h1
    | true =>
      have hjl : k < n := by simpa using hd
      obtain ⟨y, hy⟩ : ∃ y, x.ps[k]? = some y := ⟨_, List.getElem?_eq_getElem (by have := HN.out; omega)⟩
      obtain ⟨b, off, epa, hcell⟩ := HPR.out.cell hy
      rw [epa] at d4
      have r0 := hcell.q0
      have hrow := HS.out.rowN HNU.out ((Ch.refl No wr).alloc (.cells #[.string y.ty] 9))
      have hbase : wa.heap.size ≤ _ := (HCR.out.alloc (.cells #[.string y.ty] 9)).size
      have HROW := hid hrow
      have HCA := hid (HCR.out.alloc (.cells #[.string y.ty] 9))
      have HY := hid hy
      clear hcell hrow hy epa
      go_wp2_with (at_builtin; go_must (refine wpAppendOwn rfl _ _ rfl Tryz.sliceStr Tryz.infoStr Nat.zero_lt_one (Nat.le_of_ble_eq_true rfl) wa.heap.size (.slice a3 nu cap3) nu (((x.ps.take k).map Vr.ty).map Value.string) rfl HROW.out wr.heap.size 1 1 [.string y.ty] rfl rfl (heap_alloc_new wr _) (oneStr1 _) hnu1 hbase ?_))
      intro v7 w7 hr7 hc7
      have hown : StrsOwn w7 wa.heap.size v7 ((x.ps.take (k + 1)).map Vr.ty) := by
        unfold StrsOwn
        have e1 : ((x.ps.take (k + 1)).map Vr.ty).length = nu + 1 := by rw [List.take_add_one, HY.out, List.map_append, List.length_append, HNU.out]; rfl
        have e2 : ((x.ps.take (k + 1)).map Vr.ty).map Value.string = ((x.ps.take k).map Vr.ty).map Value.string ++ [.string y.ty] := by rw [List.take_add_one, HY.out, List.map_append, List.map_append]; rfl
        rw [e1, e2]
        simpa using hr7
      have hch7 : Ch No wa w7 := HCA.out.trans' hc7 (fun j o ho e => by
        obtain ⟨h1, _⟩ := owned_typed HROW.out j e
        have := lt_size ho
        omega)
      have HOWN := hid hown
      have HC7 := hid hch7
      clear hr7 hc7 hown hch7
      go_wp2_with fail
      go_roundg (n - k - 1)
      case rel => exact ⟨k + 1, by omega, by omega, by go_num, HOWN, HC7.out⟩
      case measure => omega
end Go.Proofs.YtgjpgfedlgdjhaaGreatDoor
