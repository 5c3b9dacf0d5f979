/- Members: super, own of the reference 10. -/
import Derived.Test.YtgjpgfedlgdjhaaGreatDoorMb
import Derived.Test.YtgjpgfedlgdjhaaGreatDoorPk
set_option linter.unusedVariables false
set_option linter.unusedSimpArgs false
set_option maxRecDepth 8192
namespace Go.Proofs.YtgjpgfedlgdjhaaGreatDoor
open Go.RowKit Go.W

theorem progAt0 {w : World} {b : Nat} {v0 m0 m1 m2 m3 m4 m5 m6 m7 m8 : Value} {t : TypeId} (h : w.heap[b]? = some (.cells #[v0, m0, m1, m2, m3, m4, m5, m6, m7, m8] t (0, 0))) : w.cell? ⟨b, 0, none⟩ = some v0 := cellAt h 0

set_option maxHeartbeats 4000000 in
theorem rsuper {w : World} {pv : Value} {cs : List Cls} (h : ProgAt w pv cs) {i : Nat} {c : Cls} (hi : cs[i]? = some c) :
    Calls Tryz.prog 51 #[pv, .int .i64 i] w fun e w' => e = .returned (.int .i64 (supZ cs c)) ∧ Ch No w w' := by
  have hp := h
  obtain ⟨cv, m0, m1, m2, m3, m4, m5, m6, m7, m8, rfl, h⟩ := h
  obtain ⟨ao, cap, rfl, hcap, hmax, _, _⟩ := h.row
  rw [List.length_map] at hcap h hp ⊢
  obtain ⟨len, hlen⟩ : ∃ len, cs.length = len := ⟨_, rfl⟩
  rw [hlen] at hcap h hp ⊢
  unfold maxLen at hmax
  obtain ⟨wa, hwa⟩ : ∃ wa, w.alloc (.cells #[.slice ao len cap, m0, m1, m2, m3, m4, m5, m6, m7, m8] 31) = wa := ⟨_, rfl⟩
  have hpb := heap_alloc_new w (.cells #[.slice ao len cap, m0, m1, m2, m3, m4, m5, m6, m7, m8] 31)
  have hch := (Ch.refl No w).alloc (.cells #[.slice ao len cap, m0, m1, m2, m3, m4, m5, m6, m7, m8] 31)
  rw [hwa] at hch hpb
  have HL := hid hlen
  have HP := hid (hp.no hch)
  have HC := hid (h.no hch)
  have HPB := hid hpb
  have HCH := hid hch
  have p0 := cellAt hpb 0
  have p1 := cellAt hpb 1
  have p2 := cellAt hpb 2
  have p3 := cellAt hpb 3
  have p4 := cellAt hpb 4
  have p5 := cellAt hpb 5
  have p6 := cellAt hpb 6
  have p7 := cellAt hpb 7
  have p8 := cellAt hpb 8
  have p9 := cellAt hpb 9
  have hz := lt_size hpb
  clear hlen h hp hpb hch
  obtain ⟨b, off, cap', e, hcell, _, _⟩ := HC.out.cell hi
  rw [HL.out] at e
  cases e
  have hil : i < len := by have := (List.getElem?_eq_some_iff.1 hi).1; have := HL.out; omega
  have q1 := hcell.q1
  clear hcell hi
  cases e0 : c.sup.toList.isEmpty with
  | true =>
    have hs : supZ cs c = -1 := supZ_no e0
    rw [hs]
    clear hs
    go_enter Tryz.func51, Tryz.ntmps51
    go_wp2_with fail
    go_ret
    exact ⟨rfl, HCH.out⟩
  | false =>
    have hs : supZ cs c = findZ cs c.sup := supZ_yes e0
    rw [hs]
    have hfi := rfind (HP.out.no ((Ch.refl No wa).drew)) c.sup
    have HSx := hid (show wa.cell? ⟨b, off + i * 10 + 1, none⟩ = some (.string c.sup) ∧ _ from ⟨q1, progCells9 HPB.out⟩)
    have HSd := hid (show wa.drew.cell? ⟨b, off + i * 10 + 1, none⟩ = some (.string c.sup) ∧ _ from ⟨q1, progCells9 (((Ch.refl No wa).drew).keep _ _ HPB.out (fun h => h))⟩)
    clear hs
    go_enter Tryz.func51, Tryz.ntmps51
    go_wp2_with fail
    go_region_held3 (fun w' => w'.cell? ⟨b, off + i * 10 + 1, none⟩ = some (.string c.sup) ∧ w'.cell? ⟨w.heap.size, 0, none⟩ = some (.slice (some ⟨b, off, none⟩) len cap) ∧ w'.cell? ⟨w.heap.size, 1, none⟩ = some m0 ∧ w'.cell? ⟨w.heap.size, 2, none⟩ = some m1 ∧ w'.cell? ⟨w.heap.size, 3, none⟩ = some m2 ∧ w'.cell? ⟨w.heap.size, 4, none⟩ = some m3 ∧ w'.cell? ⟨w.heap.size, 5, none⟩ = some m4 ∧ w'.cell? ⟨w.heap.size, 6, none⟩ = some m5 ∧ w'.cell? ⟨w.heap.size, 7, none⟩ = some m6 ∧ w'.cell? ⟨w.heap.size, 8, none⟩ = some m7 ∧ w'.cell? ⟨w.heap.size, 9, none⟩ = some m8) (first | with_reducible exact HSx.out | with_reducible exact HSd.out | with_reducible exact HS5.out | go_keep) (first | (go_at_call 92; refine hfi.mono ?_; rintro e w5 ⟨rfl, hc5⟩; have K5 := hid (((Ch.refl No wa).drew).trans hc5); have HS5 := hid (show w5.cell? ⟨b, off + i * 10 + 1, none⟩ = some (.string c.sup) ∧ _ from ⟨cell_ch q1 K5.out (fun _ _ h => h), progCells9 (K5.out.keep _ _ HPB.out (fun h => h))⟩); clear hc5 hfi))
    go_wp2_with fail
    go_ret
    exact ⟨rfl, HCH.out.trans K5.out⟩

theorem mtK_take {l : List Mt} {nm : ByteArray} {k : Nat} {x : Mt} (hk : l[k]? = some x) (hno : ∀ y ∈ l.take k, y.nm ≠ nm) (hx : x.nm = nm) : mtK l nm = some k := by
  unfold mtK
  rw [List.findIdx?_eq_some_iff_getElem]
  obtain ⟨hl, e⟩ := List.getElem?_eq_some_iff.1 hk
  refine ⟨hl, by rw [e]; simpa using hx, fun j hj => ?_⟩
  have : l[j] ∈ l.take k := List.mem_take_iff_getElem.2 ⟨j, by omega, rfl⟩
  simpa using hno _ this
theorem mtK_none {l : List Mt} {nm : ByteArray} (hno : ∀ y ∈ l, y.nm ≠ nm) : mtK l nm = none := by
  unfold mtK
  rw [List.findIdx?_eq_none_iff]
  intro x hx
  simpa using hno x hx
theorem mtK_some {l : List Mt} {nm : ByteArray} {k : Nat} (h : mtK l nm = some k) : ∃ x, l[k]? = some x ∧ x.nm = nm ∧ ∀ y ∈ l.take k, y.nm ≠ nm := by
  unfold mtK at h
  rw [List.findIdx?_eq_some_iff_getElem] at h
  obtain ⟨hl, h1, h2⟩ := h
  refine ⟨l[k], List.getElem?_eq_getElem hl, by simpa using h1, fun x hx => ?_⟩
  obtain ⟨j, hj, rfl⟩ := List.mem_take_iff_getElem.1 hx
  have := h2 j (by omega)
  simpa using this

set_option maxHeartbeats 4000000 in
theorem rown {w : World} {pv : Value} {cs : List Cls} {ms : List Mem} (h : ProgAt w pv cs) (hm : MemsAt w cs ms) {i : Nat} {c : Cls} {m : Mem} (hi : cs[i]? = some c) (hmi : ms[i]? = some m) (nm : ByteArray) :
    Calls Tryz.prog 67 #[pv, .int .i64 i, .string nm] w fun e w' => e = .returned (.int .i64 (optZ (mtK m.ms nm))) ∧ Ch No w w' := by
  have hms := (hm.at_ i c m hi hmi).ms
  clear hm
  have hp := h
  obtain ⟨cv, m0, m1, m2, m3, m4, m5, m6, m7, m8, rfl, h⟩ := h
  obtain ⟨ao, cap, rfl, hcap, hmax, _, _⟩ := h.row
  rw [List.length_map] at hcap h hp ⊢
  obtain ⟨len, hlen⟩ : ∃ len, cs.length = len := ⟨_, rfl⟩
  rw [hlen] at hcap h hp ⊢
  unfold maxLen at hmax
  obtain ⟨wa, hwa⟩ : ∃ wa, w.alloc (.cells #[.slice ao len cap, m0, m1, m2, m3, m4, m5, m6, m7, m8] 31) = wa := ⟨_, rfl⟩
  have hpb := heap_alloc_new w (.cells #[.slice ao len cap, m0, m1, m2, m3, m4, m5, m6, m7, m8] 31)
  have hch := (Ch.refl No w).alloc (.cells #[.slice ao len cap, m0, m1, m2, m3, m4, m5, m6, m7, m8] 31)
  rw [hwa] at hch hpb
  have HL := hid hlen
  have HP := hid (hp.no hch)
  have HC := hid (h.no hch)
  have HPB := hid hpb
  have HCH := hid hch
  have p0 := cellAt hpb 0
  have p1 := cellAt hpb 1
  have p2 := cellAt hpb 2
  have p3 := cellAt hpb 3
  have p4 := cellAt hpb 4
  have p5 := cellAt hpb 5
  have p6 := cellAt hpb 6
  have p7 := cellAt hpb 7
  have p8 := cellAt hpb 8
  have p9 := cellAt hpb 9
  have hz := lt_size hpb
  clear hlen h hp hpb hch
  have HM := hid (hms.no HCH.out)
  clear hms
  obtain ⟨b, off, cap', e, hcell, _, _⟩ := HC.out.cell hi
  rw [HL.out] at e
  cases e
  have hil : i < len := by have := (List.getElem?_eq_some_iff.1 hi).1; have := HL.out; omega
  have q6 := hcell.q6
  clear hcell hi hmi
  obtain ⟨ma, mn, mc, hs6⟩ : ∃ ma mn mc, c.s6 = (ma, mn, mc) := ⟨_, _, _, rfl⟩
  rw [hs6] at q6 HM
  clear hs6
  obtain ⟨hmn, hmc, hmm⟩ := HM.out.shape
  have HMN := hid hmn
  unfold maxLen at hmm
  have hmx : mn ≤ mc := by have h1 : mn = m.ms.length := hmn; have h2 : m.ms.length ≤ mc := hmc; omega
  clear hmn hmc
  go_enter Tryz.func67, Tryz.ntmps67
  go_wp2_with fail
  clear hwa
  go_loop [8] (fun s8 => ∃ k : Nat, k ≤ mn ∧ s8 = .int .i64 k ∧ Hid (∀ x ∈ m.ms.take k, x.nm ≠ nm)) (fun s8 => mn - (intOf s8).toNat)
  case atStart => exact ⟨0, Nat.zero_le _, rfl, hid (by simp)⟩
  case round =>
    obtain ⟨k, hk, rfl, HN⟩ := hrel
    cases hd : decide (k < mn) with
    | true =>
      have hkl : k < mn := by simpa using hd
      obtain ⟨x, hx⟩ : ∃ x, m.ms[k]? = some x := ⟨_, List.getElem?_eq_getElem (by have := HMN.out; omega)⟩
      obtain ⟨b2, off2, rfl, hcell⟩ := HM.out.cell hx
      have r1 := hcell.q1
      have HX := hid hx
      clear hx hcell
      cases e0 : (x.nm.toList == nm.toList) with
      | true =>
        go_wp2_with fail
        go_ret
        have hcn : x.nm = nm := by rw [streq] at e0; simpa using e0
        exact ⟨ret_int (by rw [mtK_take HX.out HN.out hcn]; rfl), HCH.out⟩
      | false =>
        go_wp2_with fail
        go_round
        case rel =>
          have hcn : x.nm ≠ nm := by rw [streq] at e0; simpa using e0
          refine ⟨k + 1, by omega, by go_num, hid fun y hy => ?_⟩
          rw [List.take_add_one, HX.out] at hy
          rcases List.mem_append.1 hy with hy | hy
          · exact HN.out y hy
          · simp at hy; subst hy; exact hcn
        case measure => simp [intOf]; omega
    | false =>
      go_wp2_with fail
      go_ret
      have hkl : ¬ k < mn := by simpa using hd
      have := HN.out
      rw [List.take_of_length_le (by have := HMN.out; omega)] at this
      exact ⟨ret_int (by rw [mtK_none this]; rfl), HCH.out⟩
end Go.Proofs.YtgjpgfedlgdjhaaGreatDoor
