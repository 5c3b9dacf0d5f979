/- Reference 10: Fields. -/
import Derived.Test.YtgjpgfedlgdjhaaGreatDoorMv
import Derived.Test.YtgjpgfedlgdjhaaGreatDoorMc
import Derived.Test.YtgjpgfedlgdjhaaGreatDoorMy
set_option linter.unusedVariables false
set_option linter.unusedSimpArgs false
set_option maxRecDepth 8192
namespace Go.Proofs.YtgjpgfedlgdjhaaGreatDoor
open Go.RowKit Go.W

theorem Tryz.infoIntC : (Tryz.prog.info? 3).map (fun i => (i.zero.map (fun z => z.cells.size), i.size, i.bytes)) = some (some 1, 1, 8) := by kernel_rfl
theorem Tryz.sliceIntC : Tryz.prog.underlying 59 = some (.slice 3) := by kernel_rfl
/-- the two rows of Fields -/
def FldI (w : World) (base : Nat) (v : Value) (l : List (Nat × Vr)) : Prop := w.ownsRow base 3 1 v l.length (l.map fun p => Value.int .i64 (p.1 : Int))
def FldS (w : World) (base : Nat) (v : Value) (l : List (Nat × Vr)) : Prop := w.ownsRow base 9 1 v l.length (l.map fun p => Value.string p.2.nm)
theorem ownsRow_base {w : World} {base base' sz n : Nat} {e : TypeId} {v : Value} {xs : List Value} (h : w.ownsRow base e sz v n xs) (hb : base' ≤ base) : w.ownsRow base' e sz v n xs := by
  refine ⟨h.1, ?_⟩
  rcases h.2 with h | ⟨g, cap, cur, h1, h2, h3⟩
  · exact .inl h
  · exact .inr ⟨g, cap, cur, h1, Nat.le_trans hb h2, h3⟩
theorem oneInt1 (i : Int) : ∀ u ∈ [Value.int .i64 i], u.oneCell' = true := by
  intro u hu
  simp at hu
  subst hu
  rfl
theorem oneStrF (i : ByteArray) : ∀ u ∈ [Value.string i], u.oneCell' = true := by
  intro u hu
  simp at hu
  subst hu
  rfl

set_option maxHeartbeats 4000000 in
theorem rfieldsNo {w : World} {pv : Value} {cs : List Cls} (h : ProgAt w pv cs) {z : Int} (hz0 : ¬ (0 ≤ z ∧ z < cs.length)) :
    Calls Tryz.prog 20 #[pv, .int .i64 z] w fun e w' => e = .returned (.tuple #[.slice none 0 0, .slice none 0 0]) ∧ Ch No w w' := by
  have HZ := hid hz0
  clear hz0
  have hp := h
  obtain ⟨cv, m0, m1, m2, m3, m4, m5, m6, m7, m8, rfl, h⟩ := h
  obtain ⟨ao, cap, rfl, hcap, hmax, _, _⟩ := h.row
  rw [List.length_map] at hcap h hp ⊢
  obtain ⟨len, hlen⟩ : ∃ len, cs.length = len := ⟨_, rfl⟩
  rw [hlen] at hcap h hp ⊢
  unfold maxLen at hmax
  obtain ⟨wa, hwa⟩ : ∃ wa, w.alloc (.cells #[.slice ao len cap, m0, m1, m2, m3, m4, m5, m6, m7, m8] 31) = wa := ⟨_, rfl⟩
  have hpb := heap_alloc_new w (.cells #[.slice ao len cap, m0, m1, m2, m3, m4, m5, m6, m7, m8] 31)
  have hch := (Ch.refl No w).alloc (.cells #[.slice ao len cap, m0, m1, m2, m3, m4, m5, m6, m7, m8] 31)
  rw [hwa] at hch hpb
  have HL := hid hlen
  have HP := hid (hp.no hch)
  have HC := hid (h.no hch)
  have HPB := hid hpb
  have HCH := hid hch
  have p0 := cellAt hpb 0
  have p1 := cellAt hpb 1
  have p2 := cellAt hpb 2
  have p3 := cellAt hpb 3
  have p4 := cellAt hpb 4
  have p5 := cellAt hpb 5
  have p6 := cellAt hpb 6
  have p7 := cellAt hpb 7
  have p8 := cellAt hpb 8
  have p9 := cellAt hpb 9
  have hz := lt_size hpb
  clear hlen h hp hpb hch
  have hzz : (0 ≤ z ∧ ¬ z < len) ∨ ¬ 0 ≤ z := by have := HZ.out; have := HL.out; omega
  rcases hzz with ⟨h0, h1⟩ | h1
  all_goals (
    go_enter Tryz.func20, Tryz.ntmps20
    go_wp2_with fail
    refine bodyPost_ret (v := .tuple #[.slice none 0 0, .slice none 0 0]) (by simp [results, Tryz.results20, go_sem]) rfl ?_
    exact ⟨rfl, HCH.out⟩)

theorem MemAt.fsR {w : World} {c : Cls} {m : Mem} (h : MemAt w c m) {r : Option Addr × Nat × Nat} (e : c.s4 = r) : VarsAt w (.slice r.1 r.2.1 r.2.2) m.fs := by
  rw [← e]
  exact h.fs

set_option maxHeartbeats 32000000 in
theorem rfieldsIn {w : World} {pv : Value} {cs : List Cls} {c : Cls} {m : Mem} {i : Nat} {l1 : List (Nat × Vr)} (h : ProgAt w pv cs) (hcs : cs[i]? = some c) (hma : MemAt w c m) (hff : m.fs.length ≤ 100) (hl1 : l1.length ≤ 20000)
    (hfe0 : ∀ wz, Ch No w wz → Calls Tryz.prog 20 #[pv, .int .i64 (supZ cs c)] wz fun e w' => ∃ v1 v2, e = .returned (.tuple #[v1, v2]) ∧ FldI w' wz.heap.size v1 l1 ∧ FldS w' wz.heap.size v2 l1 ∧ Ch No wz w') :
    Calls Tryz.prog 20 #[pv, .int .i64 i] w fun e w' => ∃ v1 v2, e = .returned (.tuple #[v1, v2]) ∧ FldI w' w.heap.size v1 (l1 ++ m.fs.map (fun v => (i, v))) ∧ FldS w' w.heap.size v2 (l1 ++ m.fs.map (fun v => (i, v))) ∧ Ch No w w' := by
  have HFE := hid hfe0
  have HMA := hid hma
  have HI := hid (List.getElem?_eq_some_iff.1 hcs).1
  have HCS := hid hcs
  have HLEN := hid hl1
  have HCLS0 := hid h
  have hsu0 : Hid (∀ wz, Ch No w wz → Calls Tryz.prog 51 #[pv, .int .i64 i] wz fun e w' => e = .returned (.int .i64 (supZ cs c)) ∧ Ch No wz w') := hid (fun wz hwz => rsuper (h.no hwz) hcs)
  clear hfe0 hma hcs hl1
  have hp := h
  obtain ⟨cv, m0, m1, m2, m3, m4, m5, m6, m7, m8, rfl, h⟩ := h
  obtain ⟨ao, cap, rfl, hcap, hmax, _, _⟩ := h.row
  rw [List.length_map] at hcap h hp ⊢
  obtain ⟨len, hlen⟩ : ∃ len, cs.length = len := ⟨_, rfl⟩
  rw [hlen] at hcap h hp ⊢
  unfold maxLen at hmax
  obtain ⟨wa, hwa⟩ : ∃ wa, w.alloc (.cells #[.slice ao len cap, m0, m1, m2, m3, m4, m5, m6, m7, m8] 31) = wa := ⟨_, rfl⟩
  have hpb := heap_alloc_new w (.cells #[.slice ao len cap, m0, m1, m2, m3, m4, m5, m6, m7, m8] 31)
  have hch := (Ch.refl No w).alloc (.cells #[.slice ao len cap, m0, m1, m2, m3, m4, m5, m6, m7, m8] 31)
  rw [hwa] at hch hpb
  have HL := hid hlen
  have HP := hid (hp.no hch)
  have HC := hid (h.no hch)
  have HPB := hid hpb
  have HCH := hid hch
  have p0 := cellAt hpb 0
  have p1 := cellAt hpb 1
  have p2 := cellAt hpb 2
  have p3 := cellAt hpb 3
  have p4 := cellAt hpb 4
  have p5 := cellAt hpb 5
  have p6 := cellAt hpb 6
  have p7 := cellAt hpb 7
  have p8 := cellAt hpb 8
  have p9 := cellAt hpb 9
  have hz := lt_size hpb
  clear hlen h hp hpb hch
  obtain ⟨b, off, cap', ecs, hcell, _, _⟩ := HC.out.cell HCS.out
  rw [HL.out] at ecs
  cases ecs
  have HQ4 := hid hcell.q4
  clear hcell
  obtain ⟨r4, hr4⟩ : ∃ r, c.s4 = r := ⟨_, rfl⟩
  have hvs := HMA.out.fs
  rw [hr4] at hvs
  obtain ⟨va, vn, vc⟩ := r4
  obtain ⟨hvn, hvc, hvm⟩ := hvs.shape
  dsimp only at hvs
  unfold maxLen at hvm
  have hvx : vn ≤ vc := by have h1 : vn = m.fs.length := hvn; have h2 : m.fs.length ≤ vc := hvc; omega
  have HVN := hid (show vn = m.fs.length from hvn)
  have hvl : vn ≤ 100 := by have := HVN.out; omega
  have HVS := hid hvs
  have HR4 := hid hr4
  clear hvn hvc hvm hvs hr4
  rw [List.length_map, HL.out] at HFE hsu0
  have hfw := fun (wz : World) (hz : Ch No wa wz) => HFE.out wz (HCH.out.trans hz)
  have hsu := hsu0.out _ (HCH.out.trans ((Ch.refl No wa).drew))
  have hil : i < len := by have := HI.out; have := HL.out; omega
  have HSx := hid (show wa.cell? ⟨w.heap.size, 0, none⟩ = some (.slice (some ⟨b, off, none⟩) len cap) ∧ wa.cell? ⟨w.heap.size, 1, none⟩ = some m0 ∧ wa.cell? ⟨w.heap.size, 2, none⟩ = some m1 ∧ wa.cell? ⟨w.heap.size, 3, none⟩ = some m2 ∧ wa.cell? ⟨w.heap.size, 4, none⟩ = some m3 ∧ wa.cell? ⟨w.heap.size, 5, none⟩ = some m4 ∧ wa.cell? ⟨w.heap.size, 6, none⟩ = some m5 ∧ wa.cell? ⟨w.heap.size, 7, none⟩ = some m6 ∧ wa.cell? ⟨w.heap.size, 8, none⟩ = some m7 ∧ wa.cell? ⟨w.heap.size, 9, none⟩ = some m8 from progCells9 HPB.out)
  go_enter Tryz.func20, Tryz.ntmps20
  go_wp2_with fail
  refine wp_region_held_drew (S := fun w' => w'.cell? ⟨w.heap.size, 0, none⟩ = some (.slice (some ⟨b, off, none⟩) len cap) ∧ w'.cell? ⟨w.heap.size, 1, none⟩ = some m0 ∧ w'.cell? ⟨w.heap.size, 2, none⟩ = some m1 ∧ w'.cell? ⟨w.heap.size, 3, none⟩ = some m2 ∧ w'.cell? ⟨w.heap.size, 4, none⟩ = some m3 ∧ w'.cell? ⟨w.heap.size, 5, none⟩ = some m4 ∧ w'.cell? ⟨w.heap.size, 6, none⟩ = some m5 ∧ w'.cell? ⟨w.heap.size, 7, none⟩ = some m6 ∧ w'.cell? ⟨w.heap.size, 8, none⟩ = some m7 ∧ w'.cell? ⟨w.heap.size, 9, none⟩ = some m8) (by kernel_rfl) HSx.out (fun hHeld => ?_)
  (refine wpAnyH_take (i := 0) (v := ?_) rfl (by kernel_rfl) (by kernel_rfl) (by kernel_rfl) (fun _ _ _ h => h) (Or.inl ⟨by rfl, ?_⟩) (by assumption) ?_; rotate_left 1; · (intro wz hSw; (try dsimp only at hSw); go_simp; try rfl)); (try simp only [Act.put, List.getElem_toArray, List.getElem_cons_succ, List.getElem_cons_zero, List.setIfInBounds_toArray, List.set_cons_zero, List.set_cons_succ])
  (refine wpAnyH_take (i := 1) (v := ?_) rfl (by kernel_rfl) (by kernel_rfl) (by kernel_rfl) (fun _ _ _ h => h) (Or.inl ⟨by rfl, ?_⟩) (by assumption) ?_; rotate_left 1; · (intro wz hSw; (try dsimp only at hSw); go_simp; try rfl)); (try simp only [Act.put, List.getElem_toArray, List.getElem_cons_succ, List.getElem_cons_zero, List.setIfInBounds_toArray, List.set_cons_zero, List.set_cons_succ])
  (refine wpAnyH_take (i := 2) (v := ?_) rfl (by kernel_rfl) (by kernel_rfl) (by kernel_rfl) (fun _ _ _ h => h) (Or.inl ⟨by rfl, ?_⟩) (by assumption) ?_; rotate_left 1; · (intro wz hSw; (try dsimp only at hSw); go_simp; try rfl)); (try simp only [Act.put, List.getElem_toArray, List.getElem_cons_succ, List.getElem_cons_zero, List.setIfInBounds_toArray, List.set_cons_zero, List.set_cons_succ])
  refine wpAnyH_ready (rs := [3]) (by kernel_rfl) (by simp) (AllReadyH.cons rfl (fun K hK => ?_) AllReadyH.nil)
  go_simp
  go_at_call 51
  refine (hsu).mono ?_
  rintro e w1 ⟨rfl, hc1⟩
  have K1 := hid (((Ch.refl No wa).drew).trans hc1)
  clear hc1
  go_simp
  have HS1 := hid (show w1.cell? ⟨w.heap.size, 0, none⟩ = some (.slice (some ⟨b, off, none⟩) len cap) ∧ w1.cell? ⟨w.heap.size, 1, none⟩ = some m0 ∧ w1.cell? ⟨w.heap.size, 2, none⟩ = some m1 ∧ w1.cell? ⟨w.heap.size, 3, none⟩ = some m2 ∧ w1.cell? ⟨w.heap.size, 4, none⟩ = some m3 ∧ w1.cell? ⟨w.heap.size, 5, none⟩ = some m4 ∧ w1.cell? ⟨w.heap.size, 6, none⟩ = some m5 ∧ w1.cell? ⟨w.heap.size, 7, none⟩ = some m6 ∧ w1.cell? ⟨w.heap.size, 8, none⟩ = some m7 ∧ w1.cell? ⟨w.heap.size, 9, none⟩ = some m8 from ⟨cell_ch HSx.out.1 K1.out (fun _ _ h => h), cell_ch HSx.out.2.1 K1.out (fun _ _ h => h), cell_ch HSx.out.2.2.1 K1.out (fun _ _ h => h), cell_ch HSx.out.2.2.2.1 K1.out (fun _ _ h => h), cell_ch HSx.out.2.2.2.2.1 K1.out (fun _ _ h => h), cell_ch HSx.out.2.2.2.2.2.1 K1.out (fun _ _ h => h), cell_ch HSx.out.2.2.2.2.2.2.1 K1.out (fun _ _ h => h), cell_ch HSx.out.2.2.2.2.2.2.2.1 K1.out (fun _ _ h => h), cell_ch HSx.out.2.2.2.2.2.2.2.2.1 K1.out (fun _ _ h => h), cell_ch HSx.out.2.2.2.2.2.2.2.2.2 K1.out (fun _ _ h => h)⟩)
  refine hK.out _ _ HS1.out (fun hHeld1 => ?_)
  clear hK
  refine wpAnyH_ready (rs := [4]) (by kernel_rfl) (by simp) (AllReadyH.cons rfl (fun K hK => ?_) AllReadyH.nil)
  go_simp
  go_at_call 20
  refine (hfw _ K1.out).mono ?_
  rintro e w2 ⟨v1, v2, rfl, hv1, hv2, hc2⟩
  have K2 := hid (K1.out.trans hc2)
  have HV1 := hid hv1
  have HV2 := hid hv2
  clear hv1 hv2
  clear hc2
  go_simp
  have HS2 := hid (show w2.cell? ⟨w.heap.size, 0, none⟩ = some (.slice (some ⟨b, off, none⟩) len cap) ∧ w2.cell? ⟨w.heap.size, 1, none⟩ = some m0 ∧ w2.cell? ⟨w.heap.size, 2, none⟩ = some m1 ∧ w2.cell? ⟨w.heap.size, 3, none⟩ = some m2 ∧ w2.cell? ⟨w.heap.size, 4, none⟩ = some m3 ∧ w2.cell? ⟨w.heap.size, 5, none⟩ = some m4 ∧ w2.cell? ⟨w.heap.size, 6, none⟩ = some m5 ∧ w2.cell? ⟨w.heap.size, 7, none⟩ = some m6 ∧ w2.cell? ⟨w.heap.size, 8, none⟩ = some m7 ∧ w2.cell? ⟨w.heap.size, 9, none⟩ = some m8 from ⟨cell_ch HSx.out.1 K2.out (fun _ _ h => h), cell_ch HSx.out.2.1 K2.out (fun _ _ h => h), cell_ch HSx.out.2.2.1 K2.out (fun _ _ h => h), cell_ch HSx.out.2.2.2.1 K2.out (fun _ _ h => h), cell_ch HSx.out.2.2.2.2.1 K2.out (fun _ _ h => h), cell_ch HSx.out.2.2.2.2.2.1 K2.out (fun _ _ h => h), cell_ch HSx.out.2.2.2.2.2.2.1 K2.out (fun _ _ h => h), cell_ch HSx.out.2.2.2.2.2.2.2.1 K2.out (fun _ _ h => h), cell_ch HSx.out.2.2.2.2.2.2.2.2.1 K2.out (fun _ _ h => h), cell_ch HSx.out.2.2.2.2.2.2.2.2.2 K2.out (fun _ _ h => h)⟩)
  refine hK.out _ _ HS2.out (fun hHeld2 => ?_)
  clear hK
  (refine wpAnyH_take (i := 5) (v := ?_) rfl (by kernel_rfl) (by kernel_rfl) (by kernel_rfl) (fun _ _ _ h => h) (Or.inl ⟨by rfl, ?_⟩) (by assumption) ?_; rotate_left 1; · (intro wz hSw; (try dsimp only at hSw); go_simp; try rfl)); (try simp only [Act.put, List.getElem_toArray, List.getElem_cons_succ, List.getElem_cons_zero, List.setIfInBounds_toArray, List.set_cons_zero, List.set_cons_succ])
  (refine wpAnyH_take (i := 6) (v := ?_) rfl (by kernel_rfl) (by kernel_rfl) (by kernel_rfl) (fun _ _ _ h => h) (Or.inl ⟨by rfl, ?_⟩) (by assumption) ?_; rotate_left 1; · (intro wz hSw; (try dsimp only at hSw); go_simp; try rfl)); (try simp only [Act.put, List.getElem_toArray, List.getElem_cons_succ, List.getElem_cons_zero, List.setIfInBounds_toArray, List.set_cons_zero, List.set_cons_succ])
  (refine wpAnyH_take (i := 7) (v := ?_) rfl (by kernel_rfl) (by kernel_rfl) (by kernel_rfl) (fun _ _ _ h => h) (Or.inl ⟨by rfl, ?_⟩) (by assumption) ?_; rotate_left 1; · (intro wz hSw; (try dsimp only at hSw); go_simp; try rfl)); (try simp only [Act.put, List.getElem_toArray, List.getElem_cons_succ, List.getElem_cons_zero, List.setIfInBounds_toArray, List.set_cons_zero, List.set_cons_succ])
  (refine wpAnyH_take (i := 8) (v := ?_) rfl (by kernel_rfl) (by kernel_rfl) (by kernel_rfl) (fun _ _ _ h => h) (Or.inl ⟨by rfl, ?_⟩) (by assumption) ?_; rotate_left 1; · (intro wz hSw; (try dsimp only at hSw); go_simp; try rfl)); (try simp only [Act.put, List.getElem_toArray, List.getElem_cons_succ, List.getElem_cons_zero, List.setIfInBounds_toArray, List.set_cons_zero, List.set_cons_succ])
  (refine wpAnyH_take (i := 9) (v := ?_) rfl (by kernel_rfl) (by kernel_rfl) (by kernel_rfl) (fun _ _ _ h => h) (Or.inl ⟨by rfl, ?_⟩) (by assumption) ?_; rotate_left 1; · (intro wz hSw; (try dsimp only at hSw); go_simp; try rfl)); (try simp only [Act.put, List.getElem_toArray, List.getElem_cons_succ, List.getElem_cons_zero, List.setIfInBounds_toArray, List.set_cons_zero, List.set_cons_succ])
  refine wpAnyH_done (by kernel_rfl) ?_ _
  have HB2 := hid (K2.out.keep _ _ HPB.out (fun h => h))
  have HC2 := hid (HCH.out.trans K2.out)
  have p0 := cellAt HB2.out 0
  have q4 := cell_ch HQ4.out K2.out (fun _ _ h => h)
  rw [HR4.out] at q4
  have hz1 : w.heap.size ≤ w1.heap.size := (HCH.out.trans K1.out).size
  have hzz : w.heap.size ≤ w2.heap.size := HC2.out.size
  go_wp2_with fail
  clear p0 q4
  go_loopg [9, 6, 7] vn (fun g s9 s6 s7 wr => ∃ k : Nat, k ≤ vn ∧ vn - k ≤ g ∧ s9 = .int .i64 k ∧ Hid (FldI wr w.heap.size s6 (l1 ++ (m.fs.take k).map (fun v => (i, v)))) ∧ Hid (FldS wr w.heap.size s7 (l1 ++ (m.fs.take k).map (fun v => (i, v)))) ∧ Ch No w wr)
  case atStart => exact ⟨0, Nat.zero_le _, by omega, rfl, hid (by have h1 := ownsRow_base HV1.out hz1; simpa [FldI] using h1), hid (by have h1 := ownsRow_base HV2.out hz1; simpa [FldS] using h1), HC2.out⟩
  case round =>
    obtain ⟨k, hk, hg, rfl, HS6, HS7, hc⟩ := hrel
    have HCR := hid hc
    obtain ⟨L, hL⟩ : ∃ L, (l1 ++ (m.fs.take k).map (fun v => (i, v))).length = L := ⟨_, rfl⟩
    have h6 := HS6.out
    have h7 := HS7.out
    unfold FldI at h6
    unfold FldS at h7
    rw [hL] at h6 h7
    obtain ⟨a6, c6, e6, hc6, hm6⟩ := ownsShape h6
    obtain ⟨a7, c7, e7, hc7, hm7⟩ := ownsShape h7
    subst e6
    subst e7
    unfold maxLen at hm6 hm7
    have hLk : L + 1 ≤ 100000 := by
      rw [← hL, List.length_append, List.length_map, List.length_take]
      have := HLEN.out
      omega
    have HLL := hid hL
    have H6 := hid h6
    have H7 := hid h7
    have hzr : w.heap.size ≤ wr.heap.size := hc.size
    clear hc hL h6 h7
    cases hd : decide (k < vn) with
    | false =>
      have hkl : ¬ k < vn := by simpa using hd
      have e1 : m.fs.take k = m.fs := List.take_of_length_le (by have := HVN.out; omega)
      rw [e1] at HS6 HS7
      clear e1
      go_wp2_with fail
      refine bodyPost_ret (v := .tuple #[.slice a6 L c6, .slice a7 L c7]) (by simp [results, Tryz.results20, go_sem]) rfl ?_
      exact ⟨_, _, rfl, HS6.out, HS7.out, HCR.out⟩
    | true =>
      have hkl : k < vn := by simpa using hd
      obtain ⟨v, hv⟩ : ∃ v, m.fs[k]? = some v := ⟨_, List.getElem?_eq_getElem (by have := HVN.out; omega)⟩
      have HV := hid hv
      have hc1 := (Ch.refl No wr).alloc (.cells #[.int .i64 i] 3)
      have HROW6 := hid (ownsRow_ch H6.out hc1 (fun _ _ _ _ _ h => h))
      have HROW7 := hid (ownsRow_ch H7.out hc1 (fun _ _ _ _ _ h => h))
      have hbase6 : w.heap.size ≤ (wr.alloc (.cells #[.int .i64 i] 3)).heap.size := Nat.le_trans hzr hc1.size
      have HC1 := hid (HCR.out.trans hc1)
      clear hv hc1
      go_wp2_with (at_builtin; go_must (refine wpAppendOwn rfl _ _ rfl Tryz.sliceIntC Tryz.infoIntC Nat.zero_lt_one (Nat.le_of_ble_eq_true rfl) w.heap.size (.slice a6 L c6) L _ rfl HROW6.out wr.heap.size 1 1 [.int .i64 i] rfl rfl (heap_alloc_new wr _) (oneInt1 _) hLk hbase6 ?_))
      intro v8 w8 hr8 hc8
      have HC8 : Hid (Ch No w w8) := hid (HC1.out.trans' hc8 (fun j o ho e => by
        obtain ⟨h1, _⟩ := owned_typed HROW6.out j e
        have := lt_size ho
        omega))
      have HROW78 := hid (ownsRow_ch HROW7.out hc8 (fun g cur _ _ hh e => not_own HROW6.out hh (by decide) e))
      obtain ⟨vb, vo, hva, hvc⟩ := ((HMA.out.no HC8.out).fsR HR4.out).cell HV.out
      have q1 := hvc.q1
      subst hva
      obtain ⟨a8, c8, e8, _, _⟩ := ownsShape hr8
      subst e8
      have HR8 := hid hr8
      have hc9 := (Ch.refl No w8).alloc (.cells #[.string v.nm] 9)
      have HROW9 := hid (ownsRow_ch HROW78.out hc9 (fun _ _ _ _ _ h => h))
      have HROW69 := hid (ownsRow_ch HR8.out hc9 (fun _ _ _ _ _ h => h))
      have hbase9 : w.heap.size ≤ (w8.alloc (.cells #[.string v.nm] 9)).heap.size := Nat.le_trans HC8.out.size hc9.size
      have HC9 := hid (HC8.out.trans hc9)
      clear hr8 hc8 hvc hc9
      go_wp2_with (at_builtin; go_must (refine wpAppendOwn rfl _ _ rfl Tryz.sliceStr Tryz.infoStr Nat.zero_lt_one (Nat.le_of_ble_eq_true rfl) w.heap.size (.slice a7 L c7) L _ rfl HROW9.out w8.heap.size 1 1 [.string v.nm] rfl rfl (heap_alloc_new w8 _) (oneStrF _) hLk hbase9 ?_))
      intro v10 w10 hr10 hc10
      have HC10 : Hid (Ch No w w10) := hid (HC9.out.trans' hc10 (fun j o ho e => by
        obtain ⟨h1, _⟩ := owned_typed HROW9.out j e
        have := lt_size ho
        omega))
      have HR610 := hid (ownsRow_ch HROW69.out hc10 (fun g cur _ _ hh e => not_own HROW9.out hh (by decide) e))
      have HR10 := hid hr10
      clear hr10 hc10 q1
      go_wp2_with fail
      go_roundg (vn - k - 1)
      case rel =>
        have e1 : l1 ++ (m.fs.take (k + 1)).map (fun v => (i, v)) = (l1 ++ (m.fs.take k).map (fun v => (i, v))) ++ [(i, v)] := by
          rw [List.take_add_one, HV.out, List.map_append, ← List.append_assoc]
          rfl
        refine ⟨k + 1, by omega, by omega, by go_num, hid ?_, hid ?_, HC10.out⟩
        · unfold FldI
          rw [e1, List.length_append, HLL.out]
          have h1 := HR610.out
          simpa using h1
        · unfold FldS
          rw [e1, List.length_append, HLL.out]
          have h1 := HR10.out
          simpa using h1
      case measure => omega

theorem rfields {cs : List Cls} {ms : List Mem} (hS0 : SoundP cs) (hno0 : NoRing cs) (hl0 : cs.length ≤ 100) (hff0 : FewF ms) : ∀ (N : Nat) {w : World} {pv : Value} (z : Int) (o : Option Nat), ProgAt w pv cs → MemsAt w cs ms → AtZ cs z o → (∀ i, o = some i → rankN cs i ≤ N) →
    Calls Tryz.prog 20 #[pv, .int .i64 z] w fun e w' => ∃ v1 v2, e = .returned (.tuple #[v1, v2]) ∧ FldI w' w.heap.size v1 (fieldsM cs ms o) ∧ FldS w' w.heap.size v2 (fieldsM cs ms o) ∧ Ch No w w' := by
  intro N
  induction N using Nat.strongRecOn with
  | ind N ih =>
  intro w pv z o h hma hz hrk
  rcases hz with ⟨i, rfl, hi, rfl⟩ | ⟨rfl, hz⟩
  · obtain ⟨c, hcs⟩ : ∃ c, cs[i]? = some c := ⟨_, List.getElem?_eq_getElem hi⟩
    obtain ⟨m, hmi⟩ : ∃ m, ms[i]? = some m := ⟨_, List.getElem?_eq_getElem (by have := hma.len; omega)⟩
    have hsa := supAtZ hcs (hS0 i c hcs)
    have hin := rfieldsIn h hcs (hma.at_ i c m hcs hmi) (hff0 m (List.mem_of_getElem? hmi)) (fieldsM_len (ms := ms) hno0 hff0 hl0 (supN cs i)) (by
      intro wz hwz
      rcases hsa with ⟨j, ej, hj, ejo⟩ | ⟨ejo, hj⟩
      · have h1 := rank_lt hno0 i j (supN_up ejo)
        have h2 := hrk i rfl
        rw [ej, ejo]
        exact ih (rankN cs j) (by omega) _ (some j) (h.no hwz) (hma.no hwz) (AtZ.some hj) (fun i' e => by cases e; exact Nat.le_refl _)
      · rw [ejo]
        refine (rfieldsNo (h.no hwz) hj).mono ?_
        rintro e w' ⟨rfl, hc⟩
        exact ⟨_, _, rfl, World.ownsRow_nil _ _ _ _, World.ownsRow_nil _ _ _ _, hc⟩)
    rw [fieldsM_step hno0 i]
    rw [show fsOf ms i = m.fs.map (fun v => (i, v)) from by unfold fsOf; rw [hmi]]
    exact hin
  · refine (rfieldsNo h hz).mono ?_
    rintro e w' ⟨rfl, hc⟩
    exact ⟨_, _, rfl, World.ownsRow_nil _ _ _ _, World.ownsRow_nil _ _ _ _, hc⟩
end Go.Proofs.YtgjpgfedlgdjhaaGreatDoor
