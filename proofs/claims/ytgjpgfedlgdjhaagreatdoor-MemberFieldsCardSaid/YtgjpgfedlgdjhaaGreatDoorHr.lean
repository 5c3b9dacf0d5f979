/- Above of the reference 08. -/
import Derived.Test.YtgjpgfedlgdjhaaGreatDoorHq
import Derived.Deep.RegionHeld
set_option linter.unusedVariables false
set_option linter.unusedSimpArgs false
namespace Go.Proofs.YtgjpgfedlgdjhaaGreatDoor
open Go.RowKit Go.W

/-- class k is one of these, or above one -/
def AbX (cs : List Cls) (x : Int) (k : Nat) : Prop := 0 ≤ x ∧ x < cs.length ∧ (x = k ∨ Gr.Reach (upsN cs) x.toNat k)
def AbP (cs : List Cls) (is : List Int) (k : Nat) : Prop := ∃ x ∈ is, AbX cs x k
open Classical in
/-- those of the first n -/
noncomputable def abL (cs : List Cls) (is : List Int) (n : Nat) : List Int := ((List.range n).filter (fun j => decide (AbP cs is j))).map (fun j : Nat => (j : Int))
theorem abYes {cs : List Cls} {is : List Int} {n : Nat} (h : AbP cs is n) : abL cs is (n + 1) = abL cs is n ++ [(n : Int)] := by
  unfold abL
  rw [List.range_succ, List.filter_append]
  simp [h]
theorem abNo {cs : List Cls} {is : List Int} {n : Nat} (h : ¬ AbP cs is n) : abL cs is (n + 1) = abL cs is n := by
  unfold abL
  rw [List.range_succ, List.filter_append]
  simp [h]
theorem abLen (cs : List Cls) (is : List Int) (n : Nat) : (abL cs is n).length ≤ n := by
  unfold abL
  rw [List.length_map]
  have := List.length_filter_le (fun j => @decide (AbP cs is j) (Classical.propDecidable _)) (List.range n)
  simpa using this
theorem mem_abL {cs : List Cls} {is : List Int} {n : Nat} {z : Int} : z ∈ abL cs is n ↔ ∃ k : Nat, z = k ∧ k < n ∧ AbP cs is k := by
  unfold abL
  constructor
  · intro h
    obtain ⟨k, hk, rfl⟩ := List.mem_map.1 h
    have := List.mem_filter.1 hk
    exact ⟨k, rfl, by simpa using this.1, by simpa using this.2⟩
  · rintro ⟨k, rfl, h1, h2⟩
    exact List.mem_map.2 ⟨k, List.mem_filter.2 ⟨by simpa using h1, by simpa using h2⟩, rfl⟩
theorem abSorted (cs : List Cls) (is : List Int) (n : Nat) : (abL cs is n).Pairwise (· < ·) := by
  unfold abL
  rw [List.pairwise_map]
  refine List.Pairwise.filter _ ((List.pairwise_lt_range).imp ?_)
  intro a b h; omega

theorem abSnoc {cs : List Cls} {is : List Int} {q k : Nat} {x : Int} (hx : is[q]? = some x) : AbP cs (is.take (q + 1)) k ↔ AbP cs (is.take q) k ∨ AbX cs x k := by
  unfold AbP
  rw [List.take_add_one, hx]
  constructor
  · rintro ⟨y, hy, h⟩
    rcases List.mem_append.1 hy with hy | hy
    · exact .inl ⟨y, hy, h⟩
    · simp at hy; subst hy; exact .inr h
  · rintro (⟨y, hy, h⟩ | h)
    · exact ⟨y, List.mem_append.2 (.inl hy), h⟩
    · exact ⟨x, by simp, h⟩

theorem held1 {wr wz : World} {b o g : Nat} {x : Int} {v0 m0 m1 m2 m3 m4 m5 m6 m7 m8 : Value} {t : TypeId} (h : wz.cell? ⟨b, o, none⟩ = some (.int .i64 x)) (hz : Ch No wr wz)
    (hb : wz.heap[g]? = some (.cells #[v0, m0, m1, m2, m3, m4, m5, m6, m7, m8] t (0, 0))) :
    wz.cell? ⟨b, o, none⟩ = some (.int .i64 x) ∧ Ch No wr wz ∧ wz.cell? ⟨g, 0, none⟩ = some v0 ∧ wz.cell? ⟨g, 1, none⟩ = some m0 ∧ wz.cell? ⟨g, 2, none⟩ = some m1 ∧ wz.cell? ⟨g, 3, none⟩ = some m2 ∧ wz.cell? ⟨g, 4, none⟩ = some m3 ∧ wz.cell? ⟨g, 5, none⟩ = some m4 ∧ wz.cell? ⟨g, 6, none⟩ = some m5 ∧ wz.cell? ⟨g, 7, none⟩ = some m6 ∧ wz.cell? ⟨g, 8, none⟩ = some m7 ∧ wz.cell? ⟨g, 9, none⟩ = some m8 :=
  ⟨h, hz, cellAt hb 0, cellAt hb 1, cellAt hb 2, cellAt hb 3, cellAt hb 4, cellAt hb 5, cellAt hb 6, cellAt hb 7, cellAt hb 8, cellAt hb 9⟩

set_option maxHeartbeats 8000000 in
theorem rabove {w : World} {pv v : Value} {cs : List Cls} {is : List Int} (h : ProgAt w pv cs) (hS : SoundP cs) (hsm : SmallP cs) (hi : IntsAt w v is) :
    Calls Tryz.prog 69 #[pv, v] w fun e w' => ∃ u, e = .returned u ∧ IntsOwn w' w.heap.size u (abL cs is cs.length) ∧ Ch No w w' := by
  have HM := hid hsm
  have HS := hid hS
  clear hsm hS
  have HI0 := hid hi
  obtain ⟨ai, capi, rfl, hcapi, hmaxi, _, _⟩ := hi
  obtain ⟨ni, hni⟩ : ∃ ni, is.length = ni := ⟨_, rfl⟩
  rw [hni] at hcapi HI0 ⊢
  unfold maxLen at hmaxi
  have HNI := hid hni
  clear hni
  have hp := h
  obtain ⟨cv, m0, m1, m2, m3, m4, m5, m6, m7, m8, rfl, h⟩ := h
  obtain ⟨ao, cap, rfl, hcap, hmax, _, _⟩ := h.row
  rw [List.length_map] at hcap h hp ⊢
  obtain ⟨len, hlen⟩ : ∃ len, cs.length = len := ⟨_, rfl⟩
  rw [hlen] at hcap h hp ⊢
  unfold maxLen at hmax
  obtain ⟨wa, hwa⟩ : ∃ wa, w.alloc (.cells #[.slice ao len cap, m0, m1, m2, m3, m4, m5, m6, m7, m8] 31) = wa := ⟨_, rfl⟩
  have hpb := heap_alloc_new w (.cells #[.slice ao len cap, m0, m1, m2, m3, m4, m5, m6, m7, m8] 31)
  have hch := (Ch.refl No w).alloc (.cells #[.slice ao len cap, m0, m1, m2, m3, m4, m5, m6, m7, m8] 31)
  rw [hwa] at hch hpb
  have HL := hid hlen
  have HP := hid (hp.no hch)
  have HC := hid (h.no hch)
  have HPB := hid hpb
  have HCH := hid hch
  have p0 := cellAt hpb 0
  have p1 := cellAt hpb 1
  have p2 := cellAt hpb 2
  have p3 := cellAt hpb 3
  have p4 := cellAt hpb 4
  have p5 := cellAt hpb 5
  have p6 := cellAt hpb 6
  have p7 := cellAt hpb 7
  have p8 := cellAt hpb 8
  have p9 := cellAt hpb 9
  have hz := lt_size hpb
  clear hlen h hp hpb hch
  have hl20 : len ≤ 20 := by have := HM.out.1; have := HL.out; omega
  have HI := hid (HI0.out.no HCH.out)
  go_enter Tryz.func69, Tryz.ntmps69
  go_wp2_with fail
  clear hwa
  go_loopg [5, 6] len (fun g s5 s6 wr => ∃ (k : Nat), k ≤ len ∧ len - k ≤ g ∧ s6 = .int .i64 k ∧ IntsOwn wr wa.heap.size s5 (abL cs is k) ∧ Ch No wa wr)
  case atStart => exact ⟨0, Nat.zero_le _, by omega, rfl, IntsOwn.nil _ _, Ch.refl _ _⟩
  case round =>
    obtain ⟨k, hk, hg, rfl, hown, hc⟩ := hrel
    obtain ⟨R, Z⟩ := chRules hc
    cases hd : decide (k < len) with
    | false =>
      have hkl : ¬ k < len := by simpa using hd
      go_wp2_with fail
      go_ret
      have e : k = len := by omega
      subst e
      exact ⟨_, rfl, hown.base (by omega), HCH.out.trans hc⟩
    | true =>
      have hkl : k < len := by simpa using hd
      have HOWN := hid hown
      have HC1 := hid hc
      clear hown hc
      go_wp2_with fail
      clear R Z
      go_loopg [7, 8] ni (fun g s7 s8 wr => ∃ (q : Nat) (b : Bool), q ≤ ni ∧ ni - q ≤ g ∧ s7 = .bool b ∧ s8 = .int .i64 q ∧ Hid (b = true ↔ AbP cs (is.take q) k) ∧ IntsOwn wr wa.heap.size u5 (abL cs is k) ∧ Ch No wa wr)
      case atStart => exact ⟨0, false, Nat.zero_le _, by omega, rfl, rfl, hid ⟨(fun h => by cases h), (fun ⟨x, hx, _⟩ => by cases hx)⟩, HOWN.out, HC1.out⟩
      case round =>
        obtain ⟨q, b, hq, hgq, rfl, rfl, HB, hown, hc⟩ := hrel
        obtain ⟨R2, Z2⟩ := chRules hc
        cases hdq : decide (q < ni) with
        | false =>
          have hql : ¬ q < ni := by simpa using hdq
          have HB2 := hid (show b = true ↔ AbP cs is k by have := HB.out; rwa [List.take_of_length_le (by have := HNI.out; omega)] at this)
          cases b with
          | false =>
            go_wp2_with fail
            go_roundg (len - k - 1)
            case rel =>
              refine ⟨k + 1, by omega, by omega, by go_num, ?_, hc⟩
              rw [abNo (fun h => Bool.noConfusion (HB2.out.2 h))]
              exact hown
            case measure => omega
          | true =>
            have hlen := abLen cs is k
            have hd3 := (Ch.refl No wr).alloc (.cells #[.int .i64 (k : Int)] 3)
            have hz3 : wa.heap.size ≤ (wr.alloc (.cells #[.int .i64 (k : Int)] 3)).heap.size := Nat.le_trans hc.size hd3.size
            have hb0 : (abL cs is k).length + [(k : Int)].length ≤ 10000000 := by simp only [List.length_singleton]; omega
            go_wp2_with (at_builtin; go_must (refine wpAppendI2 rfl _ _ rfl wa.heap.size _ (abL cs is k) [(k : Int)] rfl (hown.alloc _) (.slice (some ⟨wr.heap.size, 0, none⟩) 1 1) rfl (one_at wr _) Nat.zero_lt_one hb0 hz3 ?_))
            intro v4 w4 hown4 hgrow4 _
            have hc4 : Ch No wa w4 := hc.trans' (grown_ch hgrow4) (fun j o ho h => by
              have := (hown.lt j h).1
              have := lt_size ho
              omega)
            clear R2 Z2
            go_wp2_with fail
            go_roundg (len - k - 1)
            case rel =>
              refine ⟨k + 1, by omega, by omega, by go_num, ?_, hc4⟩
              rw [abYes (by have := HB2.out; simpa using this)]
              exact hown4
            case measure => omega
        | true =>
          have hql : q < ni := by simpa using hdq
          obtain ⟨x, hx⟩ : ∃ x, is[q]? = some x := ⟨_, List.getElem?_eq_getElem (by have := HNI.out; omega)⟩
          obtain ⟨ib, io, hao, hqx⟩ := intsCell (HI.out.no hc) hx
          subst hao
          have HX := hid hx
          have HOW := hid hown
          have HC2 := hid hc
          clear hx hown hc
          cases c1 : decide (0 ≤ x) with
          | false =>
            go_wp2_with fail
            go_quiet (fail)
            go_wp2_with fail
            go_roundg (ni - q - 1)
            case rel =>
              have : ¬ 0 ≤ x := by simpa using c1
              refine ⟨q + 1, b, by omega, by omega, rfl, by go_num, hid ?_, HOW.out.no ((Ch.refl _ _).drewN _), HC2.out.drewN _⟩
              rw [abSnoc HX.out]
              exact ⟨fun h => .inl (HB.out.1 h), fun h => HB.out.2 (h.resolve_right (fun h => this h.1))⟩
            case measure => omega
          | true =>
            have hx0 : 0 ≤ x := by simpa using c1
            cases c2 : decide (x < (len : Int)) with
            | false =>
              go_wp2_with fail
              go_quiet (fail)
              go_wp2_with fail
              go_roundg (ni - q - 1)
              case rel =>
                have : ¬ x < (len : Int) := by simpa using c2
                refine ⟨q + 1, b, by omega, by omega, rfl, by go_num, hid ?_, HOW.out.no ((Ch.refl _ _).drewN _), HC2.out.drewN _⟩
                rw [abSnoc HX.out]
                exact ⟨fun h => .inl (HB.out.1 h), fun h => HB.out.2 (h.resolve_right (fun h => this (by have := h.2.1; rwa [HL.out] at this)))⟩
              case measure => omega
            | true =>
              have hxl : x < (len : Int) := by simpa using c2
              cases c3 : (x == (k : Int)) with
              | true =>
                go_wp2_with fail
                go_quiet (fail)
                go_wp2_with fail
                go_roundg (ni - q - 1)
                case rel =>
                  have hxk : x = (k : Int) := by simpa using c3
                  refine ⟨q + 1, true, by omega, by omega, rfl, by go_num, hid ?_, HOW.out.no ((Ch.refl _ _).drewN _), HC2.out.drewN _⟩
                  rw [abSnoc HX.out]
                  exact ⟨fun _ => .inr ⟨by omega, by rw [HL.out]; omega, .inl hxk⟩, fun _ => rfl⟩
                case measure => omega
              | false =>
                have hxk : ¬ x = (k : Int) := by simpa using c3
                have hma := fun (wz : World) (hz : Ch No wr wz) => rmarks (HP.out.no (HC2.out.trans hz)) HS.out HM.out (i := x.toNat) (by have := HL.out; omega)
                have hxx : ((x.toNat : Nat) : Int) = x := by omega
                rw [hxx] at hma
                have HMA := hid hma
                have HQX := hid hqx
                have hbx := HPB.out
                have HF := hid (fun (wz : World) (hz : Ch No wr wz) => held1 (cell_ch HQX.out hz (fun _ _ h => h)) hz ((HC2.out.trans hz).keep _ _ hbx (fun h => h)))
                clear hxx hma hbx
                go_wp2_with fail
                refine wp_region_held_drew (S := (fun w' => w'.cell? ⟨ib, io + q, none⟩ = some (.int .i64 x) ∧ Ch No wr w' ∧ w'.cell? ⟨w.heap.size, 0, none⟩ = some (.slice ao len cap) ∧ w'.cell? ⟨w.heap.size, 1, none⟩ = some m0 ∧ w'.cell? ⟨w.heap.size, 2, none⟩ = some m1 ∧ w'.cell? ⟨w.heap.size, 3, none⟩ = some m2 ∧ w'.cell? ⟨w.heap.size, 4, none⟩ = some m3 ∧ w'.cell? ⟨w.heap.size, 5, none⟩ = some m4 ∧ w'.cell? ⟨w.heap.size, 6, none⟩ = some m5 ∧ w'.cell? ⟨w.heap.size, 7, none⟩ = some m6 ∧ w'.cell? ⟨w.heap.size, 8, none⟩ = some m7 ∧ w'.cell? ⟨w.heap.size, 9, none⟩ = some m8)) (by kernel_rfl) (HF.out _ (Ch.refl _ _).drew) (fun hHeld => ?_)
                (refine wpAnyH_take (i := 0) (v := ?_) rfl (by kernel_rfl) (by kernel_rfl) (by kernel_rfl) (fun _ _ _ h => h) (Or.inl ⟨by rfl, ?_⟩) (by assumption) ?_; rotate_left 1; · (intro wz hSw; (try dsimp only at hSw); go_simp; try rfl)); (try simp only [Act.put, List.getElem_toArray, List.getElem_cons_succ, List.getElem_cons_zero, List.setIfInBounds_toArray, List.set_cons_zero, List.set_cons_succ])
                (refine wpAnyH_take (i := 1) (v := ?_) rfl (by kernel_rfl) (by kernel_rfl) (by kernel_rfl) (fun _ _ _ h => h) (Or.inl ⟨by rfl, ?_⟩) (by assumption) ?_; rotate_left 1; · (intro wz hSw; (try dsimp only at hSw); go_simp; try rfl)); (try simp only [Act.put, List.getElem_toArray, List.getElem_cons_succ, List.getElem_cons_zero, List.setIfInBounds_toArray, List.set_cons_zero, List.set_cons_succ])
                (refine wpAnyH_take (i := 2) (v := ?_) rfl (by kernel_rfl) (by kernel_rfl) (by kernel_rfl) (fun _ _ _ h => h) (Or.inl ⟨by rfl, ?_⟩) (by assumption) ?_; rotate_left 1; · (intro wz hSw; (try dsimp only at hSw); go_simp; try rfl)); (try simp only [Act.put, List.getElem_toArray, List.getElem_cons_succ, List.getElem_cons_zero, List.setIfInBounds_toArray, List.set_cons_zero, List.set_cons_succ])
                (refine wpAnyH_take (i := 3) (v := ?_) rfl (by kernel_rfl) (by kernel_rfl) (by kernel_rfl) (fun _ _ _ h => h) (Or.inl ⟨by rfl, ?_⟩) (by assumption) ?_; rotate_left 1; · (intro wz hSw; (try dsimp only at hSw); go_simp; try rfl)); (try simp only [Act.put, List.getElem_toArray, List.getElem_cons_succ, List.getElem_cons_zero, List.setIfInBounds_toArray, List.set_cons_zero, List.set_cons_succ])
                (refine wpAnyH_take (i := 4) (v := ?_) rfl (by kernel_rfl) (by kernel_rfl) (by kernel_rfl) (fun _ _ _ h => h) (Or.inl ⟨by rfl, ?_⟩) (by assumption) ?_; rotate_left 1; · (intro wz hSw; (try dsimp only at hSw); go_simp; try rfl)); (try simp only [Act.put, List.getElem_toArray, List.getElem_cons_succ, List.getElem_cons_zero, List.setIfInBounds_toArray, List.set_cons_zero, List.set_cons_succ])
                (refine wpAnyH_take (i := 5) (v := ?_) rfl (by kernel_rfl) (by kernel_rfl) (by kernel_rfl) (fun _ _ _ h => h) (Or.inl ⟨by rfl, ?_⟩) (by assumption) ?_; rotate_left 1; · (intro wz hSw; (try dsimp only at hSw); go_simp; try rfl)); (try simp only [Act.put, List.getElem_toArray, List.getElem_cons_succ, List.getElem_cons_zero, List.setIfInBounds_toArray, List.set_cons_zero, List.set_cons_succ])
                (refine wpAnyH_take (i := 6) (v := ?_) rfl (by kernel_rfl) (by kernel_rfl) (by kernel_rfl) (fun _ _ _ h => h) (Or.inl ⟨by rfl, ?_⟩) (by assumption) ?_; rotate_left 1; · (intro wz hSw; (try dsimp only at hSw); go_simp; try rfl)); (try simp only [Act.put, List.getElem_toArray, List.getElem_cons_succ, List.getElem_cons_zero, List.setIfInBounds_toArray, List.set_cons_zero, List.set_cons_succ])
                (refine wpAnyH_take (i := 7) (v := ?_) rfl (by kernel_rfl) (by kernel_rfl) (by kernel_rfl) (fun _ _ _ h => h) (Or.inl ⟨by rfl, ?_⟩) (by assumption) ?_; rotate_left 1; · (intro wz hSw; (try dsimp only at hSw); go_simp; try rfl)); (try simp only [Act.put, List.getElem_toArray, List.getElem_cons_succ, List.getElem_cons_zero, List.setIfInBounds_toArray, List.set_cons_zero, List.set_cons_succ])
                (refine wpAnyH_take (i := 8) (v := ?_) rfl (by kernel_rfl) (by kernel_rfl) (by kernel_rfl) (fun _ _ _ h => h) (Or.inl ⟨by rfl, ?_⟩) (by assumption) ?_; rotate_left 1; · (intro wz hSw; (try dsimp only at hSw); go_simp; try rfl)); (try simp only [Act.put, List.getElem_toArray, List.getElem_cons_succ, List.getElem_cons_zero, List.setIfInBounds_toArray, List.set_cons_zero, List.set_cons_succ])
                (refine wpAnyH_take (i := 9) (v := ?_) rfl (by kernel_rfl) (by kernel_rfl) (by kernel_rfl) (fun _ _ _ h => h) (Or.inl ⟨by rfl, ?_⟩) (by assumption) ?_; rotate_left 1; · (intro wz hSw; (try dsimp only at hSw); go_simp; try rfl)); (try simp only [Act.put, List.getElem_toArray, List.getElem_cons_succ, List.getElem_cons_zero, List.setIfInBounds_toArray, List.set_cons_zero, List.set_cons_succ])
                (refine wpAnyH_take (i := 10) (v := ?_) rfl (by kernel_rfl) (by kernel_rfl) (by kernel_rfl) (fun _ _ _ h => h) (Or.inl ⟨by rfl, ?_⟩) (by assumption) ?_; rotate_left 1; · (intro wz hSw; (try dsimp only at hSw); go_simp; try rfl)); (try simp only [Act.put, List.getElem_toArray, List.getElem_cons_succ, List.getElem_cons_zero, List.setIfInBounds_toArray, List.set_cons_zero, List.set_cons_succ])
                (refine wpAnyH_take (i := 11) (v := ?_) rfl (by kernel_rfl) (by kernel_rfl) (by kernel_rfl) (fun _ _ _ h => h) (Or.inl ⟨by rfl, ?_⟩) (by assumption) ?_; rotate_left 1; · (intro wz hSw; (try dsimp only at hSw); go_simp; try rfl)); (try simp only [Act.put, List.getElem_toArray, List.getElem_cons_succ, List.getElem_cons_zero, List.setIfInBounds_toArray, List.set_cons_zero, List.set_cons_succ])
                (refine wpAnyH_take (i := 12) (v := ?_) rfl (by kernel_rfl) (by kernel_rfl) (by kernel_rfl) (fun _ _ _ h => h) (Or.inl ⟨by rfl, ?_⟩) (by assumption) ?_; rotate_left 1; · (intro wz hSw; (try dsimp only at hSw); go_simp; try rfl)); (try simp only [Act.put, List.getElem_toArray, List.getElem_cons_succ, List.getElem_cons_zero, List.setIfInBounds_toArray, List.set_cons_zero, List.set_cons_succ])
                (refine wpAnyH_take (i := 13) (v := ?_) rfl (by kernel_rfl) (by kernel_rfl) (by kernel_rfl) (fun _ _ _ h => h) (Or.inl ⟨by rfl, ?_⟩) (by assumption) ?_; rotate_left 1; · (intro wz hSw; (try dsimp only at hSw); go_simp; try rfl)); (try simp only [Act.put, List.getElem_toArray, List.getElem_cons_succ, List.getElem_cons_zero, List.setIfInBounds_toArray, List.set_cons_zero, List.set_cons_succ])
                (refine wpAnyH_take (i := 14) (v := ?_) rfl (by kernel_rfl) (by kernel_rfl) (by kernel_rfl) (fun _ _ _ h => h) (Or.inl ⟨by rfl, ?_⟩) (by assumption) ?_; rotate_left 1; · (intro wz hSw; (try dsimp only at hSw); go_simp; try rfl)); (try simp only [Act.put, List.getElem_toArray, List.getElem_cons_succ, List.getElem_cons_zero, List.setIfInBounds_toArray, List.set_cons_zero, List.set_cons_succ])
                (refine wpAnyH_take (i := 15) (v := ?_) rfl (by kernel_rfl) (by kernel_rfl) (by kernel_rfl) (fun _ _ _ h => h) (Or.inl ⟨by rfl, ?_⟩) (by assumption) ?_; rotate_left 1; · (intro wz hSw; (try dsimp only at hSw); go_simp; try rfl)); (try simp only [Act.put, List.getElem_toArray, List.getElem_cons_succ, List.getElem_cons_zero, List.setIfInBounds_toArray, List.set_cons_zero, List.set_cons_succ])
                (refine wpAnyH_take (i := 16) (v := ?_) rfl (by kernel_rfl) (by kernel_rfl) (by kernel_rfl) (fun _ _ _ h => h) (Or.inl ⟨by rfl, ?_⟩) (by assumption) ?_; rotate_left 1; · (intro wz hSw; (try dsimp only at hSw); go_simp; try rfl)); (try simp only [Act.put, List.getElem_toArray, List.getElem_cons_succ, List.getElem_cons_zero, List.setIfInBounds_toArray, List.set_cons_zero, List.set_cons_succ])
                (refine wpAnyH_take (i := 17) (v := ?_) rfl (by kernel_rfl) (by kernel_rfl) (by kernel_rfl) (fun _ _ _ h => h) (Or.inl ⟨by rfl, ?_⟩) (by assumption) ?_; rotate_left 1; · (intro wz hSw; (try dsimp only at hSw); go_simp; try rfl)); (try simp only [Act.put, List.getElem_toArray, List.getElem_cons_succ, List.getElem_cons_zero, List.setIfInBounds_toArray, List.set_cons_zero, List.set_cons_succ])
                (refine wpAnyH_take (i := 18) (v := ?_) rfl (by kernel_rfl) (by kernel_rfl) (by kernel_rfl) (fun _ _ _ h => h) (Or.inl ⟨by rfl, ?_⟩) (by assumption) ?_; rotate_left 1; · (intro wz hSw; (try dsimp only at hSw); go_simp; try rfl)); (try simp only [Act.put, List.getElem_toArray, List.getElem_cons_succ, List.getElem_cons_zero, List.setIfInBounds_toArray, List.set_cons_zero, List.set_cons_succ])
                (refine wpAnyH_take (i := 19) (v := ?_) rfl (by kernel_rfl) (by kernel_rfl) (by kernel_rfl) (fun _ _ _ h => h) (Or.inl ⟨by rfl, ?_⟩) (by assumption) ?_; rotate_left 1; · (intro wz hSw; (try dsimp only at hSw); go_simp; try rfl)); (try simp only [Act.put, List.getElem_toArray, List.getElem_cons_succ, List.getElem_cons_zero, List.setIfInBounds_toArray, List.set_cons_zero, List.set_cons_succ])
                (refine wpAnyH_take (i := 20) (v := ?_) rfl (by kernel_rfl) (by kernel_rfl) (by kernel_rfl) (fun _ _ _ h => h) (Or.inl ⟨by rfl, ?_⟩) (by assumption) ?_; rotate_left 1; · (intro wz hSw; (try dsimp only at hSw); go_simp; try rfl)); (try simp only [Act.put, List.getElem_toArray, List.getElem_cons_succ, List.getElem_cons_zero, List.setIfInBounds_toArray, List.set_cons_zero, List.set_cons_succ])
                (refine wpAnyH_take (i := 21) (v := ?_) rfl (by kernel_rfl) (by kernel_rfl) (by kernel_rfl) (fun _ _ _ h => h) (Or.inl ⟨by rfl, ?_⟩) (by assumption) ?_; rotate_left 1; · (intro wz hSw; (try dsimp only at hSw); go_simp; try rfl)); (try simp only [Act.put, List.getElem_toArray, List.getElem_cons_succ, List.getElem_cons_zero, List.setIfInBounds_toArray, List.set_cons_zero, List.set_cons_succ])
                (refine wpAnyH_take (i := 22) (v := ?_) rfl (by kernel_rfl) (by kernel_rfl) (by kernel_rfl) (fun _ _ _ h => h) (Or.inl ⟨by rfl, ?_⟩) (by assumption) ?_; rotate_left 1; · (intro wz hSw; (try dsimp only at hSw); go_simp; try rfl)); (try simp only [Act.put, List.getElem_toArray, List.getElem_cons_succ, List.getElem_cons_zero, List.setIfInBounds_toArray, List.set_cons_zero, List.set_cons_succ])
                (refine wpAnyH_take (i := 23) (v := ?_) rfl (by kernel_rfl) (by kernel_rfl) (by kernel_rfl) (fun _ _ _ h => h) (Or.inl ⟨by rfl, ?_⟩) (by assumption) ?_; rotate_left 1; · (intro wz hSw; (try dsimp only at hSw); go_simp; try rfl)); (try simp only [Act.put, List.getElem_toArray, List.getElem_cons_succ, List.getElem_cons_zero, List.setIfInBounds_toArray, List.set_cons_zero, List.set_cons_succ])
                (refine wpAnyH_take (i := 24) (v := ?_) rfl (by kernel_rfl) (by kernel_rfl) (by kernel_rfl) (fun _ _ _ h => h) (Or.inl ⟨by rfl, ?_⟩) (by assumption) ?_; rotate_left 1; · (intro wz hSw; (try dsimp only at hSw); go_simp; try rfl)); (try simp only [Act.put, List.getElem_toArray, List.getElem_cons_succ, List.getElem_cons_zero, List.setIfInBounds_toArray, List.set_cons_zero, List.set_cons_succ])
                (refine wpAnyH_take (i := 25) (v := ?_) rfl (by kernel_rfl) (by kernel_rfl) (by kernel_rfl) (fun _ _ _ h => h) (Or.inl ⟨by rfl, ?_⟩) (by assumption) ?_; rotate_left 1; · (intro wz hSw; (try dsimp only at hSw); go_simp; try rfl)); (try simp only [Act.put, List.getElem_toArray, List.getElem_cons_succ, List.getElem_cons_zero, List.setIfInBounds_toArray, List.set_cons_zero, List.set_cons_succ])
                (refine wpAnyH_take (i := 26) (v := ?_) rfl (by kernel_rfl) (by kernel_rfl) (by kernel_rfl) (fun _ _ _ h => h) (Or.inl ⟨by rfl, ?_⟩) (by assumption) ?_; rotate_left 1; · (intro wz hSw; (try dsimp only at hSw); go_simp; try rfl)); (try simp only [Act.put, List.getElem_toArray, List.getElem_cons_succ, List.getElem_cons_zero, List.setIfInBounds_toArray, List.set_cons_zero, List.set_cons_succ])
                (refine wpAnyH_take (i := 27) (v := ?_) rfl (by kernel_rfl) (by kernel_rfl) (by kernel_rfl) (fun _ _ _ h => h) (Or.inl ⟨by rfl, ?_⟩) (by assumption) ?_; rotate_left 1; · (intro wz hSw; (try dsimp only at hSw); go_simp; try rfl)); (try simp only [Act.put, List.getElem_toArray, List.getElem_cons_succ, List.getElem_cons_zero, List.setIfInBounds_toArray, List.set_cons_zero, List.set_cons_succ])
                (refine wpAnyH_take (i := 29) (v := ?_) rfl (by kernel_rfl) (by kernel_rfl) (by kernel_rfl) (fun _ _ _ h => h) (Or.inl ⟨by rfl, ?_⟩) (by assumption) ?_; rotate_left 1; · (intro wz hSw; (try dsimp only at hSw); go_simp; try rfl)); (try simp only [Act.put, List.getElem_toArray, List.getElem_cons_succ, List.getElem_cons_zero, List.setIfInBounds_toArray, List.set_cons_zero, List.set_cons_succ])
                refine wpAnyH_ready (rs := [28]) (by kernel_rfl) (by simp) (AllReadyH.cons rfl (fun K hK => ?_) AllReadyH.nil)
                go_simp
                go_at_call 64
                refine (HMA.out _ (Ch.refl No wr).drew).mono ?_
                rintro e w6 ⟨g6, m6, rfl, hb6, hg6, hm6, hc6⟩
                rw [HL.out]
                obtain ⟨bk, hbk⟩ : ∃ bk, m6[k]? = some bk := ⟨_, List.getElem?_eq_getElem (by have := HL.out; have := hm6.1; omega)⟩
                have hqk := hb6.cell hbk
                have HBK := hid hbk
                have HM6 := hid hm6
                have HC6 := hid hc6
                clear hbk hm6 hb6 hc6
                go_simp
                have HS6 := hid (HF.out _ ((Ch.refl No wr).drew.trans HC6.out))
                refine hK.out _ _ HS6.out (fun _ => ?_)
                clear hK
                refine wpAnyH_ready (rs := [30]) (by kernel_rfl) (by simp) (AllReadyH.cons rfl (fun K hK => ?_) AllReadyH.nil)
                go_simp
                refine hK.out _ _ HS6.out (fun _ => ?_)
                clear hK
                refine wpAnyH_ready (rs := [31]) (by kernel_rfl) (by simp) (AllReadyH.cons rfl (fun K hK => ?_) AllReadyH.nil)
                go_simp
                refine hK.out _ _ HS6.out (fun _ => ?_)
                clear hK
                refine wpAnyH_ready (rs := [32]) (by kernel_rfl) (by simp) (AllReadyH.cons rfl (fun K hK => ?_) AllReadyH.nil)
                go_simp
                refine hK.out _ _ HS6.out (fun _ => ?_)
                clear hK
                refine wpAnyH_ready (rs := [33]) (by kernel_rfl) (by simp) (AllReadyH.cons rfl (fun K hK => ?_) AllReadyH.nil)
                go_simp
                refine hK.out _ _ HS6.out (fun _ => ?_)
                clear hK
                refine wpAnyH_done (by kernel_rfl) ?_ _
                clear hHeld
                all_goals (
                  have hab : bk = true ↔ AbX cs x k := by
                    constructor
                    · rintro rfl
                      exact ⟨hx0, by rw [HL.out]; omega, .inr ((HM6.out.2 k).1 HBK.out)⟩
                    · rintro ⟨_, _, h | h⟩
                      · exact absurd h hxk
                      · have := (HM6.out.2 k).2 h
                        rw [HBK.out] at this; cases this; rfl
                  have HAB := hid hab
                  clear hab
                  cases bk with
                  | true =>
                    go_wp2_with fail
                    go_roundg (ni - q - 1)
                    case rel =>
                      refine ⟨q + 1, true, by omega, by omega, rfl, by go_num, hid ?_, HOW.out.no (((Ch.refl _ _).drew).trans HC6.out), HC2.out.trans (((Ch.refl _ _).drew).trans HC6.out)⟩
                      rw [abSnoc HX.out]
                      have := HAB.out
                      exact ⟨fun _ => .inr (by simpa using this), fun _ => rfl⟩
                    case measure => omega
                  | false =>
                    go_wp2_with fail
                    go_roundg (ni - q - 1)
                    case rel =>
                      refine ⟨q + 1, b, by omega, by omega, rfl, by go_num, hid ?_, HOW.out.no (((Ch.refl _ _).drew).trans HC6.out), HC2.out.trans (((Ch.refl _ _).drew).trans HC6.out)⟩
                      rw [abSnoc HX.out]
                      have := HAB.out
                      exact ⟨fun h => .inl (HB.out.1 h), fun h => HB.out.2 (h.resolve_right (by simpa using this))⟩
                    case measure => omega)
end Go.Proofs.YtgjpgfedlgdjhaaGreatDoor
