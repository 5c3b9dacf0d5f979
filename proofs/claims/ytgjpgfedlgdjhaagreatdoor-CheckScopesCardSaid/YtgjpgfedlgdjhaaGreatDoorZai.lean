/- What the claim uses: part 9. -/
import Derived.Test.YtgjpgfedlgdjhaaGreatDoorZae
import Derived.Test.YtgjpgfedlgdjhaaGreatDoorZaf
import Derived.Test.YtgjpgfedlgdjhaaGreatDoorZah
section
namespace Go.Proofs.YtgjpgfedlgdjhaaGreatDoor.PC
open Go.RowKit Go.Proofs.YtgjpgfedlgdjhaaGreatDoorW.PrintWords Go.Proofs.YtgjpgfedlgdjhaaGreatDoorW.PrintLast Go.Proofs.YtgjpgfedlgdjhaaGreatDoorW.PrintMore
set_option linter.unusedVariables false
set_option linter.unusedSimpArgs false
mutual
def T7must.l0 : Nat → Int → List ByteArray → Int → List (S116) → Int → Int → Int → Int → Option (Int × Int × Int × Int × Int)
 | 0, _, _, _, _, _, _, _, _ => none
 | k + 1, x1, x2, x7, x1000, x1001, x1002, x1003, x1004 => if x7 < (x2.length : Int) then (T7must.j1 k x1 x2 x7 (decide (x1 ≥ 0)) x1000 x1001 x1002 x1003 x1004) else (T7must.j1 k x1 x2 x7 false x1000 x1001 x1002 x1003 x1004)
def T7must.j1 : Nat → Int → List ByteArray → Int → Bool → List (S116) → Int → Int → Int → Int → Option (Int × Int × Int × Int × Int)
 | 0, _, _, _, _, _, _, _, _, _ => none
 | k + 1, x1, x2, x7, x15, x1000, x1001, x1002, x1003, x1004 => if x15 = true then ((T7word.f x1000 x1001 x1002 x1003 x1004 x1).bind fun bt124 => (if 0 ≤ x7 then (if x7 < (x2.length : Int) then (if bt124.1.toList = (rdOf ByteArray.empty x2 x7).toList then (T7must.l0 k (wrap64 (x1 + 1)) x2 (wrap64 (x7 + 1)) x1000 bt124.2.1 bt124.2.2.1 bt124.2.2.2.1 bt124.2.2.2.2) else ((T7fault.f x1000 bt124.2.1 bt124.2.2.1 bt124.2.2.2.1 bt124.2.2.2.2 x1 10).bind fun bt130 => (some (bt130.1, bt130.2.1, bt130.2.2.1, bt130.2.2.2.1, bt130.2.2.2.2)))) else (none)) else (none))) else (some (x1, x1001, x1002, x1003, x1004))
end
def T7must.f (k : Nat) (s0_0 : List (S116)) (s0_1 : Int) (s0_2 : Int) (s0_3 : Int) (s0_4 : Int) (a1 : Int) (l2 : List ByteArray) : Option (Int × Int × Int × Int × Int) := T7must.l0 k a1 l2 0 s0_0 s0_1 s0_2 s0_3 s0_4
def T7must.T4 : Bool × List (List Nat × List Nat) := (true, [([], []), ([], []), ([0, 1], [0, 1]), ([], []), ([], []), ([3, 4], [3, 4]), ([5], [5]), ([2, 6], [2, 6])])
def T7must.B4 : List Nat := [0, 0, 3, 0, 0, 24, 56, 127]
theorem T7must.tab4 : rtab .any (opsOf Tryz.f58 4) = T7must.T4 := by kernel_rfl
theorem T7must.bits4 : waitsOk T7must.T4.2 T7must.B4 = true := by kernel_rfl
set_option maxHeartbeats 8000000 in
set_option maxRecDepth 100000 in
theorem T7must.calls (k : Nat) (g : Nat) (s0_0 : List (S116)) (s0_1 : Int) (s0_2 : Int) (s0_3 : Int) (s0_4 : Int) (a1 : Int) (A2 : Option Addr) (c2 : Nat) (l2 : List ByteArray) (r1 : Int) (r2 : Int) (r3 : Int) (r4 : Int) (r5 : Int) (w0 w : World) (hI : IsS79 w0 w g s0_0 s0_1 s0_2 s0_3 s0_4) (hB : Below w0.heap.size w0 w) (hr2 : Kd.C Kd.string w A2 l2.length l2) (hc2 : l2.length ≤ c2) (hf2 : ∀ ad, A2 = some ad → 0 < l2.length → ad.block ≠ g) (h : T7must.f k s0_0 s0_1 s0_2 s0_3 s0_4 a1 l2 = some (r1, r2, r3, r4, r5)) :
   Calls Tryz.prog 58 #[.pointer (some ⟨g, 0, none⟩), .int .i64 a1, .slice A2 l2.length c2] w fun e w' => e = .returned (.int .i64 r1) ∧ IsS79 w0 w' g s0_0 r2 r3 r4 r5 ∧ Below w0.heap.size w0 w' ∧ KeepBut w w' g none := by
 have HR2 := Aside0.mk hr2
 have HC2 := Aside0.mk hc2
 clear hr2 hc2
 have HI0 := Aside0.mk hI
 have HK := Aside0.mk (KeepBut.refl w g none)
 have HL := Aside0.mk hB.size
 clear hI
 have HW0 := Aside0.mk hB.size
 have HB := Aside0.mk hB
 clear hB
 have H : (T7must.l0 k a1 l2 0 s0_0 s0_1 s0_2 s0_3 s0_4) = some (r1, r2, r3, r4, r5) := h
 clear h
 have H' := Aside0.mk H
 clear H
 go_enter Tryz.func58, Tryz.ntmps58
 go_wp2
 go_loopg [1, 7] k (fun kq v1 v7 w' => ∃ (x1_1 : Int) (x7_1 : Int) (x1001_1 : Int) (x1002_1 : Int) (x1003_1 : Int) (x1004_1 : Int), v1 = .int .i64 x1_1 ∧ v7 = .int .i64 x7_1 ∧ Aside0 (T7must.l0 kq x1_1 l2 x7_1 s0_0 x1001_1 x1002_1 x1003_1 x1004_1 = some (r1, r2, r3, r4, r5)) ∧ Aside0 (kq ≤ k) ∧ Aside0 (IsS79 w0 w' g s0_0 x1001_1 x1002_1 x1003_1 x1004_1) ∧ Aside0 (KeepBut w w' g none) ∧ Aside0 (Below w0.heap.size w0 w'))
 case atStart => exact ⟨(a1), (0), (s0_1), (s0_2), (s0_3), (s0_4), (by first | rfl | (simp; done) | (simp [*]; done)), (by first | rfl | (simp; done) | (simp [*]; done)), H', ⟨Nat.le_refl _⟩, ⟨by repeat (first | (with_reducible first | exact HI0.out | apply IsS79.alloc | apply IsS79.drewN | apply IsS79.drew | apply IsS79.set_1 | apply IsS79.set_2 | apply IsS79.set_3 | apply IsS79.set_4) | exact HI0.out)⟩, ⟨by repeat (first | (with_reducible first | exact HK.out | apply KeepBut.set_ | apply keep_drewN | apply keep_drew | apply keep_alloc) | exact HK.out)⟩, ⟨by repeat (first | (with_reducible first | exact HB.out | apply below_alloc | apply pw_below_drewN | apply below_drew1 | refine below_set ?_ (IsS79.ge HI0.out)) | exact HB.out)⟩⟩
 case round =>
   clear H'
   try clear c2
   try clear p2
   obtain ⟨x1_1, x7_1, x1001_1, x1002_1, x1003_1, x1004_1, rfl, rfl, HA, HK1, HI0, HK, HB⟩ := hrel
   cases gk with
   | zero => exact absurd HA.out (by simp [T7must.l0])
   | succ k1 =>
     have H := HA.out
     clear HA
     simp only [T7must.l0] at H
     have HC4 := Aside0.mk H
     clear H
     go_upto_region 2 with (fail)
     go_cut [15] (fun v15 wc => ∃ (kq : Nat) (x15_3 : Bool), v15 = .bool x15_3 ∧ Aside0 (T7must.j1 kq x1_1 l2 x7_1 x15_3 s0_0 x1001_1 x1002_1 x1003_1 x1004_1 = some (r1, r2, r3, r4, r5)) ∧ Aside0 (kq ≤ k1) ∧ Aside0 (IsS79 w0 wc g s0_0 x1001_1 x1002_1 x1003_1 x1004_1) ∧ Aside0 (KeepBut w wc g none) ∧ Aside0 (Below w0.heap.size w0 wc))
     case first =>
       have H := HC4.out
       clear HC4
       by_cases c5 : x7_1 < (l2.length : Int)
       · rw [if_pos c5] at H
         have c5b0 : decide (x7_1 < (l2.length : Int)) = true := decide_eq_true c5
         clear c5
         (first | rw [c5b0] | (simp only [i64_w, i32_w]; rw [c5b0]) | skip)
         have H' := Aside0.mk H
         clear H
         go_wp2
         go_meet
         case rel => exact ⟨_, (decide (x1_1 ≥ 0)), (by first | rfl | (simp; done) | (simp [*]; done)), H', ⟨by have := HK1.out; first | omega | exact Nat.le_refl _⟩, ⟨by repeat (first | (with_reducible first | exact HI0.out | apply IsS79.alloc | apply IsS79.drewN | apply IsS79.drew | apply IsS79.set_1 | apply IsS79.set_2 | apply IsS79.set_3 | apply IsS79.set_4) | exact HI0.out)⟩, ⟨by repeat (first | (with_reducible first | exact HK.out | apply KeepBut.set_ | apply keep_drewN | apply keep_drew | apply keep_alloc) | exact HK.out)⟩, ⟨by repeat (first | (with_reducible first | exact HB.out | apply below_alloc | apply pw_below_drewN | apply below_drew1 | refine below_set ?_ (IsS79.ge HI0.out)) | exact HB.out)⟩⟩
       · rw [if_neg c5] at H
         have c5b0 : decide (x7_1 < (l2.length : Int)) = false := decide_eq_false c5
         clear c5
         (first | rw [c5b0] | (simp only [i64_w, i32_w]; rw [c5b0]) | skip)
         have H' := Aside0.mk H
         clear H
         go_wp2
         go_meet
         case rel => exact ⟨_, (false), (by first | rfl | (simp; done) | (simp [*]; done)), H', ⟨by have := HK1.out; first | omega | exact Nat.le_refl _⟩, ⟨by repeat (first | (with_reducible first | exact HI0.out | apply IsS79.alloc | apply IsS79.drewN | apply IsS79.drew | apply IsS79.set_1 | apply IsS79.set_2 | apply IsS79.set_3 | apply IsS79.set_4) | exact HI0.out)⟩, ⟨by repeat (first | (with_reducible first | exact HK.out | apply KeepBut.set_ | apply keep_drewN | apply keep_drew | apply keep_alloc) | exact HK.out)⟩, ⟨by repeat (first | (with_reducible first | exact HB.out | apply below_alloc | apply pw_below_drewN | apply below_drew1 | refine below_set ?_ (IsS79.ge HI0.out)) | exact HB.out)⟩⟩
     case rest =>
       clear HC4
       try clear c2
       try clear p2
       try clear c5
       try clear c5b0
       try clear p2
       obtain ⟨kq, x15_3, rfl, HA, HJ3, HI0, HK, HB⟩ := hcut
       cases kq with
       | zero => exact absurd HA.out (by simp [T7must.j1])
       | succ kj3 =>
         have H := HA.out
         clear HA
         simp only [T7must.j1] at H
         by_cases c6 : x15_3 = true
         · subst c6
           have H1 : ((T7word.f s0_0 x1001_1 x1002_1 x1003_1 x1004_1 x1_1).bind fun bt124 => (if 0 ≤ x7_1 then (if x7_1 < (l2.length : Int) then (if bt124.1.toList = (rdOf ByteArray.empty l2 x7_1).toList then (T7must.l0 kj3 (wrap64 (x1_1 + 1)) l2 (wrap64 (x7_1 + 1)) s0_0 bt124.2.1 bt124.2.2.1 bt124.2.2.2.1 bt124.2.2.2.2) else ((T7fault.f s0_0 bt124.2.1 bt124.2.2.1 bt124.2.2.2.1 bt124.2.2.2.2 x1_1 10).bind fun bt130 => (some (bt130.1, bt130.2.1, bt130.2.2.1, bt130.2.2.2.1, bt130.2.2.2.2)))) else (none)) else (none))) = some (r1, r2, r3, r4, r5) := by rw [if_pos rfl] at H; exact H
           clear H
           have H := H1
           clear H1
           replace H := Option.bind_eq_some_iff.mp H
           obtain ⟨⟨t124, t125, t126, t127, t128⟩, A70, H⟩ := H
           replace H : (if 0 ≤ x7_1 then (if x7_1 < (l2.length : Int) then (if t124.toList = (rdOf ByteArray.empty l2 x7_1).toList then (T7must.l0 kj3 (wrap64 (x1_1 + 1)) l2 (wrap64 (x7_1 + 1)) s0_0 t125 t126 t127 t128) else ((T7fault.f s0_0 t125 t126 t127 t128 x1_1 10).bind fun bt130 => (some (bt130.1, bt130.2.1, bt130.2.2.1, bt130.2.2.2.1, bt130.2.2.2.2)))) else (none)) else (none)) = some (r1, r2, r3, r4, r5) := H
           have A7 := Aside0.mk A70
           clear A70
           by_cases c8 : 0 ≤ x7_1
           · rw [if_pos c8] at H
             have c8b0 : decide (0 ≤ x7_1) = true := decide_eq_true c8
             clear c8
             by_cases c9 : x7_1 < (l2.length : Int)
             · rw [if_pos c9] at H
               have c9b0 : decide (x7_1 < (l2.length : Int)) = true := decide_eq_true c9
               clear c9
               by_cases c10 : t124.toList = (rdOf ByteArray.empty l2 x7_1).toList
               · rw [if_pos c10] at H
                 have c10b0 : (t124.toList == (rdOf ByteArray.empty l2 x7_1).toList) = true := beq_iff_eq.mpr c10
                 have c10b1 : (t124.toList != (rdOf ByteArray.empty l2 x7_1).toList) = false := bne_eq_false_iff_eq.mpr c10
                 clear c10
                 have H' := Aside0.mk H
                 clear H
                 try go_wp2
                 have n0_ := Aside0.mk (IsS79.drew HI0.out)
                 have n1_ := Aside0.mk (keep_drew HK.out)
                 have n2_ := Aside0.mk (below_drew1 HB.out)
                 clear HI0
                 clear HK
                 clear HB
                 have HI0 := n0_
                 have HK := n1_
                 have HB := n2_
                 clear n0_ n1_ n2_
                 have p129 : 0 ≤ (x7_1 : Int) := of_decide_eq_true (by first | (with_reducible assumption) | assumption)
                 have q129 : x7_1 < (l2.length : Int) := of_decide_eq_true (by first | (with_reducible assumption) | assumption)
                 obtain ⟨ad129, e129, hx129_0⟩ := Kd.at_string HR2.out x7_1 p129 q129
                 have hw129_0 := hx129_0
                 cases e129
                 have hne129_0 := (show ((ad129.add (x7_1).toNat) : Addr).block ≠ g from by first | (rw [add_block]; exact hf2 ad129 rfl (by omega)) | (show (Addr.add _ _).block ≠ _; rw [add_block]; exact hf2 ad129 rfl (by omega)) | exact hf2 ad129 rfl (by omega))
                 replace hx129_0 := keep_cell HK.out hx129_0 (by first | (rw [add_block]; exact hf2 _ rfl (by omega)) | exact hf2 _ rfl (by omega) | exact hf2 ad129 rfl (by omega))
                 replace p129 := eq_true p129
                 replace q129 := eq_true q129
                 refine start_ (n := 8) (S := fun w' => w'.cell? (ad129.add (x7_1).toNat) = some (.string (rdOf ByteArray.empty l2 x7_1))) (ds := []) #[false, false, false, false, false, false, false, false] (by kernel_rfl) rfl rfl ((keep_cell HK.out hw129_0 hne129_0)) (fun hHeld => ?_); refine with_tabW T7must.tab4 T7must.bits4 (fun HT_ HW_ => ?_)
                 generalize wc.drew = w11 at HI0 HK HB hx129_0 hHeld ⊢
                 refine pure_ (i := 0) (N := some 18) (v := ?_) (a' := ?_) #[true, false, false, false, false, false, false, false] rfl rfl (any_of HT_.out (by kernel_rfl)) (fun _ _ _ h => h) (Or.inl ⟨by rfl, ?_⟩) ?_ ?_
                 rotate_left
                 · intro w'
                   go_simp
                   with_reducible rfl
                 rotate_left
                 · simp only [Act.put, List.setIfInBounds_toArray, List.set_cons_zero, List.set_cons_succ, i64_w, i32_w]
                   rfl
                 refine pure_ (i := 1) (N := some 19) (v := ?_) (a' := ?_) #[true, true, false, false, false, false, false, false] rfl rfl (any_of HT_.out (by kernel_rfl)) (fun _ _ _ h => h) (Or.inl ⟨by rfl, ?_⟩) ?_ ?_
                 rotate_left
                 · intro w'
                   go_simp
                   with_reducible rfl
                 rotate_left
                 · simp only [Act.put, List.setIfInBounds_toArray, List.set_cons_zero, List.set_cons_succ, i64_w, i32_w]
                   rfl
                 refine pure_ (i := 3) (N := some 21) (v := ?_) (a' := ?_) #[true, true, false, true, false, false, false, false] rfl rfl (any_of HT_.out (by kernel_rfl)) (fun _ _ _ h => h) (Or.inl ⟨by rfl, ?_⟩) ?_ ?_
                 rotate_left
                 · intro w'
                   go_simp
                   with_reducible rfl
                 rotate_left
                 · simp only [Act.put, List.setIfInBounds_toArray, List.set_cons_zero, List.set_cons_succ, i64_w, i32_w]
                   rfl
                 refine pure_ (i := 4) (N := some 22) (v := ?_) (a' := ?_) #[true, true, false, true, true, false, false, false] rfl rfl (any_of HT_.out (by kernel_rfl)) (fun _ _ _ h => h) (Or.inl ⟨by rfl, ?_⟩) ?_ ?_
                 rotate_left
                 · intro w'
                   go_simp
                   with_reducible rfl
                 rotate_left
                 · simp only [Act.put, List.setIfInBounds_toArray, List.set_cons_zero, List.set_cons_succ, i64_w, i32_w]
                   rfl
                 refine pure_ (i := 5) (N := some 23) (v := ?_) (a' := ?_) #[true, true, false, true, true, true, false, false] rfl rfl (any_of HT_.out (by kernel_rfl)) (fun _ _ _ h => h) (Or.inl ⟨by rfl, ?_⟩) ?_ ?_
                 rotate_left
                 · intro w'
                   go_simp
                   with_reducible rfl
                 rotate_left
                 · simp only [Act.put, List.setIfInBounds_toArray, List.set_cons_zero, List.set_cons_succ, i64_w, i32_w]
                   rfl
                 refine take_ (i := 6) (N := some 24) (v := ?_) (a' := ?_) #[true, true, false, true, true, true, true, false] rfl rfl (take_ofW HT_.out HW_.out (by kernel_rfl)) (fun _ _ _ h => h) (Or.inl ⟨by rfl, ?_⟩) hHeld ?_ ?_
                 rotate_left
                 · intro w' s0
                   go_simp
                   with_reducible rfl
                 rotate_left
                 · simp only [Act.put, List.setIfInBounds_toArray, List.set_cons_zero, List.set_cons_succ, i64_w, i32_w]
                   rfl
                 refine one_ (i := 2) (N := some 20) #[true, true, true, true, true, true, true, false] rfl rfl (one_of HT_.out (by kernel_rfl)) (by decide) (fun K hK => ?_)
                 refine goes_ Tryz.func25 (by kernel_rfl) rfl #[.pointer (some ⟨g, 0, none⟩), .int .i64 x1_1] (by rfl) rfl rfl (by (try simp only [List.map_toArray, List.map_cons, List.map_nil]); first | done | rfl | (simp only [List.length_drop, List.length_take]; rfl)) ?_
                 with_reducible refine (T7word.calls g s0_0 x1001_1 x1002_1 x1003_1 x1004_1 x1_1 t124 t125 t126 t127 t128 w0 _ ?side1 ?side2 A7.out).mono ?_
                 (case side1 => repeat (first | (with_reducible first | exact HI0.out | apply IsS79.alloc | apply IsS79.drewN | apply IsS79.drew | apply IsS79.set_1 | apply IsS79.set_2 | apply IsS79.set_3 | apply IsS79.set_4) | exact HI0.out))
                 (case side2 => repeat (first | (with_reducible first | exact HB.out | apply below_alloc | apply pw_below_drewN | apply below_drew1 | refine below_set ?_ (IsS79.ge HI0.out)) | exact HB.out))
                 rintro e w12 ⟨rfl, hi, hb, hk⟩
                 refine ⟨_, rfl, ?_⟩
                 have n0_ := Aside0.mk (KeepBut.trans (by repeat (first | (with_reducible first | exact HK.out | apply KeepBut.set_ | apply keep_drewN | apply keep_drew | apply keep_alloc) | exact HK.out)) hk (.inl rfl))
                 have n1_ := Aside0.mk (hb)
                 have n2_ := Aside0.mk (hi)
                 clear HK
                 clear HB
                 clear HI0
                 have HK := n0_
                 have HB := n1_
                 have HI0 := n2_
                 clear n0_ n1_ n2_
                 (try clear hb)
                 (try clear hb2)
                 (try clear hk)
                 (try clear hi)
                 refine hK.out _ _ ((keep_cell HK.out hw129_0 hne129_0)) (fun hHeld => ?_)
                 clear hK K
                 refine norm_ (a' := ?_) ?_ ?_
                 rotate_left
                 · show Act.put _ (some 20) _ = _
                   simp only [Act.put, List.setIfInBounds_toArray, List.set_cons_zero, List.set_cons_succ, i64_w, i32_w]
                   rfl
                 refine pure_ (i := 7) (N := some 25) (v := ?_) (a' := ?_) #[true, true, true, true, true, true, true, true] rfl rfl (any_of HT_.out (by kernel_rfl)) (fun _ _ _ h => h) (Or.inl ⟨by rfl, ?_⟩) ?_ ?_
                 rotate_left
                 · intro w'
                   go_simp
                   with_reducible rfl
                 rotate_left
                 · simp only [Act.put, List.setIfInBounds_toArray, List.set_cons_zero, List.set_cons_succ, i64_w, i32_w]
                   rfl
                 refine done_ (done_of HT_.out (by kernel_rfl)) ?_
                 try go_wp2
                 go_roundg kj3
                 case measure => have := HK1.out; have := HJ3.out; omega
                 case rel => exact ⟨(wrap64 (x1_1 + 1)), (wrap64 (x7_1 + 1)), (t125), (t126), (t127), (t128), (by first | rfl | (simp; done) | (simp [*]; done)), (by first | rfl | (simp; done) | (simp [*]; done)), H', ⟨by have := HK1.out; have := HJ3.out; omega⟩, ⟨by repeat (first | (with_reducible first | exact HI0.out | apply IsS79.alloc | apply IsS79.drewN | apply IsS79.drew | apply IsS79.set_1 | apply IsS79.set_2 | apply IsS79.set_3 | apply IsS79.set_4) | exact HI0.out)⟩, ⟨by repeat (first | (with_reducible first | exact HK.out | apply KeepBut.set_ | apply keep_drewN | apply keep_drew | apply keep_alloc) | exact HK.out)⟩, ⟨by repeat (first | (with_reducible first | exact HB.out | apply below_alloc | apply pw_below_drewN | apply below_drew1 | refine below_set ?_ (IsS79.ge HI0.out)) | exact HB.out)⟩⟩
               · rw [if_neg c10] at H
                 have c10b0 : (t124.toList == (rdOf ByteArray.empty l2 x7_1).toList) = false := beq_eq_false_iff_ne.mpr c10
                 have c10b1 : (t124.toList != (rdOf ByteArray.empty l2 x7_1).toList) = true := bne_iff_ne.mpr c10
                 replace H := Option.bind_eq_some_iff.mp H
                 obtain ⟨⟨t130, t131, t132, t133, t134⟩, A130, H⟩ := H
                 replace H : (some (t130, t131, t132, t133, t134)) = some (r1, r2, r3, r4, r5) := H
                 have A13 := Aside0.mk A130
                 clear A130
                 simp only [Option.some.injEq, Prod.mk.injEq] at H
                 obtain ⟨rfl, rfl, rfl, rfl, rfl⟩ := H
                 try go_wp2
                 have n0_ := Aside0.mk (IsS79.drew HI0.out)
                 have n1_ := Aside0.mk (keep_drew HK.out)
                 have n2_ := Aside0.mk (below_drew1 HB.out)
                 clear HI0
                 clear HK
                 clear HB
                 have HI0 := n0_
                 have HK := n1_
                 have HB := n2_
                 clear n0_ n1_ n2_
                 have p129 : 0 ≤ (x7_1 : Int) := of_decide_eq_true (by first | (with_reducible assumption) | assumption)
                 have q129 : x7_1 < (l2.length : Int) := of_decide_eq_true (by first | (with_reducible assumption) | assumption)
                 obtain ⟨ad129, e129, hx129_0⟩ := Kd.at_string HR2.out x7_1 p129 q129
                 have hw129_0 := hx129_0
                 cases e129
                 have hne129_0 := (show ((ad129.add (x7_1).toNat) : Addr).block ≠ g from by first | (rw [add_block]; exact hf2 ad129 rfl (by omega)) | (show (Addr.add _ _).block ≠ _; rw [add_block]; exact hf2 ad129 rfl (by omega)) | exact hf2 ad129 rfl (by omega))
                 replace hx129_0 := keep_cell HK.out hx129_0 (by first | (rw [add_block]; exact hf2 _ rfl (by omega)) | exact hf2 _ rfl (by omega) | exact hf2 ad129 rfl (by omega))
                 replace p129 := eq_true p129
                 replace q129 := eq_true q129
                 refine start_ (n := 8) (S := fun w' => w'.cell? (ad129.add (x7_1).toNat) = some (.string (rdOf ByteArray.empty l2 x7_1))) (ds := []) #[false, false, false, false, false, false, false, false] (by kernel_rfl) rfl rfl ((keep_cell HK.out hw129_0 hne129_0)) (fun hHeld => ?_); refine with_tabW T7must.tab4 T7must.bits4 (fun HT_ HW_ => ?_)
                 generalize wc.drew = w14 at HI0 HK HB hx129_0 hHeld ⊢
                 refine pure_ (i := 0) (N := some 18) (v := ?_) (a' := ?_) #[true, false, false, false, false, false, false, false] rfl rfl (any_of HT_.out (by kernel_rfl)) (fun _ _ _ h => h) (Or.inl ⟨by rfl, ?_⟩) ?_ ?_
                 rotate_left
                 · intro w'
                   go_simp
                   with_reducible rfl
                 rotate_left
                 · simp only [Act.put, List.setIfInBounds_toArray, List.set_cons_zero, List.set_cons_succ, i64_w, i32_w]
                   rfl
                 refine pure_ (i := 1) (N := some 19) (v := ?_) (a' := ?_) #[true, true, false, false, false, false, false, false] rfl rfl (any_of HT_.out (by kernel_rfl)) (fun _ _ _ h => h) (Or.inl ⟨by rfl, ?_⟩) ?_ ?_
                 rotate_left
                 · intro w'
                   go_simp
                   with_reducible rfl
                 rotate_left
                 · simp only [Act.put, List.setIfInBounds_toArray, List.set_cons_zero, List.set_cons_succ, i64_w, i32_w]
                   rfl
                 refine pure_ (i := 3) (N := some 21) (v := ?_) (a' := ?_) #[true, true, false, true, false, false, false, false] rfl rfl (any_of HT_.out (by kernel_rfl)) (fun _ _ _ h => h) (Or.inl ⟨by rfl, ?_⟩) ?_ ?_
                 rotate_left
                 · intro w'
                   go_simp
                   with_reducible rfl
                 rotate_left
                 · simp only [Act.put, List.setIfInBounds_toArray, List.set_cons_zero, List.set_cons_succ, i64_w, i32_w]
                   rfl
                 refine pure_ (i := 4) (N := some 22) (v := ?_) (a' := ?_) #[true, true, false, true, true, false, false, false] rfl rfl (any_of HT_.out (by kernel_rfl)) (fun _ _ _ h => h) (Or.inl ⟨by rfl, ?_⟩) ?_ ?_
                 rotate_left
                 · intro w'
                   go_simp
                   with_reducible rfl
                 rotate_left
                 · simp only [Act.put, List.setIfInBounds_toArray, List.set_cons_zero, List.set_cons_succ, i64_w, i32_w]
                   rfl
                 refine pure_ (i := 5) (N := some 23) (v := ?_) (a' := ?_) #[true, true, false, true, true, true, false, false] rfl rfl (any_of HT_.out (by kernel_rfl)) (fun _ _ _ h => h) (Or.inl ⟨by rfl, ?_⟩) ?_ ?_
                 rotate_left
                 · intro w'
                   go_simp
                   with_reducible rfl
                 rotate_left
                 · simp only [Act.put, List.setIfInBounds_toArray, List.set_cons_zero, List.set_cons_succ, i64_w, i32_w]
                   rfl
                 refine take_ (i := 6) (N := some 24) (v := ?_) (a' := ?_) #[true, true, false, true, true, true, true, false] rfl rfl (take_ofW HT_.out HW_.out (by kernel_rfl)) (fun _ _ _ h => h) (Or.inl ⟨by rfl, ?_⟩) hHeld ?_ ?_
                 rotate_left
                 · intro w' s0
                   go_simp
                   with_reducible rfl
                 rotate_left
                 · simp only [Act.put, List.setIfInBounds_toArray, List.set_cons_zero, List.set_cons_succ, i64_w, i32_w]
                   rfl
                 refine one_ (i := 2) (N := some 20) #[true, true, true, true, true, true, true, false] rfl rfl (one_of HT_.out (by kernel_rfl)) (by decide) (fun K hK => ?_)
                 refine goes_ Tryz.func25 (by kernel_rfl) rfl #[.pointer (some ⟨g, 0, none⟩), .int .i64 x1_1] (by rfl) rfl rfl (by (try simp only [List.map_toArray, List.map_cons, List.map_nil]); first | done | rfl | (simp only [List.length_drop, List.length_take]; rfl)) ?_
                 with_reducible refine (T7word.calls g s0_0 x1001_1 x1002_1 x1003_1 x1004_1 x1_1 t124 t125 t126 t127 t128 w0 _ ?side1 ?side2 A7.out).mono ?_
                 (case side1 => repeat (first | (with_reducible first | exact HI0.out | apply IsS79.alloc | apply IsS79.drewN | apply IsS79.drew | apply IsS79.set_1 | apply IsS79.set_2 | apply IsS79.set_3 | apply IsS79.set_4) | exact HI0.out))
                 (case side2 => repeat (first | (with_reducible first | exact HB.out | apply below_alloc | apply pw_below_drewN | apply below_drew1 | refine below_set ?_ (IsS79.ge HI0.out)) | exact HB.out))
                 rintro e w15 ⟨rfl, hi, hb, hk⟩
                 refine ⟨_, rfl, ?_⟩
                 have n0_ := Aside0.mk (KeepBut.trans (by repeat (first | (with_reducible first | exact HK.out | apply KeepBut.set_ | apply keep_drewN | apply keep_drew | apply keep_alloc) | exact HK.out)) hk (.inl rfl))
                 have n1_ := Aside0.mk (hb)
                 have n2_ := Aside0.mk (hi)
                 clear HK
                 clear HB
                 clear HI0
                 have HK := n0_
                 have HB := n1_
                 have HI0 := n2_
                 clear n0_ n1_ n2_
                 (try clear hb)
                 (try clear hb2)
                 (try clear hk)
                 (try clear hi)
                 refine hK.out _ _ ((keep_cell HK.out hw129_0 hne129_0)) (fun hHeld => ?_)
                 clear hK K
                 refine norm_ (a' := ?_) ?_ ?_
                 rotate_left
                 · show Act.put _ (some 20) _ = _
                   simp only [Act.put, List.setIfInBounds_toArray, List.set_cons_zero, List.set_cons_succ, i64_w, i32_w]
                   rfl
                 refine pure_ (i := 7) (N := some 25) (v := ?_) (a' := ?_) #[true, true, true, true, true, true, true, true] rfl rfl (any_of HT_.out (by kernel_rfl)) (fun _ _ _ h => h) (Or.inl ⟨by rfl, ?_⟩) ?_ ?_
                 rotate_left
                 · intro w'
                   go_simp
                   with_reducible rfl
                 rotate_left
                 · simp only [Act.put, List.setIfInBounds_toArray, List.set_cons_zero, List.set_cons_succ, i64_w, i32_w]
                   rfl
                 refine done_ (done_of HT_.out (by kernel_rfl)) ?_
                 try go_wp2_with (first | ((with_reducible refine gate_callee (f := 26) rfl ?_); refine goesL_ (some 28) rfl rfl Tryz.func26 (by kernel_rfl) rfl #[.pointer (some ⟨g, 0, none⟩), .int .i64 x1_1, .int .i64 10] rfl (by (try simp only [List.map_toArray, List.map_cons, List.map_nil]); first | done | rfl | (simp only [List.length_drop, List.length_take]; rfl)) ?_; (with_reducible refine (T7fault.calls g s0_0 t125 t126 t127 t128 x1_1 10 t130 t131 t132 t133 t134 w0 _ ?side1 ?side2 A13.out).mono ?_); (case side1 => repeat (first | (with_reducible first | exact HI0.out | apply IsS79.alloc | apply IsS79.drewN | apply IsS79.drew | apply IsS79.set_1 | apply IsS79.set_2 | apply IsS79.set_3 | apply IsS79.set_4) | exact HI0.out)); (case side2 => repeat (first | (with_reducible first | exact HB.out | apply below_alloc | apply pw_below_drewN | apply below_drew1 | refine below_set ?_ (IsS79.ge HI0.out)) | exact HB.out)); rintro e w16 ⟨rfl, hi, hb, hk⟩; refine ⟨_, rfl, ?_⟩; have n0_ := Aside0.mk (KeepBut.trans (by repeat (first | (with_reducible first | exact HK.out | apply KeepBut.set_ | apply keep_drewN | apply keep_drew | apply keep_alloc) | exact HK.out)) hk (.inl rfl)); have n1_ := Aside0.mk (hb); have n2_ := Aside0.mk (hi); clear HK; clear HB; clear HI0; have HK := n0_; have HB := n1_; have HI0 := n2_; clear n0_ n1_ n2_; (try clear hb); (try clear hb2); (try clear hk); (try clear hi)))
                 go_ret
                 exact ⟨by first | rfl | (simp [errW_none, errW_some] <;> rfl) | (simp [*, errW_none, errW_some] <;> rfl), by repeat (first | (with_reducible first | exact HI0.out | apply IsS79.alloc | apply IsS79.drewN | apply IsS79.drew | apply IsS79.set_1 | apply IsS79.set_2 | apply IsS79.set_3 | apply IsS79.set_4) | exact HI0.out), by repeat (first | (with_reducible first | exact HB.out | apply below_alloc | apply pw_below_drewN | apply below_drew1 | refine below_set ?_ (IsS79.ge HI0.out)) | exact HB.out), by repeat (first | (with_reducible first | exact HK.out | apply KeepBut.set_ | apply keep_drewN | apply keep_drew | apply keep_alloc) | exact HK.out)⟩
             · rw [if_neg c9] at H
               exact absurd H (by simp)
           · rw [if_neg c8] at H
             exact absurd H (by simp)
         · replace c6 := Bool.eq_false_iff.mpr c6
           subst c6
           have H1 : (some (x1_1, x1001_1, x1002_1, x1003_1, x1004_1)) = some (r1, r2, r3, r4, r5) := by rw [if_neg (show ¬ (false = true) by decide)] at H; exact H
           clear H
           have H := H1
           clear H1
           simp only [Option.some.injEq, Prod.mk.injEq] at H
           obtain ⟨rfl, rfl, rfl, rfl, rfl⟩ := H
           go_wp2
           go_ret
           exact ⟨by first | rfl | (simp [errW_none, errW_some] <;> rfl) | (simp [*, errW_none, errW_some] <;> rfl), by repeat (first | (with_reducible first | exact HI0.out | apply IsS79.alloc | apply IsS79.drewN | apply IsS79.drew | apply IsS79.set_1 | apply IsS79.set_2 | apply IsS79.set_3 | apply IsS79.set_4) | exact HI0.out), by repeat (first | (with_reducible first | exact HB.out | apply below_alloc | apply pw_below_drewN | apply below_drew1 | refine below_set ?_ (IsS79.ge HI0.out)) | exact HB.out), by repeat (first | (with_reducible first | exact HK.out | apply KeepBut.set_ | apply keep_drewN | apply keep_drew | apply keep_alloc) | exact HK.out)⟩
def T7one.f (k : Nat) (s0_0 : List (S116)) (s0_1 : Int) (s0_2 : Int) (s0_3 : Int) (s0_4 : Int) (a1 : Int) (a2 : ByteArray) : Option (Int × Int × Int × Int × Int) := (T7must.f k s0_0 s0_1 s0_2 s0_3 s0_4 a1 (([a2] : List ByteArray))).bind fun bt138 => (some (bt138.1, bt138.2.1, bt138.2.2.1, bt138.2.2.2.1, bt138.2.2.2.2))
set_option maxHeartbeats 8000000 in
set_option maxRecDepth 100000 in
theorem T7one.calls (k : Nat) (g : Nat) (s0_0 : List (S116)) (s0_1 : Int) (s0_2 : Int) (s0_3 : Int) (s0_4 : Int) (a1 : Int) (a2 : ByteArray) (r1 : Int) (r2 : Int) (r3 : Int) (r4 : Int) (r5 : Int) (w0 w : World) (hI : IsS79 w0 w g s0_0 s0_1 s0_2 s0_3 s0_4) (hB : Below w0.heap.size w0 w) (h : T7one.f k s0_0 s0_1 s0_2 s0_3 s0_4 a1 a2 = some (r1, r2, r3, r4, r5)) :
   Calls Tryz.prog 29 #[.pointer (some ⟨g, 0, none⟩), .int .i64 a1, .string a2] w fun e w' => e = .returned (.int .i64 r1) ∧ IsS79 w0 w' g s0_0 r2 r3 r4 r5 ∧ Below w0.heap.size w0 w' ∧ KeepBut w w' g none := by
 have HI0 := Aside0.mk hI
 have HK := Aside0.mk (KeepBut.refl w g none)
 have HL := Aside0.mk hB.size
 clear hI
 have HW0 := Aside0.mk hB.size
 have HB := Aside0.mk hB
 clear hB
 have H : ((T7must.f k s0_0 s0_1 s0_2 s0_3 s0_4 a1 (([a2] : List ByteArray))).bind fun bt138 => (some (bt138.1, bt138.2.1, bt138.2.2.1, bt138.2.2.2.1, bt138.2.2.2.2))) = some (r1, r2, r3, r4, r5) := h
 clear h
 obtain ⟨y135, hy135⟩ : ∃ y_ : List ByteArray, y_ = (([a2] : List ByteArray)) := ⟨_, rfl⟩
 replace H : ((T7must.f k s0_0 s0_1 s0_2 s0_3 s0_4 a1 y135).bind fun bt138 => (some (bt138.1, bt138.2.1, bt138.2.2.1, bt138.2.2.2.1, bt138.2.2.2.2))) = some (r1, r2, r3, r4, r5) := by first | (rw [hy135]; with_reducible exact H) | (have H2_ := (Option.bind_some _ _).symm.trans H; rw [hy135]; with_reducible exact H2_) | (have H2_ := (Option.bind_some _ _).symm.trans H; with_reducible exact H2_) | with_reducible exact H | (rw [hy135]; exact H) | exact H
 have Ny135 := Aside0.mk hy135
 clear hy135
 replace H := Option.bind_eq_some_iff.mp H
 obtain ⟨⟨t138, t139, t140, t141, t142⟩, A40, H⟩ := H
 replace H : (some (t138, t139, t140, t141, t142)) = some (r1, r2, r3, r4, r5) := H
 have A4 := Aside0.mk A40
 clear A40
 simp only [Option.some.injEq, Prod.mk.injEq] at H
 obtain ⟨rfl, rfl, rfl, rfl, rfl⟩ := H
 go_enter Tryz.func29, Tryz.ntmps29
 go_wp2_with (first | ((with_reducible refine gate_dst (N := 10) rfl ?_); refine Kd.R_lit Kd.string _ 9 ?hg (N := 10) ?hd (xs := ([a2] : List ByteArray)) (inner := [.string a2]) (ok := fun _ => True) (okp := fun _ => True) ?hr ?hp (fun _ hk => hk) trivial (Below.refl _ _) (Nat.le_refl _) (by simp) ?_; (case hd => rfl); (case hg => rfl); (case hr => first | (go_simp; done) | (go_simp; rfl)); (case hp => exact (Reps.one (show Kd.M Kd.string _ _ _ a2 [.string a2] from rfl) (Reps.none _ _))); intro v136 w5 ho6 hb hg_ hnew_; clear hg_ hnew_; (first | rw [← Ny135.out] at ho6 | (simp only [Int.reduceToNat] at ho6; rw [← Ny135.out] at ho6)); have n0_ := Aside0.mk (Kd.R_lower ho6 (keep_size (w := w) (g := g) (row := none) (by repeat (first | (with_reducible first | exact HK.out | apply KeepBut.set_ | apply keep_drewN | apply keep_drew | apply keep_alloc) | exact HK.out)))); have n1_ := Aside0.mk (IsS79.below (by repeat (first | (with_reducible first | exact HI0.out | apply IsS79.alloc | apply IsS79.drewN | apply IsS79.drew | apply IsS79.set_1 | apply IsS79.set_2 | apply IsS79.set_3 | apply IsS79.set_4) | exact HI0.out)) hb); have n2_ := Aside0.mk (KeepBut.trans (by repeat (first | (with_reducible first | exact HK.out | apply KeepBut.set_ | apply keep_drewN | apply keep_drew | apply keep_alloc) | exact HK.out)) (KeepBut.of_below hb g none) (.inl rfl)); have n3_ := Aside0.mk (below_step (by repeat (first | (with_reducible first | exact HB.out | apply below_alloc | apply pw_below_drewN | apply below_drew1 | refine below_set ?_ (IsS79.ge HI0.out)) | exact HB.out)) hb); clear HI0; clear HK; clear HB; have HO137 := n0_; have HI0 := n1_; have HK := n2_; have HB := n3_; clear n0_ n1_ n2_ n3_; clear hb ho6; obtain ⟨Ao7, co7, eo7⟩ := Kd.R_slice HO137.out; subst eo7) | ((with_reducible refine gate_callee (f := 58) rfl ?_); refine goesL_ (some 11) rfl rfl Tryz.func58 (by kernel_rfl) rfl #[.pointer (some ⟨g, 0, none⟩), .int .i64 a1, .slice Ao7 y135.length co7] rfl (by (try simp only [List.map_toArray, List.map_cons, List.map_nil]); first | done | rfl | (simp only [List.length_drop, List.length_take]; rfl)) ?_; (with_reducible refine (T7must.calls k g s0_0 s0_1 s0_2 s0_3 s0_4 a1 _ _ y135 t138 t139 t140 t141 t142 w0 _ ?side1 ?side2 ?side3 ?side4 ?side5 A4.out).mono ?_); (case side1 => repeat (first | (with_reducible first | exact HI0.out | apply IsS79.alloc | apply IsS79.drewN | apply IsS79.drew | apply IsS79.set_1 | apply IsS79.set_2 | apply IsS79.set_3 | apply IsS79.set_4) | exact HI0.out)); (case side2 => repeat (first | (with_reducible first | exact HB.out | apply below_alloc | apply pw_below_drewN | apply below_drew1 | refine below_set ?_ (IsS79.ge HI0.out)) | exact HB.out)); (case side3 => repeat (first | exact (Kd.R_reads' HO137.out).2.2 | (with_reducible refine Kd.C_alloc ?_ _) | (with_reducible refine Kd.C_drewN ?_ _) | (with_reducible refine Kd.C_drew ?_))); (case side4 => exact (Kd.R_reads' HO137.out).2.1); (case side5 => exact far_slice (IsS79.own_ne HI0.out HO137.out (by decide))); rintro e w8 ⟨rfl, hi, hb, hk⟩; refine ⟨_, rfl, ?_⟩; have n0_ := Aside0.mk (Kd.R_mono (Kd.R_keep (IsS79.apart (show IsS79 w0 _ g s0_0 s0_1 s0_2 s0_3 s0_4 from by repeat (first | (with_reducible first | exact HI0.out | apply IsS79.alloc | apply IsS79.drewN | apply IsS79.drew | apply IsS79.set_1 | apply IsS79.set_2 | apply IsS79.set_3 | apply IsS79.set_4) | exact HI0.out)) (by (with_reducible repeat (first | apply Kd.R_alloc | apply Kd.R_drewN | apply Kd.R_drew)); exact HO137.out) (by decide)) hk (fun _ h => h.2)) (fun _ h => h.1)); have n1_ := Aside0.mk (KeepBut.trans (by repeat (first | (with_reducible first | exact HK.out | apply KeepBut.set_ | apply keep_drewN | apply keep_drew | apply keep_alloc) | exact HK.out)) hk (.inl rfl)); have n2_ := Aside0.mk (hb); have n3_ := Aside0.mk (hi); clear HO137; clear HK; clear HB; clear HI0; have HO137 := n0_; have HK := n1_; have HB := n2_; have HI0 := n3_; clear n0_ n1_ n2_ n3_; (try clear hb); (try clear hb2); (try clear hk); (try clear hi)))
 go_ret
 exact ⟨by first | rfl | (simp [errW_none, errW_some] <;> rfl) | (simp [*, errW_none, errW_some] <;> rfl), by repeat (first | (with_reducible first | exact HI0.out | apply IsS79.alloc | apply IsS79.drewN | apply IsS79.drew | apply IsS79.set_1 | apply IsS79.set_2 | apply IsS79.set_3 | apply IsS79.set_4) | exact HI0.out), by repeat (first | (with_reducible first | exact HB.out | apply below_alloc | apply pw_below_drewN | apply below_drew1 | refine below_set ?_ (IsS79.ge HI0.out)) | exact HB.out), by repeat (first | (with_reducible first | exact HK.out | apply KeepBut.set_ | apply keep_drewN | apply keep_drew | apply keep_alloc) | exact HK.out)⟩
def T5Words.f  : Option (List ByteArray) := some (([(⟨#[99, 108, 97, 115, 115]⟩ : ByteArray), (⟨#[101, 120, 116, 101, 110, 100, 115]⟩ : ByteArray), (⟨#[105, 109, 112, 108, 101, 109, 101, 110, 116, 115]⟩ : ByteArray), (⟨#[105, 110, 116, 101, 114, 102, 97, 99, 101]⟩ : ByteArray), (⟨#[102, 105, 101, 108, 100]⟩ : ByteArray), (⟨#[115, 116, 97, 116, 105, 99]⟩ : ByteArray), (⟨#[109, 101, 116, 104, 111, 100]⟩ : ByteArray), (⟨#[105, 110, 105, 116]⟩ : ByteArray), (⟨#[109, 97, 105, 110]⟩ : ByteArray), (⟨#[118, 97, 114]⟩ : ByteArray), (⟨#[110, 101, 119]⟩ : ByteArray), (⟨#[110, 117, 108, 108]⟩ : ByteArray), (⟨#[105, 110, 112, 117, 116]⟩ : ByteArray), (⟨#[116, 104, 114, 111, 119]⟩ : ByteArray), (⟨#[116, 114, 121]⟩ : ByteArray), (⟨#[99, 97, 116, 99, 104]⟩ : ByteArray), (⟨#[105, 102]⟩ : ByteArray), (⟨#[101, 108, 115, 101]⟩ : ByteArray), (⟨#[119, 104, 105, 108, 101]⟩ : ByteArray), (⟨#[114, 101, 116, 117, 114, 110]⟩ : ByteArray), (⟨#[105, 110, 116]⟩ : ByteArray), (⟨#[118, 111, 105, 100]⟩ : ByteArray)] : List ByteArray))
set_option maxHeartbeats 8000000 in
set_option maxRecDepth 100000 in
theorem T5Words.calls  (r : List ByteArray) (w : World) (h : T5Words.f  = some r) :
   Calls Tryz.prog 156 #[] w fun e w' => ∃ v0_ : Value, e = .returned (v0_) ∧ Kd.R Kd.string 9 w' w.heap.size (fun _ => True) v0_ r ∧ Below w.heap.size w w' := by
 have HB := Aside0.mk (Below.refl w.heap.size w)
 have H : (some (([(⟨#[99, 108, 97, 115, 115]⟩ : ByteArray), (⟨#[101, 120, 116, 101, 110, 100, 115]⟩ : ByteArray), (⟨#[105, 109, 112, 108, 101, 109, 101, 110, 116, 115]⟩ : ByteArray), (⟨#[105, 110, 116, 101, 114, 102, 97, 99, 101]⟩ : ByteArray), (⟨#[102, 105, 101, 108, 100]⟩ : ByteArray), (⟨#[115, 116, 97, 116, 105, 99]⟩ : ByteArray), (⟨#[109, 101, 116, 104, 111, 100]⟩ : ByteArray), (⟨#[105, 110, 105, 116]⟩ : ByteArray), (⟨#[109, 97, 105, 110]⟩ : ByteArray), (⟨#[118, 97, 114]⟩ : ByteArray), (⟨#[110, 101, 119]⟩ : ByteArray), (⟨#[110, 117, 108, 108]⟩ : ByteArray), (⟨#[105, 110, 112, 117, 116]⟩ : ByteArray), (⟨#[116, 104, 114, 111, 119]⟩ : ByteArray), (⟨#[116, 114, 121]⟩ : ByteArray), (⟨#[99, 97, 116, 99, 104]⟩ : ByteArray), (⟨#[105, 102]⟩ : ByteArray), (⟨#[101, 108, 115, 101]⟩ : ByteArray), (⟨#[119, 104, 105, 108, 101]⟩ : ByteArray), (⟨#[114, 101, 116, 117, 114, 110]⟩ : ByteArray), (⟨#[105, 110, 116]⟩ : ByteArray), (⟨#[118, 111, 105, 100]⟩ : ByteArray)] : List ByteArray))) = some r := h
 clear h
 obtain ⟨y143, hy143⟩ : ∃ y_ : List ByteArray, y_ = (([(⟨#[99, 108, 97, 115, 115]⟩ : ByteArray), (⟨#[101, 120, 116, 101, 110, 100, 115]⟩ : ByteArray), (⟨#[105, 109, 112, 108, 101, 109, 101, 110, 116, 115]⟩ : ByteArray), (⟨#[105, 110, 116, 101, 114, 102, 97, 99, 101]⟩ : ByteArray), (⟨#[102, 105, 101, 108, 100]⟩ : ByteArray), (⟨#[115, 116, 97, 116, 105, 99]⟩ : ByteArray), (⟨#[109, 101, 116, 104, 111, 100]⟩ : ByteArray), (⟨#[105, 110, 105, 116]⟩ : ByteArray), (⟨#[109, 97, 105, 110]⟩ : ByteArray), (⟨#[118, 97, 114]⟩ : ByteArray), (⟨#[110, 101, 119]⟩ : ByteArray), (⟨#[110, 117, 108, 108]⟩ : ByteArray), (⟨#[105, 110, 112, 117, 116]⟩ : ByteArray), (⟨#[116, 104, 114, 111, 119]⟩ : ByteArray), (⟨#[116, 114, 121]⟩ : ByteArray), (⟨#[99, 97, 116, 99, 104]⟩ : ByteArray), (⟨#[105, 102]⟩ : ByteArray), (⟨#[101, 108, 115, 101]⟩ : ByteArray), (⟨#[119, 104, 105, 108, 101]⟩ : ByteArray), (⟨#[114, 101, 116, 117, 114, 110]⟩ : ByteArray), (⟨#[105, 110, 116]⟩ : ByteArray), (⟨#[118, 111, 105, 100]⟩ : ByteArray)] : List ByteArray)) := ⟨_, rfl⟩
 replace H : (some y143) = some r := by first | (rw [hy143]; with_reducible exact H) | (have H2_ := (Option.bind_some _ _).symm.trans H; rw [hy143]; with_reducible exact H2_) | (have H2_ := (Option.bind_some _ _).symm.trans H; with_reducible exact H2_) | with_reducible exact H | (rw [hy143]; exact H) | exact H
 have Ny143 := Aside0.mk hy143
 clear hy143
 obtain rfl := Option.some.inj H
 go_enter Tryz.func156, Tryz.ntmps156
 go_wp2_with (first | ((with_reducible refine gate_dst (N := 1) rfl ?_); refine Kd.R_lit Kd.string _ 9 ?hg (N := 1) ?hd (xs := ([(⟨#[99, 108, 97, 115, 115]⟩ : ByteArray), (⟨#[101, 120, 116, 101, 110, 100, 115]⟩ : ByteArray), (⟨#[105, 109, 112, 108, 101, 109, 101, 110, 116, 115]⟩ : ByteArray), (⟨#[105, 110, 116, 101, 114, 102, 97, 99, 101]⟩ : ByteArray), (⟨#[102, 105, 101, 108, 100]⟩ : ByteArray), (⟨#[115, 116, 97, 116, 105, 99]⟩ : ByteArray), (⟨#[109, 101, 116, 104, 111, 100]⟩ : ByteArray), (⟨#[105, 110, 105, 116]⟩ : ByteArray), (⟨#[109, 97, 105, 110]⟩ : ByteArray), (⟨#[118, 97, 114]⟩ : ByteArray), (⟨#[110, 101, 119]⟩ : ByteArray), (⟨#[110, 117, 108, 108]⟩ : ByteArray), (⟨#[105, 110, 112, 117, 116]⟩ : ByteArray), (⟨#[116, 104, 114, 111, 119]⟩ : ByteArray), (⟨#[116, 114, 121]⟩ : ByteArray), (⟨#[99, 97, 116, 99, 104]⟩ : ByteArray), (⟨#[105, 102]⟩ : ByteArray), (⟨#[101, 108, 115, 101]⟩ : ByteArray), (⟨#[119, 104, 105, 108, 101]⟩ : ByteArray), (⟨#[114, 101, 116, 117, 114, 110]⟩ : ByteArray), (⟨#[105, 110, 116]⟩ : ByteArray), (⟨#[118, 111, 105, 100]⟩ : ByteArray)] : List ByteArray)) (inner := [.string (⟨#[99, 108, 97, 115, 115]⟩ : ByteArray), .string (⟨#[101, 120, 116, 101, 110, 100, 115]⟩ : ByteArray), .string (⟨#[105, 109, 112, 108, 101, 109, 101, 110, 116, 115]⟩ : ByteArray), .string (⟨#[105, 110, 116, 101, 114, 102, 97, 99, 101]⟩ : ByteArray), .string (⟨#[102, 105, 101, 108, 100]⟩ : ByteArray), .string (⟨#[115, 116, 97, 116, 105, 99]⟩ : ByteArray), .string (⟨#[109, 101, 116, 104, 111, 100]⟩ : ByteArray), .string (⟨#[105, 110, 105, 116]⟩ : ByteArray), .string (⟨#[109, 97, 105, 110]⟩ : ByteArray), .string (⟨#[118, 97, 114]⟩ : ByteArray), .string (⟨#[110, 101, 119]⟩ : ByteArray), .string (⟨#[110, 117, 108, 108]⟩ : ByteArray), .string (⟨#[105, 110, 112, 117, 116]⟩ : ByteArray), .string (⟨#[116, 104, 114, 111, 119]⟩ : ByteArray), .string (⟨#[116, 114, 121]⟩ : ByteArray), .string (⟨#[99, 97, 116, 99, 104]⟩ : ByteArray), .string (⟨#[105, 102]⟩ : ByteArray), .string (⟨#[101, 108, 115, 101]⟩ : ByteArray), .string (⟨#[119, 104, 105, 108, 101]⟩ : ByteArray), .string (⟨#[114, 101, 116, 117, 114, 110]⟩ : ByteArray), .string (⟨#[105, 110, 116]⟩ : ByteArray), .string (⟨#[118, 111, 105, 100]⟩ : ByteArray)]) (ok := fun _ => True) (okp := fun _ => True) ?hr ?hp (fun _ hk => hk) trivial (Below.refl _ _) (Nat.le_refl _) (by simp) ?_; (case hd => rfl); (case hg => rfl); (case hr => first | (go_simp; done) | (go_simp; rfl)); (case hp => exact (Reps.one (show Kd.M Kd.string _ _ _ (⟨#[99, 108, 97, 115, 115]⟩ : ByteArray) [.string (⟨#[99, 108, 97, 115, 115]⟩ : ByteArray)] from rfl) (Reps.one (show Kd.M Kd.string _ _ _ (⟨#[101, 120, 116, 101, 110, 100, 115]⟩ : ByteArray) [.string (⟨#[101, 120, 116, 101, 110, 100, 115]⟩ : ByteArray)] from rfl) (Reps.one (show Kd.M Kd.string _ _ _ (⟨#[105, 109, 112, 108, 101, 109, 101, 110, 116, 115]⟩ : ByteArray) [.string (⟨#[105, 109, 112, 108, 101, 109, 101, 110, 116, 115]⟩ : ByteArray)] from rfl) (Reps.one (show Kd.M Kd.string _ _ _ (⟨#[105, 110, 116, 101, 114, 102, 97, 99, 101]⟩ : ByteArray) [.string (⟨#[105, 110, 116, 101, 114, 102, 97, 99, 101]⟩ : ByteArray)] from rfl) (Reps.one (show Kd.M Kd.string _ _ _ (⟨#[102, 105, 101, 108, 100]⟩ : ByteArray) [.string (⟨#[102, 105, 101, 108, 100]⟩ : ByteArray)] from rfl) (Reps.one (show Kd.M Kd.string _ _ _ (⟨#[115, 116, 97, 116, 105, 99]⟩ : ByteArray) [.string (⟨#[115, 116, 97, 116, 105, 99]⟩ : ByteArray)] from rfl) (Reps.one (show Kd.M Kd.string _ _ _ (⟨#[109, 101, 116, 104, 111, 100]⟩ : ByteArray) [.string (⟨#[109, 101, 116, 104, 111, 100]⟩ : ByteArray)] from rfl) (Reps.one (show Kd.M Kd.string _ _ _ (⟨#[105, 110, 105, 116]⟩ : ByteArray) [.string (⟨#[105, 110, 105, 116]⟩ : ByteArray)] from rfl) (Reps.one (show Kd.M Kd.string _ _ _ (⟨#[109, 97, 105, 110]⟩ : ByteArray) [.string (⟨#[109, 97, 105, 110]⟩ : ByteArray)] from rfl) (Reps.one (show Kd.M Kd.string _ _ _ (⟨#[118, 97, 114]⟩ : ByteArray) [.string (⟨#[118, 97, 114]⟩ : ByteArray)] from rfl) (Reps.one (show Kd.M Kd.string _ _ _ (⟨#[110, 101, 119]⟩ : ByteArray) [.string (⟨#[110, 101, 119]⟩ : ByteArray)] from rfl) (Reps.one (show Kd.M Kd.string _ _ _ (⟨#[110, 117, 108, 108]⟩ : ByteArray) [.string (⟨#[110, 117, 108, 108]⟩ : ByteArray)] from rfl) (Reps.one (show Kd.M Kd.string _ _ _ (⟨#[105, 110, 112, 117, 116]⟩ : ByteArray) [.string (⟨#[105, 110, 112, 117, 116]⟩ : ByteArray)] from rfl) (Reps.one (show Kd.M Kd.string _ _ _ (⟨#[116, 104, 114, 111, 119]⟩ : ByteArray) [.string (⟨#[116, 104, 114, 111, 119]⟩ : ByteArray)] from rfl) (Reps.one (show Kd.M Kd.string _ _ _ (⟨#[116, 114, 121]⟩ : ByteArray) [.string (⟨#[116, 114, 121]⟩ : ByteArray)] from rfl) (Reps.one (show Kd.M Kd.string _ _ _ (⟨#[99, 97, 116, 99, 104]⟩ : ByteArray) [.string (⟨#[99, 97, 116, 99, 104]⟩ : ByteArray)] from rfl) (Reps.one (show Kd.M Kd.string _ _ _ (⟨#[105, 102]⟩ : ByteArray) [.string (⟨#[105, 102]⟩ : ByteArray)] from rfl) (Reps.one (show Kd.M Kd.string _ _ _ (⟨#[101, 108, 115, 101]⟩ : ByteArray) [.string (⟨#[101, 108, 115, 101]⟩ : ByteArray)] from rfl) (Reps.one (show Kd.M Kd.string _ _ _ (⟨#[119, 104, 105, 108, 101]⟩ : ByteArray) [.string (⟨#[119, 104, 105, 108, 101]⟩ : ByteArray)] from rfl) (Reps.one (show Kd.M Kd.string _ _ _ (⟨#[114, 101, 116, 117, 114, 110]⟩ : ByteArray) [.string (⟨#[114, 101, 116, 117, 114, 110]⟩ : ByteArray)] from rfl) (Reps.one (show Kd.M Kd.string _ _ _ (⟨#[105, 110, 116]⟩ : ByteArray) [.string (⟨#[105, 110, 116]⟩ : ByteArray)] from rfl) (Reps.one (show Kd.M Kd.string _ _ _ (⟨#[118, 111, 105, 100]⟩ : ByteArray) [.string (⟨#[118, 111, 105, 100]⟩ : ByteArray)] from rfl) (Reps.none _ _)))))))))))))))))))))))); intro v144 w1 ho2 hb hg_ hnew_; clear hg_ hnew_; (first | rw [← Ny143.out] at ho2 | (simp only [Int.reduceToNat] at ho2; rw [← Ny143.out] at ho2)); have n0_ := Aside0.mk (Kd.R_lower ho2 (below_size (by repeat (first | (with_reducible first | exact HB.out | apply below_alloc | apply pw_below_drewN | apply below_drew1) | exact HB.out)))); have n1_ := Aside0.mk (below_step (by repeat (first | (with_reducible first | exact HB.out | apply below_alloc | apply pw_below_drewN | apply below_drew1) | exact HB.out)) hb); clear HB; have HO145 := n0_; have HB := n1_; clear n0_ n1_; clear hb ho2))
 go_ret
 exact ⟨_, by first | rfl | (simp [errW_none, errW_some] <;> rfl) | (simp [*, errW_none, errW_some] <;> rfl), by (with_reducible repeat (first | apply Kd.R_alloc | apply Kd.R_drewN | apply Kd.R_drew)); exact HO145.out, by repeat (first | (with_reducible first | exact HB.out | apply below_alloc | apply pw_below_drewN | apply below_drew1) | exact HB.out)⟩
def T5Keyword.l0 : Nat → ByteArray → List ByteArray → Int → Option (Bool)
 | 0, _, _, _ => none
 | k + 1, x0, x3, x4 => if x4 < (x3.length : Int) then (if 0 ≤ x4 then (if (rdOf ByteArray.empty x3 x4).toList = x0.toList then (some true) else (T5Keyword.l0 k x0 x3 (wrap64 (x4 + 1)))) else (none)) else (some false)
def T5Keyword.f (k : Nat) (a0 : ByteArray) : Option (Bool) := (T5Words.f).bind fun t146 => (T5Keyword.l0 k a0 t146 0)
set_option maxHeartbeats 8000000 in
set_option maxRecDepth 100000 in
theorem T5Keyword.calls (k : Nat) (a0 : ByteArray) (r : Bool) (w : World) (h : T5Keyword.f k a0 = some r) :
   Calls Tryz.prog 128 #[.string a0] w fun e w' => e = .returned (.bool r) ∧ Below w.heap.size w w' := by
 have HB := Aside0.mk (Below.refl w.heap.size w)
 have H : ((T5Words.f).bind fun t146 => (T5Keyword.l0 k a0 t146 0)) = some r := h
 clear h
 replace H := Option.bind_eq_some_iff.mp H
 obtain ⟨t146, A20, H⟩ := H
 replace H : (T5Keyword.l0 k a0 t146 0) = some r := H
 have A2 := Aside0.mk A20
 clear A20
 have H' := Aside0.mk H
 clear H
 go_enter Tryz.func128, Tryz.ntmps128
 go_wp2_with (first | ((with_reducible refine gate_callee (f := 156) rfl ?_); refine goesL_ (some 5) rfl rfl Tryz.func156 (by kernel_rfl) rfl #[] rfl (by (try simp only [List.map_toArray, List.map_cons, List.map_nil]); first | done | rfl | (simp only [List.length_drop, List.length_take]; rfl)) ?_; (with_reducible refine (T5Words.calls  t146 _ A2.out).mono ?_); rintro e w3 ⟨v147, rfl, ho0, hb⟩; refine ⟨_, rfl, ?_⟩; have n0_ := Aside0.mk (Kd.R_lower ho0 (below_size (by repeat (first | (with_reducible first | exact HB.out | apply below_alloc | apply pw_below_drewN | apply below_drew1) | exact HB.out)))); have n1_ := Aside0.mk (below_step (by repeat (first | (with_reducible first | exact HB.out | apply below_alloc | apply pw_below_drewN | apply below_drew1) | exact HB.out)) hb); clear HB; have HO148 := n0_; have HB := n1_; clear n0_ n1_; (try clear hb); (try clear hb2); (try clear hk); (try clear hi); (try clear ho0)))
 go_loopg [4] k (fun kq v4 w' => ∃ (x4_1 : Int), v4 = .int .i64 x4_1 ∧ Aside0 (T5Keyword.l0 kq a0 t146 x4_1 = some r) ∧ Aside0 (kq ≤ k) ∧ Aside0 (Kd.R Kd.string 9 w' w.heap.size (fun _ => True) v147 t146) ∧ Aside0 (Below w.heap.size w w'))
 case atStart => exact ⟨(0), (by first | rfl | (simp; done) | (simp [*]; done)), H', ⟨Nat.le_refl _⟩, ⟨by (with_reducible repeat (first | apply Kd.R_alloc | apply Kd.R_drewN | apply Kd.R_drew)); exact HO148.out⟩, ⟨by repeat (first | (with_reducible first | exact HB.out | apply below_alloc | apply pw_below_drewN | apply below_drew1) | exact HB.out)⟩⟩
 case round =>
   clear H'
   try clear c1
   try clear p2
   obtain ⟨x4_1, rfl, HA, HK1, HO_3, HB⟩ := hrel
   cases gk with
   | zero => exact absurd HA.out (by simp [T5Keyword.l0])
   | succ k1 =>
     have H := HA.out
     clear HA
     simp only [T5Keyword.l0] at H
     by_cases c4 : x4_1 < (t146.length : Int)
     · rw [if_pos c4] at H
       have c4b0 : decide (x4_1 < (t146.length : Int)) = true := decide_eq_true c4
       clear c4
       by_cases c5 : 0 ≤ x4_1
       · rw [if_pos c5] at H
         have c5b0 : decide (0 ≤ x4_1) = true := decide_eq_true c5
         clear c5
         by_cases c6 : (rdOf ByteArray.empty t146 x4_1).toList = a0.toList
         · rw [if_pos c6] at H
           have c6b0 : ((rdOf ByteArray.empty t146 x4_1).toList == a0.toList) = true := beq_iff_eq.mpr c6
           have c6b1 : ((rdOf ByteArray.empty t146 x4_1).toList != a0.toList) = false := bne_eq_false_iff_eq.mpr c6
           clear c6
           obtain rfl := Option.some.inj H
           obtain ⟨Ao7, co7, eo7⟩ := Kd.R_slice HO_3.out
           subst eo7
           have p149 : 0 ≤ (x4_1 : Int) := of_decide_eq_true (by first | (with_reducible assumption) | assumption)
           have q149 : x4_1 < (t146.length : Int) := of_decide_eq_true (by first | (with_reducible assumption) | assumption)
           obtain ⟨ad149, e149, hx149_0⟩ := Kd.at_string (Kd.R_reads' HO_3.out).2.2 x4_1 p149 q149
           cases e149
           replace p149 := eq_true p149
           replace q149 := eq_true q149
           go_wp2
           go_ret
           exact ⟨by first | rfl | (simp [errW_none, errW_some] <;> rfl) | (simp [*, errW_none, errW_some] <;> rfl), by repeat (first | (with_reducible first | exact HB.out | apply below_alloc | apply pw_below_drewN | apply below_drew1) | exact HB.out)⟩
         · rw [if_neg c6] at H
           have c6b0 : ((rdOf ByteArray.empty t146 x4_1).toList == a0.toList) = false := beq_eq_false_iff_ne.mpr c6
           have c6b1 : ((rdOf ByteArray.empty t146 x4_1).toList != a0.toList) = true := bne_iff_ne.mpr c6
           have H' := Aside0.mk H
           clear H
           obtain ⟨Ao8, co8, eo8⟩ := Kd.R_slice HO_3.out
           subst eo8
           have p149 : 0 ≤ (x4_1 : Int) := of_decide_eq_true (by first | (with_reducible assumption) | assumption)
           have q149 : x4_1 < (t146.length : Int) := of_decide_eq_true (by first | (with_reducible assumption) | assumption)
           obtain ⟨ad149, e149, hx149_0⟩ := Kd.at_string (Kd.R_reads' HO_3.out).2.2 x4_1 p149 q149
           cases e149
           replace p149 := eq_true p149
           replace q149 := eq_true q149
           go_wp2
           go_roundg k1
           case measure => have := HK1.out; omega
           case rel => exact ⟨(wrap64 (x4_1 + 1)), (by first | rfl | (simp; done) | (simp [*]; done)), H', ⟨by have := HK1.out; omega⟩, ⟨by (with_reducible repeat (first | apply Kd.R_alloc | apply Kd.R_drewN | apply Kd.R_drew)); exact HO_3.out⟩, ⟨by repeat (first | (with_reducible first | exact HB.out | apply below_alloc | apply pw_below_drewN | apply below_drew1) | exact HB.out)⟩⟩
       · rw [if_neg c5] at H
         exact absurd H (by simp)
     · rw [if_neg c4] at H
       have c4b0 : decide (x4_1 < (t146.length : Int)) = false := decide_eq_false c4
       clear c4
       obtain rfl := Option.some.inj H
       obtain ⟨Ao9, co9, eo9⟩ := Kd.R_slice HO_3.out
       subst eo9
       go_wp2
       go_ret
       exact ⟨by first | rfl | (simp [errW_none, errW_some] <;> rfl) | (simp [*, errW_none, errW_some] <;> rfl), by repeat (first | (with_reducible first | exact HB.out | apply below_alloc | apply pw_below_drewN | apply below_drew1) | exact HB.out)⟩
mutual
def T5Name.j0 : Nat → ByteArray → Bool → Option (Bool)
 | 0, _, _ => none
 | k + 1, x0, x20 => if x20 = true then (some false) else (T5Name.l0 k x0 0)
def T5Name.l0 : Nat → ByteArray → Int → Option (Bool)
 | 0, _, _ => none
 | k + 1, x0, x3 => if x3 < (x0.size : Int) then (if 0 ≤ x3 then ((T5Kind.f k (bt x0 x3)).bind fun t152 => (if t152 > 1 then (some false) else (T5Name.l0 k x0 (wrap64 (x3 + 1))))) else (none)) else (some true)
end
def T5Name.f (k : Nat) (a0 : ByteArray) : Option (Bool) := if a0.toList = ([] : List UInt8) then (T5Name.j0 k a0 true) else (if (a0.size : Int) > 32 then (T5Name.j0 k a0 true) else (if 0 < (a0.size : Int) then ((T5Kind.f k (bt a0 0)).bind fun t150 => (if t150 = 0 then ((T5Keyword.f k a0).bind fun t151 => (T5Name.j0 k a0 t151)) else (T5Name.j0 k a0 true))) else (none)))
set_option maxHeartbeats 8000000 in
set_option maxRecDepth 100000 in
theorem T5Name.calls (k : Nat) (a0 : ByteArray) (r : Bool) (w : World) (h : T5Name.f k a0 = some r) :
   Calls Tryz.prog 95 #[.string a0] w fun e w' => e = .returned (.bool r) ∧ Below w.heap.size w w' := by
 have HB := Aside0.mk (Below.refl w.heap.size w)
 have H : (if a0.toList = ([] : List UInt8) then (T5Name.j0 k a0 true) else (if (a0.size : Int) > 32 then (T5Name.j0 k a0 true) else (if 0 < (a0.size : Int) then ((T5Kind.f k (bt a0 0)).bind fun t150 => (if t150 = 0 then ((T5Keyword.f k a0).bind fun t151 => (T5Name.j0 k a0 t151)) else (T5Name.j0 k a0 true))) else (none)))) = some r := h
 clear h
 have HC2 := Aside0.mk H
 clear H
 go_enter Tryz.func95, Tryz.ntmps95
 go_upto_region 1 with (fail)
 go_cut [20] (fun v20 wc => ∃ (kq : Nat) (x20_1 : Bool), v20 = .bool x20_1 ∧ Aside0 (T5Name.j0 kq a0 x20_1 = some r) ∧ Aside0 (kq ≤ k) ∧ Aside0 (Below w.heap.size w wc))
 case first =>
   have H := HC2.out
   clear HC2
   by_cases c3 : a0.toList = ([] : List UInt8)
   · rw [if_pos c3] at H
     have c3b0 : (a0.toList == ([] : List UInt8)) = true := beq_iff_eq.mpr c3
     have c3b1 : (a0.toList != ([] : List UInt8)) = false := bne_eq_false_iff_eq.mpr c3
     clear c3
     (first | rw [c3b0] | (simp only [i64_w, i32_w]; rw [c3b0]) | skip)
     have H' := Aside0.mk H
     clear H
     go_wp2
     go_meet
     case rel => exact ⟨_, (true), (by first | rfl | (simp; done) | (simp [*]; done)), H', ⟨by first | omega | exact Nat.le_refl _⟩, ⟨by repeat (first | (with_reducible first | exact HB.out | apply below_alloc | apply pw_below_drewN | apply below_drew1) | exact HB.out)⟩⟩
   · rw [if_neg c3] at H
     have c3b0 : (a0.toList == ([] : List UInt8)) = false := beq_eq_false_iff_ne.mpr c3
     have c3b1 : (a0.toList != ([] : List UInt8)) = true := bne_iff_ne.mpr c3
     (first | rw [c3b0] | (simp only [i64_w, i32_w]; rw [c3b0]) | skip)
     by_cases c4 : (a0.size : Int) > 32
     · rw [if_pos c4] at H
       have c4b0 : decide (32 < (a0.size : Int)) = true := decide_eq_true c4
       have c4b1 : decide (32 < a0.size) = true := decide_eq_true (by omega)
       clear c4
       have H' := Aside0.mk H
       clear H
       go_wp2
       go_meet
       case rel => exact ⟨_, (true), (by first | rfl | (simp; done) | (simp [*]; done)), H', ⟨by first | omega | exact Nat.le_refl _⟩, ⟨by repeat (first | (with_reducible first | exact HB.out | apply below_alloc | apply pw_below_drewN | apply below_drew1) | exact HB.out)⟩⟩
     · rw [if_neg c4] at H
       have c4b0 : decide (32 < (a0.size : Int)) = false := decide_eq_false c4
       have c4b1 : decide (32 < a0.size) = false := decide_eq_false (by omega)
       clear c4
       by_cases c5 : 0 < (a0.size : Int)
       · rw [if_pos c5] at H
         have c5b0 : decide (0 < (a0.size : Int)) = true := decide_eq_true c5
         have c5b1 : decide (0 < a0.size) = true := decide_eq_true (by omega)
         clear c5
         replace H := Option.bind_eq_some_iff.mp H
         obtain ⟨t150, A70, H⟩ := H
         replace H : (if t150 = 0 then ((T5Keyword.f k a0).bind fun t151 => (T5Name.j0 k a0 t151)) else (T5Name.j0 k a0 true)) = some r := H
         have A7 := Aside0.mk A70
         clear A70
         by_cases c8 : t150 = 0
         · rw [if_pos c8] at H
           have c8b0 : (t150 == 0) = true := beq_iff_eq.mpr c8
           have c8b1 : (t150 != 0) = false := bne_eq_false_iff_eq.mpr c8
           clear c8
           replace H := Option.bind_eq_some_iff.mp H
           obtain ⟨t151, A90, H⟩ := H
           replace H : (T5Name.j0 k a0 t151) = some r := H
           have A9 := Aside0.mk A90
           clear A90
           have H' := Aside0.mk H
           clear H
           have p6 : 0 ≤ (0 : Int) := (by omega)
           have q6 : 0 < a0.size := (by have : (0 : Int) < (a0.size : Int) := of_decide_eq_true (by first | (with_reducible assumption) | assumption); omega)
           have hx6 : ∀ h : 0 < a0.size, ((a0[0]'h).toNat : Int) = bt a0 0 := bt_at a0 0
           clear p6
           have qi6 : (0 < (a0.size : Int)) = True := eq_true (of_decide_eq_true (by first | (with_reducible assumption) | assumption))
           replace q6 := eq_true q6
           go_wp2_with (first | (go_at_call 127; (with_reducible refine (T5Kind.calls k (bt a0 0) t150 _ A7.out).mono ?_); rintro e w' ⟨rfl, ⟨nd, rfl⟩⟩) | (go_at_call 128; (with_reducible refine (T5Keyword.calls k a0 t151 _ A9.out).mono ?_); rintro e w10 ⟨rfl, hb⟩; have n0_ := Aside0.mk (below_step (by repeat (first | (with_reducible first | exact HB.out | apply below_alloc | apply pw_below_drewN | apply below_drew1) | exact HB.out)) hb); clear HB; have HB := n0_; clear n0_; (try clear hb); (try clear hb2); (try clear hk); (try clear hi)))
           go_meet
           case rel => exact ⟨_, (t151), (by first | rfl | (simp; done) | (simp [*]; done)), H', ⟨by first | omega | exact Nat.le_refl _⟩, ⟨by repeat (first | (with_reducible first | exact HB.out | apply below_alloc | apply pw_below_drewN | apply below_drew1) | exact HB.out)⟩⟩
         · rw [if_neg c8] at H
           have c8b0 : (t150 == 0) = false := beq_eq_false_iff_ne.mpr c8
           have c8b1 : (t150 != 0) = true := bne_iff_ne.mpr c8
           have H' := Aside0.mk H
           clear H
           have p6 : 0 ≤ (0 : Int) := (by omega)
           have q6 : 0 < a0.size := (by have : (0 : Int) < (a0.size : Int) := of_decide_eq_true (by first | (with_reducible assumption) | assumption); omega)
           have hx6 : ∀ h : 0 < a0.size, ((a0[0]'h).toNat : Int) = bt a0 0 := bt_at a0 0
           clear p6
           have qi6 : (0 < (a0.size : Int)) = True := eq_true (of_decide_eq_true (by first | (with_reducible assumption) | assumption))
           replace q6 := eq_true q6
           go_wp2_with (first | (go_at_call 127; (with_reducible refine (T5Kind.calls k (bt a0 0) t150 _ A7.out).mono ?_); rintro e w' ⟨rfl, ⟨nd, rfl⟩⟩))
           go_meet
           case rel => exact ⟨_, (true), (by first | rfl | (simp; done) | (simp [*]; done)), H', ⟨by first | omega | exact Nat.le_refl _⟩, ⟨by repeat (first | (with_reducible first | exact HB.out | apply below_alloc | apply pw_below_drewN | apply below_drew1) | exact HB.out)⟩⟩
       · rw [if_neg c5] at H
         exact absurd H (by simp)
 case rest =>
   clear HC2
   try clear p2
   try clear c3
   try clear c3b0
   try clear c3b1
   try clear c4
   try clear c4b0
   try clear c4b1
   try clear c5
   try clear c5b0
   try clear c5b1
   try clear p6
   try clear q6
   try clear hx6
   try clear qi6
   try clear c8
   try clear c8b0
   try clear c8b1
   try clear c9
   try clear p6
   try clear q6
   obtain ⟨kq, x20_1, rfl, HA, HJ1, HB⟩ := hcut
   cases kq with
   | zero => exact absurd HA.out (by simp [T5Name.j0])
   | succ kj1 =>
     have H := HA.out
     clear HA
     simp only [T5Name.j0] at H
     by_cases c11 : x20_1 = true
     · subst c11
       have H1 : (some false) = some r := by rw [if_pos rfl] at H; exact H
       clear H
       have H := H1
       clear H1
       obtain rfl := Option.some.inj H
       go_wp2
       go_ret
       exact ⟨by first | rfl | (simp [errW_none, errW_some] <;> rfl) | (simp [*, errW_none, errW_some] <;> rfl), by repeat (first | (with_reducible first | exact HB.out | apply below_alloc | apply pw_below_drewN | apply below_drew1) | exact HB.out)⟩
     · replace c11 := Bool.eq_false_iff.mpr c11
       subst c11
       have H1 : (T5Name.l0 kj1 a0 0) = some r := by rw [if_neg (show ¬ (false = true) by decide)] at H; exact H
       clear H
       have H := H1
       clear H1
       have H' := Aside0.mk H
       clear H
       go_wp2
       go_loopg [3] kj1 (fun kq v3 w' => ∃ (x3_2 : Int), v3 = .int .i64 x3_2 ∧ Aside0 (T5Name.l0 kq a0 x3_2 = some r) ∧ Aside0 (kq ≤ kj1) ∧ Aside0 (Below w.heap.size w w'))
       case atStart => exact ⟨(0), (by first | rfl | (simp; done) | (simp [*]; done)), H', ⟨Nat.le_refl _⟩, ⟨by repeat (first | (with_reducible first | exact HB.out | apply below_alloc | apply pw_below_drewN | apply below_drew1) | exact HB.out)⟩⟩
       case round =>
         clear H'
         try clear c1
         try clear p2
         try clear c3
         try clear c3b0
         try clear c3b1
         try clear c4
         try clear c4b0
         try clear c4b1
         try clear c5
         try clear c5b0
         try clear c5b1
         try clear p6
         try clear q6
         try clear hx6
         try clear qi6
         try clear c8
         try clear c8b0
         try clear c8b1
         try clear c9
         try clear c11
         try clear p2
         try clear p6
         try clear q6
         obtain ⟨x3_2, rfl, HA, HK2, HB⟩ := hrel
         cases gk with
         | zero => exact absurd HA.out (by simp [T5Name.l0])
         | succ k2 =>
           have H := HA.out
           clear HA
           simp only [T5Name.l0] at H
           by_cases c12 : x3_2 < (a0.size : Int)
           · rw [if_pos c12] at H
             have c12b0 : decide (x3_2 < (a0.size : Int)) = true := decide_eq_true c12
             clear c12
             by_cases c13 : 0 ≤ x3_2
             · rw [if_pos c13] at H
               have c13b0 : decide (0 ≤ x3_2) = true := decide_eq_true c13
               clear c13
               replace H := Option.bind_eq_some_iff.mp H
               obtain ⟨t152, A150, H⟩ := H
               replace H : (if t152 > 1 then (some false) else (T5Name.l0 k2 a0 (wrap64 (x3_2 + 1)))) = some r := H
               have A15 := Aside0.mk A150
               clear A150
               by_cases c16 : t152 > 1
               · rw [if_pos c16] at H
                 have c16b0 : decide (1 < t152) = true := decide_eq_true c16
                 clear c16
                 obtain rfl := Option.some.inj H
                 have p14 : 0 ≤ (x3_2 : Int) := of_decide_eq_true (by first | (with_reducible assumption) | assumption)
                 have q14 : x3_2 < (a0.size : Int) := of_decide_eq_true (by first | (with_reducible assumption) | assumption)
                 have hx14 := bt_at a0 x3_2
                 replace p14 := eq_true p14
                 replace q14 := eq_true q14
                 go_wp2_with (first | ((with_reducible refine gate_callee (f := 127) rfl ?_); refine goesL_ (some 30) rfl rfl Tryz.func127 (by kernel_rfl) rfl #[.int .u8 (bt a0 x3_2)] rfl (by (try simp only [List.map_toArray, List.map_cons, List.map_nil]); first | done | rfl | (simp only [List.length_drop, List.length_take]; rfl)) ?_; (with_reducible refine (T5Kind.calls k2 (bt a0 x3_2) t152 _ A15.out).mono ?_); rintro e w' ⟨rfl, ⟨nd, rfl⟩⟩; refine ⟨_, rfl, ?_⟩))
                 go_ret
                 exact ⟨by first | rfl | (simp [errW_none, errW_some] <;> rfl) | (simp [*, errW_none, errW_some] <;> rfl), by repeat (first | (with_reducible first | exact HB.out | apply below_alloc | apply pw_below_drewN | apply below_drew1) | exact HB.out)⟩
               · rw [if_neg c16] at H
                 have c16b0 : decide (1 < t152) = false := decide_eq_false c16
                 clear c16
                 have H' := Aside0.mk H
                 clear H
                 have p14 : 0 ≤ (x3_2 : Int) := of_decide_eq_true (by first | (with_reducible assumption) | assumption)
                 have q14 : x3_2 < (a0.size : Int) := of_decide_eq_true (by first | (with_reducible assumption) | assumption)
                 have hx14 := bt_at a0 x3_2
                 replace p14 := eq_true p14
                 replace q14 := eq_true q14
                 go_wp2_with (first | ((with_reducible refine gate_callee (f := 127) rfl ?_); refine goesL_ (some 30) rfl rfl Tryz.func127 (by kernel_rfl) rfl #[.int .u8 (bt a0 x3_2)] rfl (by (try simp only [List.map_toArray, List.map_cons, List.map_nil]); first | done | rfl | (simp only [List.length_drop, List.length_take]; rfl)) ?_; (with_reducible refine (T5Kind.calls k2 (bt a0 x3_2) t152 _ A15.out).mono ?_); rintro e w' ⟨rfl, ⟨nd, rfl⟩⟩; refine ⟨_, rfl, ?_⟩))
                 go_roundg k2
                 case measure => have := HJ1.out; have := HK2.out; omega
                 case rel => exact ⟨(wrap64 (x3_2 + 1)), (by first | rfl | (simp; done) | (simp [*]; done)), H', ⟨by have := HJ1.out; have := HK2.out; omega⟩, ⟨by repeat (first | (with_reducible first | exact HB.out | apply below_alloc | apply pw_below_drewN | apply below_drew1) | exact HB.out)⟩⟩
             · rw [if_neg c13] at H
               exact absurd H (by simp)
           · rw [if_neg c12] at H
             have c12b0 : decide (x3_2 < (a0.size : Int)) = false := decide_eq_false c12
             clear c12
             obtain rfl := Option.some.inj H
             go_wp2
             go_ret
             exact ⟨by first | rfl | (simp [errW_none, errW_some] <;> rfl) | (simp [*, errW_none, errW_some] <;> rfl), by repeat (first | (with_reducible first | exact HB.out | apply below_alloc | apply pw_below_drewN | apply below_drew1) | exact HB.out)⟩
end Go.Proofs.YtgjpgfedlgdjhaaGreatDoor.PC
end
