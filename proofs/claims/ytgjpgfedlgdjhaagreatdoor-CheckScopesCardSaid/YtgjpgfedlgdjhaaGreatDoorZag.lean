/- What the claim uses: part 7. -/
import Derived.Test.YtgjpgfedlgdjhaaGreatDoorZae
import Derived.Test.YtgjpgfedlgdjhaaGreatDoorZaf
section
namespace Go.Proofs.YtgjpgfedlgdjhaaGreatDoor.PC
open Go.RowKit Go.Proofs.YtgjpgfedlgdjhaaGreatDoorW.PrintWords Go.Proofs.YtgjpgfedlgdjhaaGreatDoorW.PrintLast Go.Proofs.YtgjpgfedlgdjhaaGreatDoorW.PrintMore
set_option linter.unusedVariables false
set_option linter.unusedSimpArgs false
mutual
def T5end.l0 : Nat → ByteArray → Int → Int → Option (Int × Int × Int)
 | 0, _, _, _ => none
 | k + 1, x0, x1, x8 => if x8 < (x0.size : Int) then (if 0 ≤ x8 then ((T5Kind.f k (bt x0 x8)).bind fun t102 => (if t102 ≤ 1 then (T5end.l0 k x0 x1 (wrap64 (x8 + 1))) else (if (wrap64 (x8 - x1)) > 32 then (some (x8, 0, 13)) else (some (x8, 0, 0))))) else (none)) else (if (wrap64 (x8 - x1)) > 32 then (some (x8, 0, 13)) else (some (x8, 0, 0)))
def T5end.l1 : Nat → ByteArray → Int → Int → Option (Int × Int × Int)
 | 0, _, _, _ => none
 | k + 1, x0, x1, x8 => if x8 < (x0.size : Int) then (if 0 ≤ x8 then ((T5Kind.f k (bt x0 x8)).bind fun t103 => (if t103 = 1 then (T5end.l1 k x0 x1 (wrap64 (x8 + 1))) else (if (wrap64 (x8 - x1)) > 3 then (some (x8, 1, 13)) else (some (x8, 1, 0))))) else (none)) else (if (wrap64 (x8 - x1)) > 3 then (some (x8, 1, 13)) else (some (x8, 1, 0)))
def T5end.l2 : Nat → ByteArray → Int → Option (Int × Int × Int)
 | 0, _, _ => none
 | k + 1, x0, x8 => if x8 < (x0.size : Int) then (if 0 ≤ x8 then (if (bt x0 x8) = 10 then (some (x8, (-1), 0)) else (T5end.l2 k x0 (wrap64 (x8 + 1)))) else (none)) else (some (x8, (-1), 0))
end
def T5end.f (k : Nat) (a0 : ByteArray) (a1 : Int) : Option (Int × Int × Int) := if 0 ≤ a1 then (if a1 < (a0.size : Int) then ((T5Kind.f k (bt a0 a1)).bind fun t101 => (if t101 = 0 then (T5end.l0 k a0 a1 (wrap64 (a1 + 1))) else (if t101 = 1 then (T5end.l1 k a0 a1 (wrap64 (a1 + 1))) else (if t101 = 2 then (some (wrap64 (a1 + 1), 2, 0)) else (if t101 = 3 then (some (wrap64 (a1 + 1), (-1), 0)) else (if t101 = 4 then (T5end.l2 k a0 (wrap64 (a1 + 1))) else (if t101 = 5 then (if (wrap64 (a1 + 1)) < (a0.size : Int) then (if 0 ≤ (wrap64 (a1 + 1)) then (if (bt a0 (wrap64 (a1 + 1))) = 58 then (some (wrap64 ((wrap64 (a1 + 1)) + 1), 2, 0)) else (some (wrap64 (a1 + 1), (-1), 10))) else (none)) else (some (wrap64 (a1 + 1), (-1), 10))) else (some (wrap64 (a1 + 1), (-1), 10))))))))) else (none)) else (none)
set_option maxHeartbeats 8000000 in
set_option maxRecDepth 100000 in
theorem T5end.calls (k : Nat) (a0 : ByteArray) (a1 : Int) (r1 : Int) (r2 : Int) (r3 : Int) (w : World) (h : T5end.f k a0 a1 = some (r1, r2, r3)) :
   Calls Tryz.prog 93 #[.string a0, .int .i64 a1] w fun e w' => e = .returned (.tuple #[.int .i64 r1, .int .i64 r2, .int .i64 r3]) ∧ Drawn0 w w' := by
 have H : (if 0 ≤ a1 then (if a1 < (a0.size : Int) then ((T5Kind.f k (bt a0 a1)).bind fun t101 => (if t101 = 0 then (T5end.l0 k a0 a1 (wrap64 (a1 + 1))) else (if t101 = 1 then (T5end.l1 k a0 a1 (wrap64 (a1 + 1))) else (if t101 = 2 then (some (wrap64 (a1 + 1), 2, 0)) else (if t101 = 3 then (some (wrap64 (a1 + 1), (-1), 0)) else (if t101 = 4 then (T5end.l2 k a0 (wrap64 (a1 + 1))) else (if t101 = 5 then (if (wrap64 (a1 + 1)) < (a0.size : Int) then (if 0 ≤ (wrap64 (a1 + 1)) then (if (bt a0 (wrap64 (a1 + 1))) = 58 then (some (wrap64 ((wrap64 (a1 + 1)) + 1), 2, 0)) else (some (wrap64 (a1 + 1), (-1), 10))) else (none)) else (some (wrap64 (a1 + 1), (-1), 10))) else (some (wrap64 (a1 + 1), (-1), 10))))))))) else (none)) else (none)) = some (r1, r2, r3) := h
 clear h
 by_cases c3 : 0 ≤ a1
 · rw [if_pos c3] at H
   have c3b0 : decide (0 ≤ a1) = true := decide_eq_true c3
   clear c3
   by_cases c4 : a1 < (a0.size : Int)
   · rw [if_pos c4] at H
     have c4b0 : decide (a1 < (a0.size : Int)) = true := decide_eq_true c4
     clear c4
     replace H := Option.bind_eq_some_iff.mp H
     obtain ⟨t101, A60, H⟩ := H
     replace H : (if t101 = 0 then (T5end.l0 k a0 a1 (wrap64 (a1 + 1))) else (if t101 = 1 then (T5end.l1 k a0 a1 (wrap64 (a1 + 1))) else (if t101 = 2 then (some (wrap64 (a1 + 1), 2, 0)) else (if t101 = 3 then (some (wrap64 (a1 + 1), (-1), 0)) else (if t101 = 4 then (T5end.l2 k a0 (wrap64 (a1 + 1))) else (if t101 = 5 then (if (wrap64 (a1 + 1)) < (a0.size : Int) then (if 0 ≤ (wrap64 (a1 + 1)) then (if (bt a0 (wrap64 (a1 + 1))) = 58 then (some (wrap64 ((wrap64 (a1 + 1)) + 1), 2, 0)) else (some (wrap64 (a1 + 1), (-1), 10))) else (none)) else (some (wrap64 (a1 + 1), (-1), 10))) else (some (wrap64 (a1 + 1), (-1), 10)))))))) = some (r1, r2, r3) := H
     have A6 := Aside0.mk A60
     clear A60
     by_cases c7 : t101 = 0
     · rw [if_pos c7] at H
       have c7b0 : (t101 == 0) = true := beq_iff_eq.mpr c7
       have c7b1 : (t101 != 0) = false := bne_eq_false_iff_eq.mpr c7
       clear c7
       have H' := Aside0.mk H
       clear H
       have p5 : 0 ≤ (a1 : Int) := of_decide_eq_true (by first | (with_reducible assumption) | assumption)
       have q5 : a1 < (a0.size : Int) := of_decide_eq_true (by first | (with_reducible assumption) | assumption)
       have hx5 := bt_at a0 a1
       replace p5 := eq_true p5
       replace q5 := eq_true q5
       go_enter Tryz.func93, Tryz.ntmps93
       go_wp2_with (first | ((with_reducible refine gate_callee (f := 127) rfl ?_); refine goesL_ (some 12) rfl rfl Tryz.func127 (by kernel_rfl) rfl #[.int .u8 (bt a0 a1)] rfl (by (try simp only [List.map_toArray, List.map_cons, List.map_nil]); first | done | rfl | (simp only [List.length_drop, List.length_take]; rfl)) ?_; (with_reducible refine (T5Kind.calls k (bt a0 a1) t101 _ A6.out).mono ?_); rintro e w' ⟨rfl, ⟨nd, rfl⟩⟩; refine ⟨_, rfl, ?_⟩))
       go_loopg [8] k (fun kq v8 w' => ∃ (x8_1 : Int), v8 = .int .i64 x8_1 ∧ Aside0 (T5end.l0 kq a0 a1 x8_1 = some (r1, r2, r3)) ∧ Aside0 (kq ≤ k) ∧ Drawn0 w w')
       case atStart => exact ⟨(wrap64 (a1 + 1)), (by first | rfl | (simp; done) | (simp [*]; done)), H', ⟨Nat.le_refl _⟩, by repeat (first | exact Drawn0.refl _ | apply Drawn0.step)⟩
       case round =>
         clear H'
         try clear c1
         try clear p2
         try clear c3
         try clear c3b0
         try clear c4
         try clear c4b0
         try clear p5
         try clear q5
         try clear hx5
         try clear p6
         try clear c7
         try clear c7b0
         try clear c7b1
         try clear p5
         try clear q5
         obtain ⟨x8_1, rfl, HA, HK1, ⟨m1, rfl⟩⟩ := hrel
         cases gk with
         | zero => exact absurd HA.out (by simp [T5end.l0])
         | succ k1 =>
           have H := HA.out
           clear HA
           simp only [T5end.l0] at H
           by_cases c8 : x8_1 < (a0.size : Int)
           · rw [if_pos c8] at H
             have c8b0 : decide (x8_1 < (a0.size : Int)) = true := decide_eq_true c8
             clear c8
             by_cases c9 : 0 ≤ x8_1
             · rw [if_pos c9] at H
               have c9b0 : decide (0 ≤ x8_1) = true := decide_eq_true c9
               clear c9
               replace H := Option.bind_eq_some_iff.mp H
               obtain ⟨t102, A110, H⟩ := H
               replace H : (if t102 ≤ 1 then (T5end.l0 k1 a0 a1 (wrap64 (x8_1 + 1))) else (if (wrap64 (x8_1 - a1)) > 32 then (some (x8_1, 0, 13)) else (some (x8_1, 0, 0)))) = some (r1, r2, r3) := H
               have A11 := Aside0.mk A110
               clear A110
               by_cases c12 : t102 ≤ 1
               · rw [if_pos c12] at H
                 have c12b0 : decide (t102 ≤ 1) = true := decide_eq_true c12
                 clear c12
                 have H' := Aside0.mk H
                 clear H
                 have p10 : 0 ≤ (x8_1 : Int) := of_decide_eq_true (by first | (with_reducible assumption) | assumption)
                 have q10 : x8_1 < (a0.size : Int) := of_decide_eq_true (by first | (with_reducible assumption) | assumption)
                 have hx10 := bt_at a0 x8_1
                 replace p10 := eq_true p10
                 replace q10 := eq_true q10
                 go_wp2_with (first | (go_at_call 127; (with_reducible refine (T5Kind.calls k1 (bt a0 x8_1) t102 _ A11.out).mono ?_); rintro e w' ⟨rfl, ⟨nd, rfl⟩⟩))
                 go_roundg k1
                 case measure => have := HK1.out; omega
                 case rel => exact ⟨(wrap64 (x8_1 + 1)), (by first | rfl | (simp; done) | (simp [*]; done)), H', ⟨by have := HK1.out; omega⟩, by repeat (first | exact Drawn0.refl _ | apply Drawn0.step)⟩
               · rw [if_neg c12] at H
                 have c12b0 : decide (t102 ≤ 1) = false := decide_eq_false c12
                 clear c12
                 by_cases c13 : (wrap64 (x8_1 - a1)) > 32
                 · rw [if_pos c13] at H
                   have c13b0 : decide (32 < (wrap64 (x8_1 - a1))) = true := decide_eq_true c13
                   clear c13
                   simp only [Option.some.injEq, Prod.mk.injEq] at H
                   obtain ⟨rfl, rfl, rfl⟩ := H
                   have p10 : 0 ≤ (x8_1 : Int) := of_decide_eq_true (by first | (with_reducible assumption) | assumption)
                   have q10 : x8_1 < (a0.size : Int) := of_decide_eq_true (by first | (with_reducible assumption) | assumption)
                   have hx10 := bt_at a0 x8_1
                   replace p10 := eq_true p10
                   replace q10 := eq_true q10
                   go_wp2_with (first | (go_at_call 127; (with_reducible refine (T5Kind.calls k1 (bt a0 x8_1) t102 _ A11.out).mono ?_); rintro e w' ⟨rfl, ⟨nd, rfl⟩⟩))
                   go_ret3
                   exact ⟨by first | rfl | (simp; done) | (simp [*]; done), by repeat (first | exact Drawn0.refl _ | apply Drawn0.step)⟩
                 · rw [if_neg c13] at H
                   have c13b0 : decide (32 < (wrap64 (x8_1 - a1))) = false := decide_eq_false c13
                   clear c13
                   simp only [Option.some.injEq, Prod.mk.injEq] at H
                   obtain ⟨rfl, rfl, rfl⟩ := H
                   have p10 : 0 ≤ (x8_1 : Int) := of_decide_eq_true (by first | (with_reducible assumption) | assumption)
                   have q10 : x8_1 < (a0.size : Int) := of_decide_eq_true (by first | (with_reducible assumption) | assumption)
                   have hx10 := bt_at a0 x8_1
                   replace p10 := eq_true p10
                   replace q10 := eq_true q10
                   go_wp2_with (first | (go_at_call 127; (with_reducible refine (T5Kind.calls k1 (bt a0 x8_1) t102 _ A11.out).mono ?_); rintro e w' ⟨rfl, ⟨nd, rfl⟩⟩))
                   go_ret3
                   exact ⟨by first | rfl | (simp; done) | (simp [*]; done), by repeat (first | exact Drawn0.refl _ | apply Drawn0.step)⟩
             · rw [if_neg c9] at H
               exact absurd H (by simp)
           · rw [if_neg c8] at H
             have c8b0 : decide (x8_1 < (a0.size : Int)) = false := decide_eq_false c8
             clear c8
             by_cases c14 : (wrap64 (x8_1 - a1)) > 32
             · rw [if_pos c14] at H
               have c14b0 : decide (32 < (wrap64 (x8_1 - a1))) = true := decide_eq_true c14
               clear c14
               simp only [Option.some.injEq, Prod.mk.injEq] at H
               obtain ⟨rfl, rfl, rfl⟩ := H
               go_wp2
               go_ret3
               exact ⟨by first | rfl | (simp; done) | (simp [*]; done), by repeat (first | exact Drawn0.refl _ | apply Drawn0.step)⟩
             · rw [if_neg c14] at H
               have c14b0 : decide (32 < (wrap64 (x8_1 - a1))) = false := decide_eq_false c14
               clear c14
               simp only [Option.some.injEq, Prod.mk.injEq] at H
               obtain ⟨rfl, rfl, rfl⟩ := H
               go_wp2
               go_ret3
               exact ⟨by first | rfl | (simp; done) | (simp [*]; done), by repeat (first | exact Drawn0.refl _ | apply Drawn0.step)⟩
     · rw [if_neg c7] at H
       have c7b0 : (t101 == 0) = false := beq_eq_false_iff_ne.mpr c7
       have c7b1 : (t101 != 0) = true := bne_iff_ne.mpr c7
       by_cases c15 : t101 = 1
       · rw [if_pos c15] at H
         have c15b0 : (t101 == 1) = true := beq_iff_eq.mpr c15
         have c15b1 : (t101 != 1) = false := bne_eq_false_iff_eq.mpr c15
         clear c15
         have H' := Aside0.mk H
         clear H
         have p5 : 0 ≤ (a1 : Int) := of_decide_eq_true (by first | (with_reducible assumption) | assumption)
         have q5 : a1 < (a0.size : Int) := of_decide_eq_true (by first | (with_reducible assumption) | assumption)
         have hx5 := bt_at a0 a1
         replace p5 := eq_true p5
         replace q5 := eq_true q5
         go_enter Tryz.func93, Tryz.ntmps93
         go_wp2_with (first | ((with_reducible refine gate_callee (f := 127) rfl ?_); refine goesL_ (some 12) rfl rfl Tryz.func127 (by kernel_rfl) rfl #[.int .u8 (bt a0 a1)] rfl (by (try simp only [List.map_toArray, List.map_cons, List.map_nil]); first | done | rfl | (simp only [List.length_drop, List.length_take]; rfl)) ?_; (with_reducible refine (T5Kind.calls k (bt a0 a1) t101 _ A6.out).mono ?_); rintro e w' ⟨rfl, ⟨nd, rfl⟩⟩; refine ⟨_, rfl, ?_⟩))
         go_loopg [8] k (fun kq v8 w' => ∃ (x8_1 : Int), v8 = .int .i64 x8_1 ∧ Aside0 (T5end.l1 kq a0 a1 x8_1 = some (r1, r2, r3)) ∧ Aside0 (kq ≤ k) ∧ Drawn0 w w')
         case atStart => exact ⟨(wrap64 (a1 + 1)), (by first | rfl | (simp; done) | (simp [*]; done)), H', ⟨Nat.le_refl _⟩, by repeat (first | exact Drawn0.refl _ | apply Drawn0.step)⟩
         case round =>
           clear H'
           try clear c1
           try clear p1
           try clear q1
           try clear hx1
           try clear p2
           try clear c3
           try clear c3b0
           try clear c4
           try clear c4b0
           try clear p5
           try clear q5
           try clear hx5
           try clear p6
           try clear c7
           try clear c7b0
           try clear c7b1
           try clear c8
           try clear c8b0
           try clear c9
           try clear c9b0
           try clear p10
           try clear q10
           try clear hx10
           try clear c12
           try clear c12b0
           try clear c13
           try clear c13b0
           try clear c14
           try clear c14b0
           try clear c15
           try clear c15b0
           try clear c15b1
           try clear p10
           try clear p2
           try clear p5
           try clear p6
           try clear q10
           try clear q5
           obtain ⟨x8_1, rfl, HA, HK1, ⟨m1, rfl⟩⟩ := hrel
           cases gk with
           | zero => exact absurd HA.out (by simp [T5end.l1])
           | succ k1 =>
             have H := HA.out
             clear HA
             simp only [T5end.l1] at H
             by_cases c16 : x8_1 < (a0.size : Int)
             · rw [if_pos c16] at H
               have c16b0 : decide (x8_1 < (a0.size : Int)) = true := decide_eq_true c16
               clear c16
               by_cases c17 : 0 ≤ x8_1
               · rw [if_pos c17] at H
                 have c17b0 : decide (0 ≤ x8_1) = true := decide_eq_true c17
                 clear c17
                 replace H := Option.bind_eq_some_iff.mp H
                 obtain ⟨t103, A190, H⟩ := H
                 replace H : (if t103 = 1 then (T5end.l1 k1 a0 a1 (wrap64 (x8_1 + 1))) else (if (wrap64 (x8_1 - a1)) > 3 then (some (x8_1, 1, 13)) else (some (x8_1, 1, 0)))) = some (r1, r2, r3) := H
                 have A19 := Aside0.mk A190
                 clear A190
                 by_cases c20 : t103 = 1
                 · rw [if_pos c20] at H
                   have c20b0 : (t103 == 1) = true := beq_iff_eq.mpr c20
                   have c20b1 : (t103 != 1) = false := bne_eq_false_iff_eq.mpr c20
                   clear c20
                   have H' := Aside0.mk H
                   clear H
                   have p18 : 0 ≤ (x8_1 : Int) := of_decide_eq_true (by first | (with_reducible assumption) | assumption)
                   have q18 : x8_1 < (a0.size : Int) := of_decide_eq_true (by first | (with_reducible assumption) | assumption)
                   have hx18 := bt_at a0 x8_1
                   replace p18 := eq_true p18
                   replace q18 := eq_true q18
                   go_wp2_with (first | (go_at_call 127; (with_reducible refine (T5Kind.calls k1 (bt a0 x8_1) t103 _ A19.out).mono ?_); rintro e w' ⟨rfl, ⟨nd, rfl⟩⟩))
                   go_roundg k1
                   case measure => have := HK1.out; omega
                   case rel => exact ⟨(wrap64 (x8_1 + 1)), (by first | rfl | (simp; done) | (simp [*]; done)), H', ⟨by have := HK1.out; omega⟩, by repeat (first | exact Drawn0.refl _ | apply Drawn0.step)⟩
                 · rw [if_neg c20] at H
                   have c20b0 : (t103 == 1) = false := beq_eq_false_iff_ne.mpr c20
                   have c20b1 : (t103 != 1) = true := bne_iff_ne.mpr c20
                   by_cases c21 : (wrap64 (x8_1 - a1)) > 3
                   · rw [if_pos c21] at H
                     have c21b0 : decide (3 < (wrap64 (x8_1 - a1))) = true := decide_eq_true c21
                     clear c21
                     simp only [Option.some.injEq, Prod.mk.injEq] at H
                     obtain ⟨rfl, rfl, rfl⟩ := H
                     have p18 : 0 ≤ (x8_1 : Int) := of_decide_eq_true (by first | (with_reducible assumption) | assumption)
                     have q18 : x8_1 < (a0.size : Int) := of_decide_eq_true (by first | (with_reducible assumption) | assumption)
                     have hx18 := bt_at a0 x8_1
                     replace p18 := eq_true p18
                     replace q18 := eq_true q18
                     go_wp2_with (first | (go_at_call 127; (with_reducible refine (T5Kind.calls k1 (bt a0 x8_1) t103 _ A19.out).mono ?_); rintro e w' ⟨rfl, ⟨nd, rfl⟩⟩))
                     go_ret3
                     exact ⟨by first | rfl | (simp; done) | (simp [*]; done), by repeat (first | exact Drawn0.refl _ | apply Drawn0.step)⟩
                   · rw [if_neg c21] at H
                     have c21b0 : decide (3 < (wrap64 (x8_1 - a1))) = false := decide_eq_false c21
                     clear c21
                     simp only [Option.some.injEq, Prod.mk.injEq] at H
                     obtain ⟨rfl, rfl, rfl⟩ := H
                     have p18 : 0 ≤ (x8_1 : Int) := of_decide_eq_true (by first | (with_reducible assumption) | assumption)
                     have q18 : x8_1 < (a0.size : Int) := of_decide_eq_true (by first | (with_reducible assumption) | assumption)
                     have hx18 := bt_at a0 x8_1
                     replace p18 := eq_true p18
                     replace q18 := eq_true q18
                     go_wp2_with (first | (go_at_call 127; (with_reducible refine (T5Kind.calls k1 (bt a0 x8_1) t103 _ A19.out).mono ?_); rintro e w' ⟨rfl, ⟨nd, rfl⟩⟩))
                     go_ret3
                     exact ⟨by first | rfl | (simp; done) | (simp [*]; done), by repeat (first | exact Drawn0.refl _ | apply Drawn0.step)⟩
               · rw [if_neg c17] at H
                 exact absurd H (by simp)
             · rw [if_neg c16] at H
               have c16b0 : decide (x8_1 < (a0.size : Int)) = false := decide_eq_false c16
               clear c16
               by_cases c22 : (wrap64 (x8_1 - a1)) > 3
               · rw [if_pos c22] at H
                 have c22b0 : decide (3 < (wrap64 (x8_1 - a1))) = true := decide_eq_true c22
                 clear c22
                 simp only [Option.some.injEq, Prod.mk.injEq] at H
                 obtain ⟨rfl, rfl, rfl⟩ := H
                 go_wp2
                 go_ret3
                 exact ⟨by first | rfl | (simp; done) | (simp [*]; done), by repeat (first | exact Drawn0.refl _ | apply Drawn0.step)⟩
               · rw [if_neg c22] at H
                 have c22b0 : decide (3 < (wrap64 (x8_1 - a1))) = false := decide_eq_false c22
                 clear c22
                 simp only [Option.some.injEq, Prod.mk.injEq] at H
                 obtain ⟨rfl, rfl, rfl⟩ := H
                 go_wp2
                 go_ret3
                 exact ⟨by first | rfl | (simp; done) | (simp [*]; done), by repeat (first | exact Drawn0.refl _ | apply Drawn0.step)⟩
       · rw [if_neg c15] at H
         have c15b0 : (t101 == 1) = false := beq_eq_false_iff_ne.mpr c15
         have c15b1 : (t101 != 1) = true := bne_iff_ne.mpr c15
         by_cases c23 : t101 = 2
         · rw [if_pos c23] at H
           have c23b0 : (t101 == 2) = true := beq_iff_eq.mpr c23
           have c23b1 : (t101 != 2) = false := bne_eq_false_iff_eq.mpr c23
           clear c23
           simp only [Option.some.injEq, Prod.mk.injEq] at H
           obtain ⟨rfl, rfl, rfl⟩ := H
           have p5 : 0 ≤ (a1 : Int) := of_decide_eq_true (by first | (with_reducible assumption) | assumption)
           have q5 : a1 < (a0.size : Int) := of_decide_eq_true (by first | (with_reducible assumption) | assumption)
           have hx5 := bt_at a0 a1
           replace p5 := eq_true p5
           replace q5 := eq_true q5
           go_enter Tryz.func93, Tryz.ntmps93
           go_wp2_with (first | ((with_reducible refine gate_callee (f := 127) rfl ?_); refine goesL_ (some 12) rfl rfl Tryz.func127 (by kernel_rfl) rfl #[.int .u8 (bt a0 a1)] rfl (by (try simp only [List.map_toArray, List.map_cons, List.map_nil]); first | done | rfl | (simp only [List.length_drop, List.length_take]; rfl)) ?_; (with_reducible refine (T5Kind.calls k (bt a0 a1) t101 _ A6.out).mono ?_); rintro e w' ⟨rfl, ⟨nd, rfl⟩⟩; refine ⟨_, rfl, ?_⟩))
           go_ret3
           exact ⟨by first | rfl | (simp; done) | (simp [*]; done), by repeat (first | exact Drawn0.refl _ | apply Drawn0.step)⟩
         · rw [if_neg c23] at H
           have c23b0 : (t101 == 2) = false := beq_eq_false_iff_ne.mpr c23
           have c23b1 : (t101 != 2) = true := bne_iff_ne.mpr c23
           by_cases c24 : t101 = 3
           · rw [if_pos c24] at H
             have c24b0 : (t101 == 3) = true := beq_iff_eq.mpr c24
             have c24b1 : (t101 != 3) = false := bne_eq_false_iff_eq.mpr c24
             clear c24
             simp only [Option.some.injEq, Prod.mk.injEq] at H
             obtain ⟨rfl, rfl, rfl⟩ := H
             have p5 : 0 ≤ (a1 : Int) := of_decide_eq_true (by first | (with_reducible assumption) | assumption)
             have q5 : a1 < (a0.size : Int) := of_decide_eq_true (by first | (with_reducible assumption) | assumption)
             have hx5 := bt_at a0 a1
             replace p5 := eq_true p5
             replace q5 := eq_true q5
             go_enter Tryz.func93, Tryz.ntmps93
             go_wp2_with (first | ((with_reducible refine gate_callee (f := 127) rfl ?_); refine goesL_ (some 12) rfl rfl Tryz.func127 (by kernel_rfl) rfl #[.int .u8 (bt a0 a1)] rfl (by (try simp only [List.map_toArray, List.map_cons, List.map_nil]); first | done | rfl | (simp only [List.length_drop, List.length_take]; rfl)) ?_; (with_reducible refine (T5Kind.calls k (bt a0 a1) t101 _ A6.out).mono ?_); rintro e w' ⟨rfl, ⟨nd, rfl⟩⟩; refine ⟨_, rfl, ?_⟩))
             go_ret3
             exact ⟨by first | rfl | (simp; done) | (simp [*]; done), by repeat (first | exact Drawn0.refl _ | apply Drawn0.step)⟩
           · rw [if_neg c24] at H
             have c24b0 : (t101 == 3) = false := beq_eq_false_iff_ne.mpr c24
             have c24b1 : (t101 != 3) = true := bne_iff_ne.mpr c24
             by_cases c25 : t101 = 4
             · rw [if_pos c25] at H
               have c25b0 : (t101 == 4) = true := beq_iff_eq.mpr c25
               have c25b1 : (t101 != 4) = false := bne_eq_false_iff_eq.mpr c25
               clear c25
               have H' := Aside0.mk H
               clear H
               have p5 : 0 ≤ (a1 : Int) := of_decide_eq_true (by first | (with_reducible assumption) | assumption)
               have q5 : a1 < (a0.size : Int) := of_decide_eq_true (by first | (with_reducible assumption) | assumption)
               have hx5 := bt_at a0 a1
               replace p5 := eq_true p5
               replace q5 := eq_true q5
               go_enter Tryz.func93, Tryz.ntmps93
               go_wp2_with (first | ((with_reducible refine gate_callee (f := 127) rfl ?_); refine goesL_ (some 12) rfl rfl Tryz.func127 (by kernel_rfl) rfl #[.int .u8 (bt a0 a1)] rfl (by (try simp only [List.map_toArray, List.map_cons, List.map_nil]); first | done | rfl | (simp only [List.length_drop, List.length_take]; rfl)) ?_; (with_reducible refine (T5Kind.calls k (bt a0 a1) t101 _ A6.out).mono ?_); rintro e w' ⟨rfl, ⟨nd, rfl⟩⟩; refine ⟨_, rfl, ?_⟩))
               go_loopg [8] k (fun kq v8 w' => ∃ (x8_1 : Int), v8 = .int .i64 x8_1 ∧ Aside0 (T5end.l2 kq a0 x8_1 = some (r1, r2, r3)) ∧ Aside0 (kq ≤ k) ∧ Drawn0 w w')
               case atStart => exact ⟨(wrap64 (a1 + 1)), (by first | rfl | (simp; done) | (simp [*]; done)), H', ⟨Nat.le_refl _⟩, by repeat (first | exact Drawn0.refl _ | apply Drawn0.step)⟩
               case round =>
                 clear H'
                 try clear c1
                 try clear p1
                 try clear q1
                 try clear hx1
                 try clear c2
                 try clear p2
                 try clear c3
                 try clear c3b0
                 try clear c4
                 try clear c4b0
                 try clear p5
                 try clear q5
                 try clear hx5
                 try clear p6
                 try clear c7
                 try clear c7b0
                 try clear c7b1
                 try clear c8
                 try clear c8b0
                 try clear c9
                 try clear c9b0
                 try clear p10
                 try clear q10
                 try clear hx10
                 try clear c12
                 try clear c12b0
                 try clear c13
                 try clear c13b0
                 try clear c14
                 try clear c14b0
                 try clear c15
                 try clear c15b0
                 try clear c15b1
                 try clear c16
                 try clear c16b0
                 try clear c17
                 try clear c17b0
                 try clear p18
                 try clear q18
                 try clear hx18
                 try clear c20
                 try clear c20b0
                 try clear c20b1
                 try clear c21
                 try clear c21b0
                 try clear c22
                 try clear c22b0
                 try clear c23
                 try clear c23b0
                 try clear c23b1
                 try clear c24
                 try clear c24b0
                 try clear c24b1
                 try clear c25
                 try clear c25b0
                 try clear c25b1
                 try clear p1
                 try clear p10
                 try clear p18
                 try clear p2
                 try clear p5
                 try clear p6
                 try clear q1
                 try clear q10
                 try clear q18
                 try clear q5
                 obtain ⟨x8_1, rfl, HA, HK1, ⟨m1, rfl⟩⟩ := hrel
                 cases gk with
                 | zero => exact absurd HA.out (by simp [T5end.l2])
                 | succ k1 =>
                   have H := HA.out
                   clear HA
                   simp only [T5end.l2] at H
                   by_cases c26 : x8_1 < (a0.size : Int)
                   · rw [if_pos c26] at H
                     have c26b0 : decide (x8_1 < (a0.size : Int)) = true := decide_eq_true c26
                     clear c26
                     by_cases c27 : 0 ≤ x8_1
                     · rw [if_pos c27] at H
                       have c27b0 : decide (0 ≤ x8_1) = true := decide_eq_true c27
                       clear c27
                       by_cases c29 : (bt a0 x8_1) = 10
                       · rw [if_pos c29] at H
                         have c29b0 : ((bt a0 x8_1) == 10) = true := beq_iff_eq.mpr c29
                         have c29b1 : ((bt a0 x8_1) != 10) = false := bne_eq_false_iff_eq.mpr c29
                         clear c29
                         simp only [Option.some.injEq, Prod.mk.injEq] at H
                         obtain ⟨rfl, rfl, rfl⟩ := H
                         have p28 : 0 ≤ (x8_1 : Int) := of_decide_eq_true (by first | (with_reducible assumption) | assumption)
                         have q28 : x8_1 < (a0.size : Int) := of_decide_eq_true (by first | (with_reducible assumption) | assumption)
                         have hx28 := bt_at a0 x8_1
                         replace p28 := eq_true p28
                         replace q28 := eq_true q28
                         go_wp2
                         go_ret3
                         exact ⟨by first | rfl | (simp; done) | (simp [*]; done), by repeat (first | exact Drawn0.refl _ | apply Drawn0.step)⟩
                       · rw [if_neg c29] at H
                         have c29b0 : ((bt a0 x8_1) == 10) = false := beq_eq_false_iff_ne.mpr c29
                         have c29b1 : ((bt a0 x8_1) != 10) = true := bne_iff_ne.mpr c29
                         have H' := Aside0.mk H
                         clear H
                         have p28 : 0 ≤ (x8_1 : Int) := of_decide_eq_true (by first | (with_reducible assumption) | assumption)
                         have q28 : x8_1 < (a0.size : Int) := of_decide_eq_true (by first | (with_reducible assumption) | assumption)
                         have hx28 := bt_at a0 x8_1
                         replace p28 := eq_true p28
                         replace q28 := eq_true q28
                         go_wp2
                         go_roundg k1
                         case measure => have := HK1.out; omega
                         case rel => exact ⟨(wrap64 (x8_1 + 1)), (by first | rfl | (simp; done) | (simp [*]; done)), H', ⟨by have := HK1.out; omega⟩, by repeat (first | exact Drawn0.refl _ | apply Drawn0.step)⟩
                     · rw [if_neg c27] at H
                       exact absurd H (by simp)
                   · rw [if_neg c26] at H
                     have c26b0 : decide (x8_1 < (a0.size : Int)) = false := decide_eq_false c26
                     clear c26
                     simp only [Option.some.injEq, Prod.mk.injEq] at H
                     obtain ⟨rfl, rfl, rfl⟩ := H
                     go_wp2
                     go_ret3
                     exact ⟨by first | rfl | (simp; done) | (simp [*]; done), by repeat (first | exact Drawn0.refl _ | apply Drawn0.step)⟩
             · rw [if_neg c25] at H
               have c25b0 : (t101 == 4) = false := beq_eq_false_iff_ne.mpr c25
               have c25b1 : (t101 != 4) = true := bne_iff_ne.mpr c25
               by_cases c30 : t101 = 5
               · rw [if_pos c30] at H
                 have c30b0 : (t101 == 5) = true := beq_iff_eq.mpr c30
                 have c30b1 : (t101 != 5) = false := bne_eq_false_iff_eq.mpr c30
                 clear c30
                 by_cases c31 : (wrap64 (a1 + 1)) < (a0.size : Int)
                 · rw [if_pos c31] at H
                   have c31b0 : decide ((wrap64 (a1 + 1)) < (a0.size : Int)) = true := decide_eq_true c31
                   clear c31
                   obtain ⟨ji32, hji32⟩ : ∃ j_ : Int, (wrap64 (a1 + 1)) = j_ := ⟨_, rfl⟩
                   replace H : (if 0 ≤ (ji32) then (if (bt a0 (ji32)) = 58 then (some (wrap64 ((ji32) + 1), 2, 0)) else (some (ji32, (-1), 10))) else (none)) = some (r1, r2, r3) := by first | (rw [hji32] at H; exact H) | (simp only [hji32] at H ⊢; exact H)
                   (try rw [hji32] at c31b0)
                   (try rw [hji32] at A6)
                   have hji32w : (IntKind.i64.wrap (a1 + 1)) = ji32 := (i64_w _).trans hji32
                   by_cases c33 : 0 ≤ (ji32)
                   · rw [if_pos c33] at H
                     have c33b0 : decide (0 ≤ (ji32)) = true := decide_eq_true c33
                     clear c33
                     by_cases c35 : (bt a0 (ji32)) = 58
                     · rw [if_pos c35] at H
                       have c35b0 : ((bt a0 (ji32)) == 58) = true := beq_iff_eq.mpr c35
                       have c35b1 : ((bt a0 (ji32)) != 58) = false := bne_eq_false_iff_eq.mpr c35
                       clear c35
                       simp only [Option.some.injEq, Prod.mk.injEq] at H
                       obtain ⟨rfl, rfl, rfl⟩ := H
                       have p5 : 0 ≤ (a1 : Int) := of_decide_eq_true (by first | (with_reducible assumption) | assumption)
                       have q5 : a1 < (a0.size : Int) := of_decide_eq_true (by first | (with_reducible assumption) | assumption)
                       have hx5 := bt_at a0 a1
                       replace p5 := eq_true p5
                       replace q5 := eq_true q5
                       go_enter Tryz.func93, Tryz.ntmps93
                       go_wp2_with (first | ((with_reducible refine gate_callee (f := 127) rfl ?_); refine goesL_ (some 12) rfl rfl Tryz.func127 (by kernel_rfl) rfl #[.int .u8 (bt a0 a1)] rfl (by (try simp only [List.map_toArray, List.map_cons, List.map_nil]); first | done | rfl | (simp only [List.length_drop, List.length_take]; rfl)) ?_; (with_reducible refine (T5Kind.calls k (bt a0 a1) t101 _ A6.out).mono ?_); rintro e w' ⟨rfl, ⟨nd, rfl⟩⟩; refine ⟨_, rfl, ?_⟩; have p34 : 0 ≤ ((ji32) : Int) := of_decide_eq_true (by first | (with_reducible assumption) | assumption); have q34 : (ji32) < (a0.size : Int) := of_decide_eq_true (by first | (with_reducible assumption) | assumption); have hx34 := bt_at a0 (ji32); replace p34 := eq_true p34; replace q34 := eq_true q34))
                       go_ret3
                       exact ⟨by first | rfl | (simp; done) | (simp only [← hji32] <;> (first | rfl | simp)) | (simp [*]; done), by repeat (first | exact Drawn0.refl _ | apply Drawn0.step)⟩
                     · rw [if_neg c35] at H
                       have c35b0 : ((bt a0 (ji32)) == 58) = false := beq_eq_false_iff_ne.mpr c35
                       have c35b1 : ((bt a0 (ji32)) != 58) = true := bne_iff_ne.mpr c35
                       simp only [Option.some.injEq, Prod.mk.injEq] at H
                       obtain ⟨rfl, rfl, rfl⟩ := H
                       have p5 : 0 ≤ (a1 : Int) := of_decide_eq_true (by first | (with_reducible assumption) | assumption)
                       have q5 : a1 < (a0.size : Int) := of_decide_eq_true (by first | (with_reducible assumption) | assumption)
                       have hx5 := bt_at a0 a1
                       replace p5 := eq_true p5
                       replace q5 := eq_true q5
                       go_enter Tryz.func93, Tryz.ntmps93
                       go_wp2_with (first | ((with_reducible refine gate_callee (f := 127) rfl ?_); refine goesL_ (some 12) rfl rfl Tryz.func127 (by kernel_rfl) rfl #[.int .u8 (bt a0 a1)] rfl (by (try simp only [List.map_toArray, List.map_cons, List.map_nil]); first | done | rfl | (simp only [List.length_drop, List.length_take]; rfl)) ?_; (with_reducible refine (T5Kind.calls k (bt a0 a1) t101 _ A6.out).mono ?_); rintro e w' ⟨rfl, ⟨nd, rfl⟩⟩; refine ⟨_, rfl, ?_⟩; have p34 : 0 ≤ ((ji32) : Int) := of_decide_eq_true (by first | (with_reducible assumption) | assumption); have q34 : (ji32) < (a0.size : Int) := of_decide_eq_true (by first | (with_reducible assumption) | assumption); have hx34 := bt_at a0 (ji32); replace p34 := eq_true p34; replace q34 := eq_true q34))
                       go_ret3
                       exact ⟨by first | rfl | (simp; done) | (simp only [← hji32] <;> (first | rfl | simp)) | (simp [*]; done), by repeat (first | exact Drawn0.refl _ | apply Drawn0.step)⟩
                   · rw [if_neg c33] at H
                     exact absurd H (by simp)
                 · rw [if_neg c31] at H
                   have c31b0 : decide ((wrap64 (a1 + 1)) < (a0.size : Int)) = false := decide_eq_false c31
                   clear c31
                   simp only [Option.some.injEq, Prod.mk.injEq] at H
                   obtain ⟨rfl, rfl, rfl⟩ := H
                   have p5 : 0 ≤ (a1 : Int) := of_decide_eq_true (by first | (with_reducible assumption) | assumption)
                   have q5 : a1 < (a0.size : Int) := of_decide_eq_true (by first | (with_reducible assumption) | assumption)
                   have hx5 := bt_at a0 a1
                   replace p5 := eq_true p5
                   replace q5 := eq_true q5
                   go_enter Tryz.func93, Tryz.ntmps93
                   go_wp2_with (first | ((with_reducible refine gate_callee (f := 127) rfl ?_); refine goesL_ (some 12) rfl rfl Tryz.func127 (by kernel_rfl) rfl #[.int .u8 (bt a0 a1)] rfl (by (try simp only [List.map_toArray, List.map_cons, List.map_nil]); first | done | rfl | (simp only [List.length_drop, List.length_take]; rfl)) ?_; (with_reducible refine (T5Kind.calls k (bt a0 a1) t101 _ A6.out).mono ?_); rintro e w' ⟨rfl, ⟨nd, rfl⟩⟩; refine ⟨_, rfl, ?_⟩))
                   go_ret3
                   exact ⟨by first | rfl | (simp; done) | (simp [*]; done), by repeat (first | exact Drawn0.refl _ | apply Drawn0.step)⟩
               · rw [if_neg c30] at H
                 have c30b0 : (t101 == 5) = false := beq_eq_false_iff_ne.mpr c30
                 have c30b1 : (t101 != 5) = true := bne_iff_ne.mpr c30
                 simp only [Option.some.injEq, Prod.mk.injEq] at H
                 obtain ⟨rfl, rfl, rfl⟩ := H
                 have p5 : 0 ≤ (a1 : Int) := of_decide_eq_true (by first | (with_reducible assumption) | assumption)
                 have q5 : a1 < (a0.size : Int) := of_decide_eq_true (by first | (with_reducible assumption) | assumption)
                 have hx5 := bt_at a0 a1
                 replace p5 := eq_true p5
                 replace q5 := eq_true q5
                 go_enter Tryz.func93, Tryz.ntmps93
                 go_wp2_with (first | ((with_reducible refine gate_callee (f := 127) rfl ?_); refine goesL_ (some 12) rfl rfl Tryz.func127 (by kernel_rfl) rfl #[.int .u8 (bt a0 a1)] rfl (by (try simp only [List.map_toArray, List.map_cons, List.map_nil]); first | done | rfl | (simp only [List.length_drop, List.length_take]; rfl)) ?_; (with_reducible refine (T5Kind.calls k (bt a0 a1) t101 _ A6.out).mono ?_); rintro e w' ⟨rfl, ⟨nd, rfl⟩⟩; refine ⟨_, rfl, ?_⟩))
                 go_ret3
                 exact ⟨by first | rfl | (simp; done) | (simp [*]; done), by repeat (first | exact Drawn0.refl _ | apply Drawn0.step)⟩
   · rw [if_neg c4] at H
     exact absurd H (by simp)
 · rw [if_neg c3] at H
   exact absurd H (by simp)
def T5Place.l0 : Nat → ByteArray → Int → Int → Int → Int → Option (Int × Int)
 | 0, _, _, _, _, _ => none
 | k + 1, x0, x1, x6, x106000, x106001 => if x6 < x1 then (if 0 ≤ x6 then (if x6 < (x0.size : Int) then (if (bt x0 x6) = 10 then (T5Place.l0 k x0 x1 (wrap64 (x6 + 1)) (wrap64 (x106000 + 1)) 1) else (T5Place.l0 k x0 x1 (wrap64 (x6 + 1)) x106000 (wrap64 (x106001 + 1)))) else (none)) else (none)) else (some (x106000, x106001))
def T5Place.f (k : Nat) (a0 : ByteArray) (a1 : Int) : Option (Int × Int) := T5Place.l0 k a0 a1 0 1 1
set_option maxHeartbeats 8000000 in
set_option maxRecDepth 100000 in
theorem T5Place.calls (k : Nat) (a0 : ByteArray) (a1 : Int) (r1 : Int) (r2 : Int) (w : World) (h : T5Place.f k a0 a1 = some (r1, r2)) :
   Calls Tryz.prog 94 #[.string a0, .int .i64 a1] w fun e w' => e = .returned (.agg #[.int .i64 r1, .int .i64 r2]) ∧ Below w.heap.size w w' := by
 have hu27 := Tryz.underlying27
 have HB := Aside0.mk (Below.refl w.heap.size w)
 have H : (T5Place.l0 k a0 a1 0 1 1) = some (r1, r2) := h
 clear h
 have H' := Aside0.mk H
 clear H
 go_enter Tryz.func94, Tryz.ntmps94
 go_wp2_with (first | ((with_reducible refine gate_dst (N := 4) rfl ?_); refine box_event ?hg (N := 4) ?hd (cs := #[.int .i64 0, .int .i64 0]) (t := 27) ?hr ?_; (case hd => rfl); (case hg => rfl); (case hr => first | (go_simp; done) | (go_simp; rfl)); intro gb104 hg w3 hbox hb; have n0_ := Aside0.mk (below_step (by repeat (first | (with_reducible first | exact HB.out | apply below_alloc | apply pw_below_drewN | apply below_drew1) | exact HB.out)) hb); have n1_ := Aside0.mk (hbox); have n2_ := Aside0.mk ((by rw [hg]; exact (below_size (by repeat (first | (with_reducible first | exact HB.out | apply below_alloc | apply pw_below_drewN | apply below_drew1) | exact HB.out))) : w.heap.size ≤ gb104)); have n3_ := Aside0.mk ((by rw [hg]; exact (below_size (by repeat (first | (with_reducible first | exact HB.out | apply below_alloc | apply pw_below_drewN | apply below_drew1) | exact HB.out))) : w.heap.size ≤ gb104)); clear HB; have HB := n0_; have BK104 := n1_; have GW104 := n2_; have GE104 := n3_; clear n0_ n1_ n2_ n3_; clear hb hbox hg) | ((with_reducible refine gate_dst (N := 5) rfl ?_); refine box_event ?hg (N := 5) ?hd (cs := #[.int .i64 0, .int .i64 0]) (t := 27) ?hr ?_; (case hd => rfl); (case hg => rfl); (case hr => first | (go_simp; done) | (go_simp; rfl)); intro gb105 hg w4 hbox hb; have n0_ := Aside0.mk (blk_below (g := gb104) (o := .cells #[.int .i64 0, .int .i64 0] 27 (0, 0)) (by (with_reducible repeat (first | refine blk_drewN ?_ _ | refine blk_drew ?_ | refine blk_alloc ?_ _)); exact BK104.out) hb); have n1_ := Aside0.mk (below_step (by repeat (first | (with_reducible first | exact HB.out | apply below_alloc | apply pw_below_drewN | apply below_drew1 | refine below_set ?_ GE104.out) | exact HB.out)) hb); have n2_ := Aside0.mk (hbox); have n3_ := Aside0.mk ((by rw [hg]; exact (below_size (by repeat (first | (with_reducible first | exact HB.out | apply below_alloc | apply pw_below_drewN | apply below_drew1 | refine below_set ?_ GE104.out) | exact HB.out))) : w.heap.size ≤ gb105)); have n4_ := Aside0.mk ((by rw [hg]; exact (below_size (by repeat (first | (with_reducible first | exact HB.out | apply below_alloc | apply pw_below_drewN | apply below_drew1 | refine below_set ?_ GE104.out) | exact HB.out))) : w.heap.size ≤ gb105)); have n5_ := Aside0.mk ((by rw [hg]; exact Nat.ne_of_lt (blk_lt (g := gb104) (o := .cells #[.int .i64 0, .int .i64 0] 27 (0, 0)) (by (with_reducible repeat (first | refine blk_drewN ?_ _ | refine blk_drew ?_ | refine blk_alloc ?_ _)); exact BK104.out)) : gb104 ≠ gb105)); have n6_ := Aside0.mk ((by rw [hg]; exact Nat.ne_of_gt (blk_lt (g := gb104) (o := .cells #[.int .i64 0, .int .i64 0] 27 (0, 0)) (by (with_reducible repeat (first | refine blk_drewN ?_ _ | refine blk_drew ?_ | refine blk_alloc ?_ _)); exact BK104.out)) : gb105 ≠ gb104)); clear BK104; clear HB; have BK104 := n0_; have HB := n1_; have BK105 := n2_; have GW105 := n3_; have GE105 := n4_; have NB104_105 := n5_; have NB105_104 := n6_; clear n0_ n1_ n2_ n3_ n4_ n5_ n6_; clear hb hbox hg; have hnb5 := NB105_104.out; have hnc5 := NB104_105.out; have hcz6_0 : w4.cell? ⟨gb105, 0, none⟩ = some (.int .i64 0) := (blk_cell BK105.out 0).trans rfl; have hcz6_1 : w4.cell? ⟨gb105, 1, none⟩ = some (.int .i64 0) := (blk_cell BK105.out 1).trans rfl; have hfz6_0 := blk_frozen BK105.out 0; have hfz6_1 := blk_frozen BK105.out 1))
 go_loopg [6] k (fun kq v6 w' => ∃ (x6_1 : Int) (x106000_1 : Int) (x106001_1 : Int), v6 = .int .i64 x6_1 ∧ Aside0 (T5Place.l0 kq a0 a1 x6_1 x106000_1 x106001_1 = some (r1, r2)) ∧ Aside0 (kq ≤ k) ∧ Aside0 (w'.heap[gb104]? = some (.cells #[.int .i64 0, .int .i64 0] 27 (0, 0))) ∧ Aside0 (w'.heap[gb105]? = some (.cells #[.int .i64 x106000_1, .int .i64 x106001_1] 27 (0, 0))) ∧ Aside0 (Below w.heap.size w w'))
 case atStart => exact ⟨(0), (1), (1), (by first | rfl | (simp; done) | (simp [*]; done)), H', ⟨Nat.le_refl _⟩, ⟨by (with_reducible repeat (first | refine blk_drewN ?_ _ | refine blk_drew ?_ | refine blk_alloc ?_ _)); refine blk_far ?_ NB104_105.out _; (with_reducible repeat (first | refine blk_drewN ?_ _ | refine blk_drew ?_ | refine blk_alloc ?_ _)); refine blk_far ?_ NB104_105.out _; (with_reducible repeat (first | refine blk_drewN ?_ _ | refine blk_drew ?_ | refine blk_alloc ?_ _)); exact BK104.out⟩, ⟨by (with_reducible repeat (first | refine blk_drewN ?_ _ | refine blk_drew ?_ | refine blk_alloc ?_ _)); refine blk_put (cs := #[.int .i64 1, .int .i64 0]) ?_ 1 _ rfl; (with_reducible repeat (first | refine blk_drewN ?_ _ | refine blk_drew ?_ | refine blk_alloc ?_ _)); refine blk_put (cs := #[.int .i64 0, .int .i64 0]) ?_ 0 _ rfl; (with_reducible repeat (first | refine blk_drewN ?_ _ | refine blk_drew ?_ | refine blk_alloc ?_ _)); exact BK105.out⟩, ⟨by repeat (first | (with_reducible first | exact HB.out | apply below_alloc | apply pw_below_drewN | apply below_drew1 | refine below_set ?_ GE104.out | refine below_set ?_ GE105.out) | exact HB.out)⟩⟩
 case round =>
   clear H'
   try clear p2
   try clear c5
   try clear hcz6_0
   try clear hcz6_1
   try clear hfz6_0
   try clear hfz6_1
   obtain ⟨x6_1, x106000_1, x106001_1, rfl, HA, HK1, BK104, BK105, HB⟩ := hrel
   cases gk with
   | zero => exact absurd HA.out (by simp [T5Place.l0])
   | succ k1 =>
     have H := HA.out
     clear HA
     simp only [T5Place.l0] at H
     by_cases c7 : x6_1 < a1
     · rw [if_pos c7] at H
       have c7b0 : decide (x6_1 < a1) = true := decide_eq_true c7
       clear c7
       by_cases c8 : 0 ≤ x6_1
       · rw [if_pos c8] at H
         have c8b0 : decide (0 ≤ x6_1) = true := decide_eq_true c8
         clear c8
         by_cases c9 : x6_1 < (a0.size : Int)
         · rw [if_pos c9] at H
           have c9b0 : decide (x6_1 < (a0.size : Int)) = true := decide_eq_true c9
           clear c9
           by_cases c11 : (bt a0 x6_1) = 10
           · rw [if_pos c11] at H
             have c11b0 : ((bt a0 x6_1) == 10) = true := beq_iff_eq.mpr c11
             have c11b1 : ((bt a0 x6_1) != 10) = false := bne_eq_false_iff_eq.mpr c11
             clear c11
             have H' := Aside0.mk H
             clear H
             have p10 : 0 ≤ (x6_1 : Int) := of_decide_eq_true (by first | (with_reducible assumption) | assumption)
             have q10 : x6_1 < (a0.size : Int) := of_decide_eq_true (by first | (with_reducible assumption) | assumption)
             have hx10 := bt_at a0 x6_1
             replace p10 := eq_true p10
             replace q10 := eq_true q10
             have hnb12 := NB105_104.out
             have hnc12 := NB104_105.out
             have hcz13_0 : wr.cell? ⟨gb105, 0, none⟩ = some (.int .i64 x106000_1) := (blk_cell BK105.out 0).trans rfl
             have hcz13_1 : wr.cell? ⟨gb105, 1, none⟩ = some (.int .i64 x106001_1) := (blk_cell BK105.out 1).trans rfl
             have hfz13_0 := blk_frozen BK105.out 0
             have hfz13_1 := blk_frozen BK105.out 1
             go_wp2
             go_roundg k1
             case measure => have := HK1.out; omega
             case rel => exact ⟨(wrap64 (x6_1 + 1)), (wrap64 (x106000_1 + 1)), (1), (by first | rfl | (simp; done) | (simp [*]; done)), H', ⟨by have := HK1.out; omega⟩, ⟨by (with_reducible repeat (first | refine blk_drewN ?_ _ | refine blk_drew ?_ | refine blk_alloc ?_ _)); refine blk_far ?_ NB104_105.out _; (with_reducible repeat (first | refine blk_drewN ?_ _ | refine blk_drew ?_ | refine blk_alloc ?_ _)); refine blk_far ?_ NB104_105.out _; (with_reducible repeat (first | refine blk_drewN ?_ _ | refine blk_drew ?_ | refine blk_alloc ?_ _)); exact BK104.out⟩, ⟨by (with_reducible repeat (first | refine blk_drewN ?_ _ | refine blk_drew ?_ | refine blk_alloc ?_ _)); refine blk_put (cs := #[.int .i64 (wrap64 (x106000_1 + 1)), .int .i64 x106001_1]) ?_ 1 _ rfl; (with_reducible repeat (first | refine blk_drewN ?_ _ | refine blk_drew ?_ | refine blk_alloc ?_ _)); refine blk_put (cs := #[.int .i64 x106000_1, .int .i64 x106001_1]) ?_ 0 _ rfl; (with_reducible repeat (first | refine blk_drewN ?_ _ | refine blk_drew ?_ | refine blk_alloc ?_ _)); exact BK105.out⟩, ⟨by repeat (first | (with_reducible first | exact HB.out | apply below_alloc | apply pw_below_drewN | apply below_drew1 | refine below_set ?_ GE104.out | refine below_set ?_ GE105.out) | exact HB.out)⟩⟩
           · rw [if_neg c11] at H
             have c11b0 : ((bt a0 x6_1) == 10) = false := beq_eq_false_iff_ne.mpr c11
             have c11b1 : ((bt a0 x6_1) != 10) = true := bne_iff_ne.mpr c11
             have H' := Aside0.mk H
             clear H
             have p10 : 0 ≤ (x6_1 : Int) := of_decide_eq_true (by first | (with_reducible assumption) | assumption)
             have q10 : x6_1 < (a0.size : Int) := of_decide_eq_true (by first | (with_reducible assumption) | assumption)
             have hx10 := bt_at a0 x6_1
             replace p10 := eq_true p10
             replace q10 := eq_true q10
             have hnb14 := NB105_104.out
             have hnc14 := NB104_105.out
             have hcz15_0 : wr.cell? ⟨gb105, 0, none⟩ = some (.int .i64 x106000_1) := (blk_cell BK105.out 0).trans rfl
             have hcz15_1 : wr.cell? ⟨gb105, 1, none⟩ = some (.int .i64 x106001_1) := (blk_cell BK105.out 1).trans rfl
             have hfz15_0 := blk_frozen BK105.out 0
             have hfz15_1 := blk_frozen BK105.out 1
             go_wp2
             go_roundg k1
             case measure => have := HK1.out; omega
             case rel => exact ⟨(wrap64 (x6_1 + 1)), (x106000_1), (wrap64 (x106001_1 + 1)), (by first | rfl | (simp; done) | (simp [*]; done)), H', ⟨by have := HK1.out; omega⟩, ⟨by (with_reducible repeat (first | refine blk_drewN ?_ _ | refine blk_drew ?_ | refine blk_alloc ?_ _)); refine blk_far ?_ NB104_105.out _; (with_reducible repeat (first | refine blk_drewN ?_ _ | refine blk_drew ?_ | refine blk_alloc ?_ _)); exact BK104.out⟩, ⟨by (with_reducible repeat (first | refine blk_drewN ?_ _ | refine blk_drew ?_ | refine blk_alloc ?_ _)); refine blk_put (cs := #[.int .i64 x106000_1, .int .i64 x106001_1]) ?_ 1 _ rfl; (with_reducible repeat (first | refine blk_drewN ?_ _ | refine blk_drew ?_ | refine blk_alloc ?_ _)); exact BK105.out⟩, ⟨by repeat (first | (with_reducible first | exact HB.out | apply below_alloc | apply pw_below_drewN | apply below_drew1 | refine below_set ?_ GE104.out | refine below_set ?_ GE105.out) | exact HB.out)⟩⟩
         · rw [if_neg c9] at H
           exact absurd H (by simp)
       · rw [if_neg c8] at H
         exact absurd H (by simp)
     · rw [if_neg c7] at H
       have c7b0 : decide (x6_1 < a1) = false := decide_eq_false c7
       clear c7
       simp only [Option.some.injEq, Prod.mk.injEq] at H
       obtain ⟨rfl, rfl⟩ := H
       have hnb16 := NB105_104.out
       have hnc16 := NB104_105.out
       have hcz17_0 : wr.cell? ⟨gb105, 0, none⟩ = some (.int .i64 x106000_1) := (blk_cell BK105.out 0).trans rfl
       have hcz17_1 : wr.cell? ⟨gb105, 1, none⟩ = some (.int .i64 x106001_1) := (blk_cell BK105.out 1).trans rfl
       have hfz17_0 := blk_frozen BK105.out 0
       have hfz17_1 := blk_frozen BK105.out 1
       have hcz18_0 : wr.cell? ⟨gb104, 0, none⟩ = some (.int .i64 0) := (blk_cell BK104.out 0).trans rfl
       have hcz18_1 : wr.cell? ⟨gb104, 1, none⟩ = some (.int .i64 0) := (blk_cell BK104.out 1).trans rfl
       have hfz18_0 := blk_frozen BK104.out 0
       have hfz18_1 := blk_frozen BK104.out 1
       go_wp2
       refine bodyPost_ret (results_cell_row rfl _ _ gb104 27 #[.int .i64 x106000_1, .int .i64 x106001_1] (0, 0) _ rfl (by (with_reducible repeat (first | refine blk_drewN ?_ _ | refine blk_drew ?_ | refine blk_alloc ?_ _)); refine blk_put (cs := #[.int .i64 x106000_1, .int .i64 0]) ?_ 1 _ rfl; (with_reducible repeat (first | refine blk_drewN ?_ _ | refine blk_drew ?_ | refine blk_alloc ?_ _)); refine blk_put (cs := #[.int .i64 0, .int .i64 0]) ?_ 0 _ rfl; (with_reducible repeat (first | refine blk_drewN ?_ _ | refine blk_drew ?_ | refine blk_alloc ?_ _)); exact BK104.out) Tryz.underlying27 rfl (by kernel_rfl)) rfl ?_
       exact ⟨by first | rfl | (simp [errW_none, errW_some] <;> rfl) | (simp [*, errW_none, errW_some] <;> rfl), by repeat (first | (with_reducible first | exact HB.out | apply below_alloc | apply pw_below_drewN | apply below_drew1 | refine below_set ?_ GE104.out | refine below_set ?_ GE105.out) | exact HB.out)⟩
end Go.Proofs.YtgjpgfedlgdjhaaGreatDoor.PC
end
