/- What the claim uses: part 6. -/
import Derived.Test.YtgjpgfedlgdjhaaGreatDoorZae
section
namespace Go.Proofs.YtgjpgfedlgdjhaaGreatDoor.PC
open Go.RowKit Go.Proofs.YtgjpgfedlgdjhaaGreatDoorW.PrintWords Go.Proofs.YtgjpgfedlgdjhaaGreatDoorW.PrintLast Go.Proofs.YtgjpgfedlgdjhaaGreatDoorW.PrintMore
set_option linter.unusedVariables false
set_option linter.unusedSimpArgs false
mutual
def T5Kind.j0 : Nat → Int → Bool → Option (Int)
 | 0, _, _ => none
 | k + 1, x0, x20 => if x20 = true then (some 0) else (if x0 ≥ 48 then (T5Kind.j1 k x0 (decide (x0 ≤ 57))) else (T5Kind.j1 k x0 false))
def T5Kind.j1 : Nat → Int → Bool → Option (Int)
 | 0, _, _ => none
 | k + 1, x0, x26 => if x26 = true then (some 1) else (if x0 = 123 then (T5Kind.j2 k x0 (x0 == 123)) else (if x0 = 125 then (T5Kind.j2 k x0 (x0 == 125)) else (if x0 = 40 then (T5Kind.j2 k x0 (x0 == 40)) else (if x0 = 41 then (T5Kind.j2 k x0 (x0 == 41)) else (if x0 = 91 then (T5Kind.j2 k x0 (x0 == 91)) else (if x0 = 93 then (T5Kind.j2 k x0 (x0 == 93)) else (if x0 = 59 then (T5Kind.j2 k x0 (x0 == 59)) else (if x0 = 44 then (T5Kind.j2 k x0 (x0 == 44)) else (if x0 = 61 then (T5Kind.j2 k x0 (x0 == 61)) else (if x0 = 46 then (T5Kind.j2 k x0 (x0 == 46)) else (if x0 = 60 then (T5Kind.j2 k x0 (x0 == 60)) else (if x0 = 43 then (T5Kind.j2 k x0 (x0 == 43)) else (T5Kind.j2 k x0 (x0 == 45))))))))))))))
def T5Kind.j2 : Nat → Int → Bool → Option (Int)
 | 0, _, _ => none
 | k + 1, x27, x28 => if x28 = true then (some 2) else (if x27 = 32 then (T5Kind.j3 k x27 (x27 == 32)) else (if x27 = 9 then (T5Kind.j3 k x27 (x27 == 9)) else (if x27 = 13 then (T5Kind.j3 k x27 (x27 == 13)) else (T5Kind.j3 k x27 (x27 == 10)))))
def T5Kind.j3 : Nat → Int → Bool → Option (Int)
 | 0, _, _ => none
 | k + 1, x27, x42 => if x42 = true then (some 3) else (if x27 = 35 then (some 4) else (if x27 = 58 then (some 5) else (some 6)))
end
def T5Kind.f (k : Nat) (a0 : Int) : Option (Int) := if a0 ≥ 65 then (if a0 ≤ 90 then (T5Kind.j0 k a0 true) else (if a0 ≥ 97 then (if a0 ≤ 122 then (T5Kind.j0 k a0 true) else (T5Kind.j0 k a0 (a0 == 95))) else (T5Kind.j0 k a0 (a0 == 95)))) else (if a0 ≥ 97 then (if a0 ≤ 122 then (T5Kind.j0 k a0 true) else (T5Kind.j0 k a0 (a0 == 95))) else (T5Kind.j0 k a0 (a0 == 95)))
set_option maxHeartbeats 8000000 in
set_option maxRecDepth 100000 in
theorem T5Kind.calls (k : Nat) (a0 : Int) (r : Int) (w : World) (h : T5Kind.f k a0 = some r) :
   Calls Tryz.prog 127 #[.int .u8 a0] w fun e w' => e = .returned (.int .i64 r) ∧ Drawn0 w w' := by
 have H : (if a0 ≥ 65 then (if a0 ≤ 90 then (T5Kind.j0 k a0 true) else (if a0 ≥ 97 then (if a0 ≤ 122 then (T5Kind.j0 k a0 true) else (T5Kind.j0 k a0 (a0 == 95))) else (T5Kind.j0 k a0 (a0 == 95)))) else (if a0 ≥ 97 then (if a0 ≤ 122 then (T5Kind.j0 k a0 true) else (T5Kind.j0 k a0 (a0 == 95))) else (T5Kind.j0 k a0 (a0 == 95)))) = some r := h
 clear h
 have HC2 := Aside0.mk H
 clear H
 go_enter Tryz.func127, Tryz.ntmps127
 go_upto_region 1 with (fail)
 go_cut [20] (fun v20 wc => ∃ (kq : Nat) (x20_1 : Bool), v20 = .bool x20_1 ∧ Aside0 (T5Kind.j0 kq a0 x20_1 = some r) ∧ Aside0 (kq ≤ k) ∧ Drawn0 w wc)
 case first =>
   have H := HC2.out
   clear HC2
   by_cases c3 : a0 ≥ 65
   · rw [if_pos c3] at H
     have c3b0 : decide (65 ≤ a0) = true := decide_eq_true c3
     clear c3
     (first | rw [c3b0] | (simp only [i64_w, i32_w]; rw [c3b0]) | skip)
     by_cases c4 : a0 ≤ 90
     · rw [if_pos c4] at H
       have c4b0 : decide (a0 ≤ 90) = true := decide_eq_true c4
       clear c4
       have H' := Aside0.mk H
       clear H
       go_wp2
       go_meet
       case rel => exact ⟨_, (true), (by first | rfl | (simp; done) | (simp [*]; done)), H', ⟨by first | omega | exact Nat.le_refl _⟩, by repeat (first | exact Drawn0.refl _ | apply Drawn0.step)⟩
     · rw [if_neg c4] at H
       have c4b0 : decide (a0 ≤ 90) = false := decide_eq_false c4
       clear c4
       by_cases c5 : a0 ≥ 97
       · rw [if_pos c5] at H
         have c5b0 : decide (97 ≤ a0) = true := decide_eq_true c5
         clear c5
         by_cases c6 : a0 ≤ 122
         · rw [if_pos c6] at H
           have c6b0 : decide (a0 ≤ 122) = true := decide_eq_true c6
           clear c6
           have H' := Aside0.mk H
           clear H
           go_wp2
           go_meet
           case rel => exact ⟨_, (true), (by first | rfl | (simp; done) | (simp [*]; done)), H', ⟨by first | omega | exact Nat.le_refl _⟩, by repeat (first | exact Drawn0.refl _ | apply Drawn0.step)⟩
         · rw [if_neg c6] at H
           have c6b0 : decide (a0 ≤ 122) = false := decide_eq_false c6
           clear c6
           have H' := Aside0.mk H
           clear H
           go_wp2
           go_meet
           case rel => exact ⟨_, ((a0 == 95)), (by first | rfl | (simp; done) | (simp [*]; done)), H', ⟨by first | omega | exact Nat.le_refl _⟩, by repeat (first | exact Drawn0.refl _ | apply Drawn0.step)⟩
       · rw [if_neg c5] at H
         have c5b0 : decide (97 ≤ a0) = false := decide_eq_false c5
         clear c5
         have H' := Aside0.mk H
         clear H
         go_wp2
         go_meet
         case rel => exact ⟨_, ((a0 == 95)), (by first | rfl | (simp; done) | (simp [*]; done)), H', ⟨by first | omega | exact Nat.le_refl _⟩, by repeat (first | exact Drawn0.refl _ | apply Drawn0.step)⟩
   · rw [if_neg c3] at H
     have c3b0 : decide (65 ≤ a0) = false := decide_eq_false c3
     clear c3
     (first | rw [c3b0] | (simp only [i64_w, i32_w]; rw [c3b0]) | skip)
     by_cases c7 : a0 ≥ 97
     · rw [if_pos c7] at H
       have c7b0 : decide (97 ≤ a0) = true := decide_eq_true c7
       clear c7
       by_cases c8 : a0 ≤ 122
       · rw [if_pos c8] at H
         have c8b0 : decide (a0 ≤ 122) = true := decide_eq_true c8
         clear c8
         have H' := Aside0.mk H
         clear H
         go_wp2
         go_meet
         case rel => exact ⟨_, (true), (by first | rfl | (simp; done) | (simp [*]; done)), H', ⟨by first | omega | exact Nat.le_refl _⟩, by repeat (first | exact Drawn0.refl _ | apply Drawn0.step)⟩
       · rw [if_neg c8] at H
         have c8b0 : decide (a0 ≤ 122) = false := decide_eq_false c8
         clear c8
         have H' := Aside0.mk H
         clear H
         go_wp2
         go_meet
         case rel => exact ⟨_, ((a0 == 95)), (by first | rfl | (simp; done) | (simp [*]; done)), H', ⟨by first | omega | exact Nat.le_refl _⟩, by repeat (first | exact Drawn0.refl _ | apply Drawn0.step)⟩
     · rw [if_neg c7] at H
       have c7b0 : decide (97 ≤ a0) = false := decide_eq_false c7
       clear c7
       have H' := Aside0.mk H
       clear H
       go_wp2
       go_meet
       case rel => exact ⟨_, ((a0 == 95)), (by first | rfl | (simp; done) | (simp [*]; done)), H', ⟨by first | omega | exact Nat.le_refl _⟩, by repeat (first | exact Drawn0.refl _ | apply Drawn0.step)⟩
 case rest =>
   clear HC2
   try clear c1
   try clear p2
   try clear c3
   try clear c3b0
   try clear c4
   try clear c4b0
   try clear c5
   try clear c5b0
   try clear c6
   try clear c6b0
   try clear c7
   try clear c7b0
   try clear c8
   try clear c8b0
   obtain ⟨kq, x20_1, rfl, HA, HJ1, ⟨mc1, rfl⟩⟩ := hcut
   cases kq with
   | zero => exact absurd HA.out (by simp [T5Kind.j0])
   | succ kj1 =>
     have H := HA.out
     clear HA
     simp only [T5Kind.j0] at H
     by_cases c9 : x20_1 = true
     · subst c9
       have H1 : (some 0) = some r := by rw [if_pos rfl] at H; exact H
       clear H
       have H := H1
       clear H1
       obtain rfl := Option.some.inj H
       go_wp2
       go_ret
       exact ⟨by first | rfl | (simp; done) | (simp [*]; done), by repeat (first | exact Drawn0.refl _ | apply Drawn0.step)⟩
     · replace c9 := Bool.eq_false_iff.mpr c9
       subst c9
       have H1 : (if a0 ≥ 48 then (T5Kind.j1 kj1 a0 (decide (a0 ≤ 57))) else (T5Kind.j1 kj1 a0 false)) = some r := by rw [if_neg (show ¬ (false = true) by decide)] at H; exact H
       clear H
       have H := H1
       clear H1
       have HC10 := Aside0.mk H
       clear H
       go_upto_region 3 with (fail)
       go_cut [26] (fun v26 wc => ∃ (kq : Nat) (x26_9 : Bool), v26 = .bool x26_9 ∧ Aside0 (T5Kind.j1 kq a0 x26_9 = some r) ∧ Aside0 (kq ≤ kj1) ∧ Drawn0 w wc)
       case first =>
         have H := HC10.out
         clear HC10
         by_cases c11 : a0 ≥ 48
         · rw [if_pos c11] at H
           have c11b0 : decide (48 ≤ a0) = true := decide_eq_true c11
           clear c11
           (first | rw [c11b0] | (simp only [i64_w, i32_w]; rw [c11b0]) | skip)
           have H' := Aside0.mk H
           clear H
           go_wp2
           go_meet
           case rel => exact ⟨_, (decide (a0 ≤ 57)), (by first | rfl | (simp; done) | (simp [*]; done)), H', ⟨by have := HJ1.out; first | omega | exact Nat.le_refl _⟩, by repeat (first | exact Drawn0.refl _ | apply Drawn0.step)⟩
         · rw [if_neg c11] at H
           have c11b0 : decide (48 ≤ a0) = false := decide_eq_false c11
           clear c11
           (first | rw [c11b0] | (simp only [i64_w, i32_w]; rw [c11b0]) | skip)
           have H' := Aside0.mk H
           clear H
           go_wp2
           go_meet
           case rel => exact ⟨_, (false), (by first | rfl | (simp; done) | (simp [*]; done)), H', ⟨by have := HJ1.out; first | omega | exact Nat.le_refl _⟩, by repeat (first | exact Drawn0.refl _ | apply Drawn0.step)⟩
       case rest =>
         clear HC10
         try clear c1
         try clear p2
         try clear c3
         try clear c3b0
         try clear c4
         try clear c4b0
         try clear c5
         try clear c5b0
         try clear c6
         try clear c6b0
         try clear c7
         try clear c7b0
         try clear c8
         try clear c8b0
         try clear c9
         try clear c11
         try clear c11b0
         try clear p2
         obtain ⟨kq, x26_9, rfl, HA, HJ9, ⟨mc9, rfl⟩⟩ := hcut
         cases kq with
         | zero => exact absurd HA.out (by simp [T5Kind.j1])
         | succ kj9 =>
           have H := HA.out
           clear HA
           simp only [T5Kind.j1] at H
           by_cases c12 : x26_9 = true
           · subst c12
             have H1 : (some 1) = some r := by rw [if_pos rfl] at H; exact H
             clear H
             have H := H1
             clear H1
             obtain rfl := Option.some.inj H
             go_wp2
             go_ret
             exact ⟨by first | rfl | (simp; done) | (simp [*]; done), by repeat (first | exact Drawn0.refl _ | apply Drawn0.step)⟩
           · replace c12 := Bool.eq_false_iff.mpr c12
             subst c12
             have H1 : (if a0 = 123 then (T5Kind.j2 kj9 a0 (a0 == 123)) else (if a0 = 125 then (T5Kind.j2 kj9 a0 (a0 == 125)) else (if a0 = 40 then (T5Kind.j2 kj9 a0 (a0 == 40)) else (if a0 = 41 then (T5Kind.j2 kj9 a0 (a0 == 41)) else (if a0 = 91 then (T5Kind.j2 kj9 a0 (a0 == 91)) else (if a0 = 93 then (T5Kind.j2 kj9 a0 (a0 == 93)) else (if a0 = 59 then (T5Kind.j2 kj9 a0 (a0 == 59)) else (if a0 = 44 then (T5Kind.j2 kj9 a0 (a0 == 44)) else (if a0 = 61 then (T5Kind.j2 kj9 a0 (a0 == 61)) else (if a0 = 46 then (T5Kind.j2 kj9 a0 (a0 == 46)) else (if a0 = 60 then (T5Kind.j2 kj9 a0 (a0 == 60)) else (if a0 = 43 then (T5Kind.j2 kj9 a0 (a0 == 43)) else (T5Kind.j2 kj9 a0 (a0 == 45)))))))))))))) = some r := by rw [if_neg (show ¬ (false = true) by decide)] at H; exact H
             clear H
             have H := H1
             clear H1
             have HC13 := Aside0.mk H
             clear H
             go_upto_if 28 with (fail)
             go_cut [28] (fun v28 wc => ∃ (kq : Nat) (x28_12 : Bool), v28 = .bool x28_12 ∧ Aside0 (T5Kind.j2 kq a0 x28_12 = some r) ∧ Aside0 (kq ≤ kj9) ∧ Drawn0 w wc)
             case first =>
               have H := HC13.out
               clear HC13
               by_cases c14 : a0 = 123
               · rw [if_pos c14] at H
                 have c14b0 : (a0 == 123) = true := beq_iff_eq.mpr c14
                 have c14b1 : (a0 != 123) = false := bne_eq_false_iff_eq.mpr c14
                 clear c14
                 (first | rw [c14b0] | (simp only [i64_w, i32_w]; rw [c14b0]) | skip)
                 have H' := Aside0.mk H
                 clear H
                 go_wp2
                 go_meet
                 case rel => exact ⟨_, ((a0 == 123)), (by first | rfl | (simp; done) | (simp [*]; done)), H', ⟨by have := HJ1.out; have := HJ9.out; first | omega | exact Nat.le_refl _⟩, by repeat (first | exact Drawn0.refl _ | apply Drawn0.step)⟩
               · rw [if_neg c14] at H
                 have c14b0 : (a0 == 123) = false := beq_eq_false_iff_ne.mpr c14
                 have c14b1 : (a0 != 123) = true := bne_iff_ne.mpr c14
                 (first | rw [c14b0] | (simp only [i64_w, i32_w]; rw [c14b0]) | skip)
                 by_cases c15 : a0 = 125
                 · rw [if_pos c15] at H
                   have c15b0 : (a0 == 125) = true := beq_iff_eq.mpr c15
                   have c15b1 : (a0 != 125) = false := bne_eq_false_iff_eq.mpr c15
                   clear c15
                   have H' := Aside0.mk H
                   clear H
                   go_wp2
                   go_meet
                   case rel => exact ⟨_, ((a0 == 125)), (by first | rfl | (simp; done) | (simp [*]; done)), H', ⟨by have := HJ1.out; have := HJ9.out; first | omega | exact Nat.le_refl _⟩, by repeat (first | exact Drawn0.refl _ | apply Drawn0.step)⟩
                 · rw [if_neg c15] at H
                   have c15b0 : (a0 == 125) = false := beq_eq_false_iff_ne.mpr c15
                   have c15b1 : (a0 != 125) = true := bne_iff_ne.mpr c15
                   by_cases c16 : a0 = 40
                   · rw [if_pos c16] at H
                     have c16b0 : (a0 == 40) = true := beq_iff_eq.mpr c16
                     have c16b1 : (a0 != 40) = false := bne_eq_false_iff_eq.mpr c16
                     clear c16
                     have H' := Aside0.mk H
                     clear H
                     go_wp2
                     go_meet
                     case rel => exact ⟨_, ((a0 == 40)), (by first | rfl | (simp; done) | (simp [*]; done)), H', ⟨by have := HJ1.out; have := HJ9.out; first | omega | exact Nat.le_refl _⟩, by repeat (first | exact Drawn0.refl _ | apply Drawn0.step)⟩
                   · rw [if_neg c16] at H
                     have c16b0 : (a0 == 40) = false := beq_eq_false_iff_ne.mpr c16
                     have c16b1 : (a0 != 40) = true := bne_iff_ne.mpr c16
                     by_cases c17 : a0 = 41
                     · rw [if_pos c17] at H
                       have c17b0 : (a0 == 41) = true := beq_iff_eq.mpr c17
                       have c17b1 : (a0 != 41) = false := bne_eq_false_iff_eq.mpr c17
                       clear c17
                       have H' := Aside0.mk H
                       clear H
                       go_wp2
                       go_meet
                       case rel => exact ⟨_, ((a0 == 41)), (by first | rfl | (simp; done) | (simp [*]; done)), H', ⟨by have := HJ1.out; have := HJ9.out; first | omega | exact Nat.le_refl _⟩, by repeat (first | exact Drawn0.refl _ | apply Drawn0.step)⟩
                     · rw [if_neg c17] at H
                       have c17b0 : (a0 == 41) = false := beq_eq_false_iff_ne.mpr c17
                       have c17b1 : (a0 != 41) = true := bne_iff_ne.mpr c17
                       by_cases c18 : a0 = 91
                       · rw [if_pos c18] at H
                         have c18b0 : (a0 == 91) = true := beq_iff_eq.mpr c18
                         have c18b1 : (a0 != 91) = false := bne_eq_false_iff_eq.mpr c18
                         clear c18
                         have H' := Aside0.mk H
                         clear H
                         go_wp2
                         go_meet
                         case rel => exact ⟨_, ((a0 == 91)), (by first | rfl | (simp; done) | (simp [*]; done)), H', ⟨by have := HJ1.out; have := HJ9.out; first | omega | exact Nat.le_refl _⟩, by repeat (first | exact Drawn0.refl _ | apply Drawn0.step)⟩
                       · rw [if_neg c18] at H
                         have c18b0 : (a0 == 91) = false := beq_eq_false_iff_ne.mpr c18
                         have c18b1 : (a0 != 91) = true := bne_iff_ne.mpr c18
                         by_cases c19 : a0 = 93
                         · rw [if_pos c19] at H
                           have c19b0 : (a0 == 93) = true := beq_iff_eq.mpr c19
                           have c19b1 : (a0 != 93) = false := bne_eq_false_iff_eq.mpr c19
                           clear c19
                           have H' := Aside0.mk H
                           clear H
                           go_wp2
                           go_meet
                           case rel => exact ⟨_, ((a0 == 93)), (by first | rfl | (simp; done) | (simp [*]; done)), H', ⟨by have := HJ1.out; have := HJ9.out; first | omega | exact Nat.le_refl _⟩, by repeat (first | exact Drawn0.refl _ | apply Drawn0.step)⟩
                         · rw [if_neg c19] at H
                           have c19b0 : (a0 == 93) = false := beq_eq_false_iff_ne.mpr c19
                           have c19b1 : (a0 != 93) = true := bne_iff_ne.mpr c19
                           by_cases c20 : a0 = 59
                           · rw [if_pos c20] at H
                             have c20b0 : (a0 == 59) = true := beq_iff_eq.mpr c20
                             have c20b1 : (a0 != 59) = false := bne_eq_false_iff_eq.mpr c20
                             clear c20
                             have H' := Aside0.mk H
                             clear H
                             go_wp2
                             go_meet
                             case rel => exact ⟨_, ((a0 == 59)), (by first | rfl | (simp; done) | (simp [*]; done)), H', ⟨by have := HJ1.out; have := HJ9.out; first | omega | exact Nat.le_refl _⟩, by repeat (first | exact Drawn0.refl _ | apply Drawn0.step)⟩
                           · rw [if_neg c20] at H
                             have c20b0 : (a0 == 59) = false := beq_eq_false_iff_ne.mpr c20
                             have c20b1 : (a0 != 59) = true := bne_iff_ne.mpr c20
                             by_cases c21 : a0 = 44
                             · rw [if_pos c21] at H
                               have c21b0 : (a0 == 44) = true := beq_iff_eq.mpr c21
                               have c21b1 : (a0 != 44) = false := bne_eq_false_iff_eq.mpr c21
                               clear c21
                               have H' := Aside0.mk H
                               clear H
                               go_wp2
                               go_meet
                               case rel => exact ⟨_, ((a0 == 44)), (by first | rfl | (simp; done) | (simp [*]; done)), H', ⟨by have := HJ1.out; have := HJ9.out; first | omega | exact Nat.le_refl _⟩, by repeat (first | exact Drawn0.refl _ | apply Drawn0.step)⟩
                             · rw [if_neg c21] at H
                               have c21b0 : (a0 == 44) = false := beq_eq_false_iff_ne.mpr c21
                               have c21b1 : (a0 != 44) = true := bne_iff_ne.mpr c21
                               by_cases c22 : a0 = 61
                               · rw [if_pos c22] at H
                                 have c22b0 : (a0 == 61) = true := beq_iff_eq.mpr c22
                                 have c22b1 : (a0 != 61) = false := bne_eq_false_iff_eq.mpr c22
                                 clear c22
                                 have H' := Aside0.mk H
                                 clear H
                                 go_wp2
                                 go_meet
                                 case rel => exact ⟨_, ((a0 == 61)), (by first | rfl | (simp; done) | (simp [*]; done)), H', ⟨by have := HJ1.out; have := HJ9.out; first | omega | exact Nat.le_refl _⟩, by repeat (first | exact Drawn0.refl _ | apply Drawn0.step)⟩
                               · rw [if_neg c22] at H
                                 have c22b0 : (a0 == 61) = false := beq_eq_false_iff_ne.mpr c22
                                 have c22b1 : (a0 != 61) = true := bne_iff_ne.mpr c22
                                 by_cases c23 : a0 = 46
                                 · rw [if_pos c23] at H
                                   have c23b0 : (a0 == 46) = true := beq_iff_eq.mpr c23
                                   have c23b1 : (a0 != 46) = false := bne_eq_false_iff_eq.mpr c23
                                   clear c23
                                   have H' := Aside0.mk H
                                   clear H
                                   go_wp2
                                   go_meet
                                   case rel => exact ⟨_, ((a0 == 46)), (by first | rfl | (simp; done) | (simp [*]; done)), H', ⟨by have := HJ1.out; have := HJ9.out; first | omega | exact Nat.le_refl _⟩, by repeat (first | exact Drawn0.refl _ | apply Drawn0.step)⟩
                                 · rw [if_neg c23] at H
                                   have c23b0 : (a0 == 46) = false := beq_eq_false_iff_ne.mpr c23
                                   have c23b1 : (a0 != 46) = true := bne_iff_ne.mpr c23
                                   by_cases c24 : a0 = 60
                                   · rw [if_pos c24] at H
                                     have c24b0 : (a0 == 60) = true := beq_iff_eq.mpr c24
                                     have c24b1 : (a0 != 60) = false := bne_eq_false_iff_eq.mpr c24
                                     clear c24
                                     have H' := Aside0.mk H
                                     clear H
                                     go_wp2
                                     go_meet
                                     case rel => exact ⟨_, ((a0 == 60)), (by first | rfl | (simp; done) | (simp [*]; done)), H', ⟨by have := HJ1.out; have := HJ9.out; first | omega | exact Nat.le_refl _⟩, by repeat (first | exact Drawn0.refl _ | apply Drawn0.step)⟩
                                   · rw [if_neg c24] at H
                                     have c24b0 : (a0 == 60) = false := beq_eq_false_iff_ne.mpr c24
                                     have c24b1 : (a0 != 60) = true := bne_iff_ne.mpr c24
                                     by_cases c25 : a0 = 43
                                     · rw [if_pos c25] at H
                                       have c25b0 : (a0 == 43) = true := beq_iff_eq.mpr c25
                                       have c25b1 : (a0 != 43) = false := bne_eq_false_iff_eq.mpr c25
                                       clear c25
                                       have H' := Aside0.mk H
                                       clear H
                                       go_wp2
                                       go_meet
                                       case rel => exact ⟨_, ((a0 == 43)), (by first | rfl | (simp; done) | (simp [*]; done)), H', ⟨by have := HJ1.out; have := HJ9.out; first | omega | exact Nat.le_refl _⟩, by repeat (first | exact Drawn0.refl _ | apply Drawn0.step)⟩
                                     · rw [if_neg c25] at H
                                       have c25b0 : (a0 == 43) = false := beq_eq_false_iff_ne.mpr c25
                                       have c25b1 : (a0 != 43) = true := bne_iff_ne.mpr c25
                                       have H' := Aside0.mk H
                                       clear H
                                       go_wp2
                                       go_meet
                                       case rel => exact ⟨_, ((a0 == 45)), (by first | rfl | (simp; done) | (simp [*]; done)), H', ⟨by have := HJ1.out; have := HJ9.out; first | omega | exact Nat.le_refl _⟩, by repeat (first | exact Drawn0.refl _ | apply Drawn0.step)⟩
             case rest =>
               clear HC13
               try clear c1
               try clear c2
               try clear p2
               try clear c3
               try clear c3b0
               try clear c4
               try clear c4b0
               try clear c5
               try clear c5b0
               try clear c6
               try clear c6b0
               try clear c7
               try clear c7b0
               try clear c8
               try clear c8b0
               try clear c9
               try clear c11
               try clear c11b0
               try clear c12
               try clear c14
               try clear c14b0
               try clear c14b1
               try clear c15
               try clear c15b0
               try clear c15b1
               try clear c16
               try clear c16b0
               try clear c16b1
               try clear c17
               try clear c17b0
               try clear c17b1
               try clear c18
               try clear c18b0
               try clear c18b1
               try clear c19
               try clear c19b0
               try clear c19b1
               try clear c20
               try clear c20b0
               try clear c20b1
               try clear c21
               try clear c21b0
               try clear c21b1
               try clear c22
               try clear c22b0
               try clear c22b1
               try clear c23
               try clear c23b0
               try clear c23b1
               try clear c24
               try clear c24b0
               try clear c24b1
               try clear c25
               try clear c25b0
               try clear c25b1
               try clear p2
               obtain ⟨kq, x28_12, rfl, HA, HJ12, ⟨mc12, rfl⟩⟩ := hcut
               cases kq with
               | zero => exact absurd HA.out (by simp [T5Kind.j2])
               | succ kj12 =>
                 have H := HA.out
                 clear HA
                 simp only [T5Kind.j2] at H
                 by_cases c26 : x28_12 = true
                 · subst c26
                   have H1 : (some 2) = some r := by rw [if_pos rfl] at H; exact H
                   clear H
                   have H := H1
                   clear H1
                   obtain rfl := Option.some.inj H
                   go_wp2
                   go_ret
                   exact ⟨by first | rfl | (simp; done) | (simp [*]; done), by repeat (first | exact Drawn0.refl _ | apply Drawn0.step)⟩
                 · replace c26 := Bool.eq_false_iff.mpr c26
                   subst c26
                   have H1 : (if a0 = 32 then (T5Kind.j3 kj12 a0 (a0 == 32)) else (if a0 = 9 then (T5Kind.j3 kj12 a0 (a0 == 9)) else (if a0 = 13 then (T5Kind.j3 kj12 a0 (a0 == 13)) else (T5Kind.j3 kj12 a0 (a0 == 10))))) = some r := by rw [if_neg (show ¬ (false = true) by decide)] at H; exact H
                   clear H
                   have H := H1
                   clear H1
                   have HC27 := Aside0.mk H
                   clear H
                   go_upto_if 42 with (fail)
                   go_cut [42] (fun v42 wc => ∃ (kq : Nat) (x42_26 : Bool), v42 = .bool x42_26 ∧ Aside0 (T5Kind.j3 kq a0 x42_26 = some r) ∧ Aside0 (kq ≤ kj12) ∧ Drawn0 w wc)
                   case first =>
                     have H := HC27.out
                     clear HC27
                     by_cases c28 : a0 = 32
                     · rw [if_pos c28] at H
                       have c28b0 : (a0 == 32) = true := beq_iff_eq.mpr c28
                       have c28b1 : (a0 != 32) = false := bne_eq_false_iff_eq.mpr c28
                       clear c28
                       (first | rw [c28b0] | (simp only [i64_w, i32_w]; rw [c28b0]) | skip)
                       have H' := Aside0.mk H
                       clear H
                       go_wp2
                       go_meet
                       case rel => exact ⟨_, ((a0 == 32)), (by first | rfl | (simp; done) | (simp [*]; done)), H', ⟨by have := HJ1.out; have := HJ9.out; have := HJ12.out; first | omega | exact Nat.le_refl _⟩, by repeat (first | exact Drawn0.refl _ | apply Drawn0.step)⟩
                     · rw [if_neg c28] at H
                       have c28b0 : (a0 == 32) = false := beq_eq_false_iff_ne.mpr c28
                       have c28b1 : (a0 != 32) = true := bne_iff_ne.mpr c28
                       (first | rw [c28b0] | (simp only [i64_w, i32_w]; rw [c28b0]) | skip)
                       by_cases c29 : a0 = 9
                       · rw [if_pos c29] at H
                         have c29b0 : (a0 == 9) = true := beq_iff_eq.mpr c29
                         have c29b1 : (a0 != 9) = false := bne_eq_false_iff_eq.mpr c29
                         clear c29
                         have H' := Aside0.mk H
                         clear H
                         go_wp2
                         go_meet
                         case rel => exact ⟨_, ((a0 == 9)), (by first | rfl | (simp; done) | (simp [*]; done)), H', ⟨by have := HJ1.out; have := HJ9.out; have := HJ12.out; first | omega | exact Nat.le_refl _⟩, by repeat (first | exact Drawn0.refl _ | apply Drawn0.step)⟩
                       · rw [if_neg c29] at H
                         have c29b0 : (a0 == 9) = false := beq_eq_false_iff_ne.mpr c29
                         have c29b1 : (a0 != 9) = true := bne_iff_ne.mpr c29
                         by_cases c30 : a0 = 13
                         · rw [if_pos c30] at H
                           have c30b0 : (a0 == 13) = true := beq_iff_eq.mpr c30
                           have c30b1 : (a0 != 13) = false := bne_eq_false_iff_eq.mpr c30
                           clear c30
                           have H' := Aside0.mk H
                           clear H
                           go_wp2
                           go_meet
                           case rel => exact ⟨_, ((a0 == 13)), (by first | rfl | (simp; done) | (simp [*]; done)), H', ⟨by have := HJ1.out; have := HJ9.out; have := HJ12.out; first | omega | exact Nat.le_refl _⟩, by repeat (first | exact Drawn0.refl _ | apply Drawn0.step)⟩
                         · rw [if_neg c30] at H
                           have c30b0 : (a0 == 13) = false := beq_eq_false_iff_ne.mpr c30
                           have c30b1 : (a0 != 13) = true := bne_iff_ne.mpr c30
                           have H' := Aside0.mk H
                           clear H
                           go_wp2
                           go_meet
                           case rel => exact ⟨_, ((a0 == 10)), (by first | rfl | (simp; done) | (simp [*]; done)), H', ⟨by have := HJ1.out; have := HJ9.out; have := HJ12.out; first | omega | exact Nat.le_refl _⟩, by repeat (first | exact Drawn0.refl _ | apply Drawn0.step)⟩
                   case rest =>
                     clear HC27
                     try clear c1
                     try clear c2
                     try clear p2
                     try clear c3
                     try clear c3b0
                     try clear c4
                     try clear c4b0
                     try clear c5
                     try clear c5b0
                     try clear c6
                     try clear c6b0
                     try clear c7
                     try clear c7b0
                     try clear c8
                     try clear c8b0
                     try clear c9
                     try clear c11
                     try clear c11b0
                     try clear c12
                     try clear c14
                     try clear c14b0
                     try clear c14b1
                     try clear c15
                     try clear c15b0
                     try clear c15b1
                     try clear c16
                     try clear c16b0
                     try clear c16b1
                     try clear c17
                     try clear c17b0
                     try clear c17b1
                     try clear c18
                     try clear c18b0
                     try clear c18b1
                     try clear c19
                     try clear c19b0
                     try clear c19b1
                     try clear c20
                     try clear c20b0
                     try clear c20b1
                     try clear c21
                     try clear c21b0
                     try clear c21b1
                     try clear c22
                     try clear c22b0
                     try clear c22b1
                     try clear c23
                     try clear c23b0
                     try clear c23b1
                     try clear c24
                     try clear c24b0
                     try clear c24b1
                     try clear c25
                     try clear c25b0
                     try clear c25b1
                     try clear c26
                     try clear c28
                     try clear c28b0
                     try clear c28b1
                     try clear c29
                     try clear c29b0
                     try clear c29b1
                     try clear c30
                     try clear c30b0
                     try clear c30b1
                     try clear p2
                     obtain ⟨kq, x42_26, rfl, HA, HJ26, ⟨mc26, rfl⟩⟩ := hcut
                     cases kq with
                     | zero => exact absurd HA.out (by simp [T5Kind.j3])
                     | succ kj26 =>
                       have H := HA.out
                       clear HA
                       simp only [T5Kind.j3] at H
                       by_cases c31 : x42_26 = true
                       · subst c31
                         have H1 : (some 3) = some r := by rw [if_pos rfl] at H; exact H
                         clear H
                         have H := H1
                         clear H1
                         obtain rfl := Option.some.inj H
                         go_wp2
                         go_ret
                         exact ⟨by first | rfl | (simp; done) | (simp [*]; done), by repeat (first | exact Drawn0.refl _ | apply Drawn0.step)⟩
                       · replace c31 := Bool.eq_false_iff.mpr c31
                         subst c31
                         have H1 : (if a0 = 35 then (some 4) else (if a0 = 58 then (some 5) else (some 6))) = some r := by rw [if_neg (show ¬ (false = true) by decide)] at H; exact H
                         clear H
                         have H := H1
                         clear H1
                         by_cases c32 : a0 = 35
                         · rw [if_pos c32] at H
                           have c32b0 : (a0 == 35) = true := beq_iff_eq.mpr c32
                           have c32b1 : (a0 != 35) = false := bne_eq_false_iff_eq.mpr c32
                           clear c32
                           obtain rfl := Option.some.inj H
                           go_wp2
                           go_ret
                           exact ⟨by first | rfl | (simp; done) | (simp [*]; done), by repeat (first | exact Drawn0.refl _ | apply Drawn0.step)⟩
                         · rw [if_neg c32] at H
                           have c32b0 : (a0 == 35) = false := beq_eq_false_iff_ne.mpr c32
                           have c32b1 : (a0 != 35) = true := bne_iff_ne.mpr c32
                           by_cases c33 : a0 = 58
                           · rw [if_pos c33] at H
                             have c33b0 : (a0 == 58) = true := beq_iff_eq.mpr c33
                             have c33b1 : (a0 != 58) = false := bne_eq_false_iff_eq.mpr c33
                             clear c33
                             obtain rfl := Option.some.inj H
                             go_wp2
                             go_ret
                             exact ⟨by first | rfl | (simp; done) | (simp [*]; done), by repeat (first | exact Drawn0.refl _ | apply Drawn0.step)⟩
                           · rw [if_neg c33] at H
                             have c33b0 : (a0 == 58) = false := beq_eq_false_iff_ne.mpr c33
                             have c33b1 : (a0 != 58) = true := bne_iff_ne.mpr c33
                             obtain rfl := Option.some.inj H
                             go_wp2
                             go_ret
                             exact ⟨by first | rfl | (simp; done) | (simp [*]; done), by repeat (first | exact Drawn0.refl _ | apply Drawn0.step)⟩
end Go.Proofs.YtgjpgfedlgdjhaaGreatDoor.PC
end
