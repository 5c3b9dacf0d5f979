/- The law IntsNone. -/
import Derived.Test.YtbcbdjeoloepjaaDoorIs
set_option linter.unusedVariables false
namespace Go.Proofs.YtbcbdjeoloepjaaDoor
open Go.RowKit Go.W

theorem sadd_nil' (w : World) (n : Int) : Calls Tryd.prog 17 #[.pointer none, .int .i64 n] w fun e w' => e = .returned (.bool false) ∧ Ch No w w' :=
  (sadd_nil w n).mono fun e w' ⟨he, hw⟩ => ⟨he, by rw [hw]; exact Ch.refl _ _⟩

set_option maxHeartbeats 1000000 in
theorem smerge_nil (w : World) (tv : Value) : Calls Tryd.prog 13 #[.pointer none, tv] w fun e w' => e = .returned (.slice none 0 0) ∧ Ch No w w' := by
  go_enter Tryd.func13, Tryd.ntmps13
  go_wp2_with fail
  go_ret
  exact ⟨rfl, Ch.refl _ _⟩

theorem filter_nil (l : List Int) : l.filter (fun x => !decide (x ∈ ([] : List Int))) = l := by simp
theorem any_nil (l : List Int) : l.any (fun x => decide (x ∈ ([] : List Int))) = false := by simp

set_option maxHeartbeats 16000000 in
set_option maxRecDepth 100000 in
theorem law_none {w : World} {va : Value} {a : List Int} {n : Int} (hT : Tab w) (ha : IntsAt w va a) :
    Calls Tryd.prog 6 #[va, .int .i64 n] w fun e w' => e = .returned (.bool true) ∧ Ch No w w' := by
  have haw := awake01 hT
  have ha' := ha
  obtain ⟨aoa, capa, rfl, hcapa, hmaxa, _, _⟩ := ha
  obtain ⟨la, hla⟩ : ∃ la, a.length = la := ⟨_, rfl⟩
  rw [hla] at ha' hcapa ⊢
  unfold maxLen at hmaxa
  have HA := hid ha'
  have HT := hid hT
  have HLA := hid hla
  clear ha' hT hla
  cases e1 : decide ((la : Int) > 60) with
  | true =>
    go_enter Tryd.func6, Tryd.ntmps6
    go_wp2_with fail
    refine haw.mono ?_
    rintro e w1 ⟨rfl, hc1⟩
    go_wp2_with fail
    refine (awake01 (HT.out.no hc1)).mono ?_
    rintro e w2 ⟨rfl, hc2⟩
    go_wp2_with fail
    go_ret
    exact ⟨rfl, hc1.trans hc2⟩
  | false =>
    have hla60 : la ≤ 60 := by simp at e1; omega
    go_enter Tryd.func6, Tryd.ntmps6
    go_wp2_with fail
    refine haw.mono ?_
    rintro e w1 ⟨rfl, hc1⟩
    clear haw
    go_wp2_with fail
    have hk2 := sof (HA.out.no hc1)
    refine hk2.mono ?_
    rintro e w2 ⟨us, rfl, hs, hd2⟩
    clear hk2
    have hc2 := hc1.trans hd2
    have z2 := hd2.size
    clear hd2
    obtain ⟨sb, ob, rfl, hs, hrs, hrs'⟩ := hs.openIt
    have hk3 := rof (HA.out.no hc2) (by rw [HLA.out]; omega)
    go_wp2_with fail
    refine hk3.mono ?_
    rintro e w3 ⟨vx, rfl, hx, hd3⟩
    clear hk3
    have hs := hs.no hd3
    have hc3 := hc2.trans hd3
    have z3 := hd3.size
    clear hd3
    have gs := good_nil.fold a
    have ll1 := foldS_length [] a
    rw [HLA.out] at ll1
    simp only [List.length_nil, Nat.zero_add] at ll1
    obtain ⟨ls, hls⟩ : ∃ ls, a.foldl putS [] = ls := ⟨_, rfl⟩
    rw [hls] at hs hx gs ll1
    clear hls
    have GS := hid gs
    clear gs
    obtain ⟨ax, cx, rfl, _⟩ := hx.at_
    obtain ⟨nx, hnx⟩ : ∃ n, ls.length = n := ⟨_, rfl⟩
    rw [hnx]
    have HNX := hid hnx
    clear hx hnx
    have hk4 := sadd_nil' w3 n
    go_wp2_with fail
    refine hk4.mono ?_
    rintro e w4 ⟨rfl, hd4⟩
    clear hk4
    have hs := hs.no hd4
    have hc4 := hc3.trans hd4
    have z4 := hd4.size
    clear hd4
    have hk5 := shas' (SetV.nil w4) n
    rw [decide_eq_false (by simp)] at hk5
    go_wp2_with fail
    refine hk5.mono ?_
    rintro e w5 ⟨rfl, hd5⟩
    clear hk5
    have hs := hs.no hd5
    have hc5 := hc4.trans hd5
    have z5 := hd5.size
    clear hd5
    have hk6 := slen' (SetV.nil w5)
    rw [List.length_nil] at hk6
    go_wp2_with fail
    refine hk6.mono ?_
    rintro e w6 ⟨rfl, hd6⟩
    clear hk6
    have hs := hs.no hd6
    have hc6 := hc5.trans hd6
    have z6 := hd6.size
    clear hd6
    have hk7 := slist (HT.out.no hc6) (SetV.nil w6)
    go_wp2_with fail
    refine hk7.mono ?_
    rintro e w7 ⟨v7, rfl, hv7, hd7⟩
    clear hk7
    have hs := hs.no hd7
    have hc7 := hc6.trans hd7
    have z7 := hd7.size
    clear hd7
    obtain ⟨a7, c7, rfl, _⟩ := hv7.at_
    clear hv7
    have hk8 := smerge_nil w7 (.pointer (some ⟨sb, 0, none⟩))
    go_wp2_with fail
    refine hk8.mono ?_
    rintro e w8 ⟨rfl, hd8⟩
    clear hk8
    have hs := hs.no hd8
    have hc8 := hc7.trans hd8
    have z8 := hd8.size
    clear hd8
    go_wp2_with fail
    refine (smerge (HT.out.no hc8) hs (SetV.nil w8)).mono ?_
    rintro e w9 ⟨v9, ob2, rfl, hv9, hs, hd9, hob2⟩
    have hv9 : IntsOwn w9 w8.heap.size v9 [] := hv9
    have hs : SetAt w9 sb ls ob2 := hs
    obtain ⟨a9, c9, rfl, _⟩ := hv9.at_
    have hc9 : Ch No w w9 := So.new hc8 hd9 (B := w1.heap.size) hc1.size hrs.1 (fun b hb => (hrs' b hb).1)
    have z9 := hd9.size
    clear hd9 hv9
    have hk10 := sunion (HT.out.no hc9) hs.v (SetV.nil w9)
    go_wp2_with fail
    refine hk10.mono ?_
    rintro e w10 ⟨u10, rfl, h10, hd10⟩
    clear hk10
    have hs := hs.no hd10
    have hc10 := hc9.trans hd10
    have z10 := hd10.size
    clear hd10
    obtain ⟨b10, o10, rfl, h10, _, _⟩ := h10.openIt
    have hk11 := ssame (HT.out.no hc10) h10.v hs.v
    rw [List.foldl_nil, decide_eq_true (Eq.refl _)] at hk11
    go_wp2_with fail
    refine hk11.mono ?_
    rintro e w11 ⟨rfl, hd11⟩
    clear hk11
    have hs := hs.no hd11
    have h10 := h10.no hd11
    have hc11 := hc10.trans hd11
    have z11 := hd11.size
    clear hd11
    have hk12 := sunion (HT.out.no hc11) (SetV.nil w11) hs.v
    rw [fold_self GS.out] at hk12
    go_wp2_with fail
    refine hk12.mono ?_
    rintro e w12 ⟨u12, rfl, h12, hd12⟩
    clear hk12
    have hs := hs.no hd12
    have hc12 := hc11.trans hd12
    have z12 := hd12.size
    clear hd12
    obtain ⟨b12, o12, rfl, h12, _, _⟩ := h12.openIt
    have hk13 := ssame (HT.out.no hc12) h12.v hs.v
    rw [decide_eq_true (Eq.refl _)] at hk13
    go_wp2_with fail
    refine hk13.mono ?_
    rintro e w13 ⟨rfl, hd13⟩
    clear hk13
    have hs := hs.no hd13
    have h12 := h12.no hd13
    have hc13 := hc12.trans hd13
    have z13 := hd13.size
    clear hd13
    have hk14 := sminus (HT.out.no hc13) hs.v (SetV.nil w13)
    rw [filter_nil] at hk14
    go_wp2_with fail
    refine hk14.mono ?_
    rintro e w14 ⟨u14, rfl, h14, hd14⟩
    clear hk14
    have hs := hs.no hd14
    have hc14 := hc13.trans hd14
    have z14 := hd14.size
    clear hd14
    obtain ⟨b14, o14, rfl, h14, _, _⟩ := h14.openIt
    have hk15 := ssame (HT.out.no hc14) h14.v hs.v
    rw [decide_eq_true (Eq.refl _)] at hk15
    go_wp2_with fail
    refine hk15.mono ?_
    rintro e w15 ⟨rfl, hd15⟩
    clear hk15
    have hs := hs.no hd15
    have h14 := h14.no hd15
    have hc15 := hc14.trans hd15
    have z15 := hd15.size
    clear hd15
    have hk16 := sminus (HT.out.no hc15) (SetV.nil w15) hs.v
    rw [List.filter_nil] at hk16
    go_wp2_with fail
    refine hk16.mono ?_
    rintro e w16 ⟨u16, rfl, h16, hd16⟩
    clear hk16
    have hs := hs.no hd16
    have hc16 := hc15.trans hd16
    have z16 := hd16.size
    clear hd16
    obtain ⟨b16, o16, rfl, h16, _, _⟩ := h16.openIt
    have hk17 := slen' h16.v
    rw [List.length_nil] at hk17
    go_wp2_with fail
    refine hk17.mono ?_
    rintro e w17 ⟨rfl, hd17⟩
    clear hk17
    have hs := hs.no hd17
    have h16 := h16.no hd17
    have hc17 := hc16.trans hd17
    have z17 := hd17.size
    clear hd17
    have hk18 := smeets (HT.out.no hc17) (SetV.nil w17) hs.v
    rw [List.any_nil] at hk18
    go_wp2_with fail
    refine hk18.mono ?_
    rintro e w18 ⟨rfl, hd18⟩
    clear hk18
    have hs := hs.no hd18
    have hc18 := hc17.trans hd18
    have z18 := hd18.size
    clear hd18
    have hk19 := smeets (HT.out.no hc18) hs.v (SetV.nil w18)
    rw [any_nil] at hk19
    go_wp2_with fail
    refine hk19.mono ?_
    rintro e w19 ⟨rfl, hd19⟩
    clear hk19
    have hs := hs.no hd19
    have hc19 := hc18.trans hd19
    have z19 := hd19.size
    clear hd19
    have hlast : decide (([] : List Int) = ls) = decide (nx = 0) := by
      rw [← HNX.out]
      cases ls <;> simp
    obtain ⟨r, hr⟩ : ∃ r, decide (nx = 0) = r := ⟨_, rfl⟩
    rw [hr] at hlast
    have hnx0 : ((nx : Int) == 0) = r := by
      rw [← hr]
      by_cases h : nx = 0
      · subst h; rfl
      · have : ¬ (nx : Int) = 0 := by omega
        simp [h, this]
    have hrr : (r == r) = true := by simp
    have hk20 := ssame (HT.out.no hc19) (SetV.nil w19) hs.v
    rw [hlast] at hk20
    go_wp2_with fail
    refine hk20.mono ?_
    rintro e w20 ⟨rfl, hd20⟩
    clear hk20
    have hs := hs.no hd20
    have hc20 := hc19.trans hd20
    have z20 := hd20.size
    clear hd20
    go_wp2_with fail
    go_ret
    exact ⟨ret_bool (by simp [hnx0, hr]), hc20⟩
end Go.Proofs.YtbcbdjeoloepjaaDoor
