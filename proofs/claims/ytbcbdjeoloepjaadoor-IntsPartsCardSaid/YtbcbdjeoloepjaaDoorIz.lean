/- The law IntsParts. -/
import Derived.Test.YtbcbdjeoloepjaaDoorIx
set_option linter.unusedVariables false
namespace Go.Proofs.YtbcbdjeoloepjaaDoor
open Go.RowKit Go.W

theorem fold_len_apart (lt : List Int) (gt : Good lt) : ∀ l : List Int, (∀ x ∈ lt, x ∉ l) → (lt.foldl putS l).length = l.length + lt.length := by
  induction lt with
  | nil => intro l _; simp
  | cons x r ih =>
    intro l h
    have gr : Good r := ⟨(List.pairwise_cons.1 gt.1).2, fun y hy => gt.2 y (by simp [hy])⟩
    have hx := gt.2 x (by simp)
    rw [List.foldl_cons, ih gr, putS_len hx.1 hx.2 (h x (by simp)), List.length_cons]
    · omega
    · intro y hy hm
      rcases mem_putS.1 hm with h2 | ⟨rfl, _⟩
      · exact h y (by simp [hy]) h2
      · have := (List.pairwise_cons.1 gt.1).1 y hy; omega

theorem fold_parts {ls lt : List Int} (gs : Good ls) (gt : Good lt) : lt.foldl putS (ls.filter (fun x => !decide (x ∈ lt))) = lt.foldl putS ls := by
  refine sorted_eq ((gs.filter _).fold lt).1 (gs.fold lt).1 (fun m => ?_)
  rw [mem_fold, mem_fold, List.mem_filter]
  constructor
  · rintro (h | h)
    · exact .inl h.1
    · exact .inr h
  · rintro (h | h)
    · by_cases hm : m ∈ lt
      · exact .inr ⟨hm, gt.2 m hm⟩
      · exact .inl ⟨h, by simp [hm]⟩
    · exact .inr h

theorem any_parts (ls lt : List Int) : (ls.filter (fun x => !decide (x ∈ lt))).any (fun x => decide (x ∈ lt)) = false := by
  rw [List.any_eq_false]
  intro x hx
  have := (List.mem_filter.1 hx).2
  simpa using this

set_option maxHeartbeats 16000000 in
set_option maxRecDepth 100000 in
theorem law_parts {w : World} {va vb : Value} {a b : List Int} (hT : Tab w) (ha : IntsAt w va a) (hb : IntsAt w vb b) :
    Calls Tryd.prog 7 #[va, vb] w fun e w' => e = .returned (.bool true) ∧ Ch No w w' := by
  have haw := awake01 hT
  have ha' := ha
  obtain ⟨aoa, capa, rfl, hcapa, hmaxa, _, _⟩ := ha
  obtain ⟨la, hla⟩ : ∃ la, a.length = la := ⟨_, rfl⟩
  have hb' := hb
  obtain ⟨aob, capb, rfl, hcapb, hmaxb, _, _⟩ := hb
  obtain ⟨lb, hlb⟩ : ∃ lb, b.length = lb := ⟨_, rfl⟩
  rw [hlb] at hb' hcapb ⊢
  unfold maxLen at hmaxb
  have HB := hid hb'
  have HLB := hid hlb
  clear hb' hlb
  rw [hla] at ha' hcapa ⊢
  unfold maxLen at hmaxa
  have HA := hid ha'
  have HT := hid hT
  have HLA := hid hla
  clear ha' hT hla
  cases e1 : decide ((la : Int) > 60) with
  | true =>
    go_enter Tryd.func7, Tryd.ntmps7
    go_wp2_with fail
    refine haw.mono ?_
    rintro e w1 ⟨rfl, hc1⟩
    go_wp2_with fail
    refine (awake01 (HT.out.no hc1)).mono ?_
    rintro e w2 ⟨rfl, hc2⟩
    go_wp2_with fail
    go_ret
    exact ⟨rfl, hc1.trans hc2⟩
  | false =>
  cases e2 : decide ((lb : Int) > 60) with
  | true =>
    go_enter Tryd.func7, Tryd.ntmps7
    go_wp2_with fail
    refine haw.mono ?_
    rintro e w1 ⟨rfl, hc1⟩
    go_wp2_with fail
    refine (awake01 (HT.out.no hc1)).mono ?_
    rintro e w2 ⟨rfl, hc2⟩
    go_wp2_with fail
    go_ret
    exact ⟨rfl, hc1.trans hc2⟩
  | false =>
    have hla60 : la ≤ 60 := by simp at e1; omega
    have hlb60 : lb ≤ 60 := by simp at e2; omega
    go_enter Tryd.func7, Tryd.ntmps7
    go_wp2_with fail
    refine haw.mono ?_
    rintro e w1 ⟨rfl, hc1⟩
    clear haw
    go_wp2_with fail
    have hk2 := sof (HA.out.no hc1)
    refine hk2.mono ?_
    rintro e w2 ⟨us, rfl, hs, hd2⟩
    clear hk2
    have hc2 := hc1.trans hd2
    have z2 := hd2.size
    clear hd2
    obtain ⟨sb, ob, rfl, hs, hrs, hrs'⟩ := hs.openIt
    have hk3 := sof (HB.out.no hc2)
    go_wp2_with fail
    refine hk3.mono ?_
    rintro e w3 ⟨ut, rfl, ht, hd3⟩
    clear hk3
    have hs := hs.no hd3
    have hc3 := hc2.trans hd3
    have z3 := hd3.size
    clear hd3
    obtain ⟨tb, tob, rfl, ht, hrt, hrt'⟩ := ht.openIt
    have gs := good_nil.fold a
    have gt := good_nil.fold b
    have ll1 := foldS_length [] a
    have ll2 := foldS_length [] b
    rw [HLA.out] at ll1
    rw [HLB.out] at ll2
    simp only [List.length_nil, Nat.zero_add] at ll1 ll2
    obtain ⟨ls, hls⟩ : ∃ ls, a.foldl putS [] = ls := ⟨_, rfl⟩
    obtain ⟨lt, hlt⟩ : ∃ lt, b.foldl putS [] = lt := ⟨_, rfl⟩
    rw [hls] at hs gs ll1
    rw [hlt] at ht gt ll2
    clear hls hlt
    have GS := hid gs
    have GT := hid gt
    clear gs gt
    have hk4 := sminus (HT.out.no hc3) hs.v ht.v
    go_wp2_with fail
    refine hk4.mono ?_
    rintro e w4 ⟨um, rfl, hm, hd4⟩
    clear hk4
    have hs := hs.no hd4
    have ht := ht.no hd4
    have hc4 := hc3.trans hd4
    have z4 := hd4.size
    clear hd4
    obtain ⟨mb, mob, rfl, hm, hrm, hrm'⟩ := hm.openIt
    have hk5 := smeets (HT.out.no hc4) hm.v ht.v
    rw [any_parts] at hk5
    go_wp2_with fail
    refine hk5.mono ?_
    rintro e w5 ⟨rfl, hd5⟩
    clear hk5
    have hs := hs.no hd5
    have ht := ht.no hd5
    have hm := hm.no hd5
    have hc5 := hc4.trans hd5
    have z5 := hd5.size
    clear hd5
    have hk6 := sunion (HT.out.no hc5) hm.v ht.v
    rw [fold_parts GS.out GT.out] at hk6
    go_wp2_with fail
    refine hk6.mono ?_
    rintro e w6 ⟨u6, rfl, h6, hd6⟩
    clear hk6
    have hs := hs.no hd6
    have ht := ht.no hd6
    have hm := hm.no hd6
    have hc6 := hc5.trans hd6
    have z6 := hd6.size
    clear hd6
    obtain ⟨b6, o6, rfl, h6, _, _⟩ := h6.openIt
    have hk7 := sunion (HT.out.no hc6) hs.v ht.v
    go_wp2_with fail
    refine hk7.mono ?_
    rintro e w7 ⟨u7, rfl, h7, hd7⟩
    clear hk7
    have hs := hs.no hd7
    have ht := ht.no hd7
    have hm := hm.no hd7
    have h6 := h6.no hd7
    have hc7 := hc6.trans hd7
    have z7 := hd7.size
    clear hd7
    obtain ⟨b7, o7, rfl, h7, _, _⟩ := h7.openIt
    have hk8 := ssame (HT.out.no hc7) h6.v h7.v
    rw [decide_eq_true (Eq.refl _)] at hk8
    go_wp2_with fail
    refine hk8.mono ?_
    rintro e w8 ⟨rfl, hd8⟩
    clear hk8
    have hs := hs.no hd8
    have ht := ht.no hd8
    have hm := hm.no hd8
    have h6 := h6.no hd8
    have h7 := h7.no hd8
    have hc8 := hc7.trans hd8
    have z8 := hd8.size
    clear hd8
    have hfl := fold_len_apart lt GT.out (ls.filter (fun x => !decide (x ∈ lt))) (fun x hx h => by have := (List.mem_filter.1 h).2; simp [hx] at this)
    rw [fold_parts GS.out GT.out] at hfl
    have hml := meets_len (fun x => decide (x ∈ lt)) ls
    have hlm := List.length_filter_le (fun x => !decide (x ∈ lt)) ls
    obtain ⟨nm, hnm⟩ : ∃ n, (ls.filter (fun x => !decide (x ∈ lt))).length = n := ⟨_, rfl⟩
    obtain ⟨ns, hns⟩ : ∃ n, ls.length = n := ⟨_, rfl⟩
    obtain ⟨nt, hnt⟩ : ∃ n, lt.length = n := ⟨_, rfl⟩
    obtain ⟨nu, hnu⟩ : ∃ n, (lt.foldl putS ls).length = n := ⟨_, rfl⟩
    rw [hnu, hnm, hnt] at hfl
    rw [hnm, hns] at hml hlm
    rw [hns] at ll1
    rw [hnt] at ll2
    obtain ⟨r, hr⟩ : ∃ r, ls.any (fun x => decide (x ∈ lt)) = r := ⟨_, rfl⟩
    rw [hr] at hml
    have HNM := hid hnm
    have HNS := hid hns
    have HNT := hid hnt
    have HNU := hid hnu
    have HR := hid hr
    have HML := hid hml
    have HFL := hid hfl
    have hnm60 : nm ≤ 60 := by omega
    have hnt60 : nt ≤ 60 := by omega
    clear hnm hns hnt hnu hr hml hfl
    have hk9 := slen' hm.v
    rw [HNM.out] at hk9
    go_wp2_with fail
    refine hk9.mono ?_
    rintro e w9 ⟨rfl, hd9⟩
    clear hk9
    have hs := hs.no hd9
    have ht := ht.no hd9
    have hm := hm.no hd9
    have hc9 := hc8.trans hd9
    have z9 := hd9.size
    clear hd9
    have hk10 := slen' ht.v
    rw [HNT.out] at hk10
    go_wp2_with fail
    refine hk10.mono ?_
    rintro e w10 ⟨rfl, hd10⟩
    clear hk10
    have hs := hs.no hd10
    have ht := ht.no hd10
    have hm := hm.no hd10
    have hc10 := hc9.trans hd10
    have z10 := hd10.size
    clear hd10
    have hk11 := sunion (HT.out.no hc10) hs.v ht.v
    go_wp2_with fail
    refine hk11.mono ?_
    rintro e w11 ⟨u11, rfl, h11, hd11⟩
    clear hk11
    have hs := hs.no hd11
    have ht := ht.no hd11
    have hm := hm.no hd11
    have hc11 := hc10.trans hd11
    have z11 := hd11.size
    clear hd11
    obtain ⟨b11, o11, rfl, h11, _, _⟩ := h11.openIt
    have hk12 := slen' h11.v
    rw [HNU.out] at hk12
    go_wp2_with fail
    refine hk12.mono ?_
    rintro e w12 ⟨rfl, hd12⟩
    clear hk12
    have hs := hs.no hd12
    have ht := ht.no hd12
    have hm := hm.no hd12
    have h11 := h11.no hd12
    have hc12 := hc11.trans hd12
    have z12 := hd12.size
    clear hd12
    have hrr : (r == decide (nm < ns)) = true := by rw [← HML.out]; simp
    have heq : ((nm : Int) + (nt : Int) == (nu : Int)) = true := by have := HFL.out; simp; omega
    have hk13 := smeets (HT.out.no hc12) hs.v ht.v
    rw [HR.out] at hk13
    go_wp2_with fail
    refine hk13.mono ?_
    rintro e w13 ⟨rfl, hd13⟩
    clear hk13
    have hs := hs.no hd13
    have ht := ht.no hd13
    have hm := hm.no hd13
    have hc13 := hc12.trans hd13
    have z13 := hd13.size
    clear hd13
    have hk14 := slen' hm.v
    rw [HNM.out] at hk14
    go_wp2_with fail
    refine hk14.mono ?_
    rintro e w14 ⟨rfl, hd14⟩
    clear hk14
    have hs := hs.no hd14
    have ht := ht.no hd14
    have hm := hm.no hd14
    have hc14 := hc13.trans hd14
    have z14 := hd14.size
    clear hd14
    have hk15 := slen' hs.v
    rw [HNS.out] at hk15
    go_wp2_with fail
    refine hk15.mono ?_
    rintro e w15 ⟨rfl, hd15⟩
    clear hk15
    have hs := hs.no hd15
    have ht := ht.no hd15
    have hm := hm.no hd15
    have hc15 := hc14.trans hd15
    have z15 := hd15.size
    clear hd15
    go_wp2_with fail
    go_ret
    exact ⟨ret_bool (by simp [HML.out]), hc15⟩
end Go.Proofs.YtbcbdjeoloepjaaDoor
