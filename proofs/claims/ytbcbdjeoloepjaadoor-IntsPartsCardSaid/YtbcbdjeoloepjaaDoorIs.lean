/- The law IntsMerges. -/
import Derived.Test.YtbcbdjeoloepjaaDoorIr
set_option linter.unusedVariables false
namespace Go.Proofs.YtbcbdjeoloepjaaDoor
open Go.RowKit Go.W

theorem fold_len (l : List Int) : (l.foldl putS []).length ≤ 1048576 := (good_nil.fold l).len

set_option maxHeartbeats 8000000 in
theorem law_merges {w : World} {va vb : Value} {a b : List Int} (hT : Tab w) (ha : IntsAt w va a) (hb : IntsAt w vb b) :
    Calls Tryd.prog 3 #[va, vb] w fun e w' => e = .returned (.bool true) ∧ Ch No w w' := by
  have haw := awake01 hT
  have ha' := ha
  have hb' := hb
  obtain ⟨aoa, capa, rfl, hcapa, hmaxa, _, _⟩ := ha
  obtain ⟨aob, capb, rfl, hcapb, hmaxb, _, _⟩ := hb
  obtain ⟨la, hla⟩ : ∃ la, a.length = la := ⟨_, rfl⟩
  obtain ⟨lb, hlb⟩ : ∃ lb, b.length = lb := ⟨_, rfl⟩
  rw [hla] at ha' hcapa ⊢
  rw [hlb] at hb' hcapb ⊢
  unfold maxLen at hmaxa hmaxb
  have HA := hid ha'
  have HB := hid hb'
  have HT := hid hT
  have HLA := hid hla
  have HLB := hid hlb
  clear ha' hb' hT hla hlb
  cases e1 : decide ((la : Int) > 60) with
  | true =>
    go_enter Tryd.func3, Tryd.ntmps3
    go_wp2_with fail
    refine haw.mono ?_
    rintro e w1 ⟨rfl, hc1⟩
    go_wp2_with fail
    refine (awake01 (HT.out.no hc1)).mono ?_
    rintro e w2 ⟨rfl, hc2⟩
    go_wp2_with fail
    go_ret
    exact ⟨rfl, hc1.trans hc2⟩
  | false =>
  cases e2 : decide ((lb : Int) > 60) with
  | true =>
    go_enter Tryd.func3, Tryd.ntmps3
    go_wp2_with fail
    refine haw.mono ?_
    rintro e w1 ⟨rfl, hc1⟩
    go_wp2_with fail
    refine (awake01 (HT.out.no hc1)).mono ?_
    rintro e w2 ⟨rfl, hc2⟩
    go_wp2_with fail
    go_ret
    exact ⟨rfl, hc1.trans hc2⟩
  | false =>
    have hla60 : la ≤ 60 := by simp at e1; omega
    have hlb60 : lb ≤ 60 := by simp at e2; omega
    go_enter Tryd.func3, Tryd.ntmps3
    go_wp2_with fail
    refine haw.mono ?_
    rintro e w1 ⟨rfl, hc1⟩
    clear haw
    go_wp2_with fail
    refine (sof (HA.out.no hc1)).mono ?_
    rintro e w2 ⟨us, rfl, hs, hc12⟩
    obtain ⟨sb, ob, rfl, hs, hrs, hrs'⟩ := hs.openIt
    have hc2 := hc1.trans hc12
    go_wp2_with fail
    refine (sof (HB.out.no hc2)).mono ?_
    rintro e w3 ⟨ut, rfl, ht, hc23⟩
    obtain ⟨tb, tob, rfl, ht, hrt, hrt'⟩ := ht.openIt
    have hs := hs.no hc23
    have hc3 := hc2.trans hc23
    go_wp2_with fail
    refine (rof (HA.out.no hc3) (by rw [HLA.out]; omega)).mono ?_
    rintro e w4 ⟨vx, rfl, hx, hc34⟩
    have hrx := fun g h => hx.lt g h
    have hs := hs.no hc34
    have ht := ht.no hc34
    have hc4 := hc3.trans hc34
    go_wp2_with fail
    refine (rof (HB.out.no hc4) (by rw [HLB.out]; omega)).mono ?_
    rintro e w5 ⟨vy, rfl, hy, hc45⟩
    have hry := fun g h => hy.lt g h
    have hs := hs.no hc45
    have ht := ht.no hc45
    have hx := hx.no hc45
    have hc5 := hc4.trans hc45
    have z1 := hc1.size
    have z2 := hc12.size
    have z3 := hc23.size
    have z4 := hc34.size
    have z5 := hc45.size
    go_wp2_with fail
    refine (sunion (HT.out.no hc5) hs.v ht.v).mono ?_
    rintro e w6 ⟨uu, rfl, hu, hc56⟩
    have hs := hs.no hc56
    have ht := ht.no hc56
    have hx := hx.no hc56
    have hy := hy.no hc56
    have hc6 := hc5.trans hc56
    have z6 := hc56.size
    obtain ⟨ub, uob, rfl, hu, hru, hru'⟩ := hu.openIt
    clear hc56 hc45 hc34 hc23 hc12
    go_wp2_with fail
    refine (smerge (HT.out.no hc6) hs ht.v).mono ?_
    rintro e w7 ⟨v1, ob2, rfl, hv1, hs, hm7, hob2⟩
    have ht := ht.apart hrt hrt' hm7 (by omega) (fun b hb => by have := hrs' b hb; omega)
    have hx := hx.apart hrx hm7 (by omega) (fun b hb => by have := hrs' b hb; omega)
    have hy := hy.apart hry hm7 (by omega) (fun b hb => by have := hrs' b hb; omega)
    have hu := hu.apart hru hru' hm7 (by omega) (fun b hb => by have := hrs' b hb; omega)
    have hc7 : Ch No w w7 := So.new hc6 hm7 (B := w1.heap.size) (by omega) hrs.1 (fun b hb => (hrs' b hb).1)
    have z7 := hm7.size
    have hv1l := fun g h => hv1.lt g h
    go_wp2_with fail
    refine (rminus hy.at_ hx.at_ (by have := fold_len b; omega)).mono ?_
    rintro e w8 ⟨v2, rfl, hv2, hc78⟩
    have hs := hs.no hc78
    have ht := ht.no hc78
    have hx := hx.no hc78
    have hy := hy.no hc78
    have hu := hu.no hc78
    have hc8 := hc7.trans hc78
    have z8 := hc78.size
    have hsm := rsame' (hv1.no hc78).at_ hv2.at_
    rw [show decide (fresh (a.foldl putS []) (b.foldl putS []) = (b.foldl putS []).filter (fun x => !decide (x ∈ a.foldl putS []))) = true from decide_eq_true rfl] at hsm
    go_wp2_with fail
    refine hsm.mono ?_
    rintro e w9 ⟨rfl, hc89⟩
    clear hsm hv2 hv1
    have hs := hs.no hc89
    have ht := ht.no hc89
    have hx := hx.no hc89
    have hy := hy.no hc89
    have hu := hu.no hc89
    have hc9 := hc8.trans hc89
    have z9 := hc89.size
    have hss := ssame (HT.out.no hc9) hs.v hu.v
    rw [decide_eq_true (Eq.refl _)] at hss
    go_wp2_with fail
    refine hss.mono ?_
    rintro e w10 ⟨rfl, hc9a⟩
    clear hss hc89 hc78
    have hs := hs.no hc9a
    have ht := ht.no hc9a
    have hx := hx.no hc9a
    have hy := hy.no hc9a
    have hca := hc9.trans hc9a
    have za := hc9a.size
    go_wp2_with fail
    refine (smerge (HT.out.no hca) hs ht.v).mono ?_
    rintro e w11 ⟨v3, ob3, rfl, hv3, hs, hmb, hob3⟩
    have hfr0 : fresh ((b.foldl putS []).foldl putS (a.foldl putS [])) (b.foldl putS []) = [] := by
      unfold fresh
      rw [List.filter_eq_nil_iff]
      intro x hx
      have := ((good_nil.fold b).2 x hx)
      have : x ∈ (b.foldl putS []).foldl putS (a.foldl putS []) := mem_fold.2 (.inr ⟨hx, this⟩)
      simp [this]
    rw [hfr0] at hv3
    obtain ⟨ao3, cap3, rfl, _⟩ := hv3.at_
    have hob2' : ∀ b, ob2 = some b → (w1.heap.size ≤ b ∧ b < w2.heap.size) ∨ (w6.heap.size ≤ b) := fun b hb => by
      rcases hob2 with h | ⟨g, h, h2⟩
      · exact .inl (hrs' b (h ▸ hb))
      · rw [h] at hb; cases hb; exact .inr h2
    have ht := ht.apart hrt hrt' hmb (by omega) (fun b hb => by have := hob2' b hb; omega)
    have hx := hx.apart hrx hmb (by omega) (fun b hb => by have := hob2' b hb; omega)
    have hy := hy.apart hry hmb (by omega) (fun b hb => by have := hob2' b hb; omega)
    have hcb : Ch No w w11 := So.new hca hmb (B := w1.heap.size) (by omega) hrs.1 (fun b hb => by have := hob2' b hb; omega)
    have zb := hmb.size
    have hob3' : ∀ b, ob3 = some b → (w1.heap.size ≤ b ∧ b < w2.heap.size) ∨ (w6.heap.size ≤ b) := fun b hb => by
      rcases hob3 with h | ⟨g, h, h2⟩
      · exact hob2' b (h ▸ hb)
      · rw [h] at hb; cases hb; exact .inr (by omega)
    go_wp2_with fail
    refine (slist (HT.out.no hcb) ht.v).mono ?_
    rintro e w12 ⟨v4, rfl, hv4, hcbc⟩
    have hs := hs.no hcbc
    have ht := ht.no hcbc
    have hx := hx.no hcbc
    have hy := hy.no hcbc
    have hcc := hcb.trans hcbc
    have zc := hcbc.size
    have hsm := rsame' hv4.at_ hy.at_
    rw [decide_eq_true (Eq.refl _)] at hsm
    go_wp2_with fail
    refine hsm.mono ?_
    rintro e w13 ⟨rfl, hccd⟩
    clear hsm hv4 hcbc
    have hs := hs.no hccd
    have ht := ht.no hccd
    have hx := hx.no hccd
    have hy := hy.no hccd
    have hcd := hcc.trans hccd
    have zd := hccd.size
    go_wp2_with fail
    refine (sadd ht 12345).mono ?_
    rintro e w14 ⟨rfl, tob2, ht, hme, _⟩
    have hs := hs.ch hme (fun o h => by
      rcases h with h | h
      · omega
      · have := hrt' _ h; omega) (fun b o hb h => by
      have := hob3' b hb
      rcases h with h | h
      · omega
      · have := hrt' _ h; omega)
    have hx := hx.apart hrx hme (by omega) (fun b hb => by have := hrt' b hb; omega)
    have hy := hy.apart hry hme (by omega) (fun b hb => by have := hrt' b hb; omega)
    have hce : Ch No w w14 := So.new hcd hme (B := w1.heap.size) (by omega) (by omega) (fun b hb => by have := hrt' b hb; omega)
    have ze := hme.size
    have hhas := shas' hs.v 12345
    obtain ⟨r, hr⟩ : ∃ r, decide ((12345 : Int) ∈ (b.foldl putS []).foldl putS ((b.foldl putS []).foldl putS (a.foldl putS []))) = r := ⟨_, rfl⟩
    rw [hr] at hhas
    have HR := hid hr
    clear hr
    go_wp2_with fail
    refine hhas.mono ?_
    rintro e w15 ⟨rfl, hcef⟩
    have hx := hx.no hcef
    have hy := hy.no hcef
    have hcf := hce.trans hcef
    have zf := hcef.size
    have hbs : w3.heap.size ≤ w15.heap.size := by omega
    have hbl : (a.foldl putS []).length + (b.foldl putS []).length ≤ 10000000 := by have := fold_len a; have := fold_len b; omega
    go_wp2_with (at_builtin; go_must (refine wpAppendI rfl _ _ rfl w3.heap.size _ _ _ rfl hx _ rfl hy.at_ hbl hbs ?_))
    intro v5 w16 hv5 hg16
    have hc16 : Ch No w w16 := hcf.grown hg16 (fun k o hk ho => by
      have := hrx k hk
      have := lt_size ho
      omega)
    have hrof := rof hv5.at_ (by
      have h1 := foldS_length [] a
      have h2 := foldS_length [] b
      rw [HLA.out] at h1
      rw [HLB.out] at h2
      rw [List.length_append]
      simp only [List.length_nil] at h1 h2
      omega)
    clear hg16
    go_wp2_with fail
    refine hrof.mono ?_
    rintro e w17 ⟨v6, rfl, hv6, hch⟩
    have hc17 := hc16.trans hch
    have hrh := rhas' hv6.at_ 12345
    have hdec : decide ((12345 : Int) ∈ (a.foldl putS [] ++ b.foldl putS []).foldl putS []) = r := by
      rw [← HR.out]
      congr 1
      rw [mem_fold, mem_fold, mem_fold, List.mem_append]
      apply propext
      constructor
      · rintro (h | ⟨h | h, _⟩)
        · cases h
        · exact .inl (.inl h)
        · exact .inr ⟨h, by omega, by omega⟩
      · rintro ((h | ⟨h, _⟩) | ⟨h, _⟩)
        · exact .inr ⟨.inl h, by omega, by omega⟩
        · exact .inr ⟨.inr h, by omega, by omega⟩
        · exact .inr ⟨.inr h, by omega, by omega⟩
    rw [hdec] at hrh
    clear hrof hch hdec
    go_wp2_with fail
    refine hrh.mono ?_
    rintro e w18 ⟨rfl, hch⟩
    go_wp2_with fail
    go_ret
    exact ⟨ret_bool (by simp), hc17.trans hch⟩
end Go.Proofs.YtbcbdjeoloepjaaDoor
