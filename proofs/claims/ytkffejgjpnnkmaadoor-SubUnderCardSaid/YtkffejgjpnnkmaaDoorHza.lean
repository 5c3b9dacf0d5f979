/- round: is a class above itself? -/
import Derived.Test.YtkffejgjpnnkmaaDoorHz
import Derived.Test.YtkffejgjpnnkmaaDoorHw
set_option linter.unusedVariables false
set_option linter.unusedSimpArgs false
namespace Go.Proofs.YtkffejgjpnnkmaaDoor
open Go.RowKit Go.W

/-- what is seen (none is i), what is still to be looked at -/
structure RdSt (cs : List Cls) (i : Nat) (sl : List Int) (tl : List Nat) : Prop where
  seen : ∀ z ∈ sl, ∃ k : Nat, z = k ∧ k < cs.length ∧ k ≠ i ∧ Gr.Reach (upsN cs) i k
  todo : ∀ k ∈ tl, k < cs.length ∧ Gr.Reach (upsN cs) i k
  own : ∀ x ∈ upsN cs i, (x : Int) ∈ sl ∨ x ∈ tl
  cl : ∀ k : Nat, (k : Int) ∈ sl → ∀ x ∈ upsN cs k, (x : Int) ∈ sl ∨ x ∈ tl
theorem RdSt.start (cs : List Cls) (i : Nat) : RdSt cs i [] (upsN cs i) :=
  ⟨by simp, fun k hk => ⟨upsN_lt cs i k hk, .one hk⟩, fun x hx => .inr hx, fun k hk => by cases hk⟩
theorem RdSt.done {cs : List Cls} {i : Nat} {sl : List Int} (h : RdSt cs i sl []) : ¬ Gr.Reach (upsN cs) i i := by
  intro hr
  have key : ∀ {a b : Nat}, Gr.Reach (upsN cs) a b → (a = i ∨ (a : Int) ∈ sl) → (b : Int) ∈ sl := by
    intro a b hab
    induction hab with
    | one h1 =>
      rintro (e | e)
      · subst e; exact (h.own _ h1).resolve_right (by simp)
      · exact (h.cl _ e _ h1).resolve_right (by simp)
    | step h1 _ ih =>
      rintro (e | e)
      · subst e; exact ih (.inr ((h.own _ h1).resolve_right (by simp)))
      · exact ih (.inr ((h.cl _ e _ h1).resolve_right (by simp)))
  obtain ⟨k, e, _, hk, _⟩ := h.seen _ (key hr (.inl rfl))
  exact hk (by omega)
theorem RdSt.old {cs : List Cls} {i k : Nat} {sl : List Int} {tl : List Nat} (h : RdSt cs i sl (k :: tl)) (hk : (k : Int) ∈ sl) : RdSt cs i sl tl := by
  have key : ∀ x : Nat, ((x : Int) ∈ sl ∨ x ∈ k :: tl) → (x : Int) ∈ sl ∨ x ∈ tl := by
    rintro x (h1 | h1)
    · exact .inl h1
    · rcases List.mem_cons.1 h1 with rfl | h1
      · exact .inl hk
      · exact .inr h1
  exact ⟨h.seen, fun x hx => h.todo x (by simp [hx]), fun x hx => key x (h.own x hx), fun j hj x hx => key x (h.cl j hj x hx)⟩
theorem RdSt.new {cs : List Cls} {i k : Nat} {sl : List Int} {tl : List Nat} (h : RdSt cs i sl (k :: tl)) (hn : cs.length ≤ 20) (hki : k ≠ i) : RdSt cs i (putS sl (k : Int)) (tl ++ upsN cs k) := by
  obtain ⟨hkn, hkr⟩ := h.todo k (by simp)
  have hm : ∀ z : Int, z ∈ putS sl (k : Int) ↔ z ∈ sl ∨ z = k := by
    intro z
    rw [mem_putS]
    constructor
    · rintro (h | h)
      · exact .inl h
      · exact .inr h.1
    · rintro (h | h)
      · exact .inl h
      · exact .inr ⟨h, by omega, by omega⟩
  have key : ∀ x : Nat, ((x : Int) ∈ sl ∨ x ∈ k :: tl) → (x : Int) ∈ putS sl (k : Int) ∨ x ∈ tl ++ upsN cs k := by
    rintro x (h1 | h1)
    · exact .inl ((hm _).2 (.inl h1))
    · rcases List.mem_cons.1 h1 with rfl | h1
      · exact .inl ((hm _).2 (.inr rfl))
      · exact .inr (by simp [h1])
  refine ⟨fun z hz => ?_, fun x hx => ?_, fun x hx => key x (h.own x hx), fun j hj x hx => ?_⟩
  · rcases (hm z).1 hz with hz | rfl
    · exact h.seen z hz
    · exact ⟨k, rfl, hkn, hki, hkr⟩
  · rcases List.mem_append.1 hx with hx | hx
    · exact h.todo x (by simp [hx])
    · exact ⟨upsN_lt cs k x hx, hkr.snoc hx⟩
  · rcases (hm _).1 hj with hj | hj
    · exact key x (h.cl j hj x hx)
    · have : j = k := by omega
      subst this
      exact .inr (by simp [hx])
theorem RdSt.len {cs : List Cls} {i : Nat} {sl : List Int} {tl : List Nat} (h : RdSt cs i sl tl) (hg : Good sl) : sl.length ≤ cs.length := by
  have := Gr.nodup_sub sl ((List.range cs.length).map (fun j : Nat => (j : Int))) (hg.1.imp (fun h => by omega)) (fun z hz => by
    obtain ⟨k, rfl, hk, _⟩ := h.seen z hz
    exact List.mem_map.2 ⟨k, by simpa using hk, rfl⟩)
  simpa using this
theorem upsLen {cs : List Cls} (hsm : SmallP cs) (k : Nat) : (upsN cs k).length ≤ 11 := by
  unfold upsN
  cases hc : cs[k]? with
  | none => simp
  | some c =>
    have h1 := List.length_filterMap_le (find cs) c.ups
    have h2 := hsm.2 c (List.mem_of_getElem? hc)
    have h3 : c.ups.length ≤ 11 := by
      unfold Cls.ups
      rw [List.length_append]
      split <;> simp <;> omega
    exact Nat.le_trans h1 h3

/-- what round answers -/
def RoundOut (cs : List Cls) (i : Nat) (w : World) (e : Ending) (w' : World) : Prop := (Gr.Reach (upsN cs) i i ∧ e = .returned (.bool true) ∨ ¬ Gr.Reach (upsN cs) i i ∧ e = .returned (.bool false)) ∧ Ch No w w'

set_option maxHeartbeats 8000000 in
theorem hround {w : World} {tb : Nat} {T : TabD} {cs : List Cls} (h : TabAt w tb T) (hK : KsOf cs T) (hS : SoundP cs) (hsm : SmallP cs) {i : Nat} (hi : i < cs.length) :
    Calls Tryd.prog 49 #[.pointer (some ⟨tb, 0, none⟩), .int .i64 i] w (RoundOut cs i w) := by
  have hof := sof (IntsAt.nil w)
  have hrt := fun (wr : World) (hr : Ch No w wr) (k : Nat) (hk : k < cs.length) => show Calls Tryd.prog 28 #[.pointer (some ⟨tb, 0, none⟩), .int .i64 k] wr (fun e w' => ∃ u, e = .returned u ∧ IntsOwn w' wr.heap.size u ((upsN cs k).map (fun j : Nat => (j : Int))) ∧ Ch No wr w') by
    obtain ⟨c, hc⟩ : ∃ c, cs[k]? = some c := ⟨_, List.getElem?_eq_getElem hk⟩
    obtain ⟨x, hx⟩ : ∃ x, T.ks[k]? = some x := ⟨_, List.getElem?_eq_getElem (by rw [hK.len]; exact hk)⟩
    have hfl : x.fs.length ≤ 1000000 := by
      obtain ⟨_, _, _, h4⟩ := hK.row k c x hc hx
      rw [h4, List.length_map]; have := hsm.2 c (List.mem_of_getElem? hc); omega
    have := hright (h.no hr) hx hfl
    rw [rightK hK hc hx (hS k c hc)] at this
    exact this
  have HRT := hid hrt
  have HM := hid hsm
  have hn20 := hsm.1
  clear hrt hsm h hK hS
  go_enter Tryd.func49, Tryd.ntmps49
  go_wp2_with fail
  refine hof.mono ?_
  rintro e w1 ⟨u, rfl, hs, hc1⟩
  obtain ⟨sb, ob, rfl, hset, hr, hr'⟩ := hs.openIt
  have hr1 := HRT.out w1 hc1 i hi
  have HS0 := hid hset
  have HC1 := hid hc1
  clear hof hs hset hc1
  go_wp2_with fail
  refine hr1.mono ?_
  rintro e w2 ⟨u, rfl, hu, hc2⟩
  have hub : ∀ g, u.ownBlock = some g → w1.heap.size ≤ g := fun g hg => (hu.lt g hg).1
  have hq0 := (hu.base HC1.out.size).q
  have HQ0 := hid hq0
  have HS2 := hid (HS0.out.no hc2)
  have HC2 := hid (HC1.out.trans hc2)
  have HD0 := hid (show (∀ o, ob = some o → w.heap.size ≤ o ∧ u.ownBlock ≠ some o) ∧ u.ownBlock ≠ some sb from ⟨fun o ho => ⟨(hr' o ho).1, fun e => by have := hub o e; have := (hr' o ho).2; omega⟩, fun e => by have := hub sb e; omega⟩)
  clear hr1 hu hc2 hq0 hub
  go_wp2_with fail
  go_loopg [6] (cs.length * 12 + 12) (fun g s6 wr => ∃ (sl : List Int) (ob : Option Nat) (tl : List Nat), (cs.length - sl.length) * 12 + tl.length ≤ g ∧ Hid (RdSt cs i sl tl) ∧ Hid (SetAt wr sb sl ob) ∧ Hid (IntsQ wr w.heap.size s6 (tl.map (fun j : Nat => (j : Int)))) ∧ Hid (Ch No w wr) ∧ Hid ((∀ o, ob = some o → w.heap.size ≤ o ∧ s6.ownBlock ≠ some o) ∧ s6.ownBlock ≠ some sb) ∧ Hid ((cs.length - sl.length) * 12 + tl.length ≤ 300))
  case atStart => exact ⟨[], ob, upsN cs i, by have := upsLen HM.out i; simp; omega, hid (.start cs i), HS2, HQ0, HC2, HD0, hid (by have := upsLen HM.out i; simp; omega)⟩
  case round =>
    obtain ⟨sl, ob2, tl, hg, HI, HSE, HQ, HC, HD, HTL⟩ := hrel
    cases tl with
    | nil =>
      obtain ⟨ao, cap, rfl, _, hmx⟩ := HQ.out.shape
      rw [List.map_nil, List.length_nil]
      go_wp2_with fail
      go_ret
      exact ⟨.inr ⟨HI.out.done, rfl⟩, HC.out⟩
    | cons k tl =>
      obtain ⟨hkn, hkr⟩ := HI.out.todo k (by simp)
      obtain ⟨g1, off, cap, rfl, hcap, hmx, hcell, h1, h2⟩ := IntsQ.head (show IntsQ wr w.heap.size _ ((k : Int) :: tl.map (fun j : Nat => (j : Int))) from HQ.out)
      rw [List.length_map] at hcap h1 h2 HD ⊢
      unfold maxLen at hmx
      have hg1 : g1 < wr.heap.size := block_lt_of_cell hcell
      have HKR := hid hkr
      clear hkr
      cases hki : ((k : Int) == (i : Int)) with
      | true =>
        have e : k = i := by
          have : (k : Int) = (i : Int) := by simpa using hki
          omega
        have HR := hid (show Gr.Reach (upsN cs) i i from e ▸ HKR.out)
        clear e
        by_cases hc1' : cap = 1
        · have h0 : tl.length = 0 := by omega
          subst hc1'
          rw [h0]
          clear h0 h1 h2
          go_wp2_with fail
          go_ret
          exact ⟨.inl ⟨HR.out, rfl⟩, HC.out⟩
        · clear h1 h2
          go_wp2_with fail
          go_ret
          exact ⟨.inl ⟨HR.out, rfl⟩, HC.out⟩
      | false =>
        have hki' : k ≠ i := by
          intro e; subst e; simp at hki
        by_cases hc1' : cap = 1
        · have h0 : tl.length = 0 := by omega
          subst hc1'
          have hq6 := h1 rfl
          rw [h0] at hq6 HD ⊢
          have HQ6 := hid hq6
          have H0 := hid h0
          clear h0 h1 h2 hq6
          by_cases hks : (k : Int) ∈ sl
          · have hadd : Calls Tryd.prog 69 #[.pointer (some ⟨sb, 0, none⟩), .int .i64 (k : Int)] wr (fun e w' => e = .returned (.bool false) ∧ ∃ ob', SetAt w' sb sl ob' ∧ Ch (So sb ob2) wr w' ∧ (ob' = ob2 ∨ ∃ g, ob' = some g ∧ wr.heap.size ≤ g)) :=
              (sadd HSE.out (k : Int)).mono fun e w' ⟨he, ob', h1, h2, h3⟩ => ⟨he.trans (ret_bool (by simp [hks])), ob', by rw [putS_same (fun h => h.2.2 hks)] at h1; exact h1, h2, h3⟩
            have HKS := hid hks
            clear hks
            go_wp2_with fail
            refine hadd.mono ?_
            rintro e w3 ⟨rfl, ob3, hs3, hc3, ho3⟩
            have HS3 := hid hs3
            have HC3 := hid hc3
            have HO3 := hid ho3
            clear hadd hs3 hc3 ho3
            go_wp2_with fail
            go_roundg ((cs.length - sl.length) * 12 + tl.length)
            case rel =>
              have hso : ∀ g o, (.slice (some ⟨g1, off, none⟩) 0 0 : Value).ownBlock = some g → ¬ So sb ob2 g o := by
                rintro g o hg (e | e)
                · exact HD.out.2 (by rw [← e, ← hg]; rfl)
                · exact (HD.out.1 g e).2 (by rw [← hg]; rfl)
              refine ⟨sl, ob3, tl, Nat.le_refl _, hid (HI.out.old HKS.out), HS3, hid (HQ6.out.ch HC3.out (fun g o hg _ => hso g o hg)), hid (HC.out.trans' HC3.out (fun j o hj hs => ?_)), hid ⟨fun o ho => ?_, HD.out.2⟩, hid (by have := HTL.out; simp only [List.length_cons] at this; omega)⟩
              · have := lt_size hj
                rcases hs with e | e
                · omega
                · have := (HD.out.1 j e).1; omega
              · rcases HO3.out with e | ⟨g, e, hg⟩
                · exact HD.out.1 o (e ▸ ho)
                · rw [e] at ho; cases ho
                  exact ⟨by have := HC.out.size; omega, fun e => by have e' : g1 = o := by simpa [Value.ownBlock] using e
                                                                    omega⟩
            case measure => simp only [List.length_cons] at hg; omega
          · have hl1 := putS_len (l := sl) (n := (k : Int)) (by omega) (by omega) hks
            have hadd : Calls Tryd.prog 69 #[.pointer (some ⟨sb, 0, none⟩), .int .i64 (k : Int)] wr (fun e w' => e = .returned (.bool true) ∧ ∃ ob', SetAt w' sb (putS sl (k : Int)) ob' ∧ Ch (So sb ob2) wr w' ∧ (ob' = ob2 ∨ ∃ g, ob' = some g ∧ wr.heap.size ≤ g)) :=
              (sadd HSE.out (k : Int)).mono fun e w' ⟨he, ob', h1, h2, h3⟩ => ⟨he.trans (ret_bool (by simp [hks]; omega)), ob', h1, h2, h3⟩
            have HKS := hid hks
            have HL1 := hid hl1
            clear hks hl1
            go_wp2_with fail
            refine hadd.mono ?_
            rintro e w3 ⟨rfl, ob3, hs3, hc3, ho3⟩
            have hso : ∀ g o, (.slice (some ⟨g1, off, none⟩) 0 0 : Value).ownBlock = some g → ¬ So sb ob2 g o := by
              rintro g o hg (e | e)
              · exact HD.out.2 (by rw [← e, ← hg]; rfl)
              · exact (HD.out.1 g e).2 (by rw [← hg]; rfl)
            have hcw3 : Ch No w w3 := HC.out.trans' hc3 (fun j o hj hs => by
              have := lt_size hj
              rcases hs with e | e
              · omega
              · have := (HD.out.1 j e).1; omega)
            have hr3 := HRT.out w3 hcw3 k hkn
            have HS3 := hid hs3
            have HQ3 := hid (HQ6.out.ch hc3 (fun g o hg _ => hso g o hg))
            have HCW3 := hid hcw3
            have HO3 := hid ho3
            have hz3 := hc3.size
            clear hadd hs3 hc3 ho3 hso hcw3
            go_wp2_with fail
            refine hr3.mono ?_
            rintro e w4 ⟨u4, rfl, hu4, hc4⟩
            have HU4 := hid hu4.at_
            have HC4 := hid hc4
            have hbb : (tl.map (fun j : Nat => (j : Int))).length + ((upsN cs k).map (fun j : Nat => (j : Int))).length ≤ 10000000 := by
              have := upsLen HM.out k
              have := HTL.out
              simp only [List.length_cons] at this
              rw [List.length_map, List.length_map]
              omega
            have hz4 : w.heap.size ≤ w4.heap.size := by have := HCW3.out.size; have := hc4.size; omega
            clear hr3 hu4 hc4
            go_wp2_with (at_builtin; go_must (refine wpAppendQ rfl _ _ rfl w.heap.size (.slice (some ⟨g1, off, none⟩) 0 0) (tl.map (fun j : Nat => (j : Int))) ((upsN cs k).map (fun j : Nat => (j : Int))) rfl (HQ3.out.ch HC4.out (fun _ _ _ _ h => h)) u4 rfl HU4.out hbb hz4 ?_))
            intro v5 w5 hq5 hc5 hb5
            have HQ5 := hid hq5
            have HC5 := hid hc5
            have HB5 := hid hb5
            clear hq5 hc5 hb5
            go_wp2_with fail
            go_roundg ((cs.length - sl.length) * 12 + tl.length)
            case rel =>
              have hnl := (HI.out.new HM.out.1 hki').len (HS3.out.v.good)
              have h11 := upsLen HM.out k
              have hgb : ∀ g, (.slice (some ⟨g1, off, none⟩) 0 0 : Value).ownBlock = some g → g = g1 := fun g hg => by
                have : g1 = g := by simpa [Value.ownBlock] using hg
                exact this.symm
              have hlt3 := HS3.out.lt
              have hc4s := HC4.out.size
              have hl2 := HL1.out
              have hg1sb : g1 ≠ sb := fun e => HD.out.2 (by rw [e]; rfl)
              have hg1ob : ∀ o, ob3 = some o → o ≠ g1 := fun o ho e => by
                rcases HO3.out with e2 | ⟨g, e2, hg⟩
                · exact (HD.out.1 o (e2 ▸ ho)).2 (by rw [e]; rfl)
                · rw [e2] at ho; cases ho; omega
              refine ⟨putS sl (k : Int), ob3, tl ++ upsN cs k, by rw [List.length_append]; omega, hid (HI.out.new HM.out.1 hki'), hid ((HS3.out.no HC4.out).ch HC5.out (fun o e => hg1sb (hgb _ e).symm) (fun b o hb e => hg1ob b hb (hgb _ e))), hid (by rw [List.map_append]; exact HQ5.out), hid ((HCW3.out.trans HC4.out).trans' HC5.out (fun j o hj e => ?_)), hid ⟨fun o ho => ⟨?_, ?_⟩, ?_⟩, hid (by have := HTL.out; simp only [List.length_cons] at this; rw [List.length_append]; omega)⟩
              · have := hgb _ e
                have := lt_size hj
                have := (HQ6.out.lt g1 rfl).1
                omega
              · rcases HO3.out with e | ⟨g, e, hg⟩
                · exact (HD.out.1 o (e ▸ ho)).1
                · rw [e] at ho; cases ho; have := HC.out.size; omega
              · intro e
                rcases HB5.out with h | h
                · rw [h] at e; exact hg1ob o ho (hgb _ e)
                · rw [h] at e; cases e; have := hlt3.2 _ ho; omega
              · intro e
                rcases HB5.out with h | h
                · rw [h] at e; exact hg1sb (hgb _ e).symm
                · rw [h] at e; cases e; have := hlt3.1; omega
            case measure => simp only [List.length_cons] at hg; omega
        · have hq6 := h2 (by omega)
          have HQ6 := hid hq6
          clear h1 h2 hq6
          by_cases hks : (k : Int) ∈ sl
          · have hadd : Calls Tryd.prog 69 #[.pointer (some ⟨sb, 0, none⟩), .int .i64 (k : Int)] wr (fun e w' => e = .returned (.bool false) ∧ ∃ ob', SetAt w' sb sl ob' ∧ Ch (So sb ob2) wr w' ∧ (ob' = ob2 ∨ ∃ g, ob' = some g ∧ wr.heap.size ≤ g)) :=
              (sadd HSE.out (k : Int)).mono fun e w' ⟨he, ob', h1, h2, h3⟩ => ⟨he.trans (ret_bool (by simp [hks])), ob', by rw [putS_same (fun h => h.2.2 hks)] at h1; exact h1, h2, h3⟩
            have HKS := hid hks
            clear hks
            go_wp2_with fail
            refine hadd.mono ?_
            rintro e w3 ⟨rfl, ob3, hs3, hc3, ho3⟩
            have HS3 := hid hs3
            have HC3 := hid hc3
            have HO3 := hid ho3
            clear hadd hs3 hc3 ho3
            go_wp2_with fail
            go_roundg ((cs.length - sl.length) * 12 + tl.length)
            case rel =>
              have hso : ∀ g o, (.slice (some ⟨g1, off + 1, none⟩) tl.length (cap - 1) : Value).ownBlock = some g → ¬ So sb ob2 g o := by
                rintro g o hg (e | e)
                · exact HD.out.2 (by rw [← e, ← hg]; rfl)
                · exact (HD.out.1 g e).2 (by rw [← hg]; rfl)
              refine ⟨sl, ob3, tl, Nat.le_refl _, hid (HI.out.old HKS.out), HS3, hid (HQ6.out.ch HC3.out (fun g o hg _ => hso g o hg)), hid (HC.out.trans' HC3.out (fun j o hj hs => ?_)), hid ⟨fun o ho => ?_, HD.out.2⟩, hid (by have := HTL.out; simp only [List.length_cons] at this; omega)⟩
              · have := lt_size hj
                rcases hs with e | e
                · omega
                · have := (HD.out.1 j e).1; omega
              · rcases HO3.out with e | ⟨g, e, hg⟩
                · exact HD.out.1 o (e ▸ ho)
                · rw [e] at ho; cases ho
                  exact ⟨by have := HC.out.size; omega, fun e => by have e' : g1 = o := by simpa [Value.ownBlock] using e
                                                                    omega⟩
            case measure => simp only [List.length_cons] at hg; omega
          · have hl1 := putS_len (l := sl) (n := (k : Int)) (by omega) (by omega) hks
            have hadd : Calls Tryd.prog 69 #[.pointer (some ⟨sb, 0, none⟩), .int .i64 (k : Int)] wr (fun e w' => e = .returned (.bool true) ∧ ∃ ob', SetAt w' sb (putS sl (k : Int)) ob' ∧ Ch (So sb ob2) wr w' ∧ (ob' = ob2 ∨ ∃ g, ob' = some g ∧ wr.heap.size ≤ g)) :=
              (sadd HSE.out (k : Int)).mono fun e w' ⟨he, ob', h1, h2, h3⟩ => ⟨he.trans (ret_bool (by simp [hks]; omega)), ob', h1, h2, h3⟩
            have HKS := hid hks
            have HL1 := hid hl1
            clear hks hl1
            go_wp2_with fail
            refine hadd.mono ?_
            rintro e w3 ⟨rfl, ob3, hs3, hc3, ho3⟩
            have hso : ∀ g o, (.slice (some ⟨g1, off + 1, none⟩) tl.length (cap - 1) : Value).ownBlock = some g → ¬ So sb ob2 g o := by
              rintro g o hg (e | e)
              · exact HD.out.2 (by rw [← e, ← hg]; rfl)
              · exact (HD.out.1 g e).2 (by rw [← hg]; rfl)
            have hcw3 : Ch No w w3 := HC.out.trans' hc3 (fun j o hj hs => by
              have := lt_size hj
              rcases hs with e | e
              · omega
              · have := (HD.out.1 j e).1; omega)
            have hr3 := HRT.out w3 hcw3 k hkn
            have HS3 := hid hs3
            have HQ3 := hid (HQ6.out.ch hc3 (fun g o hg _ => hso g o hg))
            have HCW3 := hid hcw3
            have HO3 := hid ho3
            have hz3 := hc3.size
            clear hadd hs3 hc3 ho3 hso hcw3
            go_wp2_with fail
            refine hr3.mono ?_
            rintro e w4 ⟨u4, rfl, hu4, hc4⟩
            have HU4 := hid hu4.at_
            have HC4 := hid hc4
            have hbb : (tl.map (fun j : Nat => (j : Int))).length + ((upsN cs k).map (fun j : Nat => (j : Int))).length ≤ 10000000 := by
              have := upsLen HM.out k
              have := HTL.out
              simp only [List.length_cons] at this
              rw [List.length_map, List.length_map]
              omega
            have hz4 : w.heap.size ≤ w4.heap.size := by have := HCW3.out.size; have := hc4.size; omega
            clear hr3 hu4 hc4
            go_wp2_with (at_builtin; go_must (refine wpAppendQ rfl _ _ rfl w.heap.size (.slice (some ⟨g1, off + 1, none⟩) tl.length (cap - 1)) (tl.map (fun j : Nat => (j : Int))) ((upsN cs k).map (fun j : Nat => (j : Int))) rfl (HQ3.out.ch HC4.out (fun _ _ _ _ h => h)) u4 rfl HU4.out hbb hz4 ?_))
            intro v5 w5 hq5 hc5 hb5
            have HQ5 := hid hq5
            have HC5 := hid hc5
            have HB5 := hid hb5
            clear hq5 hc5 hb5
            go_wp2_with fail
            go_roundg ((cs.length - sl.length) * 12 + tl.length)
            case rel =>
              have hnl := (HI.out.new HM.out.1 hki').len (HS3.out.v.good)
              have h11 := upsLen HM.out k
              have hgb : ∀ g, (.slice (some ⟨g1, off + 1, none⟩) tl.length (cap - 1) : Value).ownBlock = some g → g = g1 := fun g hg => by
                have : g1 = g := by simpa [Value.ownBlock] using hg
                exact this.symm
              have hlt3 := HS3.out.lt
              have hc4s := HC4.out.size
              have hl2 := HL1.out
              have hg1sb : g1 ≠ sb := fun e => HD.out.2 (by rw [e]; rfl)
              have hg1ob : ∀ o, ob3 = some o → o ≠ g1 := fun o ho e => by
                rcases HO3.out with e2 | ⟨g, e2, hg⟩
                · exact (HD.out.1 o (e2 ▸ ho)).2 (by rw [e]; rfl)
                · rw [e2] at ho; cases ho; omega
              refine ⟨putS sl (k : Int), ob3, tl ++ upsN cs k, by rw [List.length_append]; omega, hid (HI.out.new HM.out.1 hki'), hid ((HS3.out.no HC4.out).ch HC5.out (fun o e => hg1sb (hgb _ e).symm) (fun b o hb e => hg1ob b hb (hgb _ e))), hid (by rw [List.map_append]; exact HQ5.out), hid ((HCW3.out.trans HC4.out).trans' HC5.out (fun j o hj e => ?_)), hid ⟨fun o ho => ⟨?_, ?_⟩, ?_⟩, hid (by have := HTL.out; simp only [List.length_cons] at this; rw [List.length_append]; omega)⟩
              · have := hgb _ e
                have := lt_size hj
                have := (HQ6.out.lt g1 rfl).1
                omega
              · rcases HO3.out with e | ⟨g, e, hg⟩
                · exact (HD.out.1 o (e ▸ ho)).1
                · rw [e] at ho; cases ho; have := HC.out.size; omega
              · intro e
                rcases HB5.out with h | h
                · rw [h] at e; exact hg1ob o ho (hgb _ e)
                · rw [h] at e; cases e; have := hlt3.2 _ ho; omega
              · intro e
                rcases HB5.out with h | h
                · rw [h] at e; exact hg1sb (hgb _ e).symm
                · rw [h] at e; cases e; have := hlt3.1; omega
            case measure => simp only [List.length_cons] at hg; omega
end Go.Proofs.YtkffejgjpnnkmaaDoor
