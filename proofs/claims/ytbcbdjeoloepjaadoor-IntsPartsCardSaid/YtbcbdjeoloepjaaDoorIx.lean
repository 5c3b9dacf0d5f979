/- The law IntsPairs. -/
import Derived.Test.YtbcbdjeoloepjaaDoorIs
set_option linter.unusedVariables false
namespace Go.Proofs.YtbcbdjeoloepjaaDoor
open Go.RowKit Go.W

theorem meets_len (p : Int → Bool) (l : List Int) : l.any p = decide ((l.filter (fun x => !p x)).length < l.length) := by
  induction l with
  | nil => rfl
  | cons x r ih =>
    have hl := List.length_filter_le (fun x => !p x) r
    cases h : p x with
    | true => simp only [List.any_cons, h, List.filter_cons, Bool.not_true, List.length_cons]; simp; omega
    | false => simp only [List.any_cons, h, List.filter_cons, Bool.not_false, List.length_cons, Bool.false_or, ih]; simp

/-- append to an own row, where the operation has a guard -/
theorem wpAppendW {w : World} {ops : Array Oper} {rest : List Oper} {o : Oper} {a : Act} {Q : Exit → Act → World → Prop} (hw : Region.wanted o (yielded ops a.tmps) = true) (s x : Operand)
    (ho : o.op = .call { callee := .builtin .append, args := #[s, x], argTypes := #[22, 22] })
    (base : Nat) (v : Value) (xs l : List Int) (hs : a.eval s = v) (hown : IntsOwn w base v xs) (u : Value) (hx : a.eval x = u) (hu : IntsAt w u l)
    (hb : xs.length + l.length ≤ 10000000) (hbase : base ≤ w.heap.size)
    (h : ∀ v' w', IntsOwn w' base v' (xs ++ l) → w.grownBy w' v.ownBlock → wpList Tryd.prog ops Q rest (a.put o.dst v') w') : wpList Tryd.prog ops Q (o :: rest) a w := by
  have h2 := wpAppendI (w := w) (ops := ops) (rest := rest) (o := { o with guard := none }) (a := a) (Q := Q) rfl s x ho base v xs l hs hown u hx hu hb hbase h
  unfold wpList at h2 ⊢
  rw [if_pos hw]
  rw [if_pos (by simp [Region.wanted])] at h2
  exact h2

theorem fold_app (ls lt : List Int) (h : Good ls) : (ls ++ lt).foldl putS [] = lt.foldl putS ls := by
  rw [List.foldl_append, fold_self h]

set_option maxHeartbeats 16000000 in
set_option maxRecDepth 100000 in
theorem law_pairs {w : World} {va vb : Value} {a b : List Int} (hT : Tab w) (ha : IntsAt w va a) (hb : IntsAt w vb b) :
    Calls Tryd.prog 5 #[va, vb] w fun e w' => e = .returned (.bool true) ∧ Ch No w w' := by
  have haw := awake01 hT
  have ha' := ha
  obtain ⟨aoa, capa, rfl, hcapa, hmaxa, _, _⟩ := ha
  obtain ⟨la, hla⟩ : ∃ la, a.length = la := ⟨_, rfl⟩
  have hb' := hb
  obtain ⟨aob, capb, rfl, hcapb, hmaxb, _, _⟩ := hb
  obtain ⟨lb, hlb⟩ : ∃ lb, b.length = lb := ⟨_, rfl⟩
  rw [hlb] at hb' hcapb ⊢
  unfold maxLen at hmaxb
  have HB := hid hb'
  have HLB := hid hlb
  clear hb' hlb
  rw [hla] at ha' hcapa ⊢
  unfold maxLen at hmaxa
  have HA := hid ha'
  have HT := hid hT
  have HLA := hid hla
  clear ha' hT hla
  cases e1 : decide ((la : Int) > 60) with
  | true =>
    go_enter Tryd.func5, Tryd.ntmps5
    go_wp2_with fail
    refine haw.mono ?_
    rintro e w1 ⟨rfl, hc1⟩
    go_wp2_with fail
    refine (awake01 (HT.out.no hc1)).mono ?_
    rintro e w2 ⟨rfl, hc2⟩
    go_wp2_with fail
    go_ret
    exact ⟨rfl, hc1.trans hc2⟩
  | false =>
  cases e2 : decide ((lb : Int) > 60) with
  | true =>
    go_enter Tryd.func5, Tryd.ntmps5
    go_wp2_with fail
    refine haw.mono ?_
    rintro e w1 ⟨rfl, hc1⟩
    go_wp2_with fail
    refine (awake01 (HT.out.no hc1)).mono ?_
    rintro e w2 ⟨rfl, hc2⟩
    go_wp2_with fail
    go_ret
    exact ⟨rfl, hc1.trans hc2⟩
  | false =>
    have hla60 : la ≤ 60 := by simp at e1; omega
    have hlb60 : lb ≤ 60 := by simp at e2; omega
    go_enter Tryd.func5, Tryd.ntmps5
    go_wp2_with fail
    refine haw.mono ?_
    rintro e w1 ⟨rfl, hc1⟩
    clear haw
    go_wp2_with fail
    have hk2 := sof (HA.out.no hc1)
    refine hk2.mono ?_
    rintro e w2 ⟨us, rfl, hs, hd2⟩
    clear hk2
    have hc2 := hc1.trans hd2
    have z2 := hd2.size
    clear hd2
    obtain ⟨sb, ob, rfl, hs, hrs, hrs'⟩ := hs.openIt
    have hk3 := sof (HB.out.no hc2)
    go_wp2_with fail
    refine hk3.mono ?_
    rintro e w3 ⟨ut, rfl, ht, hd3⟩
    clear hk3
    have hs := hs.no hd3
    have hc3 := hc2.trans hd3
    have z3 := hd3.size
    clear hd3
    obtain ⟨tb, tob, rfl, ht, hrt, hrt'⟩ := ht.openIt
    have hk4 := rof (HA.out.no hc3) (by rw [HLA.out]; omega)
    go_wp2_with fail
    refine hk4.mono ?_
    rintro e w4 ⟨vx, rfl, hx, hd4⟩
    clear hk4
    have hs := hs.no hd4
    have ht := ht.no hd4
    have hc4 := hc3.trans hd4
    have z4 := hd4.size
    clear hd4
    have hrx := fun g h => hx.lt g h
    have hk5 := rof (HB.out.no hc4) (by rw [HLB.out]; omega)
    go_wp2_with fail
    refine hk5.mono ?_
    rintro e w5 ⟨vy, rfl, hy, hd5⟩
    clear hk5
    have hs := hs.no hd5
    have ht := ht.no hd5
    have hx := hx.no hd5
    have hc5 := hc4.trans hd5
    have z5 := hd5.size
    clear hd5
    have hry := fun g h => hy.lt g h
    have gs := good_nil.fold a
    have gt := good_nil.fold b
    have ll1 := foldS_length [] a
    have ll2 := foldS_length [] b
    rw [HLA.out] at ll1
    rw [HLB.out] at ll2
    simp only [List.length_nil, Nat.zero_add] at ll1 ll2
    obtain ⟨ls, hls⟩ : ∃ ls, a.foldl putS [] = ls := ⟨_, rfl⟩
    obtain ⟨lt, hlt⟩ : ∃ lt, b.foldl putS [] = lt := ⟨_, rfl⟩
    rw [hls] at hs hx gs ll1
    rw [hlt] at ht hy gt ll2
    clear hls hlt
    have GS := hid gs
    have GT := hid gt
    clear gs gt
    have hk6 := sunion (HT.out.no hc5) hs.v ht.v
    go_wp2_with fail
    refine hk6.mono ?_
    rintro e w6 ⟨uu, rfl, hu, hd6⟩
    clear hk6
    have hs := hs.no hd6
    have ht := ht.no hd6
    have hx := hx.no hd6
    have hy := hy.no hd6
    have hc6 := hc5.trans hd6
    have z6 := hd6.size
    clear hd6
    obtain ⟨ub, uob, rfl, hu, hru, hru'⟩ := hu.openIt
    have hk7 := sminus (HT.out.no hc6) hs.v ht.v
    go_wp2_with fail
    refine hk7.mono ?_
    rintro e w7 ⟨um, rfl, hm, hd7⟩
    clear hk7
    have hs := hs.no hd7
    have ht := ht.no hd7
    have hx := hx.no hd7
    have hy := hy.no hd7
    have hu := hu.no hd7
    have hc7 := hc6.trans hd7
    have z7 := hd7.size
    clear hd7
    obtain ⟨mb, mob, rfl, hm, hrm, hrm'⟩ := hm.openIt
    have hk8 := slist (HT.out.no hc7) hu.v
    go_wp2_with fail
    refine hk8.mono ?_
    rintro e w8 ⟨v8, rfl, hv8, hd8⟩
    clear hk8
    have hs := hs.no hd8
    have ht := ht.no hd8
    have hx := hx.no hd8
    have hy := hy.no hd8
    have hu := hu.no hd8
    have hm := hm.no hd8
    have hc8 := hc7.trans hd8
    have z8 := hd8.size
    clear hd8
    have hr8 := fun g h => hv8.lt g h
    have hmade : IntsOwn (w8.alloc (.cells #[] 3)) w8.heap.size (.slice (some ⟨w8.heap.size, 0, none⟩) 0 0) [] := World.ownsRow_made w8 #[] 0 (Nat.le_refl _) (Nat.zero_le _) rfl
    have hdm := (Ch.refl No w8).alloc (.cells #[] 3)
    have hxm := (hx.no hdm).at_
    have hb1 : ([] : List Int).length + ls.length ≤ 10000000 := by simp; omega
    go_wp2_with (at_builtin; go_must (refine wpAppendW rfl _ _ rfl w8.heap.size _ [] ls rfl hmade _ rfl hxm hb1 hdm.size ?_))
    intro v9 w9 hv9 hg9
    have hd9 : Ch No w8 w9 := hdm.grown hg9 (fun k o hk ho => by
      have e : w8.heap.size = k := Option.some.inj hk
      have := lt_size ho
      omega)
    clear hg9 hmade hxm
    have hs := hs.no hd9
    have ht := ht.no hd9
    have hx := hx.no hd9
    have hy := hy.no hd9
    have hu := hu.no hd9
    have hm := hm.no hd9
    have hv8 := hv8.no hd9
    have hc9 := hc8.trans hd9
    have z9 := hd9.size
    have hv9l := fun g h => hv9.lt g h
    have hb2 : ls.length + lt.length ≤ 10000000 := by omega
    go_wp2_with (at_builtin; go_must (refine wpAppendW rfl _ _ rfl w8.heap.size _ ls lt rfl hv9 _ rfl hy.at_ hb2 z9 ?_))
    intro v10 w10 hv10 hg10
    have hd10 : Ch (fun k _ => w8.heap.size ≤ k) w9 w10 := (Ch.refl _ w9).grown hg10 (fun k o hk ho => (hv9l k hk).1)
    have hc10 : Ch No w w10 := hc9.trans' hd10 (fun k o ho h => by have := lt_size ho; have := hc8.size; omega)
    have z10 := hd10.size
    clear hg10 hv9
    have hs := hs.ch hd10 (fun _ h => by omega) (fun b _ hb h => by have := hrs' b hb; omega)
    have ht := ht.ch hd10 (fun _ h => by omega) (fun b _ hb h => by have := hrt' b hb; omega)
    have hx := hx.ch hd10 (fun g _ hg _ _ h => by have := hrx g hg; omega)
    have hy := hy.ch hd10 (fun g _ hg _ _ h => by have := hry g hg; omega)
    have hu := hu.ch hd10 (fun _ h => by omega) (fun b _ hb h => by have := hru' b hb; omega)
    have hm := hm.ch hd10 (fun _ h => by omega) (fun b _ hb h => by have := hrm' b hb; omega)
    have hv8 := hv8.ch hd10 (fun g _ hg _ _ h => by have := hr8 g hg; omega)
    have hk11 := rof hv10.at_ (by rw [List.length_append]; omega)
    go_wp2_with fail
    refine hk11.mono ?_
    rintro e w11 ⟨v11, rfl, hv11, hd11⟩
    clear hk11
    have hs := hs.no hd11
    have ht := ht.no hd11
    have hx := hx.no hd11
    have hy := hy.no hd11
    have hu := hu.no hd11
    have hm := hm.no hd11
    have hv8 := hv8.no hd11
    have hc11 := hc10.trans hd11
    have z11 := hd11.size
    clear hd11
    rw [fold_app ls lt GS.out] at hv11
    have hk12 := rsame' hv8.at_ hv11.at_
    rw [decide_eq_true (Eq.refl _)] at hk12
    go_wp2_with fail
    refine hk12.mono ?_
    rintro e w12 ⟨rfl, hd12⟩
    clear hk12
    have hs := hs.no hd12
    have ht := ht.no hd12
    have hx := hx.no hd12
    have hy := hy.no hd12
    have hu := hu.no hd12
    have hm := hm.no hd12
    have hv8 := hv8.no hd12
    have hc12 := hc11.trans hd12
    have z12 := hd12.size
    clear hd12
    have hk13 := slist (HT.out.no hc12) hm.v
    go_wp2_with fail
    refine hk13.mono ?_
    rintro e w13 ⟨v13, rfl, hv13, hd13⟩
    clear hk13
    have hs := hs.no hd13
    have ht := ht.no hd13
    have hx := hx.no hd13
    have hy := hy.no hd13
    have hu := hu.no hd13
    have hm := hm.no hd13
    have hc13 := hc12.trans hd13
    have z13 := hd13.size
    clear hd13
    have hk14 := rminus hx.at_ hy.at_ (by omega)
    go_wp2_with fail
    refine hk14.mono ?_
    rintro e w14 ⟨v14, rfl, hv14, hd14⟩
    clear hk14
    have hs := hs.no hd14
    have ht := ht.no hd14
    have hx := hx.no hd14
    have hy := hy.no hd14
    have hu := hu.no hd14
    have hm := hm.no hd14
    have hv13 := hv13.no hd14
    have hc14 := hc13.trans hd14
    have z14 := hd14.size
    clear hd14
    have hk15 := rsame' hv13.at_ hv14.at_
    rw [decide_eq_true (Eq.refl _)] at hk15
    go_wp2_with fail
    refine hk15.mono ?_
    rintro e w15 ⟨rfl, hd15⟩
    clear hk15
    have hs := hs.no hd15
    have ht := ht.no hd15
    have hx := hx.no hd15
    have hy := hy.no hd15
    have hu := hu.no hd15
    have hm := hm.no hd15
    have hv13 := hv13.no hd15
    have hc15 := hc14.trans hd15
    have z15 := hd15.size
    clear hd15
    obtain ⟨r1, hr1⟩ : ∃ r, decide (ls = lt) = r := ⟨_, rfl⟩
    have hrr1 : (!r1 == r1) = false := by cases r1 <;> rfl
    have hrr1' : (r1 != r1) = false := by cases r1 <;> rfl
    have HR1 := hid hr1
    clear hr1
    have hk16 := ssame (HT.out.no hc15) hs.v ht.v
    rw [HR1.out] at hk16
    go_wp2_with fail
    refine hk16.mono ?_
    rintro e w16 ⟨rfl, hd16⟩
    clear hk16
    have hs := hs.no hd16
    have ht := ht.no hd16
    have hx := hx.no hd16
    have hy := hy.no hd16
    have hu := hu.no hd16
    have hm := hm.no hd16
    have hc16 := hc15.trans hd16
    have z16 := hd16.size
    clear hd16
    have hk17 := rsame' hx.at_ hy.at_
    rw [HR1.out] at hk17
    go_wp2_with fail
    refine hk17.mono ?_
    rintro e w17 ⟨rfl, hd17⟩
    clear hk17
    have hs := hs.no hd17
    have ht := ht.no hd17
    have hx := hx.no hd17
    have hy := hy.no hd17
    have hu := hu.no hd17
    have hm := hm.no hd17
    have hc17 := hc16.trans hd17
    have z17 := hd17.size
    clear hd17
    obtain ⟨r2, hr2⟩ : ∃ r, ls.any (fun x => decide (x ∈ lt)) = r := ⟨_, rfl⟩
    have hml := meets_len (fun x => decide (x ∈ lt)) ls
    rw [hr2] at hml
    have HR2 := hid hr2
    have HML := hid hml
    clear hr2 hml
    have hk18 := smeets (HT.out.no hc17) hs.v ht.v
    rw [HR2.out] at hk18
    go_wp2_with fail
    refine hk18.mono ?_
    rintro e w18 ⟨rfl, hd18⟩
    clear hk18
    have hs := hs.no hd18
    have ht := ht.no hd18
    have hx := hx.no hd18
    have hy := hy.no hd18
    have hu := hu.no hd18
    have hm := hm.no hd18
    have hc18 := hc17.trans hd18
    have z18 := hd18.size
    clear hd18
    have hk19 := rminus hx.at_ hy.at_ (by omega)
    go_wp2_with fail
    refine hk19.mono ?_
    rintro e w19 ⟨v19, rfl, hv19, hd19⟩
    clear hk19
    have hs := hs.no hd19
    have ht := ht.no hd19
    have hx := hx.no hd19
    have hy := hy.no hd19
    have hu := hu.no hd19
    have hm := hm.no hd19
    have hc19 := hc18.trans hd19
    have z19 := hd19.size
    clear hd19
    obtain ⟨l19, hl19⟩ : ∃ l19, ls.filter (fun x => !decide (x ∈ lt)) = l19 := ⟨_, rfl⟩
    have hml := HML.out
    rw [hl19] at hv19 hml
    clear hl19
    have hax := hx.at_
    obtain ⟨ax, cx, rfl, _⟩ := hax
    obtain ⟨a19, c19, rfl, _⟩ := hv19.at_
    clear hv19
    obtain ⟨n19, hn19⟩ : ∃ n, l19.length = n := ⟨_, rfl⟩
    obtain ⟨nx, hnx⟩ : ∃ n, ls.length = n := ⟨_, rfl⟩
    rw [hn19, hnx] at hml
    rw [hnx] at hx hrx
    rw [hn19, hnx]
    have hrr2 : (!r2 == decide (n19 < nx)) = false := by rw [← hml]; cases r2 <;> rfl
    have hrr3 : (r2 != decide (n19 < nx)) = false := by rw [← hml]; cases r2 <;> rfl
    clear hml hn19 hnx
    go_wp2_with fail
    refine (sadd hu 7).mono ?_
    rintro e w20 ⟨rfl, uob2, hu2, hd20, _⟩
    have hc20 : Ch No w w20 := So.new hc19 hd20 (B := w5.heap.size) hc5.size (by omega) (fun b hb => (hru' b hb).1)
    have hs := hs.apart hrs hrs' hd20 (by omega) (fun b hb => by have := hru' b hb; omega)
    have ht := ht.apart hrt hrt' hd20 (by omega) (fun b hb => by have := hru' b hb; omega)
    have hx := hx.apart hrx hd20 (by omega) (fun b hb => by have := hru' b hb; omega)
    have hy := hy.apart hry hd20 (by omega) (fun b hb => by have := hru' b hb; omega)
    have hm := hm.apart hrm hrm' hd20 (by omega) (fun b hb => by have := hru' b hb; omega)
    have z20 := hd20.size
    clear hd20 hu2 hu
    go_wp2_with fail
    refine (sadd hm 9).mono ?_
    rintro e w21 ⟨rfl, mob2, hm2, hd21, _⟩
    have hc21 : Ch No w w21 := So.new hc20 hd21 (B := w6.heap.size) hc6.size (by omega) (fun b hb => (hrm' b hb).1)
    have hs := hs.apart hrs hrs' hd21 (by omega) (fun b hb => by have := hrm' b hb; omega)
    have ht := ht.apart hrt hrt' hd21 (by omega) (fun b hb => by have := hrm' b hb; omega)
    have hx := hx.apart hrx hd21 (by omega) (fun b hb => by have := hrm' b hb; omega)
    have hy := hy.apart hry hd21 (by omega) (fun b hb => by have := hrm' b hb; omega)
    have z21 := hd21.size
    clear hd21 hm2 hm
    have hk22 := slist (HT.out.no hc21) hs.v
    go_wp2_with fail
    refine hk22.mono ?_
    rintro e w22 ⟨v22, rfl, hv22, hd22⟩
    clear hk22
    have hs := hs.no hd22
    have ht := ht.no hd22
    have hx := hx.no hd22
    have hy := hy.no hd22
    have hc22 := hc21.trans hd22
    have z22 := hd22.size
    clear hd22
    have hk23 := rsame' hv22.at_ hx.at_
    rw [decide_eq_true (Eq.refl _)] at hk23
    go_wp2_with fail
    refine hk23.mono ?_
    rintro e w23 ⟨rfl, hd23⟩
    clear hk23
    have ht := ht.no hd23
    have hx := hx.no hd23
    have hy := hy.no hd23
    have hc23 := hc22.trans hd23
    have z23 := hd23.size
    clear hd23
    have hk24 := slist (HT.out.no hc23) ht.v
    go_wp2_with fail
    refine hk24.mono ?_
    rintro e w24 ⟨v24, rfl, hv24, hd24⟩
    clear hk24
    have ht := ht.no hd24
    have hy := hy.no hd24
    have hc24 := hc23.trans hd24
    have z24 := hd24.size
    clear hd24
    have hk25 := rsame' hv24.at_ hy.at_
    rw [decide_eq_true (Eq.refl _)] at hk25
    go_wp2_with fail
    refine hk25.mono ?_
    rintro e w25 ⟨rfl, hd25⟩
    clear hk25
    have hy := hy.no hd25
    have hc25 := hc24.trans hd25
    have z25 := hd25.size
    clear hd25
    go_wp2_with fail
    go_ret
    exact ⟨rfl, hc25⟩
end Go.Proofs.YtbcbdjeoloepjaaDoor
