/- Right of the reference 08. -/
import Derived.Test.YtkffejgjpnnkmaaDoorHa
import Derived.Deep.RegionLaw
set_option linter.unusedVariables false
set_option linter.unusedSimpArgs false
namespace Go.Proofs.YtkffejgjpnnkmaaDoor
open Go.RowKit Go.W

/-- append to an own row, as one step of a region that draws -/
theorem step_appendI2 {ops : Array Oper} {o : Oper} {a : Act} {w : World} {K : Act → World → Prop} {Q : Exit → Act → World → Prop} {E : Prop}
    (hg : o.guard = none) (s x : Operand) (hop : o.op = Op.call { callee := Callee.builtin Builtin.append, args := #[s, x], argTypes := #[41, 41] })
    (base : Nat) (v : Value) (xs l : List Int) (hs : a.eval s = v) (hown : IntsOwn w base v xs) (u : Value) (hx : a.eval x = u) (hu : IntsAt w u l) (h0 : 0 < l.length)
    (hb : xs.length + l.length ≤ 10000000) (hbase : base ≤ w.heap.size)
    (hK : ∀ v' w', IntsOwn w' base v' (xs ++ l) → w.grownBy w' v.ownBlock → (v'.ownBlock = v.ownBlock ∨ v'.ownBlock = some w.heap.size) → K (a.put o.dst v') w') :
    if Region.wanted o (yielded ops a.tmps) = true then Oper.wp Tryd.prog o a w K Q else E := by
  have hw : Region.wanted o (yielded ops a.tmps) = true := by simp [Region.wanted, hg]
  rw [if_pos hw]
  obtain ⟨v', w', hr, h1, h2, h3⟩ := run_appendI2 w base v xs hown u l hu h0 hb hbase o.type
  unfold Oper.wp
  simp [execOp, hop, resolve, invoke, builtin, hs, hx, hr, Result.andThen]
  exact hK v' w' h1 h2 h3

/-- the names of those right above -/
def Cls.ups (c : Cls) : List ByteArray := (if c.sup.toList.isEmpty then [] else [c.sup]) ++ c.faces

def rightZ (cs : List Cls) (c : Cls) : List Int := c.ups.map (findZ cs)

theorem StrsAt.cell {w : World} {ao : Option Addr} {n cap : Nat} {l : List ByteArray} (h : StrsAt w (.slice ao n cap) l) {k : Nat} {x : ByteArray} (hk : l[k]? = some x) :
    n = l.length ∧ ∃ b off, ao = some ⟨b, off, none⟩ ∧ w.cell? ⟨b, off + k, none⟩ = some (.string x) := by
  obtain ⟨ao', cap', e, h1, h2, h3⟩ := h
  cases e
  obtain ⟨b, off, rfl, h4⟩ := h3 (by have := (List.getElem?_eq_some_iff.1 hk).1; omega)
  exact ⟨rfl, b, off, rfl, h4 k x hk⟩

set_option maxHeartbeats 8000000 in
theorem rright {w : World} {pv : Value} {cs : List Cls} (h : ProgAt w pv cs) {i : Nat} {c : Cls} (hi : cs[i]? = some c) (hl : c.faces.length ≤ 1000) :
    Calls Tryd.prog 29 #[pv, .int .i64 i] w fun e w' => ∃ u, e = .returned u ∧ IntsOwn w' w.heap.size u (rightZ cs c) ∧ Ch No w w' := by
  have hp := h
  obtain ⟨cv, m0, m1, m2, m3, m4, m5, m6, m7, m8, rfl, h⟩ := h
  obtain ⟨b, off, cap, rfl, hcell, h1, h2⟩ := h.cell hi
  have hil := (List.getElem?_eq_some_iff.1 hi).1
  have hst := h.faces c (List.mem_of_getElem? hi)
  unfold maxLen at h2
  obtain ⟨len, hlen⟩ : ∃ len, cs.length = len := ⟨_, rfl⟩
  rw [hlen] at h1 hp hil ⊢
  obtain ⟨wa, hwa⟩ : ∃ wa, w.alloc (.cells #[.slice (some ⟨b, off, none⟩) len cap, m0, m1, m2, m3, m4, m5, m6, m7, m8] 30) = wa := ⟨_, rfl⟩
  have hpb := heap_alloc_new w (.cells #[.slice (some ⟨b, off, none⟩) len cap, m0, m1, m2, m3, m4, m5, m6, m7, m8] 30)
  have hch := (Ch.refl No w).alloc (.cells #[.slice (some ⟨b, off, none⟩) len cap, m0, m1, m2, m3, m4, m5, m6, m7, m8] 30)
  rw [hwa] at hch hpb
  obtain ⟨q0, q1, q2, q3, q4, q5, q6, q7, q8, q9⟩ := hcell
  have r0 := cell_ch q0 hch (fun _ _ h => h)
  have r1 := cell_ch q1 hch (fun _ _ h => h)
  have r2 := cell_ch q2 hch (fun _ _ h => h)
  have r3 := cell_ch q3 hch (fun _ _ h => h)
  have r4 := cell_ch q4 hch (fun _ _ h => h)
  have r5 := cell_ch q5 hch (fun _ _ h => h)
  have r6 := cell_ch q6 hch (fun _ _ h => h)
  have r7 := cell_ch q7 hch (fun _ _ h => h)
  have r8 := cell_ch q8 hch (fun _ _ h => h)
  have r9 := cell_ch q9 hch (fun _ _ h => h)
  obtain ⟨wb, hwb⟩ : ∃ wb, wa.alloc (.cells #[.string c.name, .string c.sup, .bool c.face, .slice c.fa c.faces.length c.fc, .slice c.s4.1 c.s4.2.1 c.s4.2.2, .slice c.s5.1 c.s5.2.1 c.s5.2.2, .slice c.s6.1 c.s6.2.1 c.s6.2.2, .pointer c.p7, .int .i64 c.line, .int .i64 c.col] 49) = wb := ⟨_, rfl⟩
  have hcb := heap_alloc_new wa (.cells #[.string c.name, .string c.sup, .bool c.face, .slice c.fa c.faces.length c.fc, .slice c.s4.1 c.s4.2.1 c.s4.2.2, .slice c.s5.1 c.s5.2.1 c.s5.2.2, .slice c.s6.1 c.s6.2.1 c.s6.2.2, .pointer c.p7, .int .i64 c.line, .int .i64 c.col] 49)
  have hchb := (Ch.refl No wa).alloc (.cells #[.string c.name, .string c.sup, .bool c.face, .slice c.fa c.faces.length c.fc, .slice c.s4.1 c.s4.2.1 c.s4.2.2, .slice c.s5.1 c.s5.2.1 c.s5.2.2, .slice c.s6.1 c.s6.2.1 c.s6.2.2, .pointer c.p7, .int .i64 c.line, .int .i64 c.col] 49)
  rw [hwb] at hchb hcb
  have hpb2 := hchb.keep _ _ hpb (fun h => h)
  have hch2 := hch.trans hchb
  have hwl := lt_size hpb
  have hfl : c.faces.length ≤ 9223372036854775807 := by omega
  have c0 := cellAt hpb 0
  have d0 := cellAt hcb 0
  have d1 := cellAt hcb 1
  have d2 := cellAt hcb 2
  have d3 := cellAt hcb 3
  have p0 := cellAt hpb2 0
  have p1 := cellAt hpb2 1
  have p2 := cellAt hpb2 2
  have p3 := cellAt hpb2 3
  have p4 := cellAt hpb2 4
  have p5 := cellAt hpb2 5
  have p6 := cellAt hpb2 6
  have p7 := cellAt hpb2 7
  have p8 := cellAt hpb2 8
  have p9 := cellAt hpb2 9
  have HPB := hid hpb2
  have HCB := hid hcb
  have HP := hid (hp.no hch2)
  have HST := hid (hst.no hch2)
  have z1 := hch.size
  have z2 := hchb.size
  clear q0 q1 q2 q3 q4 q5 q6 q7 q8 q9 hlen h hpb hcb hpb2 hst hp
  go_enter Tryd.func29, Tryd.ntmps29
  cases hs : c.sup.toList.isEmpty with
  | true =>
    go_wp2_with fail
    clear hwa hwb
    go_loopg [5, 7] c.faces.length (fun g s5 s7 wr => ∃ k : Nat, k ≤ c.faces.length ∧ c.faces.length - k ≤ g ∧ s7 = .int .i64 k ∧ IntsOwn wr wb.heap.size s5 (([] : List Int) ++ (c.faces.take k).map (findZ cs)) ∧ Ch No wb wr ∧ wb.heap.size ≤ wr.heap.size)
    case atStart => exact ⟨0, Nat.zero_le _, by omega, rfl, IntsOwn.nil _ _, Ch.refl _ _, Nat.le_refl _⟩
    case round =>
      obtain ⟨k, hk, hg, rfl, hown, hc5, hz5⟩ := hrel
      have HPB5 := hid (hc5.keep _ _ HPB.out (fun h => h))
      have HCB5 := hid (hc5.keep _ _ HCB.out (fun h => h))
      have d3 := cellAt HCB5.out 3
      cases hd : decide (k < c.faces.length) with
      | false =>
        go_wp2_with fail
        go_ret
        have hkl : ¬ k < c.faces.length := by simpa using hd
        rw [List.take_of_length_le (by omega)] at hown
        have hown := hown.base hch2.size
        refine ⟨_, rfl, ?_, hch2.trans hc5⟩
        unfold rightZ Cls.ups
        rw [hs]
        simpa using hown
      | true =>
        have hkl : k < c.faces.length := by simpa using hd
        obtain ⟨x, hx⟩ : ∃ x, c.faces[k]? = some x := ⟨_, List.getElem?_eq_getElem hkl⟩
        obtain ⟨_, fb, fo, hfa, hq0⟩ := (HST.out.no hc5).cell hx
        have HX := hid hx
        have HFA := hid hfa
        rw [hfa] at d3
        have hq : wr.cell? ⟨fb, fo + k, none⟩ = some (.string x) := hq0
        have p0 := cellAt HPB5.out 0
        have p1 := cellAt HPB5.out 1
        have p2 := cellAt HPB5.out 2
        have p3 := cellAt HPB5.out 3
        have p4 := cellAt HPB5.out 4
        have p5 := cellAt HPB5.out 5
        have p6 := cellAt HPB5.out 6
        have p7 := cellAt HPB5.out 7
        have p8 := cellAt HPB5.out 8
        have p9 := cellAt HPB5.out 9
        have hfind := rfind (HP.out.no hc5) x
        have hfl2 : (([] : List Int) ++ (c.faces.take k).map (findZ cs)).length ≤ 1001 := by
          simp only [List.length_append, List.length_map, List.length_take, List.length_nil, List.length_singleton]; omega
        have hb1 : (([] : List Int) ++ (c.faces.take k).map (findZ cs)).length + [findZ cs x].length ≤ 10000000 := by simp only [List.length_singleton]; omega
        clear hx hfa hq0
        go_wp2_with fail
        go_region_law (first | (refine step_appendI2 rfl _ _ rfl wb.heap.size _ _ [findZ cs x] rfl (hown8.alloc _) (.slice (some ⟨w8.heap.size, 0, none⟩) 1 1) rfl (one_at w8 _) Nat.zero_lt_one hb1 (Nat.le_trans hz8 ((Ch.refl No w8).alloc _).size) ?_; intro v1 w1 hown1 hgrow1 hblk1) | (go_simp; go_at_call 23; refine (rfind (HP.out.no (hc5.drew)) x).mono ?_; rintro e w8 ⟨rfl, hc8'⟩; have hc8 : Ch No wr w8 := ((Ch.refl No wr).drew).trans hc8'; have hown8 := hown.no hc8; have hz8 : wb.heap.size ≤ w8.heap.size := Nat.le_trans hz5 hc8.size))
        all_goals (
          go_wp2_with fail
          go_roundg (c.faces.length - k - 1)
          case rel =>
            have hg1 : Ch No wb w1 := (hc5.trans hc8).trans' (grown_ch hgrow1) (fun j o ho h => by
              have := (hown.lt j h).1
              have := lt_size ho
              omega)
            refine ⟨k + 1, by omega, by omega, by go_num, ?_, hg1, hg1.size⟩
            rw [List.take_add_one, HX.out]
            simpa using hown1
          case measure => omega)
  | false =>
    have hf0 := rfind HP.out c.sup
    have hb0 : ([] : List Int).length + [findZ cs c.sup].length ≤ 10000000 := by simp
    go_wp2_with fail
    refine hf0.mono ?_
    rintro e w3 ⟨rfl, hc3⟩
    have hd3 := (Ch.refl No w3).alloc (.cells #[.int .i64 (findZ cs c.sup)] 3)
    have hz3 : wb.heap.size ≤ (w3.alloc (.cells #[.int .i64 (findZ cs c.sup)] 3)).heap.size := Nat.le_trans hc3.size hd3.size
    clear hwa hwb hf0
    go_wp2_with (at_builtin; go_must (refine wpAppendI2 rfl _ _ rfl wb.heap.size _ [] [findZ cs c.sup] rfl (IntsOwn.nil _ _) (.slice (some ⟨w3.heap.size, 0, none⟩) 1 1) rfl (one_at w3 _) Nat.zero_lt_one hb0 hz3 ?_))
    intro v4 w4 hown4 hgrow4 _
    have hc4 : Ch No wb w4 := hc3.trans' (grown_ch hgrow4) (fun _ _ _ h => by cases h)
    go_wp2_with fail
    go_loopg [5, 7] c.faces.length (fun g s5 s7 wr => ∃ k : Nat, k ≤ c.faces.length ∧ c.faces.length - k ≤ g ∧ s7 = .int .i64 k ∧ IntsOwn wr wb.heap.size s5 ([findZ cs c.sup] ++ (c.faces.take k).map (findZ cs)) ∧ Ch No wb wr ∧ wb.heap.size ≤ wr.heap.size)
    case atStart => exact ⟨0, Nat.zero_le _, by omega, rfl, by simpa using hown4, hc4, hc4.size⟩
    case round =>
      obtain ⟨k, hk, hg, rfl, hown, hc5, hz5⟩ := hrel
      have HPB5 := hid (hc5.keep _ _ HPB.out (fun h => h))
      have HCB5 := hid (hc5.keep _ _ HCB.out (fun h => h))
      have d3 := cellAt HCB5.out 3
      cases hd : decide (k < c.faces.length) with
      | false =>
        go_wp2_with fail
        go_ret
        have hkl : ¬ k < c.faces.length := by simpa using hd
        rw [List.take_of_length_le (by omega)] at hown
        have hown := hown.base hch2.size
        refine ⟨_, rfl, ?_, hch2.trans hc5⟩
        unfold rightZ Cls.ups
        rw [hs]
        simpa using hown
      | true =>
        have hkl : k < c.faces.length := by simpa using hd
        obtain ⟨x, hx⟩ : ∃ x, c.faces[k]? = some x := ⟨_, List.getElem?_eq_getElem hkl⟩
        obtain ⟨_, fb, fo, hfa, hq0⟩ := (HST.out.no hc5).cell hx
        have HX := hid hx
        have HFA := hid hfa
        rw [hfa] at d3
        have hq : wr.cell? ⟨fb, fo + k, none⟩ = some (.string x) := hq0
        have p0 := cellAt HPB5.out 0
        have p1 := cellAt HPB5.out 1
        have p2 := cellAt HPB5.out 2
        have p3 := cellAt HPB5.out 3
        have p4 := cellAt HPB5.out 4
        have p5 := cellAt HPB5.out 5
        have p6 := cellAt HPB5.out 6
        have p7 := cellAt HPB5.out 7
        have p8 := cellAt HPB5.out 8
        have p9 := cellAt HPB5.out 9
        have hfind := rfind (HP.out.no hc5) x
        have hfl2 : ([findZ cs c.sup] ++ (c.faces.take k).map (findZ cs)).length ≤ 1001 := by
          simp only [List.length_append, List.length_map, List.length_take, List.length_nil, List.length_singleton]; omega
        have hb1 : ([findZ cs c.sup] ++ (c.faces.take k).map (findZ cs)).length + [findZ cs x].length ≤ 10000000 := by simp only [List.length_singleton]; omega
        clear hx hfa hq0
        go_wp2_with fail
        go_region_law (first | (refine step_appendI2 rfl _ _ rfl wb.heap.size _ _ [findZ cs x] rfl (hown8.alloc _) (.slice (some ⟨w8.heap.size, 0, none⟩) 1 1) rfl (one_at w8 _) Nat.zero_lt_one hb1 (Nat.le_trans hz8 ((Ch.refl No w8).alloc _).size) ?_; intro v1 w1 hown1 hgrow1 hblk1) | (go_simp; go_at_call 23; refine (rfind (HP.out.no (hc5.drew)) x).mono ?_; rintro e w8 ⟨rfl, hc8'⟩; have hc8 : Ch No wr w8 := ((Ch.refl No wr).drew).trans hc8'; have hown8 := hown.no hc8; have hz8 : wb.heap.size ≤ w8.heap.size := Nat.le_trans hz5 hc8.size))
        all_goals (
          go_wp2_with fail
          go_roundg (c.faces.length - k - 1)
          case rel =>
            have hg1 : Ch No wb w1 := (hc5.trans hc8).trans' (grown_ch hgrow1) (fun j o ho h => by
              have := (hown.lt j h).1
              have := lt_size ho
              omega)
            refine ⟨k + 1, by omega, by omega, by go_num, ?_, hg1, hg1.size⟩
            rw [List.take_add_one, HX.out]
            simpa using hown1
          case measure => omega)
end Go.Proofs.YtkffejgjpnnkmaaDoor
