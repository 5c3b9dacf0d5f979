/- Laid together: Ha Hb Hc. -/
import Derived.Test.YtgjpgfedlgdjhaaGreatDoorSx
import Derived.Deep.RegionLaw
section
/- Programs' classes in memory; Find of the reference 08. -/
set_option linter.unusedVariables false
set_option linter.unusedSimpArgs false
namespace Go.Proofs.YtgjpgfedlgdjhaaGreatDoor
open Go.RowKit Go.W

theorem loop_eq (bs : ByteArray) : ∀ (n i : Nat) (r : List UInt8), i + n = bs.size → ByteArray.toList.loop bs i r = r.reverse ++ bs.data.toList.drop i
  | 0, i, r, h => by
    unfold ByteArray.toList.loop
    rw [if_neg (by omega)]
    have : bs.data.toList.drop i = [] := List.drop_of_length_le (by show bs.data.size ≤ i; have : bs.size = bs.data.size := rfl; omega)
    rw [this]; simp
  | n + 1, i, r, h => by
    unfold ByteArray.toList.loop
    rw [if_pos (by omega), loop_eq bs n (i + 1) _ (by omega)]
    have hi : i < bs.data.size := by have : bs.size = bs.data.size := rfl; omega
    have e : bs.get! i = bs.data[i] := by
      show bs.data[i]! = _
      rw [getElem!_pos bs.data i hi]
    rw [e, List.reverse_cons, List.append_assoc, List.singleton_append]
    congr 1
    rw [List.drop_eq_getElem_cons (i := i) (by simpa using hi), Array.getElem_toList]
theorem toList_eq (bs : ByteArray) : bs.toList = bs.data.toList := by
  unfold ByteArray.toList
  rw [loop_eq bs bs.size 0 [] (by omega)]
  simp
theorem streq (a b : ByteArray) : (a.toList == b.toList) = decide (a = b) := by
  rw [toList_eq, toList_eq]
  by_cases h : a = b
  · subst h; simp
  · have : a.data.toList ≠ b.data.toList := fun e => h (by cases a; cases b; simp_all [Array.ext_iff])
    rw [decide_eq_false h]
    simpa using this

/-- v is a slice of the texts l -/
def StrsAt (w : World) (v : Value) (l : List ByteArray) : Prop :=
  ∃ ao cap, v = .slice ao l.length cap ∧ l.length ≤ cap ∧ cap ≤ maxLen ∧
    (0 < l.length → ∃ b off, ao = some ⟨b, off, none⟩ ∧ ∀ (i : Nat) (x : ByteArray), l[i]? = some x → w.cell? ⟨b, off + i, none⟩ = some (.string x))

theorem StrsAt.no {w w' : World} {v : Value} {l : List ByteArray} (h : StrsAt w v l) (hc : Ch No w w') : StrsAt w' v l := by
  obtain ⟨ao, cap, rfl, h2, h3, h4⟩ := h
  refine ⟨ao, cap, rfl, h2, h3, fun h0 => ?_⟩
  obtain ⟨b, off, rfl, h5⟩ := h4 h0
  exact ⟨b, off, rfl, fun i x hx => cell_ch (h5 i x hx) hc (fun _ _ h => h)⟩

/-- a class: what layer 8 reads of it, and the rest -/
structure Cls where
  name : ByteArray
  sup : ByteArray
  face : Bool
  faces : List ByteArray
  fa : Option Addr
  fc : Nat
  s4 : Option Addr × Nat × Nat
  s5 : Option Addr × Nat × Nat
  s6 : Option Addr × Nat × Nat
  p7 : Option Addr
  line : Int
  col : Int

def Cls.cells (c : Cls) : List Value := [.string c.name, .string c.sup, .bool c.face, .slice c.fa c.faces.length c.fc, .slice c.s4.1 c.s4.2.1 c.s4.2.2, .slice c.s5.1 c.s5.2.1 c.s5.2.2, .slice c.s6.1 c.s6.2.1 c.s6.2.2, .pointer c.p7, .int .i64 c.line, .int .i64 c.col]

/-- cv is a slice of the classes cs -/
structure ClssAt (w : World) (cv : Value) (cs : List Cls) : Prop where
  row : RowAt w cv 10 (cs.map Cls.cells)
  faces : ∀ c ∈ cs, StrsAt w (.slice c.fa c.faces.length c.fc) c.faces

theorem ClssAt.no {w w' : World} {cv : Value} {cs : List Cls} (h : ClssAt w cv cs) (hc : Ch No w w') : ClssAt w' cv cs := ⟨h.row.no hc, fun c hm => (h.faces c hm).no hc⟩

/-- pv is a program of the classes cs -/
def ProgAt (w : World) (pv : Value) (cs : List Cls) : Prop :=
  ∃ cv m0 m1 m2 m3 m4 m5 m6 m7 m8, pv = .agg #[cv, m0, m1, m2, m3, m4, m5, m6, m7, m8] ∧ ClssAt w cv cs

theorem ProgAt.no {w w' : World} {pv : Value} {cs : List Cls} (h : ProgAt w pv cs) (hc : Ch No w w') : ProgAt w' pv cs := by
  obtain ⟨cv, m0, m1, m2, m3, m4, m5, m6, m7, m8, rfl, h⟩ := h
  exact ⟨cv, m0, m1, m2, m3, m4, m5, m6, m7, m8, rfl, h.no hc⟩

/-- the number of the first class of a name -/
def find (cs : List Cls) (nm : ByteArray) : Option Nat := cs.findIdx? (fun c => decide (c.name = nm))
/-- .. as the reference tells it -/
def findZ (cs : List Cls) (nm : ByteArray) : Int := match find cs nm with | some i => (i : Int) | none => -1

/-- the cells of class k, which begin at the place a of block b -/
structure ClsCells (w : World) (b a : Nat) (c : Cls) : Prop where
  q0 : w.cell? ⟨b, a, none⟩ = some (.string c.name)
  q1 : w.cell? ⟨b, a + 1, none⟩ = some (.string c.sup)
  q2 : w.cell? ⟨b, a + 2, none⟩ = some (.bool c.face)
  q3 : w.cell? ⟨b, a + 3, none⟩ = some (.slice c.fa c.faces.length c.fc)
  q4 : w.cell? ⟨b, a + 4, none⟩ = some (.slice c.s4.1 c.s4.2.1 c.s4.2.2)
  q5 : w.cell? ⟨b, a + 5, none⟩ = some (.slice c.s5.1 c.s5.2.1 c.s5.2.2)
  q6 : w.cell? ⟨b, a + 6, none⟩ = some (.slice c.s6.1 c.s6.2.1 c.s6.2.2)
  q7 : w.cell? ⟨b, a + 7, none⟩ = some (.pointer c.p7)
  q8 : w.cell? ⟨b, a + 8, none⟩ = some (.int .i64 c.line)
  q9 : w.cell? ⟨b, a + 9, none⟩ = some (.int .i64 c.col)

theorem ClssAt.cell {w : World} {cv : Value} {cs : List Cls} (h : ClssAt w cv cs) {k : Nat} {c : Cls} (hk : cs[k]? = some c) :
    ∃ b off cap, cv = .slice (some ⟨b, off, none⟩) cs.length cap ∧ ClsCells w b (off + k * 10) c ∧ cs.length ≤ cap ∧ cap ≤ maxLen := by
  obtain ⟨ao, cap, e, h1, h2, h3, h4⟩ := h.row
  have hl : k < cs.length := (List.getElem?_eq_some_iff.1 hk).1
  obtain ⟨b, off, rfl, h5⟩ := h4 (by rw [List.length_map]; omega)
  have h6 := fun j hj => h5 k c.cells (by rw [List.getElem?_map, hk]; rfl) j hj
  exact ⟨b, off, cap, by rw [e, List.length_map], ⟨h6 0 (by omega), h6 1 (by omega), h6 2 (by omega), h6 3 (by omega), h6 4 (by omega), h6 5 (by omega), h6 6 (by omega), h6 7 (by omega), h6 8 (by omega), h6 9 (by omega)⟩, by rw [List.length_map] at h1; exact h1, h2⟩

theorem find_take {cs : List Cls} {nm : ByteArray} {k : Nat} {c : Cls} (hk : cs[k]? = some c) (hno : ∀ x ∈ cs.take k, x.name ≠ nm) (hc : c.name = nm) : find cs nm = some k := by
  unfold find
  rw [List.findIdx?_eq_some_iff_getElem]
  obtain ⟨hl, e⟩ := List.getElem?_eq_some_iff.1 hk
  refine ⟨hl, by rw [e]; simpa using hc, fun j hj => ?_⟩
  have : cs[j] ∈ cs.take k := List.mem_take_iff_getElem.2 ⟨j, by omega, rfl⟩
  simpa using hno _ this

theorem find_none {cs : List Cls} {nm : ByteArray} (hno : ∀ x ∈ cs, x.name ≠ nm) : find cs nm = none := by
  unfold find
  rw [List.findIdx?_eq_none_iff]
  intro x hx
  simpa using hno x hx

theorem find_some {cs : List Cls} {nm : ByteArray} {k : Nat} (h : find cs nm = some k) : ∃ c, cs[k]? = some c ∧ c.name = nm ∧ ∀ x ∈ cs.take k, x.name ≠ nm := by
  unfold find at h
  rw [List.findIdx?_eq_some_iff_getElem] at h
  obtain ⟨hl, h1, h2⟩ := h
  refine ⟨cs[k], List.getElem?_eq_getElem hl, by simpa using h1, fun x hx => ?_⟩
  obtain ⟨j, hj, rfl⟩ := List.mem_take_iff_getElem.1 hx
  have := h2 j (by omega)
  simpa using this

set_option maxHeartbeats 2000000 in
theorem rfind {w : World} {pv : Value} {cs : List Cls} (h : ProgAt w pv cs) (nm : ByteArray) :
    Calls Tryz.prog 92 #[pv, .string nm] w fun e w' => e = .returned (.int .i64 (findZ cs nm)) ∧ Ch No w w' := by
  obtain ⟨cv, m0, m1, m2, m3, m4, m5, m6, m7, m8, rfl, h⟩ := h
  have hch := (Ch.refl No w).alloc (.cells #[cv, m0, m1, m2, m3, m4, m5, m6, m7, m8] 31)
  have h' := h.no hch
  obtain ⟨ao, cap, rfl, hcap, hmax, _, _⟩ := h.row
  rw [List.length_map] at hcap h' ⊢
  obtain ⟨len, hlen⟩ : ∃ len, cs.length = len := ⟨_, rfl⟩
  rw [hlen] at hcap h' ⊢
  unfold maxLen at hmax
  have HL := hid hlen
  have HC := hid h'
  obtain ⟨wa, hwa⟩ : ∃ wa, w.alloc (.cells #[.slice ao len cap, m0, m1, m2, m3, m4, m5, m6, m7, m8] 31) = wa := ⟨_, rfl⟩
  have c0 := cellAt (heap_alloc_new w (.cells #[.slice ao len cap, m0, m1, m2, m3, m4, m5, m6, m7, m8] 31)) 0
  rw [List.length_map, hlen] at hch
  rw [hwa] at hch HC c0
  have HCH := hid hch
  clear hlen h h' hch
  go_enter Tryz.func92, Tryz.ntmps92
  go_wp2_with fail
  clear hwa
  go_loop [5] (fun s5 => ∃ k : Nat, k ≤ len ∧ s5 = .int .i64 k ∧ Hid (∀ x ∈ cs.take k, x.name ≠ nm)) (fun s5 => len - (intOf s5).toNat)
  case atStart => exact ⟨0, Nat.zero_le _, rfl, hid (by simp)⟩
  case round =>
    obtain ⟨k, hk, rfl, HN⟩ := hrel
    cases hd : decide (k < len) with
    | true =>
      have hkl : k < len := by simpa using hd
      obtain ⟨c, hc⟩ : ∃ c, cs[k]? = some c := ⟨_, List.getElem?_eq_getElem (by have := HL.out; omega)⟩
      obtain ⟨b, off, cap', e, hcell, _, _⟩ := HC.out.cell hc
      rw [HL.out] at e
      cases e
      have q0 := hcell.q0
      have HX := hid hc
      clear hc hcell
      cases e0 : (c.name.toList == nm.toList) with
      | true =>
        go_wp2_with fail
        go_ret
        have hcn : c.name = nm := by rw [streq] at e0; simpa using e0
        refine ⟨ret_int ?_, HCH.out⟩
        unfold findZ
        rw [find_take HX.out HN.out hcn]
      | false =>
        go_wp2_with fail
        go_round
        case rel =>
          have hcn : c.name ≠ nm := by rw [streq] at e0; simpa using e0
          refine ⟨k + 1, by omega, by go_num, hid fun x hx => ?_⟩
          rw [List.take_add_one, HX.out] at hx
          rcases List.mem_append.1 hx with hx | hx
          · exact HN.out x hx
          · simp at hx; subst hx; exact hcn
        case measure => simp [intOf]; omega
    | false =>
      go_wp2_with fail
      go_ret
      have hkl : ¬ k < len := by simpa using hd
      have := HN.out
      rw [List.take_of_length_le (by have := HL.out; omega)] at this
      refine ⟨ret_int ?_, HCH.out⟩
      unfold findZ
      rw [find_none this]
end Go.Proofs.YtgjpgfedlgdjhaaGreatDoor
end
section
/- Right of the reference 08. -/
set_option linter.unusedVariables false
set_option linter.unusedSimpArgs false
set_option maxRecDepth 8192
namespace Go.Proofs.YtgjpgfedlgdjhaaGreatDoor
open Go.RowKit Go.W

/-- append to an own row, as one step of a region that draws -/
theorem step_appendI2 {ops : Array Oper} {o : Oper} {a : Act} {w : World} {K : Act → World → Prop} {Q : Exit → Act → World → Prop} {E : Prop}
    (hg : o.guard = none) (s x : Operand) (hop : o.op = Op.call { callee := Callee.builtin Builtin.append, args := #[s, x], argTypes := #[59, 59] })
    (base : Nat) (v : Value) (xs l : List Int) (hs : a.eval s = v) (hown : IntsOwn w base v xs) (u : Value) (hx : a.eval x = u) (hu : IntsAt w u l) (h0 : 0 < l.length)
    (hb : xs.length + l.length ≤ 10000000) (hbase : base ≤ w.heap.size)
    (hK : ∀ v' w', IntsOwn w' base v' (xs ++ l) → w.grownBy w' v.ownBlock → (v'.ownBlock = v.ownBlock ∨ v'.ownBlock = some w.heap.size) → K (a.put o.dst v') w') :
    if Region.wanted o (yielded ops a.tmps) = true then Oper.wp Tryz.prog o a w K Q else E := by
  have hw : Region.wanted o (yielded ops a.tmps) = true := by simp [Region.wanted, hg]
  rw [if_pos hw]
  obtain ⟨v', w', hr, h1, h2, h3⟩ := run_appendI2 w base v xs hown u l hu h0 hb hbase o.type
  unfold Oper.wp
  simp [execOp, hop, resolve, invoke, builtin, hs, hx, hr, Result.andThen]
  exact hK v' w' h1 h2 h3

/-- the names of those right above -/
def Cls.ups (c : Cls) : List ByteArray := (if c.sup.toList.isEmpty then [] else [c.sup]) ++ c.faces

def rightZ (cs : List Cls) (c : Cls) : List Int := c.ups.map (findZ cs)

theorem StrsAt.cell {w : World} {ao : Option Addr} {n cap : Nat} {l : List ByteArray} (h : StrsAt w (.slice ao n cap) l) {k : Nat} {x : ByteArray} (hk : l[k]? = some x) :
    n = l.length ∧ ∃ b off, ao = some ⟨b, off, none⟩ ∧ w.cell? ⟨b, off + k, none⟩ = some (.string x) := by
  obtain ⟨ao', cap', e, h1, h2, h3⟩ := h
  cases e
  obtain ⟨b, off, rfl, h4⟩ := h3 (by have := (List.getElem?_eq_some_iff.1 hk).1; omega)
  exact ⟨rfl, b, off, rfl, h4 k x hk⟩

set_option maxHeartbeats 8000000 in
theorem rright {w : World} {pv : Value} {cs : List Cls} (h : ProgAt w pv cs) {i : Nat} {c : Cls} (hi : cs[i]? = some c) (hl : c.faces.length ≤ 1000) :
    Calls Tryz.prog 102 #[pv, .int .i64 i] w fun e w' => ∃ u, e = .returned u ∧ IntsOwn w' w.heap.size u (rightZ cs c) ∧ Ch No w w' := by
  have hp := h
  obtain ⟨cv, m0, m1, m2, m3, m4, m5, m6, m7, m8, rfl, h⟩ := h
  obtain ⟨b, off, cap, rfl, hcell, h1, h2⟩ := h.cell hi
  have hil := (List.getElem?_eq_some_iff.1 hi).1
  have hst := h.faces c (List.mem_of_getElem? hi)
  unfold maxLen at h2
  obtain ⟨len, hlen⟩ : ∃ len, cs.length = len := ⟨_, rfl⟩
  rw [hlen] at h1 hp hil ⊢
  obtain ⟨wa, hwa⟩ : ∃ wa, w.alloc (.cells #[.slice (some ⟨b, off, none⟩) len cap, m0, m1, m2, m3, m4, m5, m6, m7, m8] 31) = wa := ⟨_, rfl⟩
  have hpb := heap_alloc_new w (.cells #[.slice (some ⟨b, off, none⟩) len cap, m0, m1, m2, m3, m4, m5, m6, m7, m8] 31)
  have hch := (Ch.refl No w).alloc (.cells #[.slice (some ⟨b, off, none⟩) len cap, m0, m1, m2, m3, m4, m5, m6, m7, m8] 31)
  rw [hwa] at hch hpb
  obtain ⟨q0, q1, q2, q3, q4, q5, q6, q7, q8, q9⟩ := hcell
  have r0 := cell_ch q0 hch (fun _ _ h => h)
  have r1 := cell_ch q1 hch (fun _ _ h => h)
  have r2 := cell_ch q2 hch (fun _ _ h => h)
  have r3 := cell_ch q3 hch (fun _ _ h => h)
  have r4 := cell_ch q4 hch (fun _ _ h => h)
  have r5 := cell_ch q5 hch (fun _ _ h => h)
  have r6 := cell_ch q6 hch (fun _ _ h => h)
  have r7 := cell_ch q7 hch (fun _ _ h => h)
  have r8 := cell_ch q8 hch (fun _ _ h => h)
  have r9 := cell_ch q9 hch (fun _ _ h => h)
  obtain ⟨wb, hwb⟩ : ∃ wb, wa.alloc (.cells #[.string c.name, .string c.sup, .bool c.face, .slice c.fa c.faces.length c.fc, .slice c.s4.1 c.s4.2.1 c.s4.2.2, .slice c.s5.1 c.s5.2.1 c.s5.2.2, .slice c.s6.1 c.s6.2.1 c.s6.2.2, .pointer c.p7, .int .i64 c.line, .int .i64 c.col] 50) = wb := ⟨_, rfl⟩
  have hcb := heap_alloc_new wa (.cells #[.string c.name, .string c.sup, .bool c.face, .slice c.fa c.faces.length c.fc, .slice c.s4.1 c.s4.2.1 c.s4.2.2, .slice c.s5.1 c.s5.2.1 c.s5.2.2, .slice c.s6.1 c.s6.2.1 c.s6.2.2, .pointer c.p7, .int .i64 c.line, .int .i64 c.col] 50)
  have hchb := (Ch.refl No wa).alloc (.cells #[.string c.name, .string c.sup, .bool c.face, .slice c.fa c.faces.length c.fc, .slice c.s4.1 c.s4.2.1 c.s4.2.2, .slice c.s5.1 c.s5.2.1 c.s5.2.2, .slice c.s6.1 c.s6.2.1 c.s6.2.2, .pointer c.p7, .int .i64 c.line, .int .i64 c.col] 50)
  rw [hwb] at hchb hcb
  have hpb2 := hchb.keep _ _ hpb (fun h => h)
  have hch2 := hch.trans hchb
  have hwl := lt_size hpb
  have hfl : c.faces.length ≤ 9223372036854775807 := by omega
  have c0 := cellAt hpb 0
  have d0 := cellAt hcb 0
  have d1 := cellAt hcb 1
  have d2 := cellAt hcb 2
  have d3 := cellAt hcb 3
  have p0 := cellAt hpb2 0
  have p1 := cellAt hpb2 1
  have p2 := cellAt hpb2 2
  have p3 := cellAt hpb2 3
  have p4 := cellAt hpb2 4
  have p5 := cellAt hpb2 5
  have p6 := cellAt hpb2 6
  have p7 := cellAt hpb2 7
  have p8 := cellAt hpb2 8
  have p9 := cellAt hpb2 9
  have HPB := hid hpb2
  have HCB := hid hcb
  have HP := hid (hp.no hch2)
  have HST := hid (hst.no hch2)
  have z1 := hch.size
  have z2 := hchb.size
  clear q0 q1 q2 q3 q4 q5 q6 q7 q8 q9 hlen h hpb hcb hpb2 hst hp
  go_enter Tryz.func102, Tryz.ntmps102
  cases hs : c.sup.toList.isEmpty with
  | true =>
    go_wp2_with fail
    clear hwa hwb
    go_loopg [5, 7] c.faces.length (fun g s5 s7 wr => ∃ k : Nat, k ≤ c.faces.length ∧ c.faces.length - k ≤ g ∧ s7 = .int .i64 k ∧ IntsOwn wr wb.heap.size s5 (([] : List Int) ++ (c.faces.take k).map (findZ cs)) ∧ Ch No wb wr ∧ wb.heap.size ≤ wr.heap.size)
    case atStart => exact ⟨0, Nat.zero_le _, by omega, rfl, IntsOwn.nil _ _, Ch.refl _ _, Nat.le_refl _⟩
    case round =>
      obtain ⟨k, hk, hg, rfl, hown, hc5, hz5⟩ := hrel
      have HPB5 := hid (hc5.keep _ _ HPB.out (fun h => h))
      have HCB5 := hid (hc5.keep _ _ HCB.out (fun h => h))
      have d3 := cellAt HCB5.out 3
      cases hd : decide (k < c.faces.length) with
      | false =>
        go_wp2_with fail
        go_ret
        have hkl : ¬ k < c.faces.length := by simpa using hd
        rw [List.take_of_length_le (by omega)] at hown
        have hown := hown.base hch2.size
        refine ⟨_, rfl, ?_, hch2.trans hc5⟩
        unfold rightZ Cls.ups
        rw [hs]
        simpa using hown
      | true =>
        have hkl : k < c.faces.length := by simpa using hd
        obtain ⟨x, hx⟩ : ∃ x, c.faces[k]? = some x := ⟨_, List.getElem?_eq_getElem hkl⟩
        obtain ⟨_, fb, fo, hfa, hq0⟩ := (HST.out.no hc5).cell hx
        have HX := hid hx
        have HFA := hid hfa
        rw [hfa] at d3
        have hq : wr.cell? ⟨fb, fo + k, none⟩ = some (.string x) := hq0
        have p0 := cellAt HPB5.out 0
        have p1 := cellAt HPB5.out 1
        have p2 := cellAt HPB5.out 2
        have p3 := cellAt HPB5.out 3
        have p4 := cellAt HPB5.out 4
        have p5 := cellAt HPB5.out 5
        have p6 := cellAt HPB5.out 6
        have p7 := cellAt HPB5.out 7
        have p8 := cellAt HPB5.out 8
        have p9 := cellAt HPB5.out 9
        have hfind := rfind (HP.out.no hc5) x
        have hfl2 : (([] : List Int) ++ (c.faces.take k).map (findZ cs)).length ≤ 1001 := by
          simp only [List.length_append, List.length_map, List.length_take, List.length_nil, List.length_singleton]; omega
        have hb1 : (([] : List Int) ++ (c.faces.take k).map (findZ cs)).length + [findZ cs x].length ≤ 10000000 := by simp only [List.length_singleton]; omega
        clear hx hfa hq0
        go_wp2_with fail
        go_region_law (first | (refine step_appendI2 rfl _ _ rfl wb.heap.size _ _ [findZ cs x] rfl (hown8.alloc _) (.slice (some ⟨w8.heap.size, 0, none⟩) 1 1) rfl (one_at w8 _) Nat.zero_lt_one hb1 (Nat.le_trans hz8 ((Ch.refl No w8).alloc _).size) ?_; intro v1 w1 hown1 hgrow1 hblk1) | (go_simp; go_at_call 92; refine (rfind (HP.out.no (hc5.drew)) x).mono ?_; rintro e w8 ⟨rfl, hc8'⟩; have hc8 : Ch No wr w8 := ((Ch.refl No wr).drew).trans hc8'; have hown8 := hown.no hc8; have hz8 : wb.heap.size ≤ w8.heap.size := Nat.le_trans hz5 hc8.size))
        all_goals (
          go_wp2_with fail
          go_roundg (c.faces.length - k - 1)
          case rel =>
            have hg1 : Ch No wb w1 := (hc5.trans hc8).trans' (grown_ch hgrow1) (fun j o ho h => by
              have := (hown.lt j h).1
              have := lt_size ho
              omega)
            refine ⟨k + 1, by omega, by omega, by go_num, ?_, hg1, hg1.size⟩
            rw [List.take_add_one, HX.out]
            simpa using hown1
          case measure => omega)
  | false =>
    have hf0 := rfind HP.out c.sup
    have hb0 : ([] : List Int).length + [findZ cs c.sup].length ≤ 10000000 := by simp
    go_wp2_with fail
    refine hf0.mono ?_
    rintro e w3 ⟨rfl, hc3⟩
    have hd3 := (Ch.refl No w3).alloc (.cells #[.int .i64 (findZ cs c.sup)] 3)
    have hz3 : wb.heap.size ≤ (w3.alloc (.cells #[.int .i64 (findZ cs c.sup)] 3)).heap.size := Nat.le_trans hc3.size hd3.size
    clear hwa hwb hf0
    go_wp2_with (at_builtin; go_must (refine wpAppendI2 rfl _ _ rfl wb.heap.size _ [] [findZ cs c.sup] rfl (IntsOwn.nil _ _) (.slice (some ⟨w3.heap.size, 0, none⟩) 1 1) rfl (one_at w3 _) Nat.zero_lt_one hb0 hz3 ?_))
    intro v4 w4 hown4 hgrow4 _
    have hc4 : Ch No wb w4 := hc3.trans' (grown_ch hgrow4) (fun _ _ _ h => by cases h)
    go_wp2_with fail
    go_loopg [5, 7] c.faces.length (fun g s5 s7 wr => ∃ k : Nat, k ≤ c.faces.length ∧ c.faces.length - k ≤ g ∧ s7 = .int .i64 k ∧ IntsOwn wr wb.heap.size s5 ([findZ cs c.sup] ++ (c.faces.take k).map (findZ cs)) ∧ Ch No wb wr ∧ wb.heap.size ≤ wr.heap.size)
    case atStart => exact ⟨0, Nat.zero_le _, by omega, rfl, by simpa using hown4, hc4, hc4.size⟩
    case round =>
      obtain ⟨k, hk, hg, rfl, hown, hc5, hz5⟩ := hrel
      have HPB5 := hid (hc5.keep _ _ HPB.out (fun h => h))
      have HCB5 := hid (hc5.keep _ _ HCB.out (fun h => h))
      have d3 := cellAt HCB5.out 3
      cases hd : decide (k < c.faces.length) with
      | false =>
        go_wp2_with fail
        go_ret
        have hkl : ¬ k < c.faces.length := by simpa using hd
        rw [List.take_of_length_le (by omega)] at hown
        have hown := hown.base hch2.size
        refine ⟨_, rfl, ?_, hch2.trans hc5⟩
        unfold rightZ Cls.ups
        rw [hs]
        simpa using hown
      | true =>
        have hkl : k < c.faces.length := by simpa using hd
        obtain ⟨x, hx⟩ : ∃ x, c.faces[k]? = some x := ⟨_, List.getElem?_eq_getElem hkl⟩
        obtain ⟨_, fb, fo, hfa, hq0⟩ := (HST.out.no hc5).cell hx
        have HX := hid hx
        have HFA := hid hfa
        rw [hfa] at d3
        have hq : wr.cell? ⟨fb, fo + k, none⟩ = some (.string x) := hq0
        have p0 := cellAt HPB5.out 0
        have p1 := cellAt HPB5.out 1
        have p2 := cellAt HPB5.out 2
        have p3 := cellAt HPB5.out 3
        have p4 := cellAt HPB5.out 4
        have p5 := cellAt HPB5.out 5
        have p6 := cellAt HPB5.out 6
        have p7 := cellAt HPB5.out 7
        have p8 := cellAt HPB5.out 8
        have p9 := cellAt HPB5.out 9
        have hfind := rfind (HP.out.no hc5) x
        have hfl2 : ([findZ cs c.sup] ++ (c.faces.take k).map (findZ cs)).length ≤ 1001 := by
          simp only [List.length_append, List.length_map, List.length_take, List.length_nil, List.length_singleton]; omega
        have hb1 : ([findZ cs c.sup] ++ (c.faces.take k).map (findZ cs)).length + [findZ cs x].length ≤ 10000000 := by simp only [List.length_singleton]; omega
        clear hx hfa hq0
        go_wp2_with fail
        go_region_law (first | (refine step_appendI2 rfl _ _ rfl wb.heap.size _ _ [findZ cs x] rfl (hown8.alloc _) (.slice (some ⟨w8.heap.size, 0, none⟩) 1 1) rfl (one_at w8 _) Nat.zero_lt_one hb1 (Nat.le_trans hz8 ((Ch.refl No w8).alloc _).size) ?_; intro v1 w1 hown1 hgrow1 hblk1) | (go_simp; go_at_call 92; refine (rfind (HP.out.no (hc5.drew)) x).mono ?_; rintro e w8 ⟨rfl, hc8'⟩; have hc8 : Ch No wr w8 := ((Ch.refl No wr).drew).trans hc8'; have hown8 := hown.no hc8; have hz8 : wb.heap.size ≤ w8.heap.size := Nat.le_trans hz5 hc8.size))
        all_goals (
          go_wp2_with fail
          go_roundg (c.faces.length - k - 1)
          case rel =>
            have hg1 : Ch No wb w1 := (hc5.trans hc8).trans' (grown_ch hgrow1) (fun j o ho h => by
              have := (hown.lt j h).1
              have := lt_size ho
              omega)
            refine ⟨k + 1, by omega, by omega, by go_num, ?_, hg1, hg1.size⟩
            rw [List.take_add_one, HX.out]
            simpa using hown1
          case measure => omega)
end Go.Proofs.YtgjpgfedlgdjhaaGreatDoor
end
section
/- Small and sound of the reference 08. -/
set_option linter.unusedVariables false
set_option linter.unusedSimpArgs false
namespace Go.Proofs.YtgjpgfedlgdjhaaGreatDoor
open Go.RowKit Go.W

/-- the call answers whether P -/
def BoolIs (P : Prop) (e : Ending) : Prop := ∃ r : Bool, e = .returned (.bool r) ∧ (r = true ↔ P)
theorem BoolIs.t {P : Prop} (h : P) : BoolIs P (.returned (.bool true)) := ⟨true, rfl, fun _ => h, fun _ => rfl⟩
theorem BoolIs.f {P : Prop} (h : ¬ P) : BoolIs P (.returned (.bool false)) := ⟨false, rfl, (fun h => by cases h), fun h' => absurd h' h⟩

/-- there isn't too much -/
def SmallP (cs : List Cls) : Prop := cs.length ≤ 20 ∧ ∀ c ∈ cs, c.faces.length ≤ 10

set_option maxHeartbeats 4000000 in
theorem rsmall {w : World} {pv : Value} {cs : List Cls} (h : ProgAt w pv cs) :
    Calls Tryz.prog 35 #[pv] w fun e w' => BoolIs (SmallP cs) e ∧ Ch No w w' := by
  obtain ⟨cv, m0, m1, m2, m3, m4, m5, m6, m7, m8, rfl, h⟩ := h
  have hch := (Ch.refl No w).alloc (.cells #[cv, m0, m1, m2, m3, m4, m5, m6, m7, m8] 31)
  have h' := h.no hch
  obtain ⟨ao, cap, rfl, hcap, hmax, _, _⟩ := h.row
  rw [List.length_map] at hcap h' ⊢
  obtain ⟨len, hlen⟩ : ∃ len, cs.length = len := ⟨_, rfl⟩
  rw [hlen] at hcap h' ⊢
  unfold maxLen at hmax
  have HL := hid hlen
  have HC := hid h'
  obtain ⟨wa, hwa⟩ : ∃ wa, w.alloc (.cells #[.slice ao len cap, m0, m1, m2, m3, m4, m5, m6, m7, m8] 31) = wa := ⟨_, rfl⟩
  have c0 := cellAt (heap_alloc_new w (.cells #[.slice ao len cap, m0, m1, m2, m3, m4, m5, m6, m7, m8] 31)) 0
  rw [List.length_map, hlen] at hch
  rw [hwa] at hch HC c0
  have HCH := hid hch
  clear hlen h h' hch
  cases e1 : decide ((len : Int) > 20) with
  | true =>
    go_enter Tryz.func35, Tryz.ntmps35
    go_wp2_with fail
    go_ret
    refine ⟨BoolIs.f fun h => ?_, HCH.out⟩
    have := h.1
    have := HL.out
    have : (len : Int) > 20 := by simpa using e1
    omega
  | false =>
  go_enter Tryz.func35, Tryz.ntmps35
  go_wp2_with fail
  clear hwa
  go_loop [3] (fun s3 => ∃ k : Nat, k ≤ len ∧ s3 = .int .i64 k ∧ Hid (∀ x ∈ cs.take k, x.faces.length ≤ 10)) (fun s3 => len - (intOf s3).toNat)
  case atStart => exact ⟨0, Nat.zero_le _, rfl, hid (by simp)⟩
  case round =>
    obtain ⟨k, hk, rfl, HN⟩ := hrel
    cases hd : decide (k < len) with
    | true =>
      have hkl : k < len := by simpa using hd
      obtain ⟨c, hc⟩ : ∃ c, cs[k]? = some c := ⟨_, List.getElem?_eq_getElem (by have := HL.out; omega)⟩
      obtain ⟨b, off, cap', e, hcell, _, _⟩ := HC.out.cell hc
      rw [HL.out] at e
      cases e
      have q3 := hcell.q3
      have HX := hid hc
      clear hc hcell
      cases e0 : decide ((c.faces.length : Int) > 10) with
      | true =>
        go_wp2_with fail
        go_ret
        refine ⟨BoolIs.f fun h => ?_, HCH.out⟩
        have := h.2 c (List.mem_of_getElem? HX.out)
        have : (c.faces.length : Int) > 10 := by simpa using e0
        omega
      | false =>
        go_wp2_with fail
        go_round
        case rel =>
          refine ⟨k + 1, by omega, by go_num, hid fun x hx => ?_⟩
          rw [List.take_add_one, HX.out] at hx
          rcases List.mem_append.1 hx with hx | hx
          · exact HN.out x hx
          · simp at hx; subst hx
            have : ¬ (x.faces.length : Int) > 10 := by simpa using e0
            omega
        case measure => simp [intOf]; omega
    | false =>
      go_wp2_with fail
      go_ret
      have hkl : ¬ k < len := by simpa using hd
      have := HN.out
      rw [List.take_of_length_le (by have := HL.out; omega)] at this
      refine ⟨BoolIs.t ⟨?_, this⟩, HCH.out⟩
      have : ¬ (len : Int) > 20 := by simpa using e1
      have := HL.out
      omega
end Go.Proofs.YtgjpgfedlgdjhaaGreatDoor
end
