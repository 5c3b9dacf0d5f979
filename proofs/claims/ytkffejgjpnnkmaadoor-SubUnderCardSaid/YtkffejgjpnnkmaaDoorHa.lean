/- Programs' classes in memory; Find of the reference 08. -/
import Derived.Test.YtkffejgjpnnkmaaDoorSx
set_option linter.unusedVariables false
set_option linter.unusedSimpArgs false
namespace Go.Proofs.YtkffejgjpnnkmaaDoor
open Go.RowKit Go.W

theorem loop_eq (bs : ByteArray) : ∀ (n i : Nat) (r : List UInt8), i + n = bs.size → ByteArray.toList.loop bs i r = r.reverse ++ bs.data.toList.drop i
  | 0, i, r, h => by
    unfold ByteArray.toList.loop
    rw [if_neg (by omega)]
    have : bs.data.toList.drop i = [] := List.drop_of_length_le (by show bs.data.size ≤ i; have : bs.size = bs.data.size := rfl; omega)
    rw [this]; simp
  | n + 1, i, r, h => by
    unfold ByteArray.toList.loop
    rw [if_pos (by omega), loop_eq bs n (i + 1) _ (by omega)]
    have hi : i < bs.data.size := by have : bs.size = bs.data.size := rfl; omega
    have e : bs.get! i = bs.data[i] := by
      show bs.data[i]! = _
      rw [getElem!_pos bs.data i hi]
    rw [e, List.reverse_cons, List.append_assoc, List.singleton_append]
    congr 1
    rw [List.drop_eq_getElem_cons (i := i) (by simpa using hi), Array.getElem_toList]
theorem toList_eq (bs : ByteArray) : bs.toList = bs.data.toList := by
  unfold ByteArray.toList
  rw [loop_eq bs bs.size 0 [] (by omega)]
  simp
theorem streq (a b : ByteArray) : (a.toList == b.toList) = decide (a = b) := by
  rw [toList_eq, toList_eq]
  by_cases h : a = b
  · subst h; simp
  · have : a.data.toList ≠ b.data.toList := fun e => h (by cases a; cases b; simp_all [Array.ext_iff])
    rw [decide_eq_false h]
    simpa using this

/-- v is a slice of the texts l -/
def StrsAt (w : World) (v : Value) (l : List ByteArray) : Prop :=
  ∃ ao cap, v = .slice ao l.length cap ∧ l.length ≤ cap ∧ cap ≤ maxLen ∧
    (0 < l.length → ∃ b off, ao = some ⟨b, off, none⟩ ∧ ∀ (i : Nat) (x : ByteArray), l[i]? = some x → w.cell? ⟨b, off + i, none⟩ = some (.string x))

theorem StrsAt.no {w w' : World} {v : Value} {l : List ByteArray} (h : StrsAt w v l) (hc : Ch No w w') : StrsAt w' v l := by
  obtain ⟨ao, cap, rfl, h2, h3, h4⟩ := h
  refine ⟨ao, cap, rfl, h2, h3, fun h0 => ?_⟩
  obtain ⟨b, off, rfl, h5⟩ := h4 h0
  exact ⟨b, off, rfl, fun i x hx => cell_ch (h5 i x hx) hc (fun _ _ h => h)⟩

/-- a class: what layer 8 reads of it, and the rest -/
structure Cls where
  name : ByteArray
  sup : ByteArray
  face : Bool
  faces : List ByteArray
  fa : Option Addr
  fc : Nat
  s4 : Option Addr × Nat × Nat
  s5 : Option Addr × Nat × Nat
  s6 : Option Addr × Nat × Nat
  p7 : Option Addr
  line : Int
  col : Int

def Cls.cells (c : Cls) : List Value := [.string c.name, .string c.sup, .bool c.face, .slice c.fa c.faces.length c.fc, .slice c.s4.1 c.s4.2.1 c.s4.2.2, .slice c.s5.1 c.s5.2.1 c.s5.2.2, .slice c.s6.1 c.s6.2.1 c.s6.2.2, .pointer c.p7, .int .i64 c.line, .int .i64 c.col]

/-- cv is a slice of the classes cs -/
structure ClssAt (w : World) (cv : Value) (cs : List Cls) : Prop where
  row : RowAt w cv 10 (cs.map Cls.cells)
  faces : ∀ c ∈ cs, StrsAt w (.slice c.fa c.faces.length c.fc) c.faces

theorem ClssAt.no {w w' : World} {cv : Value} {cs : List Cls} (h : ClssAt w cv cs) (hc : Ch No w w') : ClssAt w' cv cs := ⟨h.row.no hc, fun c hm => (h.faces c hm).no hc⟩

/-- pv is a program of the classes cs -/
def ProgAt (w : World) (pv : Value) (cs : List Cls) : Prop :=
  ∃ cv m0 m1 m2 m3 m4 m5 m6 m7 m8, pv = .agg #[cv, m0, m1, m2, m3, m4, m5, m6, m7, m8] ∧ ClssAt w cv cs

theorem ProgAt.no {w w' : World} {pv : Value} {cs : List Cls} (h : ProgAt w pv cs) (hc : Ch No w w') : ProgAt w' pv cs := by
  obtain ⟨cv, m0, m1, m2, m3, m4, m5, m6, m7, m8, rfl, h⟩ := h
  exact ⟨cv, m0, m1, m2, m3, m4, m5, m6, m7, m8, rfl, h.no hc⟩

/-- the number of the first class of a name -/
def find (cs : List Cls) (nm : ByteArray) : Option Nat := cs.findIdx? (fun c => decide (c.name = nm))
/-- .. as the reference tells it -/
def findZ (cs : List Cls) (nm : ByteArray) : Int := match find cs nm with | some i => (i : Int) | none => -1

/-- the cells of class k, which begin at the place a of block b -/
structure ClsCells (w : World) (b a : Nat) (c : Cls) : Prop where
  q0 : w.cell? ⟨b, a, none⟩ = some (.string c.name)
  q1 : w.cell? ⟨b, a + 1, none⟩ = some (.string c.sup)
  q2 : w.cell? ⟨b, a + 2, none⟩ = some (.bool c.face)
  q3 : w.cell? ⟨b, a + 3, none⟩ = some (.slice c.fa c.faces.length c.fc)
  q4 : w.cell? ⟨b, a + 4, none⟩ = some (.slice c.s4.1 c.s4.2.1 c.s4.2.2)
  q5 : w.cell? ⟨b, a + 5, none⟩ = some (.slice c.s5.1 c.s5.2.1 c.s5.2.2)
  q6 : w.cell? ⟨b, a + 6, none⟩ = some (.slice c.s6.1 c.s6.2.1 c.s6.2.2)
  q7 : w.cell? ⟨b, a + 7, none⟩ = some (.pointer c.p7)
  q8 : w.cell? ⟨b, a + 8, none⟩ = some (.int .i64 c.line)
  q9 : w.cell? ⟨b, a + 9, none⟩ = some (.int .i64 c.col)

theorem ClssAt.cell {w : World} {cv : Value} {cs : List Cls} (h : ClssAt w cv cs) {k : Nat} {c : Cls} (hk : cs[k]? = some c) :
    ∃ b off cap, cv = .slice (some ⟨b, off, none⟩) cs.length cap ∧ ClsCells w b (off + k * 10) c ∧ cs.length ≤ cap ∧ cap ≤ maxLen := by
  obtain ⟨ao, cap, e, h1, h2, h3, h4⟩ := h.row
  have hl : k < cs.length := (List.getElem?_eq_some_iff.1 hk).1
  obtain ⟨b, off, rfl, h5⟩ := h4 (by rw [List.length_map]; omega)
  have h6 := fun j hj => h5 k c.cells (by rw [List.getElem?_map, hk]; rfl) j hj
  exact ⟨b, off, cap, by rw [e, List.length_map], ⟨h6 0 (by omega), h6 1 (by omega), h6 2 (by omega), h6 3 (by omega), h6 4 (by omega), h6 5 (by omega), h6 6 (by omega), h6 7 (by omega), h6 8 (by omega), h6 9 (by omega)⟩, by rw [List.length_map] at h1; exact h1, h2⟩

theorem find_take {cs : List Cls} {nm : ByteArray} {k : Nat} {c : Cls} (hk : cs[k]? = some c) (hno : ∀ x ∈ cs.take k, x.name ≠ nm) (hc : c.name = nm) : find cs nm = some k := by
  unfold find
  rw [List.findIdx?_eq_some_iff_getElem]
  obtain ⟨hl, e⟩ := List.getElem?_eq_some_iff.1 hk
  refine ⟨hl, by rw [e]; simpa using hc, fun j hj => ?_⟩
  have : cs[j] ∈ cs.take k := List.mem_take_iff_getElem.2 ⟨j, by omega, rfl⟩
  simpa using hno _ this

theorem find_none {cs : List Cls} {nm : ByteArray} (hno : ∀ x ∈ cs, x.name ≠ nm) : find cs nm = none := by
  unfold find
  rw [List.findIdx?_eq_none_iff]
  intro x hx
  simpa using hno x hx

theorem find_some {cs : List Cls} {nm : ByteArray} {k : Nat} (h : find cs nm = some k) : ∃ c, cs[k]? = some c ∧ c.name = nm ∧ ∀ x ∈ cs.take k, x.name ≠ nm := by
  unfold find at h
  rw [List.findIdx?_eq_some_iff_getElem] at h
  obtain ⟨hl, h1, h2⟩ := h
  refine ⟨cs[k], List.getElem?_eq_getElem hl, by simpa using h1, fun x hx => ?_⟩
  obtain ⟨j, hj, rfl⟩ := List.mem_take_iff_getElem.1 hx
  have := h2 j (by omega)
  simpa using this

set_option maxHeartbeats 2000000 in
theorem rfind {w : World} {pv : Value} {cs : List Cls} (h : ProgAt w pv cs) (nm : ByteArray) :
    Calls Tryd.prog 23 #[pv, .string nm] w fun e w' => e = .returned (.int .i64 (findZ cs nm)) ∧ Ch No w w' := by
  obtain ⟨cv, m0, m1, m2, m3, m4, m5, m6, m7, m8, rfl, h⟩ := h
  have hch := (Ch.refl No w).alloc (.cells #[cv, m0, m1, m2, m3, m4, m5, m6, m7, m8] 30)
  have h' := h.no hch
  obtain ⟨ao, cap, rfl, hcap, hmax, _, _⟩ := h.row
  rw [List.length_map] at hcap h' ⊢
  obtain ⟨len, hlen⟩ : ∃ len, cs.length = len := ⟨_, rfl⟩
  rw [hlen] at hcap h' ⊢
  unfold maxLen at hmax
  have HL := hid hlen
  have HC := hid h'
  obtain ⟨wa, hwa⟩ : ∃ wa, w.alloc (.cells #[.slice ao len cap, m0, m1, m2, m3, m4, m5, m6, m7, m8] 30) = wa := ⟨_, rfl⟩
  have c0 := cellAt (heap_alloc_new w (.cells #[.slice ao len cap, m0, m1, m2, m3, m4, m5, m6, m7, m8] 30)) 0
  rw [List.length_map, hlen] at hch
  rw [hwa] at hch HC c0
  have HCH := hid hch
  clear hlen h h' hch
  go_enter Tryd.func23, Tryd.ntmps23
  go_wp2_with fail
  clear hwa
  go_loop [5] (fun s5 => ∃ k : Nat, k ≤ len ∧ s5 = .int .i64 k ∧ Hid (∀ x ∈ cs.take k, x.name ≠ nm)) (fun s5 => len - (intOf s5).toNat)
  case atStart => exact ⟨0, Nat.zero_le _, rfl, hid (by simp)⟩
  case round =>
    obtain ⟨k, hk, rfl, HN⟩ := hrel
    cases hd : decide (k < len) with
    | true =>
      have hkl : k < len := by simpa using hd
      obtain ⟨c, hc⟩ : ∃ c, cs[k]? = some c := ⟨_, List.getElem?_eq_getElem (by have := HL.out; omega)⟩
      obtain ⟨b, off, cap', e, hcell, _, _⟩ := HC.out.cell hc
      rw [HL.out] at e
      cases e
      have q0 := hcell.q0
      have HX := hid hc
      clear hc hcell
      cases e0 : (c.name.toList == nm.toList) with
      | true =>
        go_wp2_with fail
        go_ret
        have hcn : c.name = nm := by rw [streq] at e0; simpa using e0
        refine ⟨ret_int ?_, HCH.out⟩
        unfold findZ
        rw [find_take HX.out HN.out hcn]
      | false =>
        go_wp2_with fail
        go_round
        case rel =>
          have hcn : c.name ≠ nm := by rw [streq] at e0; simpa using e0
          refine ⟨k + 1, by omega, by go_num, hid fun x hx => ?_⟩
          rw [List.take_add_one, HX.out] at hx
          rcases List.mem_append.1 hx with hx | hx
          · exact HN.out x hx
          · simp at hx; subst hx; exact hcn
        case measure => simp [intOf]; omega
    | false =>
      go_wp2_with fail
      go_ret
      have hkl : ¬ k < len := by simpa using hd
      have := HN.out
      rw [List.take_of_length_le (by have := HL.out; omega)] at this
      refine ⟨ret_int ?_, HCH.out⟩
      unfold findZ
      rw [find_none this]
end Go.Proofs.YtkffejgjpnnkmaaDoor
