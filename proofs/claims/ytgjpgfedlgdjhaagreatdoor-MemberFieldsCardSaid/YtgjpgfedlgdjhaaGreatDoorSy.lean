/- What the rows share: how arguments are opened; the table of the list. -/
import Derived.Test.YtgjpgfedlgdjhaaGreatDoorHu
import Derived.Test.YtgjpgfedlgdjhaaGreatDoorLaw
import Derived.Test.YtgjpgfedlgdjhaaGreatDoorCards
import Derived.Test.YtgjpgfedlgdjhaaGreatDoorTie
import Derived.Deep.DeepHandedRow
import Derived.Lib.LaidTab
set_option linter.unusedVariables false
set_option linter.unusedSimpArgs false
set_option linter.constructorNameAsVariable false
set_option maxRecDepth 100000
namespace Go.Proofs.YtgjpgfedlgdjhaaGreatDoor
open Go.ChangeShapes Go.WideShapes Go.ChangeAt Go.RowKit Go.W Go.Joins

theorem i_own : ownKnob Tryz.prog.godebug = none := by kernel_rfl
theorem i_laidOut : laidOutB Tryz.prog = true := by kernel_rfl
theorem i_gTab : Tryz.prog.globalNamed "math/bits.deBruijn64tab" = some 0 := by kernel_rfl
theorem i_gTabType : (Tryz.prog.globals[0]?).map (·.type) = some 216 := by kernel_rfl
theorem i_cellsTab : Tryz.prog.cellsOf 216 = 64 := by kernel_rfl
theorem i_cellsU8 : Tryz.prog.cellsOf 5 = 1 := by kernel_rfl
theorem i_cellsInt : Tryz.prog.cellsOf 3 = 1 := by kernel_rfl
theorem i_underTab : Tryz.prog.underlying 216 = some (.array 64 5) := by kernel_rfl
theorem i_underU8 : Tryz.prog.underlying 5 = some (.int .u8) := by kernel_rfl
theorem i_underInt : Tryz.prog.underlying 3 = some (.int .i64) := by kernel_rfl
theorem i_underInts : Tryz.prog.underlying 59 = some (.slice 3) := by kernel_rfl
theorem i_underBool : Tryz.prog.underlying 4 = some .bool := by kernel_rfl

theorem tabLaid {W : World} {H : Type} {enc : TypeId × Value → H} (h : laidMetH Tryz.prog [("math/bits.deBruijn64tab", Rows.laid_math_bits_deBruijn64tab)] W) : Tab W := by
  have ht : Go.Lib.TabIs Tryz.prog W "math/bits.deBruijn64tab" .u8 (Go.Lib.deBruijn64tab.map (fun (n : Nat) => (n : Int))) :=
    Go.Lib.tabIs_of_head (rest := []) i_gTab i_gTabType i_underTab i_underU8 i_cellsU8 i_cellsTab h
  intro j hj
  have := ht.cell i_gTab j (by simpa using hj)
  rw [this]
  rw [List.getD_eq_getElem?_getD, List.getElem?_map, List.getD_eq_getElem?_getD]
  rw [List.getElem?_eq_getElem hj]
  rfl

theorem open_ints {H : Type} {enc : TypeId × Value → H} {W : World} {base : Nat} {v : Value} {d : DataW H} {ps : List MemPlace} (hv : Value.okWide Tryz.prog W .any base 59 v) (h : DataW.Trod enc Tryz.prog W 0 (fun _ => true) true 59 v d ps) :
    ∃ l : List Int, IntsAt W v l := by
  obtain ⟨a0, len, cap, rfl⟩ := okWide_slice i_underInts hv
  obtain ⟨fuel, hf⟩ := h
  obtain ⟨v', css, e, hrow, hcs, _⟩ := open_row i_underInts i_cellsInt (by omega) hf
  obtain rfl : v' = .slice a0 len cap := by simpa [Value.cells] using e.symm
  obtain ⟨ao, cap', e2, h2, h3, h6, h7⟩ := hrow
  obtain ⟨l, rfl, _⟩ := exists_map (fun (x : Int) => [Value.int .i64 x]) (fun _ => True) css (fun c hc => by
    obtain ⟨m, y, hy⟩ := hcs c hc
    obtain ⟨a, e, _⟩ := DataW.trod_int i_underInt hy
    exact ⟨a, e, trivial⟩)
  cases e2
  rw [List.length_map] at *
  refine ⟨l, _, _, rfl, h2, h3, fun hn => ?_, fun h0 => ?_⟩
  · subst hn
    rcases DataW.trod_slice i_underInts hf with ⟨e, _⟩ | ⟨a, len, cap, _, _, _, _, e, _⟩
    · simp [Value.cells] at e
      exact e.2
    · simp [Value.cells] at e
  · obtain ⟨b, off, rfl, h8⟩ := h7 h0
    refine ⟨b, off, rfl, fun i x hx => ?_⟩
    have := h8 i [Value.int .i64 x] (by rw [List.getElem?_map, hx]; rfl) 0 (by omega)
    simpa using this

theorem i_underProg : ∃ f0 f1 : Field, Tryz.prog.underlying 31 = some (.struct #[f0, f1]) ∧ f0.type = 23 ∧ f0.offset = 0 := ⟨_, _, Tryz.underlying31, rfl, rfl⟩
theorem i_cellsProg : Tryz.prog.cellsOf 31 = 10 := by kernel_rfl
theorem i_cellsCls : Tryz.prog.cellsOf 50 = 10 := by kernel_rfl
theorem i_cellsStr : Tryz.prog.cellsOf 9 = 1 := by kernel_rfl
theorem i_underClss : Tryz.prog.underlying 23 = some (.slice 50) := by kernel_rfl
theorem i_underStrs : Tryz.prog.underlying 46 = some (.slice 9) := by kernel_rfl
theorem i_underStr : Tryz.prog.underlying 9 = some .string := by kernel_rfl

section
variable {H : Type} {enc : TypeId × Value → H} {W : World} {base : Nat} {spare : Nat → Bool} {held : Bool}

theorem at_one {cs : List Value} {n m : Nat} {v : Value} (h : (cs.drop n).take 1 = [v]) : cs[n]? = some v := by
  have := congrArg (fun l : List Value => l[0]?) h
  simpa using this
theorem sl_form {t e : TypeId} {fuel : Nat} {cs : List Value} {x : DataW H × List MemPlace} (ht : Tryz.prog.underlying t = some (.slice e)) (h : DataW.trod enc Tryz.prog W base spare held fuel t cs = some x) : ∃ ao n c, cs = [.slice ao n c] := by
  rcases DataW.trod_slice ht h with ⟨rfl, _⟩ | ⟨a, len, cap, _, _, _, _, rfl, _⟩
  · exact ⟨none, 0, 0, rfl⟩
  · exact ⟨some a, len, cap, rfl⟩
theorem pt_form {t e : TypeId} {fuel : Nat} {cs : List Value} {x : DataW H × List MemPlace} (ht : Tryz.prog.underlying t = some (.pointer e)) (h : DataW.trod enc Tryz.prog W base spare held fuel t cs = some x) : ∃ p, cs = [.pointer p] := by
  rcases DataW.trod_pointer ht h with ⟨rfl, _⟩ | ⟨a, _, _, _, _, rfl, _⟩
  · exact ⟨none, rfl⟩
  · exact ⟨some a, rfl⟩
/-- a slice of texts, opened -/
theorem open_strs {fuel : Nat} {cs : List Value} {x : DataW H × List MemPlace} (h : DataW.trod enc Tryz.prog W base spare held fuel 46 cs = some x) : ∃ ao n cap l, cs = [.slice ao n cap] ∧ n = l.length ∧ StrsAt W (.slice ao n cap) l ∧ ∀ s ∈ l, s.size ≤ maxLen := by
  obtain ⟨v, css, rfl, hrow, hcs, _⟩ := open_row i_underStrs i_cellsStr (by omega) h
  obtain ⟨ao, cap, rfl, h2, h3, h6, h7⟩ := hrow
  obtain ⟨l, rfl, hl⟩ := exists_map (fun (s : ByteArray) => [Value.string s]) (fun s => s.size ≤ maxLen) css (fun c hc => by
    obtain ⟨m, y, hy⟩ := hcs c hc
    obtain ⟨s, e, _, hs⟩ := DataW.trod_string i_underStr hy
    exact ⟨s, e, hs⟩)
  rw [List.length_map] at *
  refine ⟨ao, l.length, cap, l, rfl, rfl, ⟨ao, cap, rfl, h2, h3, fun h0 => ?_⟩, hl⟩
  obtain ⟨b, off, rfl, h8⟩ := h7 h0
  refine ⟨b, off, rfl, fun i x hx => ?_⟩
  have := h8 i [Value.string x] (by rw [List.getElem?_map, hx]; rfl) 0 (by omega)
  simpa using this

/-- a class, opened -/
theorem open_cls {fuel : Nat} {cs : List Value} {x : DataW H × List MemPlace} (hl : cs.length = 10) (h : DataW.trod enc Tryz.prog W base spare held fuel 50 cs = some x) :
    ∃ c : Cls, cs = c.cells ∧ StrsAt W (.slice c.fa c.faces.length c.fc) c.faces ∧ c.name.size ≤ maxLen ∧ c.sup.size ≤ maxLen ∧ ∀ f ∈ c.faces, f.size ≤ maxLen := by
  match cs, hl with
  | [x0, x1, x2, x3, x4, x5, x6, x7, x8, x9], _ =>
    obtain ⟨m, y0, y1, y2, y3, y4, y5, y6, y7, y8, h0, h1, h2, h3, h4, h5, h6, h7, h8⟩ := fields9 Tryz.underlying50 h
    obtain ⟨s0, e0, _, z0⟩ := DataW.trod_string i_underStr h0
    obtain ⟨s1, e1, _, z1⟩ := DataW.trod_string i_underStr h1
    obtain ⟨b2, e2, _⟩ := DataW.trod_bool i_underBool h2
    obtain ⟨a3, n3, c3, l3, e3, rfl, g3, z3⟩ := open_strs h3
    obtain ⟨a4, n4, c4, e4⟩ := sl_form Tryz.underlying24 h4
    obtain ⟨a5, n5, c5, e5⟩ := sl_form Tryz.underlying24 h5
    obtain ⟨a6, n6, c6, e6⟩ := sl_form Tryz.underlying47 h6
    obtain ⟨p7, e7⟩ := pt_form Tryz.underlying48 h7
    obtain ⟨_, w0, w1, h80, h81⟩ := fields2 Tryz.underlying27 h8
    obtain ⟨i8, e8, _⟩ := DataW.trod_int i_underInt h80
    obtain ⟨i9, e9, _⟩ := DataW.trod_int i_underInt h81
    have k0 : [x0] = [.string s0] := e0
    have k1 : [x1] = [.string s1] := e1
    have k2 : [x2] = [.bool b2] := e2
    have k3 : [x3] = [.slice a3 l3.length c3] := e3
    have k4 : [x4] = [.slice a4 n4 c4] := e4
    have k5 : [x5] = [.slice a5 n5 c5] := e5
    have k6 : [x6] = [.slice a6 n6 c6] := e6
    have k7 : [x7] = [.pointer p7] := e7
    have k8 : [x8] = [.int .i64 i8] := e8
    have k9 : [x9] = [.int .i64 i9] := e9
    cases k0; cases k1; cases k2; cases k3; cases k4; cases k5; cases k6; cases k7; cases k8; cases k9
    exact ⟨⟨s0, s1, b2, l3, a3, c3, (a4, n4, c4), (a5, n5, c5), (a6, n6, c6), p7, i8, i9⟩, rfl, g3, z0, z1, z3⟩

theorem array10 {arr : Array Value} (h : arr.size = 10) : ∃ x0 x1 x2 x3 x4 x5 x6 x7 x8 x9, arr = #[x0, x1, x2, x3, x4, x5, x6, x7, x8, x9] := by
  obtain ⟨l⟩ := arr
  match l, h with
  | [x0, x1, x2, x3, x4, x5, x6, x7, x8, x9], _ => exact ⟨x0, x1, x2, x3, x4, x5, x6, x7, x8, x9, rfl⟩
/-- a program, opened: its classes -/
theorem open_prog {b0 : Nat} {v : Value} {d : DataW H} {ps : List MemPlace} (hv : Value.okWide Tryz.prog W .any b0 31 v) (h : DataW.Trod enc Tryz.prog W 0 (fun _ => true) true 31 v d ps) : ∃ cs, ProgAt W v cs ∧ SzP cs := by
  obtain ⟨arr, rfl, hsz⟩ := okWide_struct Tryz.underlying31 hv
  obtain ⟨x0, x1, x2, x3, x4, x5, x6, x7, x8, x9, rfl⟩ := array10 (hsz.trans i_cellsProg)
  obtain ⟨fuel, hf⟩ := h
  obtain ⟨m, y0, y1, h0, _⟩ := fields2 Tryz.underlying31 hf
  obtain ⟨v0, css, e, hrow, hcs, _⟩ := open_row i_underClss i_cellsCls (by omega) h0
  have k0 : [x0] = [v0] := e
  cases k0
  have hr := hrow
  obtain ⟨_, _, _, _, _, h6, _⟩ := hrow
  obtain ⟨cs, rfl, hq⟩ := exists_map Cls.cells (fun c => StrsAt W (.slice c.fa c.faces.length c.fc) c.faces ∧ c.name.size ≤ maxLen ∧ c.sup.size ≤ maxLen ∧ ∀ f ∈ c.faces, f.size ≤ maxLen) css (fun c hc => by
    obtain ⟨m, y, hy⟩ := hcs c hc
    exact open_cls (h6 c hc) hy)
  exact ⟨cs, ⟨_, _, _, _, _, _, _, _, _, _, rfl, hr, fun c hc => (hq c hc).1⟩, fun c hc => (hq c hc).2⟩
end
/-- A world for the witness: the table lies in its variable. -/
noncomputable def i_world (os : Os) : World :=
  { World.holding Tryz.prog os ⟨#[], #[], []⟩ with heap := (World.holding Tryz.prog os ⟨#[], #[], []⟩).heap.modify 0 fun
      | .cells _ t frozen => .cells (Go.Lib.deBruijn64tab.map (fun (n : Nat) => Value.int .u8 n)).toArray t frozen
      | o => o }

end Go.Proofs.YtgjpgfedlgdjhaaGreatDoor
