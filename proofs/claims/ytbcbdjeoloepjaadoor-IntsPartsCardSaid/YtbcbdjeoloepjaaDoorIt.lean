/- What the rows of the laws 01 share: a slice of int as an argument; the table of the list. -/
import Derived.Test.YtbcbdjeoloepjaaDoorIr
import Derived.Test.YtbcbdjeoloepjaaDoorLaw
import Derived.Test.YtbcbdjeoloepjaaDoorCards
import Derived.Test.YtbcbdjeoloepjaaDoorTie
import Derived.Deep.DeepHandedRow
import Derived.Lib.LaidTab
set_option linter.unusedVariables false
namespace Go.Proofs.YtbcbdjeoloepjaaDoor
open Go.ChangeShapes Go.WideShapes Go.ChangeAt Go.RowKit Go.W Go.Joins

theorem i_own : ownKnob Tryd.prog.godebug = none := by kernel_rfl
theorem i_laidOut : laidOutB Tryd.prog = true := by kernel_rfl
theorem i_gTab : Tryd.prog.globalNamed "math/bits.deBruijn64tab" = some 0 := by kernel_rfl
theorem i_gTabType : (Tryd.prog.globals[0]?).map (·.type) = some 46 := by kernel_rfl
theorem i_cellsTab : Tryd.prog.cellsOf 46 = 64 := by kernel_rfl
theorem i_cellsU8 : Tryd.prog.cellsOf 5 = 1 := by kernel_rfl
theorem i_cellsInt : Tryd.prog.cellsOf 3 = 1 := by kernel_rfl
theorem i_underTab : Tryd.prog.underlying 46 = some (.array 64 5) := by kernel_rfl
theorem i_underU8 : Tryd.prog.underlying 5 = some (.int .u8) := by kernel_rfl
theorem i_underInt : Tryd.prog.underlying 3 = some (.int .i64) := by kernel_rfl
theorem i_underInts : Tryd.prog.underlying 22 = some (.slice 3) := by kernel_rfl
theorem i_underBool : Tryd.prog.underlying 4 = some .bool := by kernel_rfl

theorem tabOf {W : World} {H : Type} {enc : TypeId × Value → H} (h : laidMetH Tryd.prog [("math/bits.deBruijn64tab", Rows.laid_math_bits_deBruijn64tab)] W) : Tab W := by
  have ht : Go.Lib.TabIs Tryd.prog W "math/bits.deBruijn64tab" .u8 (Go.Lib.deBruijn64tab.map (fun (n : Nat) => (n : Int))) :=
    Go.Lib.tabIs_of_head (rest := []) i_gTab i_gTabType i_underTab i_underU8 i_cellsU8 i_cellsTab h
  intro j hj
  have := ht.cell i_gTab j (by simpa using hj)
  rw [this]
  rw [List.getD_eq_getElem?_getD, List.getElem?_map, List.getD_eq_getElem?_getD]
  rw [List.getElem?_eq_getElem hj]
  rfl

theorem open_ints {H : Type} {enc : TypeId × Value → H} {W : World} {base : Nat} {v : Value} {d : DataW H} {ps : List MemPlace} (hv : Value.okWide Tryd.prog W .any base 22 v) (h : DataW.Trod enc Tryd.prog W 0 (fun _ => true) true 22 v d ps) :
    ∃ l : List Int, IntsAt W v l := by
  obtain ⟨a0, len, cap, rfl⟩ := okWide_slice i_underInts hv
  obtain ⟨fuel, hf⟩ := h
  obtain ⟨v', css, e, hrow, hcs, _⟩ := open_row i_underInts i_cellsInt (by omega) hf
  obtain rfl : v' = .slice a0 len cap := by simpa [Value.cells] using e.symm
  obtain ⟨ao, cap', e2, h2, h3, h6, h7⟩ := hrow
  obtain ⟨l, rfl, _⟩ := exists_map (fun (x : Int) => [Value.int .i64 x]) (fun _ => True) css (fun c hc => by
    obtain ⟨m, y, hy⟩ := hcs c hc
    obtain ⟨a, e, _⟩ := DataW.trod_int i_underInt hy
    exact ⟨a, e, trivial⟩)
  cases e2
  rw [List.length_map] at *
  refine ⟨l, _, _, rfl, h2, h3, fun hn => ?_, fun h0 => ?_⟩
  · subst hn
    rcases DataW.trod_slice i_underInts hf with ⟨e, _⟩ | ⟨a, len, cap, _, _, _, _, e, _⟩
    · simp [Value.cells] at e
      exact e.2
    · simp [Value.cells] at e
  · obtain ⟨b, off, rfl, h8⟩ := h7 h0
    refine ⟨b, off, rfl, fun i x hx => ?_⟩
    have := h8 i [Value.int .i64 x] (by rw [List.getElem?_map, hx]; rfl) 0 (by omega)
    simpa using this
/-- A world for the witness: the table lies in its variable. -/
noncomputable def i_world (os : Os) : World :=
  { World.holding Tryd.prog os ⟨#[], #[], []⟩ with heap := (World.holding Tryd.prog os ⟨#[], #[], []⟩).heap.modify 0 fun
      | .cells _ t frozen => .cells (Go.Lib.deBruijn64tab.map (fun (n : Nat) => Value.int .u8 n)).toArray t frozen
      | o => o }

end Go.Proofs.YtbcbdjeoloepjaaDoor
