/- Part 46. -/
import Derived.Test.YtgjpgfedlgdjhaaGreatDoorYaa
import Derived.ProofKit
import Derived.OpenShut
import Derived.SizedLaws
import Derived.Lib.SmallJoins
import Derived.Test.YtgjpgfedlgdjhaaGreatDoorYac
import Derived.Test.YtgjpgfedlgdjhaaGreatDoorCards
import Derived.Test.YtgjpgfedlgdjhaaGreatDoorTie
import Derived.Deep.DeepHandedRow
import Derived.Lib.LaidTab
set_option linter.unusedVariables false
set_option linter.unusedSimpArgs false
set_option maxHeartbeats 64000000
set_option maxRecDepth 100000
section
namespace Go.W
open Go.ChangeShapes Go.WideShapes Go.ChangeAt Go.RowKit
variable {H : Type} {enc : TypeId × Value → H} {P : Program}
theorem G2 {W W' : World} (hl : laidOutB P = true) (hb : Below W.heap.size W W') : ∀ (ts : List TypeId) (vs : List Value) (ds : List (DataW H)) (ps : List MemPlace),
 (∀ t ∈ ts, P.readableRec t = true ∧ t < P.types.size) → DataW.TrodAll enc P W 0 (fun _ => true) true ts vs ds ps → (∀ x ∈ ps, x.block < W.heap.size) →
 DataW.TrodAll enc P W' 0 (fun b => decide (b < W.heap.size)) true ts vs ds ps
 | [], vs, ds, ps, _, h, _ => by
  obtain ⟨rfl, rfl, rfl⟩ := trodAll_nil h
  exact trodAll_mk0
 | t :: ts, vs, ds, ps, hr, h, hlt => by
  obtain ⟨v, vs', d, ds', p, q, rfl, rfl, rfl, h1, h2⟩ := trodAll_cons h
  exact trodAll_cons_mk (Below.trod hl (hr t (by simp)).1 (hr t (by simp)).2 h1 hb (fun x hx => hlt x (by simp [hx])))
   (G2 hl hb ts vs' ds' q (fun t' ht' => hr t' (by simp [ht'])) h2 (fun x hx => hlt x (by simp [hx])))
theorem Ok {f : Func} {s : ChangeSpec} {apart : Bool} {W W' : World} {args : Array Value} {ds gs : List (DataW H)} {before : List MemPlace} {bt : TypeId}
 (hW : DataW.Whole enc P f.params.toList s.vars apart W args.toList ds gs before) (hl : laidOutB P = true) (hr : ∀ t ∈ f.params.toList, P.readableRec t = true ∧ t < P.types.size)
 (hv : s.vars = []) (hres : f.resultTypes = #[bt]) (hbt : P.underlying bt = some .bool) (hspec : s.fn H (ds ++ gs) = { results := [.lit (.bool true)], args := ds })
 (hb : Below W.heap.size W W') : s.post enc P f apart true false false W args (.bool true) W' := by
 have hW0 := hW
 have hlt : ∀ x ∈ before, x.block < W.heap.size := fun x hx => by simpa using hW.lt x hx
 obtain ⟨p, q, hA, hV, rfl, _, _⟩ := hW
 refine ⟨ds, gs, p ++ q, [], p, [], hW0, ?_, ?_, ?_, hb.frame _, fun h => by cases h⟩
 {rw [hspec, hres]
  exact trodAll_mk1 (shut_bool hbt true)}
 {rw [hspec]
  exact G2 hl hb _ _ _ _ hr hA (fun x hx => hlt x (by simp [hx]))}
 {rw [hspec, hv]
  rfl}
theorem Ch.no_below {w w' : World} (h : Ch No w w') : Below w.heap.size w w' := h.below (fun _ _ _ h => absurd h id) (Nat.le_refl _)
end Go.W
end
section
namespace Go.Proofs.YtgjpgfedlgdjhaaGreatDoor
open Go.ChangeShapes Go.WideShapes Go.ChangeAt Go.RowKit Go.W Go.Joins
theorem Y0 : ownKnob Tryz.prog.godebug = none := by kernel_rfl
theorem Ls : laidOutB Tryz.prog = true := by kernel_rfl
theorem Vv : Tryz.prog.globalNamed "math/bits.deBruijn64tab" = some 0 := by kernel_rfl
theorem P4 : (Tryz.prog.globals[0]?).map (·.type) = some 216 := by kernel_rfl
theorem P5 : Tryz.prog.cellsOf 216 = 64 := by kernel_rfl
theorem Sr : Tryz.prog.cellsOf 5 = 1 := by kernel_rfl
theorem P6 : Tryz.prog.underlying 216 = some (.array 64 5) := by kernel_rfl
theorem Lt : Tryz.prog.underlying 5 = some (.int .u8) := by kernel_rfl
theorem I2 : Tryz.prog.underlying 4 = some .bool := by kernel_rfl
theorem Rm {W : World} {H : Type} {enc : TypeId × Value → H} (h : laidMetH Tryz.prog [("math/bits.deBruijn64tab", Rows.laid_math_bits_deBruijn64tab)] W) : Ia W := by
 have ht : Go.Lib.TabIs Tryz.prog W "math/bits.deBruijn64tab" .u8 (Go.Lib.deBruijn64tab.map (fun (n : Nat) => (n : Int))) :=
  Go.Lib.tabIs_of_head (rest := []) Vv P4 P6 Lt Sr P5 h
 intro j hj
 have := ht.cell Vv j (by simpa using hj)
 rw [this]
 rw [List.getD_eq_getElem?_getD, List.getElem?_map, List.getD_eq_getElem?_getD]
 rw [List.getElem?_eq_getElem hj]
 rfl
theorem Km : Tryz.prog.underlying 9 = some .string := by kernel_rfl
noncomputable def Gw (os : Os) : World :=
 { World.holding Tryz.prog os ⟨#[], #[], []⟩ with heap := (World.holding Tryz.prog os ⟨#[], #[], []⟩).heap.modify 0 fun
   | .cells _ t frozen => .cells (Go.Lib.deBruijn64tab.map (fun (n : Nat) => Value.int .u8 n)).toArray t frozen
   | o => o }
end Go.Proofs.YtgjpgfedlgdjhaaGreatDoor
end
