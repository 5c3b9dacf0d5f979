/- Part 21. -/
import Derived.Test.YtgjpgfedlgdjhaaGreatDoorYat
import Derived.Deep.CutRange
set_option linter.unusedVariables false
set_option linter.unusedSimpArgs false
set_option maxHeartbeats 64000000
set_option maxRecDepth 8192
section
namespace Go.Proofs.YtgjpgfedlgdjhaaGreatDoor
open Go.RowKit Go.W
def Dj (P : Prop) (e : Ending) : Prop := ∃ r : Bool, e = .returned (.bool r) ∧ (r = true → P)
theorem Dj.f {P : Prop} : Dj P (.returned (.bool false)) := ⟨false, rfl, fun h => by cases h⟩
theorem Dj.t {P : Prop} (h : P) : Dj P (.returned (.bool true)) := ⟨true, rfl, fun _ => h⟩
end Go.Proofs.YtgjpgfedlgdjhaaGreatDoor
end
