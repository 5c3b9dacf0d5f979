/- Part 32. -/
import Derived.Test.YtgjpgfedlgdjhaaGreatDoorYbe
import Derived.Test.YtgjpgfedlgdjhaaGreatDoorYai
set_option linter.unusedVariables false
set_option linter.unusedSimpArgs false
set_option maxHeartbeats 64000000
set_option maxRecDepth 8192
section
namespace Go.Proofs.YtgjpgfedlgdjhaaGreatDoor
open Go.RowKit Go.W
def Afq (w : World) (L : List Iv) (e : Ending) (w' : World) : Prop :=
 ∃ g w0 el ec, e = .returned (.tuple #[.pointer (some ⟨g, 0, none⟩), .agg #[.int .i64 0, .int .i64 0, .int .i64 0]]) ∧ Tx w0 w' g L el ec 0 0 ∧ Ch No w w0 ∧ w.heap.size ≤ w0.heap.size
theorem tof {w : World} {s : ByteArray} {L : List Iv} (hL : s.size ≤ 20000 ∧ Cm s (s.size + 1) 0 = some L) : Calls Tryz.prog 24 #[.string s] w (Afq w L) := by
 refine (Adk w s (Nat.le_trans hL.1 (lb rfl))).mono ?_
 rintro e w' ⟨g, er, l, c, rfl, ⟨rfl, rfl, rfl, w0, L', a, b, hsz, hL', hT, hc⟩ | ⟨h0, _, hn⟩⟩
 {rw [hL.2] at hL'
  cases hL'
  exact ⟨g, w0, a, b, rfl, hT, hc, hc.size⟩}
 {rw [hL.2] at hn
  cases hn hL.1}
end Go.Proofs.YtgjpgfedlgdjhaaGreatDoor
end
