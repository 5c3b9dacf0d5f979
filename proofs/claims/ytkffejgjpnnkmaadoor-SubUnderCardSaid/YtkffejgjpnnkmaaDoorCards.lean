/-
  DERIVED. GIVEN WITH THE SEED: THE CARDS: each row of YtkffejgjpnnkmaaDoorRows.lean that lists a variable, with what it lists TIED to the program's text (the seventh form; the later family's looks); each row that meets fmt, with fmt's text TOLD by the authors' own Lean function (tested against real Go, not proved from fmt's source: count such statements apart). THE CARD IS WHAT COUNTS. Prove the row's statement (the work); the ties are given (YtkffejgjpnnkmaaDoorTie.lean); close each card by the builder's one call (the guide's Derived/Test/ToyasCard.lean, 'card_holds'). Laid BY PROGRAM, IN A SANDBOX (cutbox-door.mjs). By AI agents, Wed Nov 11 2026. No macro, syntax, notation, axiom, sorry.
-/
import Derived.Test.YtkffejgjpnnkmaaDoorRows
import GoSem.ClaimSeven
namespace Go.Proofs.YtkffejgjpnnkmaaDoor
namespace Rows

/-- THE TIED CARD OF 'winnowerlaw08.HierFaults'. -/
def hierFaultsCard : Claim7 := { stood := { row := hierFaultsRow, standIns := [], harness := (true, "3b750b98a3e7da6c092436e59ace5539b6acd5c188dda98094f7ffbabacecb94"), looks := false }, kinds := [], alts := [], laidByText := true, laidKinds := [.data], laidTests := true, laidLooks := .later }
def HierFaultsCardSaid : Prop := Claim7.holds Tryd.pinned (.plain (OpenSpec.ofChange hierFaultsSpec)) hierFaultsCard

/-- THE TIED CARD OF 'winnowerlaw08.HierOrder'. -/
def hierOrderCard : Claim7 := { stood := { row := hierOrderRow, standIns := [], harness := (true, "3b750b98a3e7da6c092436e59ace5539b6acd5c188dda98094f7ffbabacecb94"), looks := false }, kinds := [], alts := [], laidByText := true, laidKinds := [.data], laidTests := true, laidLooks := .later }
def HierOrderCardSaid : Prop := Claim7.holds Tryd.pinned (.plain (OpenSpec.ofChange hierOrderSpec)) hierOrderCard

/-- THE TIED CARD OF 'winnowerlaw08.HierRound'. -/
def hierRoundCard : Claim7 := { stood := { row := hierRoundRow, standIns := [], harness := (true, "3b750b98a3e7da6c092436e59ace5539b6acd5c188dda98094f7ffbabacecb94"), looks := false }, kinds := [], alts := [], laidByText := true, laidKinds := [.data], laidTests := true, laidLooks := .later }
def HierRoundCardSaid : Prop := Claim7.holds Tryd.pinned (.plain (OpenSpec.ofChange hierRoundSpec)) hierRoundCard

/-- THE TIED CARD OF 'winnowerlaw08.HierBoth'. -/
def hierBothCard : Claim7 := { stood := { row := hierBothRow, standIns := [], harness := (true, "3b750b98a3e7da6c092436e59ace5539b6acd5c188dda98094f7ffbabacecb94"), looks := false }, kinds := [], alts := [], laidByText := true, laidKinds := [.data], laidTests := true, laidLooks := .later }
def HierBothCardSaid : Prop := Claim7.holds Tryd.pinned (.plain (OpenSpec.ofChange hierBothSpec)) hierBothCard

/-- THE TIED CARD OF 'winnowerlaw08.HierTells'. -/
def hierTellsCard : Claim7 := { stood := { row := hierTellsRow, standIns := [], harness := (true, "3b750b98a3e7da6c092436e59ace5539b6acd5c188dda98094f7ffbabacecb94"), looks := false }, kinds := [], alts := [], laidByText := true, laidKinds := [.data], laidTests := true, laidLooks := .later }
def HierTellsCardSaid : Prop := Claim7.holds Tryd.pinned (.plain (OpenSpec.ofChange hierTellsSpec)) hierTellsCard

/-- THE TIED CARD OF 'winnowerlaw09.SubOrder'. -/
def subOrderCard : Claim7 := { stood := { row := subOrderRow, standIns := [], harness := (true, "3b750b98a3e7da6c092436e59ace5539b6acd5c188dda98094f7ffbabacecb94"), looks := false }, kinds := [], alts := [], laidByText := true, laidKinds := [.data], laidTests := true, laidLooks := .later }
def SubOrderCardSaid : Prop := Claim7.holds Tryd.pinned (.plain (OpenSpec.ofChange subOrderSpec)) subOrderCard

/-- THE TIED CARD OF 'winnowerlaw09.SubArrays'. -/
def subArraysCard : Claim7 := { stood := { row := subArraysRow, standIns := [], harness := (true, "3b750b98a3e7da6c092436e59ace5539b6acd5c188dda98094f7ffbabacecb94"), looks := false }, kinds := [], alts := [], laidByText := true, laidKinds := [.data], laidTests := true, laidLooks := .later }
def SubArraysCardSaid : Prop := Claim7.holds Tryd.pinned (.plain (OpenSpec.ofChange subArraysSpec)) subArraysCard

/-- THE TIED CARD OF 'winnowerlaw09.SubTells'. -/
def subTellsCard : Claim7 := { stood := { row := subTellsRow, standIns := [], harness := (true, "3b750b98a3e7da6c092436e59ace5539b6acd5c188dda98094f7ffbabacecb94"), looks := false }, kinds := [], alts := [], laidByText := true, laidKinds := [.data], laidTests := true, laidLooks := .later }
def SubTellsCardSaid : Prop := Claim7.holds Tryd.pinned (.plain (OpenSpec.ofChange subTellsSpec)) subTellsCard

/-- THE TIED CARD OF 'winnowerlaw09.SubUnder'. -/
def subUnderCard : Claim7 := { stood := { row := subUnderRow, standIns := [], harness := (true, "3b750b98a3e7da6c092436e59ace5539b6acd5c188dda98094f7ffbabacecb94"), looks := false }, kinds := [], alts := [], laidByText := true, laidKinds := [.data], laidTests := true, laidLooks := .later }
def SubUnderCardSaid : Prop := Claim7.holds Tryd.pinned (.plain (OpenSpec.ofChange subUnderSpec)) subUnderCard

/-- THE SECOND FORM's CARD OF 'winnowerlaw08.HierFaults'. -/
def hierFaultsUptoCard : Claim7 := { stood := { row := hierFaultsUptoRow, standIns := [], harness := (true, "3b750b98a3e7da6c092436e59ace5539b6acd5c188dda98094f7ffbabacecb94"), looks := false }, kinds := [], alts := [], laidByText := true, laidKinds := [.data], laidTests := true, laidLooks := .later }
def HierFaultsUptoCardSaid : Prop := Claim7.holds Tryd.pinned (.plain (OpenSpec.upto hierFaultsSpec)) hierFaultsUptoCard

/-- THE SECOND FORM's CARD OF 'winnowerlaw08.HierOrder'. -/
def hierOrderUptoCard : Claim7 := { stood := { row := hierOrderUptoRow, standIns := [], harness := (true, "3b750b98a3e7da6c092436e59ace5539b6acd5c188dda98094f7ffbabacecb94"), looks := false }, kinds := [], alts := [], laidByText := true, laidKinds := [.data], laidTests := true, laidLooks := .later }
def HierOrderUptoCardSaid : Prop := Claim7.holds Tryd.pinned (.plain (OpenSpec.upto hierOrderSpec)) hierOrderUptoCard

/-- THE SECOND FORM's CARD OF 'winnowerlaw08.HierRound'. -/
def hierRoundUptoCard : Claim7 := { stood := { row := hierRoundUptoRow, standIns := [], harness := (true, "3b750b98a3e7da6c092436e59ace5539b6acd5c188dda98094f7ffbabacecb94"), looks := false }, kinds := [], alts := [], laidByText := true, laidKinds := [.data], laidTests := true, laidLooks := .later }
def HierRoundUptoCardSaid : Prop := Claim7.holds Tryd.pinned (.plain (OpenSpec.upto hierRoundSpec)) hierRoundUptoCard

/-- THE SECOND FORM's CARD OF 'winnowerlaw08.HierBoth'. -/
def hierBothUptoCard : Claim7 := { stood := { row := hierBothUptoRow, standIns := [], harness := (true, "3b750b98a3e7da6c092436e59ace5539b6acd5c188dda98094f7ffbabacecb94"), looks := false }, kinds := [], alts := [], laidByText := true, laidKinds := [.data], laidTests := true, laidLooks := .later }
def HierBothUptoCardSaid : Prop := Claim7.holds Tryd.pinned (.plain (OpenSpec.upto hierBothSpec)) hierBothUptoCard

/-- THE SECOND FORM's CARD OF 'winnowerlaw08.HierTells'. -/
def hierTellsUptoCard : Claim7 := { stood := { row := hierTellsUptoRow, standIns := [], harness := (true, "3b750b98a3e7da6c092436e59ace5539b6acd5c188dda98094f7ffbabacecb94"), looks := false }, kinds := [], alts := [], laidByText := true, laidKinds := [.data], laidTests := true, laidLooks := .later }
def HierTellsUptoCardSaid : Prop := Claim7.holds Tryd.pinned (.plain (OpenSpec.upto hierTellsSpec)) hierTellsUptoCard

/-- THE SECOND FORM's CARD OF 'winnowerlaw09.SubOrder'. -/
def subOrderUptoCard : Claim7 := { stood := { row := subOrderUptoRow, standIns := [], harness := (true, "3b750b98a3e7da6c092436e59ace5539b6acd5c188dda98094f7ffbabacecb94"), looks := false }, kinds := [], alts := [], laidByText := true, laidKinds := [.data], laidTests := true, laidLooks := .later }
def SubOrderUptoCardSaid : Prop := Claim7.holds Tryd.pinned (.plain (OpenSpec.upto subOrderSpec)) subOrderUptoCard

/-- THE SECOND FORM's CARD OF 'winnowerlaw09.SubArrays'. -/
def subArraysUptoCard : Claim7 := { stood := { row := subArraysUptoRow, standIns := [], harness := (true, "3b750b98a3e7da6c092436e59ace5539b6acd5c188dda98094f7ffbabacecb94"), looks := false }, kinds := [], alts := [], laidByText := true, laidKinds := [.data], laidTests := true, laidLooks := .later }
def SubArraysUptoCardSaid : Prop := Claim7.holds Tryd.pinned (.plain (OpenSpec.upto subArraysSpec)) subArraysUptoCard

/-- THE SECOND FORM's CARD OF 'winnowerlaw09.SubTells'. -/
def subTellsUptoCard : Claim7 := { stood := { row := subTellsUptoRow, standIns := [], harness := (true, "3b750b98a3e7da6c092436e59ace5539b6acd5c188dda98094f7ffbabacecb94"), looks := false }, kinds := [], alts := [], laidByText := true, laidKinds := [.data], laidTests := true, laidLooks := .later }
def SubTellsUptoCardSaid : Prop := Claim7.holds Tryd.pinned (.plain (OpenSpec.upto subTellsSpec)) subTellsUptoCard

/-- THE SECOND FORM's CARD OF 'winnowerlaw09.SubUnder'. -/
def subUnderUptoCard : Claim7 := { stood := { row := subUnderUptoRow, standIns := [], harness := (true, "3b750b98a3e7da6c092436e59ace5539b6acd5c188dda98094f7ffbabacecb94"), looks := false }, kinds := [], alts := [], laidByText := true, laidKinds := [.data], laidTests := true, laidLooks := .later }
def SubUnderUptoCardSaid : Prop := Claim7.holds Tryd.pinned (.plain (OpenSpec.upto subUnderSpec)) subUnderUptoCard
end Rows
end Go.Proofs.YtkffejgjpnnkmaaDoor
