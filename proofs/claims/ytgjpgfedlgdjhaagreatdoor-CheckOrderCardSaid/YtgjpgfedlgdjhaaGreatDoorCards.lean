/-
  DERIVED. GIVEN WITH THE SEED: THE CARDS: each row of YtgjpgfedlgdjhaaGreatDoorRows.lean that lists a variable, with what it lists TIED to the program's text (the seventh form; the later family's looks); each row that meets fmt, with fmt's text TOLD by the authors' own Lean function (tested against real Go, not proved from fmt's source: count such statements apart). THE CARD IS WHAT COUNTS. Prove the row's statement (the work); the ties are given (YtgjpgfedlgdjhaaGreatDoorTie.lean); close each card by the builder's one call (the guide's Derived/Test/ToyasCard.lean, 'card_holds'). Laid BY PROGRAM, IN A SANDBOX (cutbox-door.mjs). By AI agents, Wed Nov 11 2026. No macro, syntax, notation, axiom, sorry.
-/
import Derived.Test.YtgjpgfedlgdjhaaGreatDoorRows
import GoSem.ClaimSeven
namespace Go.Proofs.YtgjpgfedlgdjhaaGreatDoor
namespace Rows

/-- THE TIED CARD OF 'winnowerlaw11.CheckOrder'. -/
def checkOrderCard : Claim7 := { stood := { row := checkOrderRow, standIns := [], harness := (true, "044ea74573009d7b8b09920b63366e4338ed6087310802206f1a9e9e416bd511"), looks := false }, kinds := [], alts := [], laidByText := true, laidKinds := [.data], laidTests := true, laidLooks := .later }
def CheckOrderCardSaid : Prop := Claim7.holds Tryz.pinned (.plain (OpenSpec.ofChange checkOrderSpec)) checkOrderCard

/-- THE TIED CARD OF 'winnowerlaw11.CheckFewer'. -/
def checkFewerCard : Claim7 := { stood := { row := checkFewerRow, standIns := [], harness := (true, "044ea74573009d7b8b09920b63366e4338ed6087310802206f1a9e9e416bd511"), looks := false }, kinds := [], alts := [], laidByText := true, laidKinds := [.data], laidTests := true, laidLooks := .later }
def CheckFewerCardSaid : Prop := Claim7.holds Tryz.pinned (.plain (OpenSpec.ofChange checkFewerSpec)) checkFewerCard

/-- THE TIED CARD OF 'winnowerlaw10.MemberOwn'. -/
def memberOwnCard : Claim7 := { stood := { row := memberOwnRow, standIns := [], harness := (true, "044ea74573009d7b8b09920b63366e4338ed6087310802206f1a9e9e416bd511"), looks := false }, kinds := [], alts := [], laidByText := true, laidKinds := [.data], laidTests := true, laidLooks := .later }
def MemberOwnCardSaid : Prop := Claim7.holds Tryz.pinned (.plain (OpenSpec.ofChange memberOwnSpec)) memberOwnCard

/-- THE TIED CARD OF 'winnowerlaw10.MemberFields'. -/
def memberFieldsCard : Claim7 := { stood := { row := memberFieldsRow, standIns := [], harness := (true, "044ea74573009d7b8b09920b63366e4338ed6087310802206f1a9e9e416bd511"), looks := false }, kinds := [], alts := [], laidByText := true, laidKinds := [.data], laidTests := true, laidLooks := .later }
def MemberFieldsCardSaid : Prop := Claim7.holds Tryz.pinned (.plain (OpenSpec.ofChange memberFieldsSpec)) memberFieldsCard

/-- THE TIED CARD OF 'winnowerlaw11.CheckScopes'. -/
def checkScopesCard : Claim7 := { stood := { row := checkScopesRow, standIns := [], harness := (true, "044ea74573009d7b8b09920b63366e4338ed6087310802206f1a9e9e416bd511"), looks := false }, kinds := [], alts := [], laidByText := true, laidKinds := [.data], laidTests := true, laidLooks := .later }
def CheckScopesCardSaid : Prop := Claim7.holds Tryz.pinned (.plain (OpenSpec.ofChange checkScopesSpec)) checkScopesCard

/-- THE SECOND FORM's CARD OF 'winnowerlaw11.CheckOrder'. -/
def checkOrderUptoCard : Claim7 := { stood := { row := checkOrderUptoRow, standIns := [], harness := (true, "044ea74573009d7b8b09920b63366e4338ed6087310802206f1a9e9e416bd511"), looks := false }, kinds := [], alts := [], laidByText := true, laidKinds := [.data], laidTests := true, laidLooks := .later }
def CheckOrderUptoCardSaid : Prop := Claim7.holds Tryz.pinned (.plain (OpenSpec.upto checkOrderSpec)) checkOrderUptoCard

/-- THE SECOND FORM's CARD OF 'winnowerlaw11.CheckFewer'. -/
def checkFewerUptoCard : Claim7 := { stood := { row := checkFewerUptoRow, standIns := [], harness := (true, "044ea74573009d7b8b09920b63366e4338ed6087310802206f1a9e9e416bd511"), looks := false }, kinds := [], alts := [], laidByText := true, laidKinds := [.data], laidTests := true, laidLooks := .later }
def CheckFewerUptoCardSaid : Prop := Claim7.holds Tryz.pinned (.plain (OpenSpec.upto checkFewerSpec)) checkFewerUptoCard

/-- THE SECOND FORM's CARD OF 'winnowerlaw10.MemberOwn'. -/
def memberOwnUptoCard : Claim7 := { stood := { row := memberOwnUptoRow, standIns := [], harness := (true, "044ea74573009d7b8b09920b63366e4338ed6087310802206f1a9e9e416bd511"), looks := false }, kinds := [], alts := [], laidByText := true, laidKinds := [.data], laidTests := true, laidLooks := .later }
def MemberOwnUptoCardSaid : Prop := Claim7.holds Tryz.pinned (.plain (OpenSpec.upto memberOwnSpec)) memberOwnUptoCard

/-- THE SECOND FORM's CARD OF 'winnowerlaw10.MemberFields'. -/
def memberFieldsUptoCard : Claim7 := { stood := { row := memberFieldsUptoRow, standIns := [], harness := (true, "044ea74573009d7b8b09920b63366e4338ed6087310802206f1a9e9e416bd511"), looks := false }, kinds := [], alts := [], laidByText := true, laidKinds := [.data], laidTests := true, laidLooks := .later }
def MemberFieldsUptoCardSaid : Prop := Claim7.holds Tryz.pinned (.plain (OpenSpec.upto memberFieldsSpec)) memberFieldsUptoCard

/-- THE SECOND FORM's CARD OF 'winnowerlaw11.CheckScopes'. -/
def checkScopesUptoCard : Claim7 := { stood := { row := checkScopesUptoRow, standIns := [], harness := (true, "044ea74573009d7b8b09920b63366e4338ed6087310802206f1a9e9e416bd511"), looks := false }, kinds := [], alts := [], laidByText := true, laidKinds := [.data], laidTests := true, laidLooks := .later }
def CheckScopesUptoCardSaid : Prop := Claim7.holds Tryz.pinned (.plain (OpenSpec.upto checkScopesSpec)) checkScopesUptoCard
end Rows
end Go.Proofs.YtgjpgfedlgdjhaaGreatDoor
