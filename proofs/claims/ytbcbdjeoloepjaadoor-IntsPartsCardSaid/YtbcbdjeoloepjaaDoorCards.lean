/-
  DERIVED. GIVEN WITH THE SEED: THE CARDS: each row of YtbcbdjeoloepjaaDoorRows.lean that lists a variable, with what it lists TIED to the program's text (the seventh form; the later family's looks); each row that meets fmt, with fmt's text TOLD by the authors' own Lean function (tested against real Go, not proved from fmt's source: count such statements apart). THE CARD IS WHAT COUNTS. Prove the row's statement (the work); the ties are given (YtbcbdjeoloepjaaDoorTie.lean); close each card by the builder's one call (the guide's Derived/Test/ToyasCard.lean, 'card_holds'). Laid BY PROGRAM, IN A SANDBOX (cutbox-door.mjs). By AI agents, Wed Nov 11 2026. No macro, syntax, notation, axiom, sorry.
-/
import Derived.Test.YtbcbdjeoloepjaaDoorRows
import GoSem.ClaimSeven
namespace Go.Proofs.YtbcbdjeoloepjaaDoor
namespace Rows

/-- THE TIED CARD OF 'winnowerlaw01.IntsMerges'. -/
def intsMergesCard : Claim7 := { stood := { row := intsMergesRow, standIns := [], harness := (true, "2848a4f762f3f90e894cb06a3cb32d82bcd3db6030ecfb0ae2ed0f92e0994499"), looks := false }, kinds := [], alts := [], laidByText := true, laidKinds := [.data], laidTests := true, laidLooks := .later }
def IntsMergesCardSaid : Prop := Claim7.holds Tryd.pinned (.plain (OpenSpec.ofChange intsMergesSpec)) intsMergesCard

/-- THE TIED CARD OF 'winnowerlaw01.IntsAdds'. -/
def intsAddsCard : Claim7 := { stood := { row := intsAddsRow, standIns := [], harness := (true, "2848a4f762f3f90e894cb06a3cb32d82bcd3db6030ecfb0ae2ed0f92e0994499"), looks := false }, kinds := [], alts := [], laidByText := true, laidKinds := [.data], laidTests := true, laidLooks := .later }
def IntsAddsCardSaid : Prop := Claim7.holds Tryd.pinned (.plain (OpenSpec.ofChange intsAddsSpec)) intsAddsCard

/-- THE TIED CARD OF 'winnowerlaw01.IntsPairs'. -/
def intsPairsCard : Claim7 := { stood := { row := intsPairsRow, standIns := [], harness := (true, "2848a4f762f3f90e894cb06a3cb32d82bcd3db6030ecfb0ae2ed0f92e0994499"), looks := false }, kinds := [], alts := [], laidByText := true, laidKinds := [.data], laidTests := true, laidLooks := .later }
def IntsPairsCardSaid : Prop := Claim7.holds Tryd.pinned (.plain (OpenSpec.ofChange intsPairsSpec)) intsPairsCard

/-- THE TIED CARD OF 'winnowerlaw01.IntsNone'. -/
def intsNoneCard : Claim7 := { stood := { row := intsNoneRow, standIns := [], harness := (true, "2848a4f762f3f90e894cb06a3cb32d82bcd3db6030ecfb0ae2ed0f92e0994499"), looks := false }, kinds := [], alts := [], laidByText := true, laidKinds := [.data], laidTests := true, laidLooks := .later }
def IntsNoneCardSaid : Prop := Claim7.holds Tryd.pinned (.plain (OpenSpec.ofChange intsNoneSpec)) intsNoneCard

/-- THE TIED CARD OF 'winnowerlaw01.IntsParts'. -/
def intsPartsCard : Claim7 := { stood := { row := intsPartsRow, standIns := [], harness := (true, "2848a4f762f3f90e894cb06a3cb32d82bcd3db6030ecfb0ae2ed0f92e0994499"), looks := false }, kinds := [], alts := [], laidByText := true, laidKinds := [.data], laidTests := true, laidLooks := .later }
def IntsPartsCardSaid : Prop := Claim7.holds Tryd.pinned (.plain (OpenSpec.ofChange intsPartsSpec)) intsPartsCard

/-- THE SECOND FORM's CARD OF 'winnowerlaw01.IntsMerges'. -/
def intsMergesUptoCard : Claim7 := { stood := { row := intsMergesUptoRow, standIns := [], harness := (true, "2848a4f762f3f90e894cb06a3cb32d82bcd3db6030ecfb0ae2ed0f92e0994499"), looks := false }, kinds := [], alts := [], laidByText := true, laidKinds := [.data], laidTests := true, laidLooks := .later }
def IntsMergesUptoCardSaid : Prop := Claim7.holds Tryd.pinned (.plain (OpenSpec.upto intsMergesSpec)) intsMergesUptoCard

/-- THE SECOND FORM's CARD OF 'winnowerlaw01.IntsAdds'. -/
def intsAddsUptoCard : Claim7 := { stood := { row := intsAddsUptoRow, standIns := [], harness := (true, "2848a4f762f3f90e894cb06a3cb32d82bcd3db6030ecfb0ae2ed0f92e0994499"), looks := false }, kinds := [], alts := [], laidByText := true, laidKinds := [.data], laidTests := true, laidLooks := .later }
def IntsAddsUptoCardSaid : Prop := Claim7.holds Tryd.pinned (.plain (OpenSpec.upto intsAddsSpec)) intsAddsUptoCard

/-- THE SECOND FORM's CARD OF 'winnowerlaw01.IntsPairs'. -/
def intsPairsUptoCard : Claim7 := { stood := { row := intsPairsUptoRow, standIns := [], harness := (true, "2848a4f762f3f90e894cb06a3cb32d82bcd3db6030ecfb0ae2ed0f92e0994499"), looks := false }, kinds := [], alts := [], laidByText := true, laidKinds := [.data], laidTests := true, laidLooks := .later }
def IntsPairsUptoCardSaid : Prop := Claim7.holds Tryd.pinned (.plain (OpenSpec.upto intsPairsSpec)) intsPairsUptoCard

/-- THE SECOND FORM's CARD OF 'winnowerlaw01.IntsNone'. -/
def intsNoneUptoCard : Claim7 := { stood := { row := intsNoneUptoRow, standIns := [], harness := (true, "2848a4f762f3f90e894cb06a3cb32d82bcd3db6030ecfb0ae2ed0f92e0994499"), looks := false }, kinds := [], alts := [], laidByText := true, laidKinds := [.data], laidTests := true, laidLooks := .later }
def IntsNoneUptoCardSaid : Prop := Claim7.holds Tryd.pinned (.plain (OpenSpec.upto intsNoneSpec)) intsNoneUptoCard

/-- THE SECOND FORM's CARD OF 'winnowerlaw01.IntsParts'. -/
def intsPartsUptoCard : Claim7 := { stood := { row := intsPartsUptoRow, standIns := [], harness := (true, "2848a4f762f3f90e894cb06a3cb32d82bcd3db6030ecfb0ae2ed0f92e0994499"), looks := false }, kinds := [], alts := [], laidByText := true, laidKinds := [.data], laidTests := true, laidLooks := .later }
def IntsPartsUptoCardSaid : Prop := Claim7.holds Tryd.pinned (.plain (OpenSpec.upto intsPartsSpec)) intsPartsUptoCard
end Rows
end Go.Proofs.YtbcbdjeoloepjaaDoor
