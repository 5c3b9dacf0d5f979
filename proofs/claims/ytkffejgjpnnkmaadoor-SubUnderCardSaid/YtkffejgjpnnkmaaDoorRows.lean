/-
  NARROWER THAN 'FOR EVERY INPUT', by the rows' own cells (each row's printed sentence says how): HierFaults: loops, laid · HierOrder: loops, laid · HierRound: laid · HierBoth: loops, laid · HierTells: loops, laid · SubOrder: loops, laid · SubArrays: loops, laid · SubTells: loops, laid · SubUnder: loops, laid.
  DERIVED. THE GIVEN ROWS OF THIS SEAT. 9 by the template 'for every input the law returns true; each argument reads behind the call as it read before'; 0 by the template 'total and deterministic' (their statements: YtkffejgjpnnkmaaDoorTotals.lean).
  GIVEN WITH THE SEED: the statements are not yours to turn. If you find one false, say at which input.
  Laid BY PROGRAM, IN A SANDBOX (cutbox-rows.mjs): the forced cells as the released guide's own fill.sh prints them over the translation ff7cb9c31f3c1ff4… (all of the seat's roots in one cut). By AI agents, Wed Nov 11 2026. No macro, syntax, notation, axiom, sorry.
-/
import Derived.Test.YtkffejgjpnnkmaaDoorChecked
import GoSem.Claim
import GoSem.ClaimJoined
import GoSem.ClaimMapViews
import Derived.JoinedTies
import Derived.KernelRfl
namespace Go.Proofs.YtkffejgjpnnkmaaDoor
/- THE CELL 'sum', in the pinned program and in every row, IS THE sha256 OF THE DUMP (.gsa) THAT YtkffejgjpnnkmaaDoorProg.lean LOADS. Nothing in Lean hashes anything: it is a label: what it is worth is what the hold of that sum in a sandbox is worth. -/
noncomputable def Tryd.pinned : Pinned := { name := "ytkffejgjpnnkmaadoor", sum := "ff7cb9c31f3c1ff440cc0724f55ddbcb0aa866ecc18a02f991f89edb1c7e8e47", checked := Tryd.checked }
namespace Rows
def none {H : Type} : Left H := { results := [], args := [] }

/- WHAT THE LISTED PACKAGE-LEVEL VARIABLES READ AS WHEN THE CALL BEGINS. Each datum BY PROGRAM (the guide's laid-datum.mjs) off the statement by which the dump's own 'gosem.cut.vars' lays the variable. In a bare row this is a premise. The card (YtkffejgjpnnkmaaDoorCards.lean) ties it to the program's text. -/
def laid_math_bits_deBruijn64tab {H : Type} : DataW H := .agg [.lit (.int .u8 0), .lit (.int .u8 1), .lit (.int .u8 56), .lit (.int .u8 2), .lit (.int .u8 57), .lit (.int .u8 49), .lit (.int .u8 28), .lit (.int .u8 3), .lit (.int .u8 61), .lit (.int .u8 58), .lit (.int .u8 42), .lit (.int .u8 50), .lit (.int .u8 38), .lit (.int .u8 29), .lit (.int .u8 17), .lit (.int .u8 4), .lit (.int .u8 62), .lit (.int .u8 47), .lit (.int .u8 59), .lit (.int .u8 36), .lit (.int .u8 45), .lit (.int .u8 43), .lit (.int .u8 51), .lit (.int .u8 22), .lit (.int .u8 53), .lit (.int .u8 39), .lit (.int .u8 33), .lit (.int .u8 30), .lit (.int .u8 24), .lit (.int .u8 18), .lit (.int .u8 12), .lit (.int .u8 5), .lit (.int .u8 63), .lit (.int .u8 55), .lit (.int .u8 48), .lit (.int .u8 27), .lit (.int .u8 60), .lit (.int .u8 41), .lit (.int .u8 37), .lit (.int .u8 16), .lit (.int .u8 46), .lit (.int .u8 35), .lit (.int .u8 44), .lit (.int .u8 21), .lit (.int .u8 52), .lit (.int .u8 32), .lit (.int .u8 23), .lit (.int .u8 11), .lit (.int .u8 54), .lit (.int .u8 26), .lit (.int .u8 40), .lit (.int .u8 15), .lit (.int .u8 34), .lit (.int .u8 20), .lit (.int .u8 31), .lit (.int .u8 10), .lit (.int .u8 25), .lit (.int .u8 14), .lit (.int .u8 19), .lit (.int .u8 9), .lit (.int .u8 13), .lit (.int .u8 8), .lit (.int .u8 7), .lit (.int .u8 6)]

/-- 'winnowerlaw08.HierFaults': WHATEVER THE INPUT: true; the input reads as it did. -/
def hierFaultsSpec : ChangeSpec := { name := "hierFaults", fn := fun _ => fun
  | [d] => { results := [.lit (.bool true)], args := [d] }
  | _ => none }
def hierFaultsRow : OpenClaim := { program := "ytkffejgjpnnkmaadoor", sum := "ff7cb9c31f3c1ff440cc0724f55ddbcb0aa866ecc18a02f991f89edb1c7e8e47", func := "winnower/winnowerlaw08.HierFaults", spec := "hierFaults", inPlace := ["slices.overlaps[int]"], unfollowed := true, recurses := true, named := ["math/bits.deBruijn64tab"], loops := true, apart := false, laid := [("math/bits.deBruijn64tab", laid_math_bits_deBruijn64tab)] }
def HierFaultsSaid : Prop := hierFaultsRow.holds Tryd.pinned (OpenSpec.ofChange hierFaultsSpec)

/-- ITS FALSE NEIGHBOUR: 'it returns false'. Refute it at one input. -/
def hierFaultsWrong : ChangeSpec := { name := "hierFaults", fn := fun _ => fun
  | [d] => { results := [.lit (.bool false)], args := [d] }
  | _ => none }
def HierFaultsWrongFalsely : Prop := hierFaultsRow.holds Tryd.pinned (OpenSpec.ofChange hierFaultsWrong)

/-- 'winnowerlaw08.HierOrder': WHATEVER THE INPUT: true; the input reads as it did. -/
def hierOrderSpec : ChangeSpec := { name := "hierOrder", fn := fun _ => fun
  | [d] => { results := [.lit (.bool true)], args := [d] }
  | _ => none }
def hierOrderRow : OpenClaim := { program := "ytkffejgjpnnkmaadoor", sum := "ff7cb9c31f3c1ff440cc0724f55ddbcb0aa866ecc18a02f991f89edb1c7e8e47", func := "winnower/winnowerlaw08.HierOrder", spec := "hierOrder", inPlace := ["slices.overlaps[int]"], unfollowed := true, recurses := true, named := ["math/bits.deBruijn64tab"], loops := true, apart := false, laid := [("math/bits.deBruijn64tab", laid_math_bits_deBruijn64tab)] }
def HierOrderSaid : Prop := hierOrderRow.holds Tryd.pinned (OpenSpec.ofChange hierOrderSpec)

/-- ITS FALSE NEIGHBOUR: 'it returns false'. Refute it at one input. -/
def hierOrderWrong : ChangeSpec := { name := "hierOrder", fn := fun _ => fun
  | [d] => { results := [.lit (.bool false)], args := [d] }
  | _ => none }
def HierOrderWrongFalsely : Prop := hierOrderRow.holds Tryd.pinned (OpenSpec.ofChange hierOrderWrong)

/-- 'winnowerlaw08.HierRound': WHATEVER THE INPUT: true; the input reads as it did. -/
def hierRoundSpec : ChangeSpec := { name := "hierRound", fn := fun _ => fun
  | [d1, d2, d3] => { results := [.lit (.bool true)], args := [d1, d2, d3] }
  | _ => none }
def hierRoundRow : OpenClaim := { program := "ytkffejgjpnnkmaadoor", sum := "ff7cb9c31f3c1ff440cc0724f55ddbcb0aa866ecc18a02f991f89edb1c7e8e47", func := "winnower/winnowerlaw08.HierRound", spec := "hierRound", inPlace := ["slices.overlaps[int]"], unfollowed := true, recurses := true, named := ["math/bits.deBruijn64tab"], apart := false, laid := [("math/bits.deBruijn64tab", laid_math_bits_deBruijn64tab)] }
def HierRoundSaid : Prop := hierRoundRow.holds Tryd.pinned (OpenSpec.ofChange hierRoundSpec)

/-- ITS FALSE NEIGHBOUR: 'it returns false'. Refute it at one input. -/
def hierRoundWrong : ChangeSpec := { name := "hierRound", fn := fun _ => fun
  | [d1, d2, d3] => { results := [.lit (.bool false)], args := [d1, d2, d3] }
  | _ => none }
def HierRoundWrongFalsely : Prop := hierRoundRow.holds Tryd.pinned (OpenSpec.ofChange hierRoundWrong)

/-- 'winnowerlaw08.HierBoth': WHATEVER THE INPUT: true; the input reads as it did. -/
def hierBothSpec : ChangeSpec := { name := "hierBoth", fn := fun _ => fun
  | [d1, d2] => { results := [.lit (.bool true)], args := [d1, d2] }
  | _ => none }
def hierBothRow : OpenClaim := { program := "ytkffejgjpnnkmaadoor", sum := "ff7cb9c31f3c1ff440cc0724f55ddbcb0aa866ecc18a02f991f89edb1c7e8e47", func := "winnower/winnowerlaw08.HierBoth", spec := "hierBoth", inPlace := ["slices.overlaps[int]"], unfollowed := true, recurses := true, named := ["math/bits.deBruijn64tab"], loops := true, apart := false, laid := [("math/bits.deBruijn64tab", laid_math_bits_deBruijn64tab)] }
def HierBothSaid : Prop := hierBothRow.holds Tryd.pinned (OpenSpec.ofChange hierBothSpec)

/-- ITS FALSE NEIGHBOUR: 'it returns false'. Refute it at one input. -/
def hierBothWrong : ChangeSpec := { name := "hierBoth", fn := fun _ => fun
  | [d1, d2] => { results := [.lit (.bool false)], args := [d1, d2] }
  | _ => none }
def HierBothWrongFalsely : Prop := hierBothRow.holds Tryd.pinned (OpenSpec.ofChange hierBothWrong)

/-- 'winnowerlaw08.HierTells': WHATEVER THE INPUT: true; the input reads as it did. -/
def hierTellsSpec : ChangeSpec := { name := "hierTells", fn := fun _ => fun
  | [d1, d2, d3] => { results := [.lit (.bool true)], args := [d1, d2, d3] }
  | _ => none }
def hierTellsRow : OpenClaim := { program := "ytkffejgjpnnkmaadoor", sum := "ff7cb9c31f3c1ff440cc0724f55ddbcb0aa866ecc18a02f991f89edb1c7e8e47", func := "winnower/winnowerlaw08.HierTells", spec := "hierTells", inPlace := ["slices.overlaps[int]"], unfollowed := true, recurses := true, named := ["math/bits.deBruijn64tab"], loops := true, apart := false, laid := [("math/bits.deBruijn64tab", laid_math_bits_deBruijn64tab)] }
def HierTellsSaid : Prop := hierTellsRow.holds Tryd.pinned (OpenSpec.ofChange hierTellsSpec)

/-- ITS FALSE NEIGHBOUR: 'it returns false'. Refute it at one input. -/
def hierTellsWrong : ChangeSpec := { name := "hierTells", fn := fun _ => fun
  | [d1, d2, d3] => { results := [.lit (.bool false)], args := [d1, d2, d3] }
  | _ => none }
def HierTellsWrongFalsely : Prop := hierTellsRow.holds Tryd.pinned (OpenSpec.ofChange hierTellsWrong)

/-- 'winnowerlaw09.SubOrder': WHATEVER THE INPUT: true; the input reads as it did. -/
def subOrderSpec : ChangeSpec := { name := "subOrder", fn := fun _ => fun
  | [d] => { results := [.lit (.bool true)], args := [d] }
  | _ => none }
def subOrderRow : OpenClaim := { program := "ytkffejgjpnnkmaadoor", sum := "ff7cb9c31f3c1ff440cc0724f55ddbcb0aa866ecc18a02f991f89edb1c7e8e47", func := "winnower/winnowerlaw09.SubOrder", spec := "subOrder", inPlace := ["slices.overlaps[int]"], unfollowed := true, recurses := true, named := ["math/bits.deBruijn64tab"], loops := true, apart := false, laid := [("math/bits.deBruijn64tab", laid_math_bits_deBruijn64tab)] }
def SubOrderSaid : Prop := subOrderRow.holds Tryd.pinned (OpenSpec.ofChange subOrderSpec)

/-- ITS FALSE NEIGHBOUR: 'it returns false'. Refute it at one input. -/
def subOrderWrong : ChangeSpec := { name := "subOrder", fn := fun _ => fun
  | [d] => { results := [.lit (.bool false)], args := [d] }
  | _ => none }
def SubOrderWrongFalsely : Prop := subOrderRow.holds Tryd.pinned (OpenSpec.ofChange subOrderWrong)

/-- 'winnowerlaw09.SubArrays': WHATEVER THE INPUT: true; the input reads as it did. -/
def subArraysSpec : ChangeSpec := { name := "subArrays", fn := fun _ => fun
  | [d] => { results := [.lit (.bool true)], args := [d] }
  | _ => none }
def subArraysRow : OpenClaim := { program := "ytkffejgjpnnkmaadoor", sum := "ff7cb9c31f3c1ff440cc0724f55ddbcb0aa866ecc18a02f991f89edb1c7e8e47", func := "winnower/winnowerlaw09.SubArrays", spec := "subArrays", inPlace := ["slices.overlaps[int]"], unfollowed := true, recurses := true, named := ["math/bits.deBruijn64tab"], loops := true, apart := false, laid := [("math/bits.deBruijn64tab", laid_math_bits_deBruijn64tab)] }
def SubArraysSaid : Prop := subArraysRow.holds Tryd.pinned (OpenSpec.ofChange subArraysSpec)

/-- ITS FALSE NEIGHBOUR: 'it returns false'. Refute it at one input. -/
def subArraysWrong : ChangeSpec := { name := "subArrays", fn := fun _ => fun
  | [d] => { results := [.lit (.bool false)], args := [d] }
  | _ => none }
def SubArraysWrongFalsely : Prop := subArraysRow.holds Tryd.pinned (OpenSpec.ofChange subArraysWrong)

/-- 'winnowerlaw09.SubTells': WHATEVER THE INPUT: true; the input reads as it did. -/
def subTellsSpec : ChangeSpec := { name := "subTells", fn := fun _ => fun
  | [d1, d2, d3] => { results := [.lit (.bool true)], args := [d1, d2, d3] }
  | _ => none }
def subTellsRow : OpenClaim := { program := "ytkffejgjpnnkmaadoor", sum := "ff7cb9c31f3c1ff440cc0724f55ddbcb0aa866ecc18a02f991f89edb1c7e8e47", func := "winnower/winnowerlaw09.SubTells", spec := "subTells", inPlace := ["slices.overlaps[int]"], unfollowed := true, recurses := true, named := ["math/bits.deBruijn64tab"], loops := true, apart := false, laid := [("math/bits.deBruijn64tab", laid_math_bits_deBruijn64tab)] }
def SubTellsSaid : Prop := subTellsRow.holds Tryd.pinned (OpenSpec.ofChange subTellsSpec)

/-- ITS FALSE NEIGHBOUR: 'it returns false'. Refute it at one input. -/
def subTellsWrong : ChangeSpec := { name := "subTells", fn := fun _ => fun
  | [d1, d2, d3] => { results := [.lit (.bool false)], args := [d1, d2, d3] }
  | _ => none }
def SubTellsWrongFalsely : Prop := subTellsRow.holds Tryd.pinned (OpenSpec.ofChange subTellsWrong)

/-- 'winnowerlaw09.SubUnder': WHATEVER THE INPUT: true; the input reads as it did. -/
def subUnderSpec : ChangeSpec := { name := "subUnder", fn := fun _ => fun
  | [d] => { results := [.lit (.bool true)], args := [d] }
  | _ => none }
def subUnderRow : OpenClaim := { program := "ytkffejgjpnnkmaadoor", sum := "ff7cb9c31f3c1ff440cc0724f55ddbcb0aa866ecc18a02f991f89edb1c7e8e47", func := "winnower/winnowerlaw09.SubUnder", spec := "subUnder", inPlace := ["slices.overlaps[int]"], unfollowed := true, recurses := true, named := ["math/bits.deBruijn64tab"], loops := true, apart := false, laid := [("math/bits.deBruijn64tab", laid_math_bits_deBruijn64tab)] }
def SubUnderSaid : Prop := subUnderRow.holds Tryd.pinned (OpenSpec.ofChange subUnderSpec)

/-- ITS FALSE NEIGHBOUR: 'it returns false'. Refute it at one input. -/
def subUnderWrong : ChangeSpec := { name := "subUnder", fn := fun _ => fun
  | [d] => { results := [.lit (.bool false)], args := [d] }
  | _ => none }
def SubUnderWrongFalsely : Prop := subUnderRow.holds Tryd.pinned (OpenSpec.ofChange subUnderWrong)

/- THE SECOND FORM. 'bulk': how many values and letters a reading holds, each counted each time it is reached (what is shared counts as often as it is met; a slice's spare places count too). A statement '..UptoSaid' is the law's where the arguments, and the package variables that the reading takes, are together of bulk at most 1048576: NARROWER than '..Said'. Prove '..Said' where nothing that the law and all that it calls make is longer than what came in: it says more and counts as full. Else prove '..UptoSaid'. A law counts once. -/
mutual
def uptoBulk {H : Type} : DataW H → Nat
  | .lit (.string bytes) => bytes.length + 1
  | .lit _ => 1
  | .nil => 1
  | .ptr d => uptoBulk d + 1
  | .slice elems spare => uptoBulkAll elems + uptoBulkAll spare + 1
  | .agg parts => uptoBulkAll parts + 1
  | .iface _ d => uptoBulk d + 1
  | .map entries => uptoBulkEntries entries + 1
  | .held _ => 1
def uptoBulkAll {H : Type} : List (DataW H) → Nat
  | [] => 0
  | d :: r => uptoBulk d + uptoBulkAll r
def uptoBulkEntries {H : Type} : List (Lit × DataW H) → Nat
  | [] => 0
  | x :: r => uptoBulkEntry x + uptoBulkEntries r
def uptoBulkEntry {H : Type} : Lit × DataW H → Nat
  | (.string bytes, d) => bytes.length + uptoBulk d + 1
  | (_, d) => uptoBulk d + 1
 end
def uptoSmall : (H : Type) → List (DataW H) → Bool := fun _ ds => decide (uptoBulkAll ds ≤ 1048576)
def OpenSpec.upto (s : _root_.Go.ChangeSpec) : _root_.Go.OpenSpec := { _root_.Go.OpenSpec.ofChange s with cond := some uptoSmall }

/-- 'winnowerlaw08.HierFaults', WHERE WHAT IT READS IS OF BULK AT MOST 1048576: true; the input reads as it did. -/
def hierFaultsUptoRow : OpenClaim := { program := "ytkffejgjpnnkmaadoor", sum := "ff7cb9c31f3c1ff440cc0724f55ddbcb0aa866ecc18a02f991f89edb1c7e8e47", func := "winnower/winnowerlaw08.HierFaults", spec := "hierFaults", inPlace := ["slices.overlaps[int]"], unfollowed := true, recurses := true, named := ["math/bits.deBruijn64tab"], loops := true, apart := false, laid := [("math/bits.deBruijn64tab", laid_math_bits_deBruijn64tab)], narrowed := true }
def HierFaultsUptoSaid : Prop := hierFaultsUptoRow.holds Tryd.pinned (OpenSpec.upto hierFaultsSpec)

/-- 'winnowerlaw08.HierOrder', WHERE WHAT IT READS IS OF BULK AT MOST 1048576: true; the input reads as it did. -/
def hierOrderUptoRow : OpenClaim := { program := "ytkffejgjpnnkmaadoor", sum := "ff7cb9c31f3c1ff440cc0724f55ddbcb0aa866ecc18a02f991f89edb1c7e8e47", func := "winnower/winnowerlaw08.HierOrder", spec := "hierOrder", inPlace := ["slices.overlaps[int]"], unfollowed := true, recurses := true, named := ["math/bits.deBruijn64tab"], loops := true, apart := false, laid := [("math/bits.deBruijn64tab", laid_math_bits_deBruijn64tab)], narrowed := true }
def HierOrderUptoSaid : Prop := hierOrderUptoRow.holds Tryd.pinned (OpenSpec.upto hierOrderSpec)

/-- 'winnowerlaw08.HierRound', WHERE WHAT IT READS IS OF BULK AT MOST 1048576: true; the input reads as it did. -/
def hierRoundUptoRow : OpenClaim := { program := "ytkffejgjpnnkmaadoor", sum := "ff7cb9c31f3c1ff440cc0724f55ddbcb0aa866ecc18a02f991f89edb1c7e8e47", func := "winnower/winnowerlaw08.HierRound", spec := "hierRound", inPlace := ["slices.overlaps[int]"], unfollowed := true, recurses := true, named := ["math/bits.deBruijn64tab"], apart := false, laid := [("math/bits.deBruijn64tab", laid_math_bits_deBruijn64tab)], narrowed := true }
def HierRoundUptoSaid : Prop := hierRoundUptoRow.holds Tryd.pinned (OpenSpec.upto hierRoundSpec)

/-- 'winnowerlaw08.HierBoth', WHERE WHAT IT READS IS OF BULK AT MOST 1048576: true; the input reads as it did. -/
def hierBothUptoRow : OpenClaim := { program := "ytkffejgjpnnkmaadoor", sum := "ff7cb9c31f3c1ff440cc0724f55ddbcb0aa866ecc18a02f991f89edb1c7e8e47", func := "winnower/winnowerlaw08.HierBoth", spec := "hierBoth", inPlace := ["slices.overlaps[int]"], unfollowed := true, recurses := true, named := ["math/bits.deBruijn64tab"], loops := true, apart := false, laid := [("math/bits.deBruijn64tab", laid_math_bits_deBruijn64tab)], narrowed := true }
def HierBothUptoSaid : Prop := hierBothUptoRow.holds Tryd.pinned (OpenSpec.upto hierBothSpec)

/-- 'winnowerlaw08.HierTells', WHERE WHAT IT READS IS OF BULK AT MOST 1048576: true; the input reads as it did. -/
def hierTellsUptoRow : OpenClaim := { program := "ytkffejgjpnnkmaadoor", sum := "ff7cb9c31f3c1ff440cc0724f55ddbcb0aa866ecc18a02f991f89edb1c7e8e47", func := "winnower/winnowerlaw08.HierTells", spec := "hierTells", inPlace := ["slices.overlaps[int]"], unfollowed := true, recurses := true, named := ["math/bits.deBruijn64tab"], loops := true, apart := false, laid := [("math/bits.deBruijn64tab", laid_math_bits_deBruijn64tab)], narrowed := true }
def HierTellsUptoSaid : Prop := hierTellsUptoRow.holds Tryd.pinned (OpenSpec.upto hierTellsSpec)

/-- 'winnowerlaw09.SubOrder', WHERE WHAT IT READS IS OF BULK AT MOST 1048576: true; the input reads as it did. -/
def subOrderUptoRow : OpenClaim := { program := "ytkffejgjpnnkmaadoor", sum := "ff7cb9c31f3c1ff440cc0724f55ddbcb0aa866ecc18a02f991f89edb1c7e8e47", func := "winnower/winnowerlaw09.SubOrder", spec := "subOrder", inPlace := ["slices.overlaps[int]"], unfollowed := true, recurses := true, named := ["math/bits.deBruijn64tab"], loops := true, apart := false, laid := [("math/bits.deBruijn64tab", laid_math_bits_deBruijn64tab)], narrowed := true }
def SubOrderUptoSaid : Prop := subOrderUptoRow.holds Tryd.pinned (OpenSpec.upto subOrderSpec)

/-- 'winnowerlaw09.SubArrays', WHERE WHAT IT READS IS OF BULK AT MOST 1048576: true; the input reads as it did. -/
def subArraysUptoRow : OpenClaim := { program := "ytkffejgjpnnkmaadoor", sum := "ff7cb9c31f3c1ff440cc0724f55ddbcb0aa866ecc18a02f991f89edb1c7e8e47", func := "winnower/winnowerlaw09.SubArrays", spec := "subArrays", inPlace := ["slices.overlaps[int]"], unfollowed := true, recurses := true, named := ["math/bits.deBruijn64tab"], loops := true, apart := false, laid := [("math/bits.deBruijn64tab", laid_math_bits_deBruijn64tab)], narrowed := true }
def SubArraysUptoSaid : Prop := subArraysUptoRow.holds Tryd.pinned (OpenSpec.upto subArraysSpec)

/-- 'winnowerlaw09.SubTells', WHERE WHAT IT READS IS OF BULK AT MOST 1048576: true; the input reads as it did. -/
def subTellsUptoRow : OpenClaim := { program := "ytkffejgjpnnkmaadoor", sum := "ff7cb9c31f3c1ff440cc0724f55ddbcb0aa866ecc18a02f991f89edb1c7e8e47", func := "winnower/winnowerlaw09.SubTells", spec := "subTells", inPlace := ["slices.overlaps[int]"], unfollowed := true, recurses := true, named := ["math/bits.deBruijn64tab"], loops := true, apart := false, laid := [("math/bits.deBruijn64tab", laid_math_bits_deBruijn64tab)], narrowed := true }
def SubTellsUptoSaid : Prop := subTellsUptoRow.holds Tryd.pinned (OpenSpec.upto subTellsSpec)

/-- 'winnowerlaw09.SubUnder', WHERE WHAT IT READS IS OF BULK AT MOST 1048576: true; the input reads as it did. -/
def subUnderUptoRow : OpenClaim := { program := "ytkffejgjpnnkmaadoor", sum := "ff7cb9c31f3c1ff440cc0724f55ddbcb0aa866ecc18a02f991f89edb1c7e8e47", func := "winnower/winnowerlaw09.SubUnder", spec := "subUnder", inPlace := ["slices.overlaps[int]"], unfollowed := true, recurses := true, named := ["math/bits.deBruijn64tab"], loops := true, apart := false, laid := [("math/bits.deBruijn64tab", laid_math_bits_deBruijn64tab)], narrowed := true }
def SubUnderUptoSaid : Prop := subUnderUptoRow.holds Tryd.pinned (OpenSpec.upto subUnderSpec)

end Rows
end Go.Proofs.YtkffejgjpnnkmaaDoor
