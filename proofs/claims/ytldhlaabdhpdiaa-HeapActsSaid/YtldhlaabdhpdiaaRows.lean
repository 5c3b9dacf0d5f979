/-
  No cell of these rows narrows 'for every input' (looked for: loops, veiled, ifaces, maps, wideKeys, modest, calm, conditions, laid).
  DERIVED. THE GIVEN ROWS OF THIS SEAT. 4 by the template 'for every input the law returns true; each argument reads behind the call as it read before'; 0 by the template 'total and deterministic' (their statements: YtldhlaabdhpdiaaTotals.lean).
  GIVEN WITH THE SEED: the statements are not yours to turn. If you find one false, say at which input.
  Laid BY PROGRAM, IN A SANDBOX (cutbox-rows.mjs): the forced cells as the released guide's own fill.sh prints them over the translation cd038d63439a84e5… (all of the seat's roots in one cut). By AI agents, Wed Nov 11 2026. No macro, syntax, notation, axiom, sorry.
-/
import Derived.Test.YtldhlaabdhpdiaaChecked
import GoSem.Claim
import GoSem.ClaimJoined
import GoSem.ClaimMapViews
import Derived.JoinedTies
import Derived.KernelRfl
namespace Go.Proofs.Ytldhlaabdhpdiaa
/- THE CELL 'sum', in the pinned program and in every row, IS THE sha256 OF THE DUMP (.gsa) THAT YtldhlaabdhpdiaaProg.lean LOADS. Nothing in Lean hashes anything: it is a label: what it is worth is what the hold of that sum in a sandbox is worth. -/
noncomputable def Try.pinned : Pinned := { name := "ytldhlaabdhpdiaa", sum := "cd038d63439a84e5b8956d05e0f7d5c0c3941828e3d636ed55abc1aebc305be7", checked := Try.checked }
namespace Rows
def none {H : Type} : Left H := { results := [], args := [] }

/-- 'winnowerlaw13.HeapLast': WHATEVER THE INPUT: true; the input reads as it did. -/
def heapLastSpec : ChangeSpec := { name := "heapLast", fn := fun _ => fun
  | [d1, d2, d3] => { results := [.lit (.bool true)], args := [d1, d2, d3] }
  | _ => none }
def heapLastRow : OpenClaim := { program := "ytldhlaabdhpdiaa", sum := "cd038d63439a84e5b8956d05e0f7d5c0c3941828e3d636ed55abc1aebc305be7", func := "winnower/winnowerlaw13.HeapLast", spec := "heapLast", apart := false }
def HeapLastSaid : Prop := heapLastRow.holds Try.pinned (OpenSpec.ofChange heapLastSpec)

/-- ITS FALSE NEIGHBOUR: 'it returns false'. Refute it at one input. -/
def heapLastWrong : ChangeSpec := { name := "heapLast", fn := fun _ => fun
  | [d1, d2, d3] => { results := [.lit (.bool false)], args := [d1, d2, d3] }
  | _ => none }
def HeapLastWrongFalsely : Prop := heapLastRow.holds Try.pinned (OpenSpec.ofChange heapLastWrong)

/-- 'winnowerlaw13.HeapApart': WHATEVER THE INPUT: true; the input reads as it did. -/
def heapApartSpec : ChangeSpec := { name := "heapApart", fn := fun _ => fun
  | [d1, d2] => { results := [.lit (.bool true)], args := [d1, d2] }
  | _ => none }
def heapApartRow : OpenClaim := { program := "ytldhlaabdhpdiaa", sum := "cd038d63439a84e5b8956d05e0f7d5c0c3941828e3d636ed55abc1aebc305be7", func := "winnower/winnowerlaw13.HeapApart", spec := "heapApart", apart := false }
def HeapApartSaid : Prop := heapApartRow.holds Try.pinned (OpenSpec.ofChange heapApartSpec)

/-- ITS FALSE NEIGHBOUR: 'it returns false'. Refute it at one input. -/
def heapApartWrong : ChangeSpec := { name := "heapApart", fn := fun _ => fun
  | [d1, d2] => { results := [.lit (.bool false)], args := [d1, d2] }
  | _ => none }
def HeapApartWrongFalsely : Prop := heapApartRow.holds Try.pinned (OpenSpec.ofChange heapApartWrong)

/-- 'winnowerlaw13.HeapFresh': WHATEVER THE INPUT: true; the input reads as it did. -/
def heapFreshSpec : ChangeSpec := { name := "heapFresh", fn := fun _ => fun
  | [d1, d2] => { results := [.lit (.bool true)], args := [d1, d2] }
  | _ => none }
def heapFreshRow : OpenClaim := { program := "ytldhlaabdhpdiaa", sum := "cd038d63439a84e5b8956d05e0f7d5c0c3941828e3d636ed55abc1aebc305be7", func := "winnower/winnowerlaw13.HeapFresh", spec := "heapFresh", apart := false }
def HeapFreshSaid : Prop := heapFreshRow.holds Try.pinned (OpenSpec.ofChange heapFreshSpec)

/-- ITS FALSE NEIGHBOUR: 'it returns false'. Refute it at one input. -/
def heapFreshWrong : ChangeSpec := { name := "heapFresh", fn := fun _ => fun
  | [d1, d2] => { results := [.lit (.bool false)], args := [d1, d2] }
  | _ => none }
def HeapFreshWrongFalsely : Prop := heapFreshRow.holds Try.pinned (OpenSpec.ofChange heapFreshWrong)

/-- 'winnowerlaw13.HeapActs': WHATEVER THE INPUT: true; the input reads as it did. -/
def heapActsSpec : ChangeSpec := { name := "heapActs", fn := fun _ => fun
  | [d] => { results := [.lit (.bool true)], args := [d] }
  | _ => none }
def heapActsRow : OpenClaim := { program := "ytldhlaabdhpdiaa", sum := "cd038d63439a84e5b8956d05e0f7d5c0c3941828e3d636ed55abc1aebc305be7", func := "winnower/winnowerlaw13.HeapActs", spec := "heapActs", apart := false }
def HeapActsSaid : Prop := heapActsRow.holds Try.pinned (OpenSpec.ofChange heapActsSpec)

/-- ITS FALSE NEIGHBOUR: 'it returns false'. Refute it at one input. -/
def heapActsWrong : ChangeSpec := { name := "heapActs", fn := fun _ => fun
  | [d] => { results := [.lit (.bool false)], args := [d] }
  | _ => none }
def HeapActsWrongFalsely : Prop := heapActsRow.holds Try.pinned (OpenSpec.ofChange heapActsWrong)

/- THE SECOND FORM. 'bulk': how many values and letters a reading holds, each counted each time it is reached (what is shared counts as often as it is met; a slice's spare places count too). A statement '..UptoSaid' is the law's where the arguments, and the package variables that the reading takes, are together of bulk at most 1048576: NARROWER than '..Said'. Prove '..Said' where nothing that the law and all that it calls make is longer than what came in: it says more and counts as full. Else prove '..UptoSaid'. A law counts once. -/
mutual
def uptoBulk {H : Type} : DataW H → Nat
  | .lit (.string bytes) => bytes.length + 1
  | .lit _ => 1
  | .nil => 1
  | .ptr d => uptoBulk d + 1
  | .slice elems spare => uptoBulkAll elems + uptoBulkAll spare + 1
  | .agg parts => uptoBulkAll parts + 1
  | .iface _ d => uptoBulk d + 1
  | .map entries => uptoBulkEntries entries + 1
  | .held _ => 1
def uptoBulkAll {H : Type} : List (DataW H) → Nat
  | [] => 0
  | d :: r => uptoBulk d + uptoBulkAll r
def uptoBulkEntries {H : Type} : List (Lit × DataW H) → Nat
  | [] => 0
  | x :: r => uptoBulkEntry x + uptoBulkEntries r
def uptoBulkEntry {H : Type} : Lit × DataW H → Nat
  | (.string bytes, d) => bytes.length + uptoBulk d + 1
  | (_, d) => uptoBulk d + 1
 end
def uptoSmall : (H : Type) → List (DataW H) → Bool := fun _ ds => decide (uptoBulkAll ds ≤ 1048576)
def OpenSpec.upto (s : _root_.Go.ChangeSpec) : _root_.Go.OpenSpec := { _root_.Go.OpenSpec.ofChange s with cond := some uptoSmall }

/-- 'winnowerlaw13.HeapLast', WHERE WHAT IT READS IS OF BULK AT MOST 1048576: true; the input reads as it did. -/
def heapLastUptoRow : OpenClaim := { program := "ytldhlaabdhpdiaa", sum := "cd038d63439a84e5b8956d05e0f7d5c0c3941828e3d636ed55abc1aebc305be7", func := "winnower/winnowerlaw13.HeapLast", spec := "heapLast", apart := false, narrowed := true }
def HeapLastUptoSaid : Prop := heapLastUptoRow.holds Try.pinned (OpenSpec.upto heapLastSpec)

/-- 'winnowerlaw13.HeapApart', WHERE WHAT IT READS IS OF BULK AT MOST 1048576: true; the input reads as it did. -/
def heapApartUptoRow : OpenClaim := { program := "ytldhlaabdhpdiaa", sum := "cd038d63439a84e5b8956d05e0f7d5c0c3941828e3d636ed55abc1aebc305be7", func := "winnower/winnowerlaw13.HeapApart", spec := "heapApart", apart := false, narrowed := true }
def HeapApartUptoSaid : Prop := heapApartUptoRow.holds Try.pinned (OpenSpec.upto heapApartSpec)

/-- 'winnowerlaw13.HeapFresh', WHERE WHAT IT READS IS OF BULK AT MOST 1048576: true; the input reads as it did. -/
def heapFreshUptoRow : OpenClaim := { program := "ytldhlaabdhpdiaa", sum := "cd038d63439a84e5b8956d05e0f7d5c0c3941828e3d636ed55abc1aebc305be7", func := "winnower/winnowerlaw13.HeapFresh", spec := "heapFresh", apart := false, narrowed := true }
def HeapFreshUptoSaid : Prop := heapFreshUptoRow.holds Try.pinned (OpenSpec.upto heapFreshSpec)

/-- 'winnowerlaw13.HeapActs', WHERE WHAT IT READS IS OF BULK AT MOST 1048576: true; the input reads as it did. -/
def heapActsUptoRow : OpenClaim := { program := "ytldhlaabdhpdiaa", sum := "cd038d63439a84e5b8956d05e0f7d5c0c3941828e3d636ed55abc1aebc305be7", func := "winnower/winnowerlaw13.HeapActs", spec := "heapActs", apart := false, narrowed := true }
def HeapActsUptoSaid : Prop := heapActsUptoRow.holds Try.pinned (OpenSpec.upto heapActsSpec)

end Rows
end Go.Proofs.Ytldhlaabdhpdiaa
