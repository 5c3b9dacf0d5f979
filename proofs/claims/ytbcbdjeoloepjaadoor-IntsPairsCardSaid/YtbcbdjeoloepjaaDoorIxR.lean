/- IntsPairs returns true for every input, and each argument reads as before: the tied card. -/
import Derived.Test.YtbcbdjeoloepjaaDoorIx
import Derived.Test.YtbcbdjeoloepjaaDoorIt
set_option linter.unusedVariables false
namespace Go.Proofs.YtbcbdjeoloepjaaDoor
open Go.ChangeShapes Go.WideShapes Go.ChangeAt Go.RowKit Go.W Go.Joins

theorem pairs_laid (os : Os) : laidMet Tryd.prog Rows.intsPairsRow.laid ((i_world os).forCall (fun _ _ => 0) ⟨#[], #[.slice none 0 0, .slice none 0 0], []⟩).memory :=
  laidMet_of_run' 70 (by kernel_rfl) (by kernel_rfl)
theorem pairs_reads (os : Os) {H : Type} (enc : TypeId × Value → H) :
    ∃ places, DataW.whole enc Tryd.prog ((i_world os).forCall (fun _ _ => 0) ⟨#[], #[.slice none 0 0, .slice none 0 0], []⟩).memory Tryd.f5.params.toList Rows.intsPairsSpec.vars false #[Value.slice none 0 0, Value.slice none 0 0].toList 8 = some ([.nil, .nil], [], places) :=
  ⟨[], by kernel_rfl⟩

theorem pairs_contract (H : Type) (enc : TypeId × Value → H) (W : World) (base : Nat) (args : Array Value) (ds gs : List (DataW H)) (before : List MemPlace)
    (hval : ∀ (j : Nat) t v, Tryd.f5.params[j]? = some t → args[j]? = some v → Value.okWide Tryd.prog W .any base t v)
    (hW : DataW.Whole enc Tryd.prog Tryd.f5.params.toList Rows.intsPairsSpec.vars false W args.toList ds gs before) (hL : laidMetH Tryd.prog Rows.intsPairsRow.laid W) :
    Calls Tryd.prog 5 args W fun e W' => ∃ v, e = .returned v ∧ Rows.intsPairsSpec.post enc Tryd.prog Tryd.f5 false true false false W args v W' := by
  have hW' := hW
  obtain ⟨p, q, hA0, hV, rfl, hfz, hnd⟩ := hW
  have hA : DataW.TrodAll enc Tryd.prog W 0 (fun _ => true) true Tryd.f5.params.toList args.toList ds p := hA0
  rw [Tryd.params5] at hA hval
  obtain ⟨v0, vs0, d0, ds0, p0, q0, hargs, rfl, rfl, t0, r0⟩ := trodAll_cons hA
  obtain ⟨v1, vs1, d1, ds1, p1, q1, rfl, rfl, rfl, t1, r1⟩ := trodAll_cons r0
  obtain ⟨rfl, rfl, rfl⟩ := trodAll_nil r1
  obtain rfl : args = #[v0, v1] := by cases args; simp_all
  obtain ⟨rfl, rfl⟩ := trodVars_none hV
  obtain ⟨a0, h0⟩ := open_ints (hval 0 22 v0 rfl rfl) t0
  obtain ⟨a1, h1⟩ := open_ints (hval 1 22 v1 rfl rfl) t1
  refine (law_pairs (tabOf (enc := enc) hL) h0 h1).mono fun e W' ⟨he, hg⟩ => ?_
  subst he
  refine ⟨_, rfl, law_post (bt := 4) hW' i_laidOut ?_ rfl rfl i_underBool rfl hg.no_below⟩
  intro t ht
  rw [Tryd.params5] at ht
  simp at ht
  obtain rfl := ht
  exact ⟨by kernel_rfl, of_decide_eq_true (by kernel_rfl)⟩

set_option maxRecDepth 100000 in
theorem pairs_lifted (os : Os) (started : os.Started) (H : Type) (enc : TypeId × Value → H) (F : Stop.Interp) :
    ReturnsInHanded {} Tryd.checked os 5 .any ((OpenSpec.ofChange Rows.intsPairsSpec).preRow enc Tryd.prog Tryd.f5 Rows.intsPairsRow.domain false Rows.intsPairsRow.laid) (((OpenSpec.ofChange Rows.intsPairsSpec).at F).post enc Tryd.prog Tryd.f5 false true false false) := by
  obtain ⟨places, hx⟩ := pairs_reads os enc
  refine returnsInHanded_of_row (C := Tryd.checked) (s := OpenSpec.ofChange Rows.intsPairsSpec) i_own started (by kernel_rfl) Tryd.func5
    (witness_row_at (enc := enc) (C := Tryd.checked) false (i_world os) #[.slice none 0 0, .slice none 0 0] rfl (by kernel_rfl) (by kernel_rfl) (by kernel_rfl)
      (OpenSpec.preRow_of_cond 8 hx (by kernel_rfl) (fun k hk => by cases hk) (by kernel_rfl) (pairs_laid os))) ?_
  intro W base args ds gs before hval hW _ _ _ hL _ _
  exact pairs_contract H enc W base args ds gs before hval hW hL

theorem pairs_said : Rows.IntsPairsSaid :=
  OpenClaim.holds_of_cond 5 Tryd.f5 rfl rfl rfl rfl rfl rfl rfl ⟨rfl, rfl, rfl, rfl, rfl⟩ rfl rfl rfl rfl rfl (by kernel_rfl) Tryd.func5 (by kernel_rfl)
    (of_decide_eq_true (by kernel_rfl)) (by unfold Func.isWrapper; first | (rw [if_pos (by decide +kernel)]; kernel_rfl) | (rw [if_neg (by decide +kernel)]; exact ⟨rfl, rfl⟩))
    (fun os started H enc _ F => by rw [OpenClaim.pre_eq_preRow]; exact pairs_lifted os started H enc F)

theorem pairs_plain (f : FuncId) (fn : Func) (hf : Tryd.pinned.checked.prog.funcNamed "winnower/winnowerlaw01.IntsPairs" = some f) (hfn : Tryd.pinned.checked.prog.funcs[f]? = some fn) :
    false = Tryd.pinned.checked.prog.looks [] ∧ ∀ (j : Nat) t, fn.params[j]? = some t → Tryd.pinned.checked.prog.wantsStandIn t = false := by
  obtain rfl : f = 5 := Option.some.inj ((show Tryd.prog.funcNamed "winnower/winnowerlaw01.IntsPairs" = some 5 by kernel_rfl).symm.trans hf) |>.symm
  obtain rfl : fn = Tryd.f5 := (Option.some.inj (Tryd.func5.symm.trans hfn)).symm
  refine ⟨by kernel_rfl, fun j t ht => ?_⟩
  rw [Tryd.params5] at ht
  obtain rfl : t = 22 := by simpa using Array.mem_of_getElem? ht
  exact (show Tryd.prog.wantsStandIn 22 = false by kernel_rfl)

theorem pairs_card : Rows.IntsPairsCardSaid :=
  Claim7.holds_tied_plain_at .later [] _ _ _ _ pairs_said (fun _ h => by cases h) (by kernel_rfl) (fun _ h => by cases h) intsPairs_row_tie rfl ⟨rfl, rfl⟩ (by kernel_rfl) rfl pairs_plain (by kernel_rfl)
#print axioms pairs_card
end Go.Proofs.YtbcbdjeoloepjaaDoor
