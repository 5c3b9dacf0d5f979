/- SubUnder returns true for every input, and each argument reads as before: the tied card. -/
import Derived.Test.YtkffejgjpnnkmaaDoorPn
import Derived.Test.YtkffejgjpnnkmaaDoorSz
set_option linter.unusedVariables false
set_option linter.unusedSimpArgs false
namespace Go.Proofs.YtkffejgjpnnkmaaDoor
open Go.ChangeShapes Go.WideShapes Go.ChangeAt Go.RowKit Go.W Go.Joins

theorem sunder_laid (os : Os) : laidMet Tryd.prog Rows.subUnderRow.laid ((i_world os).forCall (fun _ _ => 0) ⟨#[], #[.agg #[.slice none 0 0, .string { data := #[] }, .string { data := #[] }, .bool false, .bool false, .slice none 0 0, .slice none 0 0, .slice none 0 0, .int .i64 0, .int .i64 0]], []⟩).memory :=
  laidMet_of_run' 70 (by kernel_rfl) (by kernel_rfl)
theorem sunder_reads (os : Os) {H : Type} (enc : TypeId × Value → H) :
    ∃ places, DataW.whole enc Tryd.prog ((i_world os).forCall (fun _ _ => 0) ⟨#[], #[.agg #[.slice none 0 0, .string { data := #[] }, .string { data := #[] }, .bool false, .bool false, .slice none 0 0, .slice none 0 0, .slice none 0 0, .int .i64 0, .int .i64 0]], []⟩).memory Tryd.f11.params.toList Rows.subUnderSpec.vars false #[Value.agg #[.slice none 0 0, .string { data := #[] }, .string { data := #[] }, .bool false, .bool false, .slice none 0 0, .slice none 0 0, .slice none 0 0, .int .i64 0, .int .i64 0]].toList 8 = some ([.agg [.nil, .agg [.lit (.string []), .lit (.string []), .lit (.bool false), .lit (.bool false), .nil, .nil, .nil, .agg [.lit (.int .i64 0), .lit (.int .i64 0)]]]], [], places) :=
  ⟨[], by kernel_rfl⟩

set_option maxRecDepth 100000 in
theorem sunder_contract (H : Type) (enc : TypeId × Value → H) (W : World) (base : Nat) (args : Array Value) (ds gs : List (DataW H)) (before : List MemPlace)
    (hval : ∀ (j : Nat) t v, Tryd.f11.params[j]? = some t → args[j]? = some v → Value.okWide Tryd.prog W .any base t v)
    (hW : DataW.Whole enc Tryd.prog Tryd.f11.params.toList Rows.subUnderSpec.vars false W args.toList ds gs before) (hL : laidMetH Tryd.prog Rows.subUnderRow.laid W)
    (hwt : (DataW.weightsEach Tryd.prog (Tryd.f11.params.toList ++ (OpenSpec.ofChange Rows.subUnderSpec).bare.plain.varTypes Tryd.prog) (ds ++ gs)).all (· ≤ reachBytes) = true) :
    Calls Tryd.prog 11 args W fun e W' => ∃ v, e = .returned v ∧ Rows.subUnderSpec.post enc Tryd.prog Tryd.f11 false true false false W args v W' := by
  have hW' := hW
  obtain ⟨p, q, hA0, hV, rfl, hfz, hnd⟩ := hW
  have hA : DataW.TrodAll enc Tryd.prog W 0 (fun _ => true) true Tryd.f11.params.toList args.toList ds p := hA0
  rw [Tryd.params11] at hA hval hwt
  obtain ⟨v0, vs0, d0, ds0, p0, q0, hargs, rfl, rfl, t0, r0⟩ := trodAll_cons hA
  obtain ⟨rfl, rfl, rfl⟩ := trodAll_nil r0
  obtain rfl : args = #[v0] := by cases args; simp_all
  obtain ⟨rfl, rfl⟩ := trodVars_none hV
  obtain ⟨a0, h0, z0⟩ := open_prog (hval 0 30 v0 rfl rfl) t0
  have b0 := sized_prog h0 t0 (fun x hx => by
    have := List.all_eq_true.1 hwt x (wEach_head hx)
    simpa using this)
  refine (law_sunder (tabLaid (enc := enc) hL) h0 z0 b0).mono fun e W' ⟨he, hg⟩ => ?_
  subst he
  refine ⟨_, rfl, law_post (bt := 4) hW' i_laidOut ?_ rfl rfl i_underBool rfl hg.no_below⟩
  intro t ht
  rw [Tryd.params11] at ht
  simp at ht
  obtain rfl := ht
  exact ⟨by kernel_rfl, of_decide_eq_true (by kernel_rfl)⟩

set_option maxRecDepth 100000 in
theorem sunder_lifted (os : Os) (started : os.Started) (H : Type) (enc : TypeId × Value → H) (F : Stop.Interp) :
    ReturnsInHanded {} Tryd.checked os 11 .any ((OpenSpec.ofChange Rows.subUnderSpec).preRow enc Tryd.prog Tryd.f11 Rows.subUnderRow.domain false Rows.subUnderRow.laid) (((OpenSpec.ofChange Rows.subUnderSpec).at F).post enc Tryd.prog Tryd.f11 false true false false) := by
  obtain ⟨places, hx⟩ := sunder_reads os enc
  refine returnsInHanded_of_row (C := Tryd.checked) (s := OpenSpec.ofChange Rows.subUnderSpec) i_own started (by kernel_rfl) Tryd.func11
    (witness_row_at (enc := enc) (C := Tryd.checked) false (i_world os) #[.agg #[.slice none 0 0, .string { data := #[] }, .string { data := #[] }, .bool false, .bool false, .slice none 0 0, .slice none 0 0, .slice none 0 0, .int .i64 0, .int .i64 0]] rfl (by kernel_rfl) (by kernel_rfl) (by kernel_rfl)
      (OpenSpec.preRow_of_cond 8 hx (by kernel_rfl) (fun k hk => by cases hk) (by kernel_rfl) (sunder_laid os))) ?_
  intro W base args ds gs before hval hW _ _ hwt hL _ _
  exact sunder_contract H enc W base args ds gs before hval hW hL hwt

theorem sunder_said : Rows.SubUnderSaid :=
  OpenClaim.holds_of_cond 11 Tryd.f11 rfl rfl rfl rfl rfl rfl rfl ⟨rfl, rfl, rfl, rfl, rfl⟩ rfl rfl rfl rfl rfl (by kernel_rfl) Tryd.func11 (by kernel_rfl)
    (of_decide_eq_true (by kernel_rfl)) (by unfold Func.isWrapper; first | (rw [if_pos (by decide +kernel)]; kernel_rfl) | (rw [if_neg (by decide +kernel)]; exact ⟨rfl, rfl⟩))
    (fun os started H enc _ F => by rw [OpenClaim.pre_eq_preRow]; exact sunder_lifted os started H enc F)

theorem sunder_plain (f : FuncId) (fn : Func) (hf : Tryd.pinned.checked.prog.funcNamed "winnower/winnowerlaw09.SubUnder" = some f) (hfn : Tryd.pinned.checked.prog.funcs[f]? = some fn) :
    false = Tryd.pinned.checked.prog.looks [] ∧ ∀ (j : Nat) t, fn.params[j]? = some t → Tryd.pinned.checked.prog.wantsStandIn t = false := by
  obtain rfl : f = 11 := Option.some.inj ((show Tryd.prog.funcNamed "winnower/winnowerlaw09.SubUnder" = some 11 by kernel_rfl).symm.trans hf) |>.symm
  obtain rfl : fn = Tryd.f11 := (Option.some.inj (Tryd.func11.symm.trans hfn)).symm
  refine ⟨by kernel_rfl, fun j t ht => ?_⟩
  rw [Tryd.params11] at ht
  obtain rfl : t = 30 := by simpa using Array.mem_of_getElem? ht
  exact (show Tryd.prog.wantsStandIn 30 = false by kernel_rfl)

theorem sunder_card : Rows.SubUnderCardSaid :=
  Claim7.holds_tied_plain_at .later [] _ _ _ _ sunder_said (fun _ h => by cases h) (by kernel_rfl) (fun _ h => by cases h) subUnder_row_tie rfl ⟨rfl, rfl⟩ (by kernel_rfl) rfl sunder_plain (by kernel_rfl)
#print axioms sunder_card
end Go.Proofs.YtkffejgjpnnkmaaDoor
