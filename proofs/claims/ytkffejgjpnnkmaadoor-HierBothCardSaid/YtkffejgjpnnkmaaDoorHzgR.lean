/- HierBoth returns true for every input, and each argument reads as before: the tied card. -/
import Derived.Test.YtkffejgjpnnkmaaDoorHzg
import Derived.Test.YtkffejgjpnnkmaaDoorSy
set_option linter.unusedVariables false
set_option linter.unusedSimpArgs false
namespace Go.Proofs.YtkffejgjpnnkmaaDoor
open Go.ChangeShapes Go.WideShapes Go.ChangeAt Go.RowKit Go.W Go.Joins

theorem hboth_laid (os : Os) : laidMet Tryd.prog Rows.hierBothRow.laid ((i_world os).forCall (fun _ _ => 0) ⟨#[], #[.agg #[.slice none 0 0, .string { data := #[] }, .string { data := #[] }, .bool false, .bool false, .slice none 0 0, .slice none 0 0, .slice none 0 0, .int .i64 0, .int .i64 0], .slice none 0 0], []⟩).memory :=
  laidMet_of_run' 70 (by kernel_rfl) (by kernel_rfl)
theorem hboth_reads (os : Os) {H : Type} (enc : TypeId × Value → H) :
    ∃ places, DataW.whole enc Tryd.prog ((i_world os).forCall (fun _ _ => 0) ⟨#[], #[.agg #[.slice none 0 0, .string { data := #[] }, .string { data := #[] }, .bool false, .bool false, .slice none 0 0, .slice none 0 0, .slice none 0 0, .int .i64 0, .int .i64 0], .slice none 0 0], []⟩).memory Tryd.f6.params.toList Rows.hierBothSpec.vars false #[Value.agg #[.slice none 0 0, .string { data := #[] }, .string { data := #[] }, .bool false, .bool false, .slice none 0 0, .slice none 0 0, .slice none 0 0, .int .i64 0, .int .i64 0], Value.slice none 0 0].toList 8 = some ([.agg [.nil, .agg [.lit (.string []), .lit (.string []), .lit (.bool false), .lit (.bool false), .nil, .nil, .nil, .agg [.lit (.int .i64 0), .lit (.int .i64 0)]]], .nil], [], places) :=
  ⟨[], by kernel_rfl⟩

set_option maxRecDepth 100000 in
theorem hboth_contract (H : Type) (enc : TypeId × Value → H) (W : World) (base : Nat) (args : Array Value) (ds gs : List (DataW H)) (before : List MemPlace)
    (hval : ∀ (j : Nat) t v, Tryd.f6.params[j]? = some t → args[j]? = some v → Value.okWide Tryd.prog W .any base t v)
    (hW : DataW.Whole enc Tryd.prog Tryd.f6.params.toList Rows.hierBothSpec.vars false W args.toList ds gs before) (hL : laidMetH Tryd.prog Rows.hierBothRow.laid W) :
    Calls Tryd.prog 6 args W fun e W' => ∃ v, e = .returned v ∧ Rows.hierBothSpec.post enc Tryd.prog Tryd.f6 false true false false W args v W' := by
  have hW' := hW
  obtain ⟨p, q, hA0, hV, rfl, hfz, hnd⟩ := hW
  have hA : DataW.TrodAll enc Tryd.prog W 0 (fun _ => true) true Tryd.f6.params.toList args.toList ds p := hA0
  rw [Tryd.params6] at hA hval
  obtain ⟨v0, vs0, d0, ds0, p0, q0, hargs, rfl, rfl, t0, r0⟩ := trodAll_cons hA
  obtain ⟨v1, vs1, d1, ds1, p1, q1, rfl, rfl, rfl, t1, r1⟩ := trodAll_cons r0
  obtain ⟨rfl, rfl, rfl⟩ := trodAll_nil r1
  obtain rfl : args = #[v0, v1] := by cases args; simp_all
  obtain ⟨rfl, rfl⟩ := trodVars_none hV
  obtain ⟨a0, h0, z0⟩ := open_prog (hval 0 30 v0 rfl rfl) t0
  obtain ⟨a1, h1⟩ := open_ints (hval 1 41 v1 rfl rfl) t1
  refine (law_hboth (tabLaid (enc := enc) hL) h0 z0 h1).mono fun e W' ⟨he, hg⟩ => ?_
  subst he
  refine ⟨_, rfl, law_post (bt := 4) hW' i_laidOut ?_ rfl rfl i_underBool rfl hg.no_below⟩
  intro t ht
  rw [Tryd.params6] at ht
  simp at ht
  rcases ht with rfl | rfl
  · exact ⟨by kernel_rfl, of_decide_eq_true (by kernel_rfl)⟩
  · exact ⟨by kernel_rfl, of_decide_eq_true (by kernel_rfl)⟩

set_option maxRecDepth 100000 in
theorem hboth_lifted (os : Os) (started : os.Started) (H : Type) (enc : TypeId × Value → H) (F : Stop.Interp) :
    ReturnsInHanded {} Tryd.checked os 6 .any ((OpenSpec.ofChange Rows.hierBothSpec).preRow enc Tryd.prog Tryd.f6 Rows.hierBothRow.domain false Rows.hierBothRow.laid) (((OpenSpec.ofChange Rows.hierBothSpec).at F).post enc Tryd.prog Tryd.f6 false true false false) := by
  obtain ⟨places, hx⟩ := hboth_reads os enc
  refine returnsInHanded_of_row (C := Tryd.checked) (s := OpenSpec.ofChange Rows.hierBothSpec) i_own started (by kernel_rfl) Tryd.func6
    (witness_row_at (enc := enc) (C := Tryd.checked) false (i_world os) #[.agg #[.slice none 0 0, .string { data := #[] }, .string { data := #[] }, .bool false, .bool false, .slice none 0 0, .slice none 0 0, .slice none 0 0, .int .i64 0, .int .i64 0], .slice none 0 0] rfl (by kernel_rfl) (by kernel_rfl) (by kernel_rfl)
      (OpenSpec.preRow_of_cond 8 hx (by kernel_rfl) (fun k hk => by cases hk) (by kernel_rfl) (hboth_laid os))) ?_
  intro W base args ds gs before hval hW _ _ _ hL _ _
  exact hboth_contract H enc W base args ds gs before hval hW hL

theorem hboth_said : Rows.HierBothSaid :=
  OpenClaim.holds_of_cond 6 Tryd.f6 rfl rfl rfl rfl rfl rfl rfl ⟨rfl, rfl, rfl, rfl, rfl⟩ rfl rfl rfl rfl rfl (by kernel_rfl) Tryd.func6 (by kernel_rfl)
    (of_decide_eq_true (by kernel_rfl)) (by unfold Func.isWrapper; first | (rw [if_pos (by decide +kernel)]; kernel_rfl) | (rw [if_neg (by decide +kernel)]; exact ⟨rfl, rfl⟩))
    (fun os started H enc _ F => by rw [OpenClaim.pre_eq_preRow]; exact hboth_lifted os started H enc F)

theorem hboth_plain (f : FuncId) (fn : Func) (hf : Tryd.pinned.checked.prog.funcNamed "winnower/winnowerlaw08.HierBoth" = some f) (hfn : Tryd.pinned.checked.prog.funcs[f]? = some fn) :
    false = Tryd.pinned.checked.prog.looks [] ∧ ∀ (j : Nat) t, fn.params[j]? = some t → Tryd.pinned.checked.prog.wantsStandIn t = false := by
  obtain rfl : f = 6 := Option.some.inj ((show Tryd.prog.funcNamed "winnower/winnowerlaw08.HierBoth" = some 6 by kernel_rfl).symm.trans hf) |>.symm
  obtain rfl : fn = Tryd.f6 := (Option.some.inj (Tryd.func6.symm.trans hfn)).symm
  refine ⟨by kernel_rfl, fun j t ht => ?_⟩
  rw [Tryd.params6] at ht
  have hm : t = 30 ∨ t = 41 := by simpa using Array.mem_of_getElem? ht
  rcases hm with rfl | rfl
  · exact (show Tryd.prog.wantsStandIn 30 = false by kernel_rfl)
  · exact (show Tryd.prog.wantsStandIn 41 = false by kernel_rfl)

theorem hboth_card : Rows.HierBothCardSaid :=
  Claim7.holds_tied_plain_at .later [] _ _ _ _ hboth_said (fun _ h => by cases h) (by kernel_rfl) (fun _ h => by cases h) hierBoth_row_tie rfl ⟨rfl, rfl⟩ (by kernel_rfl) rfl hboth_plain (by kernel_rfl)
#print axioms hboth_card
end Go.Proofs.YtkffejgjpnnkmaaDoor
