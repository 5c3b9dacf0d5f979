/- SubTells returns true for every input, and each argument reads as before: the tied card. -/
import Derived.Test.YtkffejgjpnnkmaaDoorPm
import Derived.Test.YtkffejgjpnnkmaaDoorSy
import Derived.ChangeMaps5
set_option linter.unusedVariables false
set_option linter.unusedSimpArgs false
namespace Go.Proofs.YtkffejgjpnnkmaaDoor
open Go.ChangeShapes Go.WideShapes Go.ChangeAt Go.RowKit Go.W Go.Joins

theorem stells_laid (os : Os) : laidMet Tryd.prog Rows.subTellsRow.laid ((i_world os).forCall (fun _ _ => 0) ⟨#[], #[.agg #[.slice none 0 0, .string { data := #[] }, .string { data := #[] }, .bool false, .bool false, .slice none 0 0, .slice none 0 0, .slice none 0 0, .int .i64 0, .int .i64 0], .string { data := #[] }, .string { data := #[] }], []⟩).memory :=
  laidMet_of_run' 70 (by kernel_rfl) (by kernel_rfl)
theorem stells_reads (os : Os) {H : Type} (enc : TypeId × Value → H) :
    ∃ places, DataW.whole enc Tryd.prog ((i_world os).forCall (fun _ _ => 0) ⟨#[], #[.agg #[.slice none 0 0, .string { data := #[] }, .string { data := #[] }, .bool false, .bool false, .slice none 0 0, .slice none 0 0, .slice none 0 0, .int .i64 0, .int .i64 0], .string { data := #[] }, .string { data := #[] }], []⟩).memory Tryd.f10.params.toList Rows.subTellsSpec.vars false #[Value.agg #[.slice none 0 0, .string { data := #[] }, .string { data := #[] }, .bool false, .bool false, .slice none 0 0, .slice none 0 0, .slice none 0 0, .int .i64 0, .int .i64 0], Value.string { data := #[] }, Value.string { data := #[] }].toList 8 = some ([.agg [.nil, .agg [.lit (.string []), .lit (.string []), .lit (.bool false), .lit (.bool false), .nil, .nil, .nil, .agg [.lit (.int .i64 0), .lit (.int .i64 0)]]], .lit (.string []), .lit (.string [])], [], places) :=
  ⟨[], by kernel_rfl⟩

set_option maxRecDepth 100000 in
theorem stells_contract (H : Type) (enc : TypeId × Value → H) (W : World) (base : Nat) (args : Array Value) (ds gs : List (DataW H)) (before : List MemPlace)
    (hval : ∀ (j : Nat) t v, Tryd.f10.params[j]? = some t → args[j]? = some v → Value.okWide Tryd.prog W .any base t v)
    (hW : DataW.Whole enc Tryd.prog Tryd.f10.params.toList Rows.subTellsSpec.vars false W args.toList ds gs before) (hL : laidMetH Tryd.prog Rows.subTellsRow.laid W) :
    Calls Tryd.prog 10 args W fun e W' => ∃ v, e = .returned v ∧ Rows.subTellsSpec.post enc Tryd.prog Tryd.f10 false true false false W args v W' := by
  have hW' := hW
  obtain ⟨p, q, hA0, hV, rfl, hfz, hnd⟩ := hW
  have hA : DataW.TrodAll enc Tryd.prog W 0 (fun _ => true) true Tryd.f10.params.toList args.toList ds p := hA0
  rw [Tryd.params10] at hA hval
  obtain ⟨v0, vs0, d0, ds0, p0, q0, hargs, rfl, rfl, t0, r0⟩ := trodAll_cons hA
  obtain ⟨v1, vs1, d1, ds1, p1, q1, rfl, rfl, rfl, t1, r1⟩ := trodAll_cons r0
  obtain ⟨v2, vs2, d2, ds2, p2, q2, rfl, rfl, rfl, t2, r2⟩ := trodAll_cons r1
  obtain ⟨rfl, rfl, rfl⟩ := trodAll_nil r2
  obtain rfl : args = #[v0, v1, v2] := by cases args; simp_all
  obtain ⟨rfl, rfl⟩ := trodVars_none hV
  obtain ⟨a0, h0, z0⟩ := open_prog (hval 0 30 v0 rfl rfl) t0
  obtain ⟨a1, rfl, rfl, rfl, h1⟩ := Go.ChangeMaps.open_string i_underStr (hval 1 9 v1 rfl rfl) t1
  obtain ⟨a2, rfl, rfl, rfl, h2⟩ := Go.ChangeMaps.open_string i_underStr (hval 2 9 v2 rfl rfl) t2
  refine (law_stells (tabLaid (enc := enc) hL) h0 z0).mono fun e W' ⟨he, hg⟩ => ?_
  subst he
  refine ⟨_, rfl, law_post (bt := 4) hW' i_laidOut ?_ rfl rfl i_underBool rfl hg.no_below⟩
  intro t ht
  rw [Tryd.params10] at ht
  simp at ht
  rcases ht with rfl | rfl
  · exact ⟨by kernel_rfl, of_decide_eq_true (by kernel_rfl)⟩
  · exact ⟨by kernel_rfl, of_decide_eq_true (by kernel_rfl)⟩

set_option maxRecDepth 100000 in
theorem stells_lifted (os : Os) (started : os.Started) (H : Type) (enc : TypeId × Value → H) (F : Stop.Interp) :
    ReturnsInHanded {} Tryd.checked os 10 .any ((OpenSpec.ofChange Rows.subTellsSpec).preRow enc Tryd.prog Tryd.f10 Rows.subTellsRow.domain false Rows.subTellsRow.laid) (((OpenSpec.ofChange Rows.subTellsSpec).at F).post enc Tryd.prog Tryd.f10 false true false false) := by
  obtain ⟨places, hx⟩ := stells_reads os enc
  refine returnsInHanded_of_row (C := Tryd.checked) (s := OpenSpec.ofChange Rows.subTellsSpec) i_own started (by kernel_rfl) Tryd.func10
    (witness_row_at (enc := enc) (C := Tryd.checked) false (i_world os) #[.agg #[.slice none 0 0, .string { data := #[] }, .string { data := #[] }, .bool false, .bool false, .slice none 0 0, .slice none 0 0, .slice none 0 0, .int .i64 0, .int .i64 0], .string { data := #[] }, .string { data := #[] }] rfl (by kernel_rfl) (by kernel_rfl) (by kernel_rfl)
      (OpenSpec.preRow_of_cond 8 hx (by kernel_rfl) (fun k hk => by cases hk) (by kernel_rfl) (stells_laid os))) ?_
  intro W base args ds gs before hval hW _ _ _ hL _ _
  exact stells_contract H enc W base args ds gs before hval hW hL

theorem stells_said : Rows.SubTellsSaid :=
  OpenClaim.holds_of_cond 10 Tryd.f10 rfl rfl rfl rfl rfl rfl rfl ⟨rfl, rfl, rfl, rfl, rfl⟩ rfl rfl rfl rfl rfl (by kernel_rfl) Tryd.func10 (by kernel_rfl)
    (of_decide_eq_true (by kernel_rfl)) (by unfold Func.isWrapper; first | (rw [if_pos (by decide +kernel)]; kernel_rfl) | (rw [if_neg (by decide +kernel)]; exact ⟨rfl, rfl⟩))
    (fun os started H enc _ F => by rw [OpenClaim.pre_eq_preRow]; exact stells_lifted os started H enc F)

theorem stells_plain (f : FuncId) (fn : Func) (hf : Tryd.pinned.checked.prog.funcNamed "winnower/winnowerlaw09.SubTells" = some f) (hfn : Tryd.pinned.checked.prog.funcs[f]? = some fn) :
    false = Tryd.pinned.checked.prog.looks [] ∧ ∀ (j : Nat) t, fn.params[j]? = some t → Tryd.pinned.checked.prog.wantsStandIn t = false := by
  obtain rfl : f = 10 := Option.some.inj ((show Tryd.prog.funcNamed "winnower/winnowerlaw09.SubTells" = some 10 by kernel_rfl).symm.trans hf) |>.symm
  obtain rfl : fn = Tryd.f10 := (Option.some.inj (Tryd.func10.symm.trans hfn)).symm
  refine ⟨by kernel_rfl, fun j t ht => ?_⟩
  rw [Tryd.params10] at ht
  have hm : t = 30 ∨ t = 9 := by simpa using Array.mem_of_getElem? ht
  rcases hm with rfl | rfl
  · exact (show Tryd.prog.wantsStandIn 30 = false by kernel_rfl)
  · exact (show Tryd.prog.wantsStandIn 9 = false by kernel_rfl)

theorem stells_card : Rows.SubTellsCardSaid :=
  Claim7.holds_tied_plain_at .later [] _ _ _ _ stells_said (fun _ h => by cases h) (by kernel_rfl) (fun _ h => by cases h) subTells_row_tie rfl ⟨rfl, rfl⟩ (by kernel_rfl) rfl stells_plain (by kernel_rfl)
#print axioms stells_card
end Go.Proofs.YtkffejgjpnnkmaaDoor
