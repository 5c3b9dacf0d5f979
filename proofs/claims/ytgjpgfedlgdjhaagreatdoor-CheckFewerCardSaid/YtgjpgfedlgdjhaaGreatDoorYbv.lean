/- CheckFewer returns true for every input, and each argument reads as before: the tied card. -/
import Derived.Test.YtgjpgfedlgdjhaaGreatDoorYbu
import Derived.Test.YtgjpgfedlgdjhaaGreatDoorYbt
import Derived.ChangeMaps5
set_option linter.unusedVariables false
set_option linter.unusedSimpArgs false
set_option maxHeartbeats 64000000
set_option maxRecDepth 8192
section
namespace Go.Proofs.YtgjpgfedlgdjhaaGreatDoor
open Go.ChangeShapes Go.WideShapes Go.ChangeAt Go.RowKit Go.W Go.Joins
theorem Ol (os : Os) : laidMet Tryz.prog Rows.checkFewerRow.laid ((Gw os).forCall (fun _ _ => 0) ⟨#[], #[.string { data := #[] }], []⟩).memory :=
 laidMet_of_run' 70 (by kernel_rfl) (by kernel_rfl)
theorem Mv (os : Os) {H : Type} (enc : TypeId × Value → H) :
 ∃ places, DataW.whole enc Tryz.prog ((Gw os).forCall (fun _ _ => 0) ⟨#[], #[.string { data := #[] }], []⟩).memory Tryz.f4.params.toList Rows.checkFewerSpec.vars false #[Value.string { data := #[] }].toList 8 = some ([.lit (.string [])], [], places) :=
 ⟨[], by kernel_rfl⟩
set_option maxRecDepth 100000 in
theorem Je (H : Type) (enc : TypeId × Value → H) (W : World) (base : Nat) (args : Array Value) (ds gs : List (DataW H)) (before : List MemPlace)
 (hval : ∀ (j : Nat) t v, Tryz.f4.params[j]? = some t → args[j]? = some v → Value.okWide Tryz.prog W .any base t v)
 (hW : DataW.Whole enc Tryz.prog Tryz.f4.params.toList Rows.checkFewerSpec.vars false W args.toList ds gs before) (hL : laidMetH Tryz.prog Rows.checkFewerRow.laid W) :
 Calls Tryz.prog 4 args W fun e W' => ∃ v, e = .returned v ∧ Rows.checkFewerSpec.post enc Tryz.prog Tryz.f4 false true false false W args v W' := by
 have hW' := hW
 obtain ⟨p, q, hA0, hV, rfl, hfz, hnd⟩ := hW
 have hA : DataW.TrodAll enc Tryz.prog W 0 (fun _ => true) true Tryz.f4.params.toList args.toList ds p := hA0
 rw [Tryz.params4] at hA hval
 obtain ⟨v0, vs0, d0, ds0, p0, q0, hargs, rfl, rfl, t0, r0⟩ := trodAll_cons hA
 obtain ⟨rfl, rfl, rfl⟩ := trodAll_nil r0
 obtain rfl : args = #[v0] := by cases args; simp_all
 obtain ⟨rfl, rfl⟩ := trodVars_none hV
 obtain ⟨a0, rfl, rfl, rfl, h0⟩ := Go.ChangeMaps.open_string Km (hval 0 9 v0 rfl rfl) t0
 refine (P7 (Rm (enc := enc) hL) a0).mono fun e W' ⟨he, hg⟩ => ?_
 subst he
 refine ⟨_, rfl, Ok (bt := 4) hW' Ls ?_ rfl rfl I2 rfl hg.no_below⟩
 intro t ht
 rw [Tryz.params4] at ht
 simp at ht
 obtain rfl := ht
 exact ⟨by kernel_rfl, of_decide_eq_true (by kernel_rfl)⟩
set_option maxRecDepth 100000 in
theorem Kz (os : Os) (started : os.Started) (H : Type) (enc : TypeId × Value → H) (F : Stop.Interp) :
 ReturnsInHanded {} Tryz.checked os 4 .any ((OpenSpec.ofChange Rows.checkFewerSpec).preRow enc Tryz.prog Tryz.f4 Rows.checkFewerRow.domain false Rows.checkFewerRow.laid) (((OpenSpec.ofChange Rows.checkFewerSpec).at F).post enc Tryz.prog Tryz.f4 false true false false) := by
 obtain ⟨places, hx⟩ := Mv os enc
 refine returnsInHanded_of_row (C := Tryz.checked) (s := OpenSpec.ofChange Rows.checkFewerSpec) Y0 started (by kernel_rfl) Tryz.func4
  (witness_row_at (enc := enc) (C := Tryz.checked) false (Gw os) #[.string { data := #[] }] rfl (by kernel_rfl) (by kernel_rfl) (by kernel_rfl)
   (OpenSpec.preRow_of_cond 8 hx (by kernel_rfl) (fun k hk => by cases hk) (by kernel_rfl) (Ol os))) ?_
 intro W base args ds gs before hval hW _ _ _ hL _ _
 exact Je H enc W base args ds gs before hval hW hL
theorem Om : Rows.CheckFewerSaid :=
 OpenClaim.holds_of_cond 4 Tryz.f4 rfl rfl rfl rfl rfl rfl rfl ⟨rfl, rfl, rfl, rfl, rfl⟩ rfl rfl rfl rfl rfl (by kernel_rfl) Tryz.func4 (by kernel_rfl)
  (of_decide_eq_true (by kernel_rfl)) (by unfold Func.isWrapper; first | (rw [if_pos (by decide +kernel)]; kernel_rfl) | (rw [if_neg (by decide +kernel)]; exact ⟨rfl, rfl⟩))
  (fun os started H enc _ F => by rw [OpenClaim.pre_eq_preRow]; exact Kz os started H enc F)
theorem Mw (f : FuncId) (fn : Func) (hf : Tryz.pinned.checked.prog.funcNamed "winnower/winnowerlaw11.CheckFewer" = some f) (hfn : Tryz.pinned.checked.prog.funcs[f]? = some fn) :
 false = Tryz.pinned.checked.prog.looks [] ∧ ∀ (j : Nat) t, fn.params[j]? = some t → Tryz.pinned.checked.prog.wantsStandIn t = false := by
 obtain rfl : f = 4 := Option.some.inj ((show Tryz.prog.funcNamed "winnower/winnowerlaw11.CheckFewer" = some 4 by kernel_rfl).symm.trans hf) |>.symm
 obtain rfl : fn = Tryz.f4 := (Option.some.inj (Tryz.func4.symm.trans hfn)).symm
 refine ⟨by kernel_rfl, fun j t ht => ?_⟩
 rw [Tryz.params4] at ht
 obtain rfl : t = 9 := by simpa using Array.mem_of_getElem? ht
 exact (show Tryz.prog.wantsStandIn 9 = false by kernel_rfl)
theorem cfewer_card : Rows.CheckFewerCardSaid :=
 Claim7.holds_tied_plain_at .later [] _ _ _ _ Om (fun _ h => by cases h) (by kernel_rfl) (fun _ h => by cases h) checkFewer_row_tie rfl ⟨rfl, rfl⟩ (by kernel_rfl) rfl Mw (by kernel_rfl)
end Go.Proofs.YtgjpgfedlgdjhaaGreatDoor
end
