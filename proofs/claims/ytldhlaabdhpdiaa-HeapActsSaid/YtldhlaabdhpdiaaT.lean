/- HeapActs returns true for every input, and its argument reads as before. No condition. -/
import Derived.Test.YtldhlaabdhpdiaaS
import Derived.Test.YtldhlaabdhpdiaaLaw
set_option linter.unusedVariables false
namespace Go.Proofs.Ytldhlaabdhpdiaa
open Go.ChangeShapes Go.WideShapes Go.ChangeAt Go.RowKit Go.W Go.Joins

theorem acts_cells37 : Try.prog.cellsOf 37 = 6 := by kernel_rfl
theorem acts_cells23 : Try.prog.cellsOf 23 = 2 := by kernel_rfl
theorem acts_cells3 : Try.prog.cellsOf 3 = 1 := by kernel_rfl
theorem acts_cells9 : Try.prog.cellsOf 9 = 1 := by kernel_rfl

theorem act_of {H : Type} {enc : TypeId × Value → H} {W : World} {base : Nat} {spare : Nat → Bool} {held : Bool} {fuel : Nat} {cs : List Value} {y : DataW H × List MemPlace} (hl6 : cs.length = 6)
    (h : DataW.trod enc Try.prog W base spare held fuel 37 cs = some y) : ∃ a : Act, cs = a.cells ∧ a.ok := by
  obtain ⟨n, y0, y1, y2, y3, y4, f0, f1, f2, f3, f4⟩ := fields5 Try.underlying37 h
  match cs, hl6 with
  | [c0, c1, c2, c3, c4, c5], _ =>
    simp only [acts_cells3, acts_cells9, acts_cells23] at f0 f1 f2 f3 f4
    obtain ⟨a0, e0, _, w0⟩ := DataW.trod_int Try.underlying3 f0
    obtain ⟨a1, e1, _, w1⟩ := DataW.trod_int Try.underlying3 f1
    obtain ⟨a2, e2, _, w2⟩ := DataW.trod_int Try.underlying3 f2
    obtain ⟨a3, e3, _, w3⟩ := DataW.trod_string Try.underlying9 f3
    obtain ⟨m, z0, z1, g0, g1⟩ := fields2 Try.underlying23 f4
    simp only [acts_cells3] at g0 g1
    obtain ⟨b0, d0, _, _⟩ := DataW.trod_int Try.underlying3 g0
    obtain ⟨b1, d1, _, _⟩ := DataW.trod_int Try.underlying3 g1
    simp at e0 e1 e2 e3 d0 d1
    subst e0 e1 e2 e3 d0 d1
    exact ⟨⟨a0, a1, a2, a3, (b0, b1)⟩, rfl, ⟨w0, w1, w2⟩⟩

theorem open_acts {H : Type} {enc : TypeId × Value → H} {W : World} {base : Nat} {v : Value} {d : DataW H} {ps : List MemPlace} (hv : Value.okWide Try.prog W .any base 35 v) (h : DataW.Trod enc Try.prog W 0 (fun _ => true) true 35 v d ps) :
    ∃ acts : List Act, RowAt W v 6 (acts.map Act.cells) ∧ ∀ a ∈ acts, a.ok := by
  obtain ⟨a0, len, cap, rfl⟩ := okWide_slice Try.underlying35 hv
  obtain ⟨fuel, hf⟩ := h
  obtain ⟨v', css, e, hrow, hcs, _⟩ := open_row Try.underlying35 acts_cells37 (by omega) hf
  obtain rfl : v' = .slice a0 len cap := by simpa [Value.cells] using e.symm
  have hrow0 := hrow
  obtain ⟨_, _, _, _, _, h6, _⟩ := hrow
  obtain ⟨acts, rfl, ho⟩ := exists_map Act.cells Act.ok css (fun c hc => by
    obtain ⟨m, y, hy⟩ := hcs c hc
    exact act_of (h6 c hc) hy)
  exact ⟨acts, hrow0, ho⟩

theorem acts_own : ownKnob Try.prog.godebug = none := by kernel_rfl
theorem acts_laidOut : laidOutB Try.prog = true := by kernel_rfl

set_option maxRecDepth 100000 in
theorem acts_lifted (os : Os) (started : os.Started) (H : Type) (enc : TypeId × Value → H) :
    ReturnsInHanded {} Try.checked os 6 .any (Rows.heapActsSpec.pre6 enc Try.prog Try.f6 Rows.heapActsRow.domain false) (Rows.heapActsSpec.post enc Try.prog Try.f6 false true false false) := by
  refine returnsInHanded_of_change (C := Try.checked) acts_own started (by kernel_rfl) Try.func6
    (ChangeSpec.witness6 (enc := enc) (C := Try.checked) false ⟨#[], #[.slice none 0 0], []⟩ 8 (by kernel_rfl) (by kernel_rfl) (by kernel_rfl) (by kernel_rfl)) ?_
  intro W base args ds gs before hval0 hW hcnd _
  have hval : ∀ (j : Nat) t v, Try.f6.params[j]? = some t → args[j]? = some v → Value.okWide Try.prog W .any base t v := hval0
  have hW' := hW
  obtain ⟨p, q, hA0, hV, rfl, hfz, hnd⟩ := hW
  have hA : DataW.TrodAll enc Try.prog W 0 (fun _ => true) true Try.f6.params.toList args.toList ds p := hA0
  rw [Try.params6] at hA hval
  obtain ⟨v0, vs0, d0, ds0, p0, q0, hargs, rfl, rfl, h0, r0⟩ := trodAll_cons hA
  obtain ⟨rfl, rfl, rfl⟩ := trodAll_nil r0
  obtain rfl : args = #[v0] := by cases args; simp_all
  obtain ⟨rfl, rfl⟩ := trodVars_none hV
  obtain ⟨acts, hrow, hok⟩ := open_acts (hval 0 35 v0 rfl rfl) h0
  have walk : Calls Try.prog 6 #[v0] W fun e w' => e = .returned (.bool true) ∧ Ch No W w' := by
    by_cases h60 : acts.length ≤ 60
    · exact acts_small v0 acts W h60 hrow hok
    · obtain ⟨ao, cap, rfl, hc, hm, _⟩ := hrow
      unfold maxLen at hm
      rw [List.length_map] at *
      exact acts_big ao _ cap W (by omega) (by omega)
  refine walk.mono fun e W' ⟨he, hg⟩ => ?_
  subst he
  refine ⟨_, rfl, law_post (bt := 4) hW' acts_laidOut ?_ rfl rfl Try.underlying4 rfl hg.no_below⟩
  intro t ht
  rw [Try.params6] at ht
  simp at ht
  obtain rfl := ht
  exact ⟨by kernel_rfl, of_decide_eq_true (by kernel_rfl)⟩

theorem acts_holds : Rows.HeapActsSaid :=
  OpenClaim.holds_of_wide 6 Try.f6 rfl rfl rfl rfl rfl rfl rfl ⟨rfl, rfl, rfl, rfl, rfl⟩ rfl rfl rfl rfl rfl (by kernel_rfl) Try.func6 (by kernel_rfl)
    (of_decide_eq_true (by kernel_rfl)) (by unfold Func.isWrapper; first | (rw [if_pos (by decide +kernel)]; kernel_rfl) | (rw [if_neg (by decide +kernel)]; exact ⟨rfl, rfl⟩))
    (fun os started H enc _ => acts_lifted os started H enc)
#print axioms acts_holds
end Go.Proofs.Ytldhlaabdhpdiaa
