/- What the form's reach says of the names of a program's classes. -/
import Derived.Test.YtkffejgjpnnkmaaDoorSy
import Derived.Test.YtkffejgjpnnkmaaDoorPe
set_option linter.unusedVariables false
set_option linter.unusedSimpArgs false
namespace Go.Proofs.YtkffejgjpnnkmaaDoor
open Go.ChangeShapes Go.WideShapes Go.ChangeAt Go.RowKit Go.W Go.Joins

section
variable {H : Type} {enc : TypeId × Value → H} {W : World}
theorem wAll_mem {P : Program} {e : TypeId} {d : DataW H} {x : Nat} (hx : x ∈ d.weights P e) : ∀ {l : List (DataW H)}, d ∈ l → x ∈ DataW.weightsAll P e l
  | [], h => by cases h
  | y :: l, h => by
    unfold DataW.weightsAll
    rcases List.mem_cons.1 h with rfl | h
    · exact List.mem_append.2 (.inl hx)
    · exact List.mem_append.2 (.inr (wAll_mem hx h))
theorem wEach_head {P : Program} {t : TypeId} {ts : List TypeId} {d : DataW H} {ds : List (DataW H)} {x : Nat} (hx : x ∈ d.weights P t) : x ∈ DataW.weightsEach P (t :: ts) (d :: ds) := by
  unfold DataW.weightsEach
  exact List.mem_append.2 (.inl hx)
theorem sized_prog {v : Value} {d : DataW H} {ps : List MemPlace} {cs : List Cls} (hp : ProgAt W v cs) (h : DataW.Trod enc Tryd.prog W 0 (fun _ => true) true 30 v d ps) (hw : ∀ x ∈ d.weights Tryd.prog 30, x ≤ reachBytes) : SzB cs := by
  obtain ⟨cv, m0, m1, m2, m3, m4, m5, m6, m7, m8, rfl, hc⟩ := hp
  obtain ⟨fuel, hf⟩ := h
  obtain ⟨f0, f1, hu, hft, hfo⟩ := i_underProg
  obtain ⟨xs, m, _, hx, _, hlen, hfs⟩ := DataW.trod_struct hu hf
  match xs, hlen with
  | [y0, y1], _ =>
    have h0 := hfs 0 f0 rfl
    rw [hft, hfo, show Tryd.prog.cellsOf 22 = 1 by kernel_rfl] at h0
    have h0' : DataW.trod enc Tryd.prog W 0 (fun _ => true) true m 22 [cv] = some y0 := h0
    have hd : d = .agg [y0.1, y1.1] := congrArg Prod.fst hx
    have hw0 : ∀ x ∈ y0.1.weights Tryd.prog 22, x ≤ reachBytes := fun x hx => hw x (by
      rw [hd]
      unfold DataW.weights
      rw [hu]
      show x ∈ DataW.weightsEach Tryd.prog [f0.type, f1.type] [y0.1, y1.1]
      rw [hft]
      exact wEach_head hx)
    intro c hcm
    obtain ⟨i, hi, rfl⟩ := List.mem_iff_getElem.1 hcm
    obtain ⟨b, off, cap, e, hcell, _, _⟩ := hc.cell (List.getElem?_eq_getElem hi)
    subst e
    rcases DataW.trod_slice i_underClss h0' with ⟨e, _⟩ | ⟨a, len, cap', elems, rest, m', _, e, hy, _, _, _, hlen', hel, _⟩
    · cases e
    · cases e
      have h1 := hel i hi
      rw [List.getElem?_eq_getElem (by omega), show Tryd.prog.cellsOf 49 = 10 from i_cellsCls] at h1
      cases hcc : W.cells? 0 ((⟨b, off, none⟩ : Addr).add (i * 10)) 10 with
      | none => rw [hcc] at h1; simp at h1
      | some q =>
        rw [hcc] at h1
        have h2 : DataW.trod enc Tryd.prog W 0 (fun _ => true) true m' 49 q = some elems[i] := h1
        obtain ⟨_, hql, hqc⟩ := World.cells?_some hcc
        have hq0 := hqc 0 (by omega)
        rw [Addr.add_lit, Addr.add_lit, Nat.add_zero, hcell.q0] at hq0
        obtain ⟨ys, m'', _, hx2, _, hlen2, hfs2⟩ := DataW.trod_struct Tryd.underlying49 h2
        have g0 := hfs2 0 _ rfl
        have hq : q.take 1 = [.string (cs[i]).name] := by
          cases q with
          | nil => simp at hql
          | cons x q => simp at hq0; subst hq0; rfl
        match ys, hlen2 with
        | z0 :: ys, _ =>
          have g1 : DataW.trod enc Tryd.prog W 0 (fun _ => true) true m'' 9 ((q.drop 0).take (Tryd.prog.cellsOf 9)) = some z0 := g0
          rw [i_cellsStr, List.drop_zero, hq] at g1
          obtain ⟨s, es, hz, _⟩ := DataW.trod_string i_underStr g1
          have hs : (cs[i]).name = s := by simpa using es
          subst hs
          have hmem : (cs[i]).name.data.toList.length ∈ y0.1.weights Tryd.prog 22 := by
            rw [congrArg Prod.fst hy]
            unfold DataW.weights
            rw [i_underClss]
            refine List.mem_cons_of_mem _ (List.mem_append.2 (.inl (wAll_mem (d := elems[i].1) ?_ (List.mem_map.2 ⟨elems[i], List.getElem_mem _, rfl⟩))))
            rw [congrArg Prod.fst hx2]
            unfold DataW.weights
            rw [Tryd.underlying49]
            refine wEach_head ?_
            rw [hz]
            unfold DataW.weights
            simp
          have := hw0 _ hmem
          have hb : reachBytes = 140737488351232 := rfl
          have hsz : (cs[i]).name.size = (cs[i]).name.data.toList.length := by simp
          omega
end
end Go.Proofs.YtkffejgjpnnkmaaDoor
