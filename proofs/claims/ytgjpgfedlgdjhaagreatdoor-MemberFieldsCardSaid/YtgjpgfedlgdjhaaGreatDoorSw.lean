/- What the rows of members share: how a program's members are opened. -/
import Derived.Test.YtgjpgfedlgdjhaaGreatDoorMb
import Derived.Test.YtgjpgfedlgdjhaaGreatDoorSy
set_option linter.unusedVariables false
set_option linter.unusedSimpArgs false
set_option linter.constructorNameAsVariable false
set_option maxRecDepth 100000
namespace Go.Proofs.YtgjpgfedlgdjhaaGreatDoor
open Go.ChangeShapes Go.WideShapes Go.ChangeAt Go.RowKit Go.W Go.Joins

theorem i_cellsVar : Tryz.prog.cellsOf 64 = 4 := by kernel_rfl
theorem i_cellsMethod : Tryz.prog.cellsOf 29 = 9 := by kernel_rfl
section
variable {H : Type} {enc : TypeId × Value → H} {W : World} {base : Nat} {spare : Nat → Bool} {held : Bool}
/-- a field, a static, a parameter, opened -/
theorem open_var {fuel : Nat} {cs : List Value} {x : DataW H × List MemPlace} (hl : cs.length = 4) (h : DataW.trod enc Tryz.prog W base spare held fuel 64 cs = some x) : ∃ v : Vr, cs = v.cells ∧ v.nm.size ≤ maxLen ∧ v.ty.size ≤ maxLen := by
  match cs, hl with
  | [x0, x1, x2, x3], _ =>
    obtain ⟨m, y0, y1, y2, h0, h1, h2⟩ := fields3 Tryz.underlying64 h
    obtain ⟨s0, e0, _, z0⟩ := DataW.trod_string i_underStr h0
    obtain ⟨s1, e1, _, z1⟩ := DataW.trod_string i_underStr h1
    obtain ⟨_, w0, w1, h80, h81⟩ := fields2 Tryz.underlying27 h2
    obtain ⟨i8, e8, _⟩ := DataW.trod_int i_underInt h80
    obtain ⟨i9, e9, _⟩ := DataW.trod_int i_underInt h81
    have k0 : [x0] = [.string s0] := e0
    have k1 : [x1] = [.string s1] := e1
    have k2 : [x2] = [.int .i64 i8] := e8
    have k3 : [x3] = [.int .i64 i9] := e9
    cases k0; cases k1; cases k2; cases k3
    exact ⟨⟨s0, s1, i8, i9⟩, rfl, z1, z0⟩
/-- a slice of them, opened -/
theorem open_vars {fuel : Nat} {cs : List Value} {x : DataW H × List MemPlace} (h : DataW.trod enc Tryz.prog W base spare held fuel 24 cs = some x) :
    ∃ ao n cap l, cs = [.slice ao n cap] ∧ n = l.length ∧ VarsAt W (.slice ao n cap) l ∧ ∀ v ∈ l, v.nm.size ≤ maxLen ∧ v.ty.size ≤ maxLen := by
  obtain ⟨v, css, rfl, hrow, hcs, _⟩ := open_row Tryz.underlying24 i_cellsVar (by omega) h
  have hr := hrow
  obtain ⟨ao, cap, rfl, h2, h3, h6, h7⟩ := hrow
  obtain ⟨l, rfl, hq⟩ := exists_map Vr.cells (fun v => v.nm.size ≤ maxLen ∧ v.ty.size ≤ maxLen) css (fun c hc => by
    obtain ⟨m, y, hy⟩ := hcs c hc
    exact open_var (h6 c hc) hy)
  exact ⟨ao, _, cap, l, rfl, List.length_map _, hr, hq⟩
/-- a method, opened -/
theorem open_method {fuel : Nat} {cs : List Value} {x : DataW H × List MemPlace} (hl : cs.length = 9) (h : DataW.trod enc Tryz.prog W base spare held fuel 29 cs = some x) :
    ∃ m : Mt, cs = m.cells ∧ VarsAt W (.slice m.pa m.ps.length m.pc) m.ps ∧ m.nm.size ≤ maxLen ∧ m.ret.size ≤ maxLen ∧ ∀ v ∈ m.ps, v.ty.size ≤ maxLen := by
  match cs, hl with
  | [x0, x1, x2, x3, x4, x5, x6, x7, x8], _ =>
    obtain ⟨m, y0, y1, y2, y3, y4, y5, y6, y7, h0, h1, h2, h3, h4, h5, h6, h7⟩ := fields8 Tryz.underlying29 h
    obtain ⟨s0, e0, _, z0⟩ := DataW.trod_string i_underStr h0
    obtain ⟨s1, e1, _, z1⟩ := DataW.trod_string i_underStr h1
    obtain ⟨b2, e2, _⟩ := DataW.trod_bool i_underBool h2
    obtain ⟨b3, e3, _⟩ := DataW.trod_bool i_underBool h3
    obtain ⟨a4, n4, c4, l4, e4, rfl, g4, z4⟩ := open_vars h4
    obtain ⟨a5, n5, c5, e5⟩ := sl_form Tryz.underlying24 h5
    obtain ⟨a6, n6, c6, e6⟩ := sl_form Tryz.underlying25 h6
    obtain ⟨_, w0, w1, h80, h81⟩ := fields2 Tryz.underlying27 h7
    obtain ⟨i8, e8, _⟩ := DataW.trod_int i_underInt h80
    obtain ⟨i9, e9, _⟩ := DataW.trod_int i_underInt h81
    have k0 : [x0] = [.string s0] := e0
    have k1 : [x1] = [.string s1] := e1
    have k2 : [x2] = [.bool b2] := e2
    have k3 : [x3] = [.bool b3] := e3
    have k4 : [x4] = [.slice a4 l4.length c4] := e4
    have k5 : [x5] = [.slice a5 n5 c5] := e5
    have k6 : [x6] = [.slice a6 n6 c6] := e6
    have k7 : [x7] = [.int .i64 i8] := e8
    have k8 : [x8] = [.int .i64 i9] := e9
    cases k0; cases k1; cases k2; cases k3; cases k4; cases k5; cases k6; cases k7; cases k8
    exact ⟨⟨s0, s1, b2, b3, l4, a4, c4, (a5, n5, c5), (a6, n6, c6), i8, i9⟩, rfl, g4, z1, z0, fun v hv => (z4 v hv).2⟩
/-- a slice of them, opened -/
theorem open_methods {fuel : Nat} {cs : List Value} {x : DataW H × List MemPlace} (h : DataW.trod enc Tryz.prog W base spare held fuel 47 cs = some x) :
    ∃ ao n cap l, cs = [.slice ao n cap] ∧ n = l.length ∧ MtsAt W (.slice ao n cap) l ∧ ∀ x ∈ l, x.nm.size ≤ maxLen ∧ x.ret.size ≤ maxLen ∧ ∀ v ∈ x.ps, v.ty.size ≤ maxLen := by
  obtain ⟨v, css, rfl, hrow, hcs, _⟩ := open_row Tryz.underlying47 i_cellsMethod (by omega) h
  have hr := hrow
  obtain ⟨ao, cap, rfl, h2, h3, h6, h7⟩ := hrow
  obtain ⟨l, rfl, hq⟩ := exists_map Mt.cells (fun m => VarsAt W (.slice m.pa m.ps.length m.pc) m.ps ∧ m.nm.size ≤ maxLen ∧ m.ret.size ≤ maxLen ∧ ∀ v ∈ m.ps, v.ty.size ≤ maxLen) css (fun c hc => by
    obtain ⟨m, y, hy⟩ := hcs c hc
    exact open_method (h6 c hc) hy)
  exact ⟨ao, _, cap, l, rfl, List.length_map _, ⟨hr, fun m hm => (hq m hm).1⟩, fun x hx => (hq x hx).2⟩
/-- a class with its members, opened -/
theorem open_clsM {fuel : Nat} {cs : List Value} {x : DataW H × List MemPlace} (hl : cs.length = 10) (h : DataW.trod enc Tryz.prog W base spare held fuel 50 cs = some x) :
    ∃ (c : Cls) (m : Mem), cs = c.cells ∧ (StrsAt W (.slice c.fa c.faces.length c.fc) c.faces ∧ c.name.size ≤ maxLen ∧ c.sup.size ≤ maxLen ∧ ∀ f ∈ c.faces, f.size ≤ maxLen) ∧ MemAt W c m ∧ SzMem m := by
  match cs, hl with
  | [x0, x1, x2, x3, x4, x5, x6, x7, x8, x9], _ =>
    obtain ⟨m, y0, y1, y2, y3, y4, y5, y6, y7, y8, h0, h1, h2, h3, h4, h5, h6, h7, h8⟩ := fields9 Tryz.underlying50 h
    obtain ⟨s0, e0, _, z0⟩ := DataW.trod_string i_underStr h0
    obtain ⟨s1, e1, _, z1⟩ := DataW.trod_string i_underStr h1
    obtain ⟨b2, e2, _⟩ := DataW.trod_bool i_underBool h2
    obtain ⟨a3, n3, c3, l3, e3, rfl, g3, z3⟩ := open_strs h3
    obtain ⟨a4, n4, c4, l4, e4, rfl, g4, z4⟩ := open_vars h4
    obtain ⟨a5, n5, c5, l5, e5, rfl, g5, z5⟩ := open_vars h5
    obtain ⟨a6, n6, c6, l6, e6, rfl, g6, z6⟩ := open_methods h6
    obtain ⟨p7, e7⟩ := pt_form Tryz.underlying48 h7
    obtain ⟨_, w0, w1, h80, h81⟩ := fields2 Tryz.underlying27 h8
    obtain ⟨i8, e8, _⟩ := DataW.trod_int i_underInt h80
    obtain ⟨i9, e9, _⟩ := DataW.trod_int i_underInt h81
    have k0 : [x0] = [.string s0] := e0
    have k1 : [x1] = [.string s1] := e1
    have k2 : [x2] = [.bool b2] := e2
    have k3 : [x3] = [.slice a3 l3.length c3] := e3
    have k4 : [x4] = [.slice a4 l4.length c4] := e4
    have k5 : [x5] = [.slice a5 l5.length c5] := e5
    have k6 : [x6] = [.slice a6 l6.length c6] := e6
    have k7 : [x7] = [.pointer p7] := e7
    have k8 : [x8] = [.int .i64 i8] := e8
    have k9 : [x9] = [.int .i64 i9] := e9
    cases k0; cases k1; cases k2; cases k3; cases k4; cases k5; cases k6; cases k7; cases k8; cases k9
    exact ⟨⟨s0, s1, b2, l3, a3, c3, (a4, l4.length, c4), (a5, l5.length, c5), (a6, l6.length, c6), p7, i8, i9⟩, ⟨l4, l5, l6⟩, rfl, ⟨g3, z0, z1, z3⟩, ⟨g4, g5, g6⟩, ⟨z4, z5, z6⟩⟩
/-- a program, opened: its classes and their members -/
theorem open_progM {b0 : Nat} {v : Value} {d : DataW H} {ps : List MemPlace} (hv : Value.okWide Tryz.prog W .any b0 31 v) (h : DataW.Trod enc Tryz.prog W 0 (fun _ => true) true 31 v d ps) : ∃ cs ms, ProgAt W v cs ∧ SzP cs ∧ MemsAt W cs ms ∧ SzM ms := by
  obtain ⟨arr, rfl, hsz⟩ := okWide_struct Tryz.underlying31 hv
  obtain ⟨x0, x1, x2, x3, x4, x5, x6, x7, x8, x9, rfl⟩ := array10 (hsz.trans i_cellsProg)
  obtain ⟨fuel, hf⟩ := h
  obtain ⟨m, y0, y1, h0, _⟩ := fields2 Tryz.underlying31 hf
  obtain ⟨v0, css, e, hrow, hcs, _⟩ := open_row i_underClss i_cellsCls (by omega) h0
  have k0 : [x0] = [v0] := e
  cases k0
  have hr := hrow
  obtain ⟨_, _, _, _, _, h6, _⟩ := hrow
  obtain ⟨cm, rfl, hq⟩ := exists_map (fun x : Cls × Mem => x.1.cells) (fun x => (StrsAt W (.slice x.1.fa x.1.faces.length x.1.fc) x.1.faces ∧ x.1.name.size ≤ maxLen ∧ x.1.sup.size ≤ maxLen ∧ ∀ f ∈ x.1.faces, f.size ≤ maxLen) ∧ MemAt W x.1 x.2 ∧ SzMem x.2) css (fun c hc => by
    obtain ⟨m, y, hy⟩ := hcs c hc
    obtain ⟨c', m', h1, h2⟩ := open_clsM (h6 c hc) hy
    exact ⟨(c', m'), h1, h2⟩)
  have hin : ∀ c ∈ cm.map (·.1), ∃ m, (c, m) ∈ cm := fun c hc => by
    obtain ⟨⟨c', m'⟩, h1, rfl⟩ := List.mem_map.1 hc
    exact ⟨m', h1⟩
  have hr' : RowAt W x0 10 ((cm.map (·.1)).map Cls.cells) := by rw [List.map_map]; exact hr
  refine ⟨cm.map (·.1), cm.map (·.2), ⟨_, _, _, _, _, _, _, _, _, _, rfl, hr', fun c hc => ?_⟩, fun c hc => ?_, ⟨by rw [List.length_map, List.length_map], fun i c m h1 h2 => ?_⟩, fun m hm => ?_⟩
  · obtain ⟨m, hm⟩ := hin c hc
    exact (hq _ hm).1.1
  · obtain ⟨m, hm⟩ := hin c hc
    exact (hq _ hm).1.2
  · rw [List.getElem?_map] at h1 h2
    cases hx : cm[i]? with
    | none => rw [hx] at h1; cases h1
    | some x =>
      rw [hx] at h1 h2
      have e1 : x.1 = c := by simpa using h1
      have e2 : x.2 = m := by simpa using h2
      subst e1 e2
      exact (hq x (List.mem_of_getElem? hx)).2.1
  · obtain ⟨x, h1, rfl⟩ := List.mem_map.1 hm
    exact (hq x h1).2.2
end
end Go.Proofs.YtgjpgfedlgdjhaaGreatDoor
