/- Part 40. -/
import Derived.Test.YtgjpgfedlgdjhaaGreatDoorYap
set_option linter.unusedVariables false
set_option linter.unusedSimpArgs false
set_option maxHeartbeats 64000000
set_option maxRecDepth 8192
section
namespace Go.Proofs.YtgjpgfedlgdjhaaGreatDoor
open Go.RowKit Go.W
def Oe (cs : List Aj) (vs : ByteArray → Option ByteArray) (t x : ByteArray) : Prop := Dv cs t ∧ Cx cs vs t x
section
variable {w0 w : World} {b : Nat} {cs : List Aj} {ms : List Ba} {xv : Value} {mb vb n : Nat} {vs : ByteArray → Option ByteArray} {ret : ByteArray} {l c : Int}
theorem Yt (h : Bl w0 w b cs ms xv mb vb n vs ret l c) (hv : F6 vs) (x7 x10 x11 : Int) (x1 x2 x3 x4 x5 : ByteArray) (x6 x8 x9 : Option Addr) (u6 v6 u8 v8 u9 v9 : Nat) (h1 : x1.size ≤ maxLen) (h4 : x4.size ≤ maxLen) :
 Calls Tryz.prog 101 #[.pointer (some ⟨b, 0, none⟩), .agg #[.int .i64 0, .string x1, .string x2, .string x3, .string x4, .string x5, .slice x6 u6 v6, .int .i64 x7, .slice x8 u8 v8, .slice x9 u9 v9, .int .i64 x10, .int .i64 x11]] w fun e w' => Am (Oe cs vs x4 x1) e ∧ Ch No w w' := by
 obtain ⟨wa, hwa, hba, hca⟩ := A2 w (.cells #[.int .i64 0, .string x1, .string x2, .string x3, .string x4, .string x5, .slice x6 u6 v6, .int .i64 x7, .slice x8 u8 v8, .slice x9 u9 v9, .int .i64 x10, .int .i64 x11] 128)
 have H := Aa (h.no hca)
 have HV := Aa hv
 have H1 := Aa h1
 have H4 := Aa h4
 have HCA := Aa hca
 obtain ⟨p0, p1⟩ := Co hba
 have p4 := Ab hba 4
 have hre := Yo H.out h4
 have hgo := Gn H.out hv h4 h1
 clear h hv h1 h4 hba hca
 by_cases hr : Dv cs x4
 {have HR := Aa hr
  clear hr
  go_in
  go_wp2_with fail
  clear hwa
  refine hre.mono ?_
  rintro e w1 ⟨hr1, rfl⟩
  obtain rfl := hr1.yes HR.out
  clear hr1 hre
  go_wp2_with fail
  refine hgo.mono ?_
  rintro e w2 ⟨⟨r, rfl, hr⟩, hc2⟩
  have HRR := Aa hr
  have HC2 := Aa hc2
  clear hgo hr hc2
  go_wp2
  go_ret
  exact ⟨B6 _ ⟨fun h => ⟨HR.out, HRR.out.1 (by simpa using h)⟩, fun h => by simpa using HRR.out.2 h.2⟩, HCA.out.trans HC2.out⟩}
 {have HR := Aa hr
  clear hr
  go_in
  go_wp2_with fail
  clear hwa
  refine hre.mono ?_
  rintro e w1 ⟨hr1, rfl⟩
  obtain rfl := hr1.no HR.out
  clear hr1 hre
  go_wp2
  go_ret
  exact ⟨.f (fun h => HR.out h.1), HCA.out⟩}
theorem Aek {w : World} (v0 : Value) : Calls Tryz.prog 62 #[v0, .slice none 0 0] w fun e w' => e = .returned (.bool true) ∧ Ch No w w' := by
 go_in
 go_wp2
 go_loopg [4, 6, 9] 0 (fun gg s4 s6 s9 wr => s9 = .int .i64 0 ∧ Ch No w wr)
 case atStart => exact ⟨rfl, Ch.refl _ _⟩
 case round =>
  obtain ⟨rfl, hc⟩ := hrel
  go_wp2
  go_ret
  exact ⟨rfl, hc⟩
def Of (P : Prop) (w : World) (b : Nat) (ob : Obj) (e : Ending) (w' : World) : Prop :=
 (P ∧ e = .returned (.bool true) ∧ Ch No w w') ∨ (¬ P ∧ e = .returned (.bool false) ∧ w'.heap[b]? = some ob ∧ Ch (fun k _ => k = b) w w')
theorem Of.t {P : Prop} {w w' : World} {b : Nat} {ob : Obj} (h : P) (hc : Ch No w w') : Of P w b ob (.returned (.bool true)) w' := .inl ⟨h, rfl, hc⟩
theorem Of.f {P : Prop} {w w' : World} {b : Nat} {ob : Obj} (h : ¬ P) (hb : w'.heap[b]? = some ob) (hc : Ch (fun k _ => k = b) w w') : Of P w b ob (.returned (.bool false)) w' := .inr ⟨h, rfl, hb, hc⟩
theorem Vg {w : World} {b : Nat} {x0 x1 x2 x3 x4 x5 : Value} {t : TypeId} (h : w.heap[b]? = some (.cells #[x0, x1, x2, x3, x4, x5] t (0, 0))) (u v : Value) :
 ∃ wf, (w.setCell ⟨b, 4, none⟩ u).setCell ⟨b, 5, none⟩ v = wf ∧ wf.heap[b]? = some (.cells #[x0, x1, x2, x3, u, v] t (0, 0)) ∧ Ch (fun k _ => k = b) w wf :=
 ⟨_, rfl, Af (Af h 4 u) 5 v, ((Ch.refl _ _).setCell (fun _ _ => rfl) _).setCell (fun _ _ => rfl) _⟩
def Sz (nm tn : ByteArray) (p q : Int) : List Value := [.int .i64 0, .string nm, .string ⟨#[]⟩, .string ⟨#[]⟩, .string tn, .string ⟨#[]⟩, .slice none 0 0, .int .i64 0, .slice none 0 0, .slice none 0 0, .int .i64 p, .int .i64 q]
theorem Af7 (h : Bl w0 w b cs ms xv mb vb n vs ret l c) (hv : F6 vs) {ao : Option Addr} {cap : Nat} {x t : ByteArray} {p q : Int} (hr : B5 w (.slice ao 1 cap) 12 [Sz x t p q]) (hx : x.size ≤ maxLen) (ht : t.size ≤ maxLen) :
 Calls Tryz.prog 62 #[.pointer (some ⟨b, 0, none⟩), .slice ao 1 cap] w (Of (Oe cs vs t x) w b (.cells #[xv, .pointer (some ⟨mb, 0, none⟩), .map (some vb), .string ret, .int .i64 p, .int .i64 q] 85 (0, 0))) := by
 obtain ⟨ao', cap', e0, _, _, _, hrow⟩ := hr
 obtain ⟨rb, off, rfl, hcell⟩ := hrow (by simp)
 cases e0
 have HCE := Aa (hcell 0 (Sz x t p q) rfl)
 have H := Aa h
 have HV := Aa hv
 have HX := Aa hx
 have HTS := Aa ht
 clear h hv hx ht hrow hcell
 go_in
 go_wp2
 go_loopg [4, 6, 9] 1 (fun gg s4 s6 s9 wr => ∃ k : Nat, k ≤ 1 ∧ 1 - k ≤ gg ∧ s9 = .int .i64 k ∧ Hid (k = 1 → Oe cs vs t x) ∧ Hid (Ch No w wr))
 case atStart => exact ⟨0, by omega, by omega, rfl, Aa (fun h => by cases h), Aa (Ch.refl _ _)⟩
 case round =>
  obtain ⟨k, hk, hg, rfl, HKN, HCR⟩ := hrel
  by_cases hk1 : k < 1
  {have q_ : ∀ j, j < 12 → wr.cell? ⟨rb, off + k * 12 + j, none⟩ = (Sz x t p q)[j]? := fun j hj => by
    have e : k = 0 := by omega
    subst e
    have := HCE.out j hj
    cases hs : (Sz x t p q)[j]? with
    | none => rw [List.getElem?_eq_none_iff] at hs; simp [Sz] at hs; omega
    | some u => rw [hs] at this; exact Ae this HCR.out (fun _ _ h => h)
   have q1 := q_ 1 (by omega)
   have q2 := q_ 2 (by omega)
   have q3 := q_ 3 (by omega)
   have q4 := q_ 4 (by omega)
   have q5 := q_ 5 (by omega)
   have q6 := q_ 6 (by omega)
   have q7 := q_ 7 (by omega)
   have q8 := q_ 8 (by omega)
   have q9 := q_ 9 (by omega)
   have q10 := q_ 10 (by omega)
   have q11 := q_ 11 (by omega)
   have q0 : wr.cell? ⟨rb, off + k * 12, none⟩ = some (.int .i64 0) := q_ 0 (by omega)
   simp only [Sz, List.getElem?_cons_zero, List.getElem?_cons_succ] at q1 q2 q3 q4 q5 q6 q7 q8 q9 q10 q11
   clear q_
   obtain ⟨wx, hwx, hbx, hcx⟩ := A2 wr (.cells (Sz x t p q).toArray 128)
   unfold Sz at hwx hbx
   have HBX := Aa hbx
   have HCX := Aa (HCR.out.trans hcx)
   have hfi := Yt (H.out.no HCX.out) HV.out 0 p q x ⟨#[]⟩ ⟨#[]⟩ t ⟨#[]⟩ none none none 0 0 0 0 0 0 HX.out HTS.out
   obtain ⟨p0, p1, p2, p3, p4, p5, p6, p7, p8, p9, p10, p11⟩ := Ay hbx
   clear hbx hcx
   by_cases hN : Oe cs vs t x
   {have HN := Aa hN
    clear hN
    go_wp2_with fail
    clear hwx
    refine hfi.mono ?_
    rintro e w1 ⟨hr1, hc1⟩
    obtain rfl := hr1.yes HN.out
    have HB1 := Aa (hc1.keep _ _ HBX.out (fun h => h))
    have HC1 := Aa (HCX.out.trans hc1)
    have hb1 := HB1.out
    clear hr1 hfi hc1 p0 p1 p2 p3 p4 p5 p6 p7 p8 p9 p10 p11 q0 q1 q2 q3 q4 q5 q6 q7 q8 q9 q10 q11
    have p8 := Ab hb1 8
    clear hb1
    go_wp2_with fail
    refine (Aek _).mono ?_
    rintro e w2 ⟨rfl, hc2⟩
    have HB2 := Aa (hc2.keep _ _ HB1.out (fun h => h))
    have HC2 := Aa (HC1.out.trans hc2)
    have hb2 := HB2.out
    have p9 := Ab hb2 9
    clear hc2 hb2 p8
    go_wp2_with fail
    refine (Aek _).mono ?_
    rintro e w3 ⟨rfl, hc3⟩
    have HC3 := Aa (HC2.out.trans hc3)
    clear hc3
    go_wp2
    go_roundg (1 - k - 1)
    case rel => exact ⟨k + 1, by omega, by omega, by go_num, Aa (fun _ => HN.out), HC3⟩
    case measure => omega}
   {have HN := Aa hN
    clear hN
    go_wp2_with fail
    clear hwx
    refine hfi.mono ?_
    rintro e w1 ⟨hr1, hc1⟩
    obtain rfl := hr1.no HN.out
    have hb1 := hc1.keep _ _ HBX.out (fun h => h)
    have HC1 := Aa (HCX.out.trans hc1)
    have hbk := HC1.out.keep _ _ H.out.blk (fun h => h)
    clear hr1 hfi hc1 p0 p1 p2 p3 p4 p5 p6 p7 p8 p9 p10 p11 q0 q1 q2 q3 q4 q5 q6 q7 q8 q9 q10 q11
    have p10 := Ab hb1 10
    have p11 := Ab hb1 11
    have r4 := Ab hbk 4
    have r5 := Ab hbk 5
    have f4 := Ad hbk 4
    have f5 := Ad hbk 5
    obtain ⟨wf, hwf, hfb, hfc⟩ := Vg hbk (.int .i64 p) (.int .i64 q)
    have HFB := Aa hfb
    have HFC := Aa hfc
    clear hb1 hbk hfb hfc
    go_wp2_with fail
    first | rw [hwf] | skip
    clear hwf
    go_ret
    exact .f HN.out HFB.out ((HC1.out.mono (fun _ _ _ h => h.elim)).trans HFC.out)}}
  {have ek : k = 1 := by omega
   subst ek
   go_wp2
   go_ret
   exact .t (HKN.out (by first | rfl | trivial)) HCR.out}
end
end Go.Proofs.YtgjpgfedlgdjhaaGreatDoor
end
