/- Part 16. -/
import Derived.Test.YtgjpgfedlgdjhaaGreatDoorYai
import Derived.Deep.RegionHeld3
set_option linter.unusedVariables false
set_option linter.unusedSimpArgs false
set_option maxHeartbeats 64000000
set_option maxRecDepth 8192
section
namespace Go.Proofs.YtgjpgfedlgdjhaaGreatDoor
open Go.RowKit Go.W
structure Bl (w0 w : World) (b : Nat) (cs : List Aj) (ms : List Ba) (xv : Value) (mb vb n : Nat) (vs : ByteArray → Option ByteArray) (ret : ByteArray) (l c : Int) : Prop where
 blk : w.heap[b]? = some (.cells #[xv, .pointer (some ⟨mb, 0, none⟩), .map (some vb), .string ret, .int .i64 l, .int .i64 c] 85 (0, 0))
 typ0 : Bv w0 xv cs
 mem0 : B3 w0 mb cs ms
 ch : Ch No w0 w
 ge : w0.heap.size ≤ b
 vars : A1 Tryz.prog 9 Bx w vb n (fun s => (vs s).map Value.string)
section
variable {w0 w w' : World} {b : Nat} {cs : List Aj} {ms : List Ba} {xv : Value} {mb vb n : Nat} {vs : ByteArray → Option ByteArray} {ret : ByteArray} {l c : Int}
theorem Bl.typ (h : Bl w0 w b cs ms xv mb vb n vs ret l c) : Bv w xv cs := h.typ0.no h.ch
theorem Bl.mem (h : Bl w0 w b cs ms xv mb vb n vs ret l c) : B3 w mb cs ms := h.mem0.no h.ch
theorem Bl.no (h : Bl w0 w b cs ms xv mb vb n vs ret l c) (hc : Ch No w w') : Bl w0 w' b cs ms xv mb vb n vs ret l c :=
 ⟨hc.keep _ _ h.blk (fun h => h), h.typ0, h.mem0, h.ch.trans hc, h.ge, h.vars.ch hc (fun _ _ h => h)⟩
theorem Bl.old (h : Bl w0 w b cs ms xv mb vb n vs ret l c) (hc : Ch (fun k _ => k = b) w w') : Ch No w0 w' := Ch.newOnly h.ch hc (fun k o _ e => by have e' : k = b := e; have := h.ge; omega)
theorem Bl.set (h : Bl w0 w b cs ms xv mb vb n vs ret l c) (hc : Ch (fun k _ => k = b) w w') {vb' n' : Nat} {vs' : ByteArray → Option ByteArray} {ret' : ByteArray} {l' c' : Int}
 (hb : w'.heap[b]? = some (.cells #[xv, .pointer (some ⟨mb, 0, none⟩), .map (some vb'), .string ret', .int .i64 l', .int .i64 c'] 85 (0, 0))) (hm : A1 Tryz.prog 9 Bx w' vb' n' (fun s => (vs' s).map Value.string)) : Bl w0 w' b cs ms xv mb vb' n' vs' ret' l' c' :=
 ⟨hb, h.typ0, h.mem0, h.old hc, h.ge, hm⟩
end
def Di (vs : ByteArray → Option ByteArray) (x : ByteArray) : ByteArray := (vs x).getD ⟨#[]⟩
theorem Yn (w : World) : (zeroValue 9).run Tryz.prog w = .ok (.string ⟨#[]⟩) w := by kernel_rfl
def F6 (vs : ByteArray → Option ByteArray) : Prop := ∀ x t, vs x = some t → t.size ≤ maxLen
theorem F6.of {vs : ByteArray → Option ByteArray} (h : F6 vs) (x : ByteArray) : (Di vs x).size ≤ maxLen := by
 unfold Di
 cases hx : vs x with
 | none => exact Nat.zero_le _
 | some t => exact h x t hx
theorem B6 (r : Bool) {P : Prop} (h : r = true ↔ P) : Am P (.returned (.bool r)) := ⟨r, rfl, h⟩
section
variable {w0 w : World} {b : Nat} {cs : List Aj} {ms : List Ba} {xv : Value} {mb vb n : Nat} {vs : ByteArray → Option ByteArray} {ret : ByteArray} {l c : Int}
theorem U5 (h : B3 w mb cs ms) : Calls Tryz.prog 16 #[.pointer (some ⟨mb, 0, none⟩)] w fun e w' => (∃ xv, e = .returned xv ∧ Bv w xv cs) ∧ w = w' := by
 obtain ⟨cv, m0, m1, m2, m3, m4, m5, m6, m7, m8, xv, ov, bs, h⟩ := h
 have hT := Aa h.typ
 have c10 := Ab h.blk 10
 clear h
 go_in
 go_wp2
 go_ret
 exact ⟨⟨_, rfl, hT.out⟩, rfl⟩
theorem cof (h : Bl w0 w b cs ms xv mb vb n vs ret l c) {x : ByteArray} (hx : x.size ≤ maxLen) :
 Calls Tryz.prog 136 #[.pointer (some ⟨b, 0, none⟩), .string x] w fun e w' => e = .returned (.string (Di vs x)) ∧ w = w' := by
 have c2 := Ab h.blk 2
 have hrun := h.vars.look Gx Tryz.underlying83 (Yn w) (Gy hx)
 have e1 : (((vs x).map Value.string).getD (.string ⟨#[]⟩)) = .string (Di vs x) := by
  unfold Di; cases vs x <;> rfl
 rw [e1] at hrun
 have hrun' : (Instr.lookup 83 (.map (some vb)) (.string x) false).run Tryz.prog w = .ok (.string (Di vs x)) w := hrun
 clear h e1 hrun
 go_in
 go_wp2
 go_ret
 exact ⟨rfl, rfl⟩
def Dv (cs : List Aj) (t : ByteArray) : Prop := ∃ i c, As cs t = some i ∧ cs[i]? = some c ∧ c.face = false
theorem Yo (h : Bl w0 w b cs ms xv mb vb n vs ret l c) {t : ByteArray} (ht : t.size ≤ maxLen) :
 Calls Tryz.prog 134 #[.pointer (some ⟨b, 0, none⟩), .string t] w fun e w' => Am (Dv cs t) e ∧ w = w' := by
 have c0 := Ab h.blk 0
 have hcl := Fr h.typ ht
 obtain ⟨xb, tb, abv, ss, hxe, hx⟩ := h.typ
 subst hxe
 have x0 := Ab hx.blk 0
 have HTB := Aa hx.tab
 clear h hx
 cases hf : As cs t with
 | none =>
  rw [Ii hf, show Cd (As cs) t = false from by unfold Cd; rw [hf]; rfl] at hcl
  have HF := Aa hf
  clear hf
  go_in
  go_wp2_with fail
  refine hcl.mono ?_
  rintro e w1 ⟨rfl, rfl⟩
  go_wp2
  go_ret
  exact ⟨.f (fun ⟨i, c, hi, _⟩ => by rw [HF.out] at hi; cases hi), rfl⟩
 | some i =>
  obtain ⟨k, hk⟩ := gE (l := cs) (i := i) (Ey hf)
  have hfa := Qh HTB.out hk
  rw [Ei hf, show Cd (As cs) t = true from by unfold Cd; rw [hf]; rfl] at hcl
  have HF := Aa hf
  have HK := Aa hk
  clear hf hk
  go_in
  go_wp2_with fail
  refine hcl.mono ?_
  rintro e w1 ⟨rfl, rfl⟩
  go_wp2_with fail
  refine hfa.mono ?_
  rintro e w1 ⟨rfl, rfl⟩
  go_wp2
  go_ret
  refine ⟨B6 _ ?_, rfl⟩
  constructor
  {intro hr
   exact ⟨i, k, HF.out, HK.out, by simpa using hr⟩}
  {rintro ⟨i', c', h1, h2, h3⟩
   rw [HF.out] at h1; cases h1
   rw [HK.out] at h2; cases h2
   simpa using h3}
theorem Hc (h : Bl w0 w b cs ms xv mb vb n vs ret l c) {x : ByteArray} (hx : x.size ≤ maxLen) :
 Calls Tryz.prog 136 #[.pointer (some ⟨b, 0, none⟩), .string x] w fun e w' => e = .returned (.string (Di vs x)) ∧ Ch No w w' :=
 (cof h hx).mono (by rintro e w' ⟨rfl, rfl⟩; exact ⟨rfl, Ch.refl _ _⟩)
def Cx (cs : List Aj) (vs : ByteArray → Option ByteArray) (t x : ByteArray) : Prop := t ≠ ⟨#[]⟩ ∧ Eh cs t (Di vs x)
theorem Gn (h : Bl w0 w b cs ms xv mb vb n vs ret l c) (hv : F6 vs) {t x : ByteArray} (ht : t.size ≤ maxLen) (hx : x.size ≤ maxLen) :
 Calls Tryz.prog 135 #[.pointer (some ⟨b, 0, none⟩), .string t, .string x] w fun e w' => Am (Cx cs vs t x) e ∧ Ch No w w' := by
 have H := Aa h
 have c0 := Ab h.blk 0
 have HT := Aa h.typ
 have HTZ := Aa ht
 have HVZ := Aa (hv.of x)
 have HXZ := Aa hx
 clear h hv ht hx
 by_cases he : t = ⟨#[]⟩
 {have e1 : (t.toList != []) = false := by rw [bne, lit t [] he]; rfl
  have e2 := lit t [] he
  have HE := Aa he
  clear he
  go_in
  have HSx := Aa (show w.cell? ⟨b, 0, none⟩ = some xv from c0)
  go_wp2_with fail
  refine wp_region_held_drew (S := fun w' => w'.cell? ⟨b, 0, none⟩ = some xv) (by kernel_rfl) HSx.out (fun hHeld => ?_)
  refine tk 0 rfl ?_
  refine tk 1 rfl ?_
  refine tk 2 rfl ?_
  refine tn 3 rfl ?_
  refine tn 4 rfl ?_
  refine tn 5 rfl ?_
  refine tn 6 rfl ?_
  refine tn 7 rfl ?_
  refine tn 8 rfl ?_
  refine tn 9 rfl ?_
  refine tn 10 rfl ?_
  refine tn 11 rfl ?_
  refine tk 12 rfl ?_
  refine tk 13 rfl ?_
  refine wpAnyH_done (by kernel_rfl) ?_ _
  go_wp2
  go_ret
  exact ⟨.f (fun h => h.1 HE.out), (Ch.refl No w).drew⟩}
 {have e1 : (t.toList != []) = true := by rw [bne, Bf t [] he]; rfl
  have e2 := Bf t [] he
  have HE := Aa he
  clear he
  have HSx := Aa (show w.cell? ⟨b, 0, none⟩ = some xv from c0)
  go_in
  go_wp2_with fail
  have HSd := Aa (show w.drew.cell? ⟨b, 0, none⟩ = some xv from HSx.out)
  go_region_held3 (fun w' => w'.cell? ⟨b, 0, none⟩ = some xv) (first | with_reducible exact HSx.out | with_reducible exact HSd.out | with_reducible exact HS1.out | with_reducible exact HS2.out | go_keep) (first | (go_at_call 136; refine (Hc (H.out.no ((Ch.refl No w).drew)) HXZ.out).mono ?_; rintro e w1 ⟨rfl, hc1⟩; have K1 := Aa (((Ch.refl No w).drew).trans hc1); have HS1 := Aa (show w1.cell? ⟨b, 0, none⟩ = some xv from Ae HSx.out K1.out (fun _ _ h => h)); clear hc1) | (go_at_call 139; refine (Gg (HT.out.no K1.out) HTZ.out HVZ.out).mono ?_; rintro e w2 ⟨⟨r, hr0, hr⟩, hc2⟩; have K2 := Aa (K1.out.trans hc2); have HS2 := Aa (show w2.cell? ⟨b, 0, none⟩ = some xv from Ae HSx.out K2.out (fun _ _ h => h)); clear hc2; subst hr0; have HR := Aa hr; clear hr))
  all_goals (
   go_wp2
   go_ret
   exact ⟨B6 _ ⟨fun h => ⟨HE.out, HR.out.1 (by simpa using h)⟩, fun h => by simpa using HR.out.2 h.2⟩, K2.out⟩)}
end
end Go.Proofs.YtgjpgfedlgdjhaaGreatDoor
end
