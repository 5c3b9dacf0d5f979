/- Part 44. -/
import Derived.Test.YtgjpgfedlgdjhaaGreatDoorYbj
import Derived.Test.YtgjpgfedlgdjhaaGreatDoorYbk
import Derived.Test.YtgjpgfedlgdjhaaGreatDoorYbl
import Derived.Test.YtgjpgfedlgdjhaaGreatDoorYbm
import Derived.Test.YtgjpgfedlgdjhaaGreatDoorYbn
import Derived.Test.YtgjpgfedlgdjhaaGreatDoorYbq
set_option linter.unusedVariables false
set_option linter.unusedSimpArgs false
set_option maxHeartbeats 64000000
set_option maxRecDepth 8192
section
namespace Go.Proofs.YtgjpgfedlgdjhaaGreatDoor
open Go.RowKit Go.W
section
variable {w0 w : World} {b : Nat} {cs : List Aj} {ms : List Ba} {xv : Value} {mb vb nn : Nat} {vs : ByteArray → Option ByteArray} {ret : ByteArray} {l c : Int}
def Rl (k : Int) : Prop := k ≠ 0 ∧ k ≠ 1 ∧ k ≠ 2 ∧ k ≠ 3 ∧ k ≠ 4 ∧ k ≠ 5 ∧ k ≠ 6 ∧ k ≠ 7 ∧ k ≠ 8 ∧ k ≠ 9 ∧ k ≠ 10
theorem Aer (E : Dc cs ms) (h : Bl w0 w b cs ms xv mb vb nn vs ret l c) (hv : F6 vs) (hr : ret.size ≤ maxLen) {k : Int} {x y z t f : ByteArray} (hs : Bb x y z t f) {ga : Option Addr} {gs : List ByteArray} {gc : Nat} (hga : Ah w (.slice ga gs.length gc) gs) (hgz : gs.length ≤ 41 ∧ ∀ x ∈ gs, x.size ≤ 20000) (ba oa : Option Addr) (n l2 c2 : Int) (bn bc on oc : Nat) (hk : Rl k) :
 Calls Tryz.prog 142 #[.pointer (some ⟨b, 0, none⟩), .agg #[.int .i64 k, .string x, .string y, .string z, .string t, .string f, .slice ga gs.length gc, .int .i64 n, .slice ba bn bc, .slice oa on oc, .int .i64 l2, .int .i64 c2]] w (D7 (Fh cs ms vs ret ⟨k, x, y, z, t, f, n, l2, c2⟩ gs) w) := by
 obtain ⟨m0, m1, m2, m3, m4, m5, m6, m7, m8, m9, m10⟩ := hk
 by_cases k11 : k = 11
 {subst k11
  exact Aea E h hv hr hs hga hgz ba oa n l2 c2 bn bc on oc}
 by_cases k12 : k = 12
 {subst k12
  exact Aeb E h hv hr hs hga hgz ba oa n l2 c2 bn bc on oc}
 by_cases k13 : k = 13
 {subst k13
  exact Aec E h hv hr hs hga hgz ba oa n l2 c2 bn bc on oc}
 by_cases k14 : k = 14
 {subst k14
  exact Aat E h hv hr hs hga hgz ba oa n l2 c2 bn bc on oc}
 by_cases k15 : k = 15
 {subst k15
  exact Aav E h hv hr hs hga hgz ba oa n l2 c2 bn bc on oc}
 by_cases k16 : k = 16
 {subst k16
  exact Aaw E h hv hr hs hga hgz ba oa n l2 c2 bn bc on oc}
 by_cases k17 : k = 17
 {subst k17
  exact Aau E h hv hr hs hga hgz ba oa n l2 c2 bn bc on oc}
 by_cases k18 : k = 18
 {subst k18
  exact Aeg E h hv hr hs hga hgz ba oa n l2 c2 bn bc on oc}
 by_cases k19 : k = 19
 {subst k19
  exact Aeh E h hv hr hs hga hgz ba oa n l2 c2 bn bc on oc}
 by_cases k20 : k = 20
 {subst k20
  exact Aax E h hv hr hs hga hgz ba oa n l2 c2 bn bc on oc}
 by_cases k21 : k = 21
 {subst k21
  exact Aay E h hv hr hs hga hgz ba oa n l2 c2 bn bc on oc}
 by_cases k22 : k = 22
 {subst k22
  exact Aei E h hv hr hs hga hgz ba oa n l2 c2 bn bc on oc}
 have e : Fh cs ms vs ret ⟨k, x, y, z, t, f, n, l2, c2⟩ gs = False := by simp [Fh, m0, m1, m2, m3, m4, m5, m6, m7, m8, m9, m10, k11, k12, k13, k14, k15, k16, k17, k18, k19, k20, k21, k22]
 rw [e]
 exact Aej E h hv hr hs hga hgz ba oa n l2 c2 bn bc on oc k11 k12 k13 k14 k15 k16 k17 k18 k19 k20 k21 k22
theorem Aes (E : Dc cs ms) (h : Bl w0 w b cs ms xv mb vb nn vs ret l c) (hv : F6 vs) (hr : ret.size ≤ maxLen) {x y z t f : ByteArray} (hs : Bb x y z t f) {ga : Option Addr} {gs : List ByteArray} {gc : Nat} (hga : Ah w (.slice ga gs.length gc) gs) (hgz : gs.length ≤ 41 ∧ ∀ x ∈ gs, x.size ≤ 20000) (ba oa : Option Addr) (n l2 c2 : Int) (bn bc on oc : Nat) {k : Int} (hk : Rl k) :
 Calls Tryz.prog 101 #[.pointer (some ⟨b, 0, none⟩), .agg #[.int .i64 k, .string x, .string y, .string z, .string t, .string f, .slice ga gs.length gc, .int .i64 n, .slice ba bn bc, .slice oa on oc, .int .i64 l2, .int .i64 c2]] w (D7 (Fh cs ms vs ret ⟨k, x, y, z, t, f, n, l2, c2⟩ gs) w) := by
 obtain ⟨hx, hy, hz, ht, hf⟩ := hs
 have hadd : ¬ 9223372036854775807 < t.size + 2 := by omega
 have hta := Jg (t := t) (by unfold maxLen; omega)
 have hx' := Ak hx
 have hy' := Ak hy
 have hz' := Ak hz
 have ht' := Ak ht
 have hf' := Ak hf
 have hmf := @G3 Tryz.prog
 obtain ⟨wa, hwa, hba, hca⟩ := A2 w (.cells #[.int .i64 k, .string x, .string y, .string z, .string t, .string f, .slice ga gs.length gc, .int .i64 n, .slice ba bn bc, .slice oa on oc, .int .i64 l2, .int .i64 c2] 128)
 obtain ⟨B, hB⟩ := Ax w.heap.size
 rw [hB] at hba
 have H := Aa (h.no hca)
 have HCA := Aa hca
 have HBA := Aa hba
 have HV := Aa hv
 have HR := Aa hr
 have HE := Aa E
 have HG := Aa (Ah.no hga hca)
 have HGZ := Aa hgz
 have HT := Aa H.out.typ
 obtain ⟨p0, p1, p2, p3, p4, p5, p6, p7, p8, p9, p10, p11⟩ := Ap hba
 obtain ⟨k0, k1⟩ := Co H.out.blk
 have k3 := Ab H.out.blk 3
 clear h hv hr E hga hgz hba hca
 have e0 : (k == 0) = false := by simpa using hk.1
 have e1 : (k == 1) = false := by simpa using hk.2.1
 have e2 : (k == 2) = false := by simpa using hk.2.2.1
 have e3 : (k == 3) = false := by simpa using hk.2.2.2.1
 have e4 : (k == 4) = false := by simpa using hk.2.2.2.2.1
 have e5 : (k == 5) = false := by simpa using hk.2.2.2.2.2.1
 have e6 : (k == 6) = false := by simpa using hk.2.2.2.2.2.2.1
 have e7 : (k == 7) = false := by simpa using hk.2.2.2.2.2.2.2.1
 have e8 : (k == 8) = false := by simpa using hk.2.2.2.2.2.2.2.2.1
 have e9 : (k == 9) = false := by simpa using hk.2.2.2.2.2.2.2.2.2.1
 have e10 : (k == 10) = false := by simpa using hk.2.2.2.2.2.2.2.2.2.2
 have hk2 := Aer HE.out H.out HV.out HR.out (k := k) ⟨hx, hy, hz, ht, hf⟩ HG.out HGZ.out ba oa n l2 c2 bn bc on oc hk
 have HK := Aa hk
 clear hk
 go_in
 go_wp2_with fail
 try rw [hB]
 refine hk2.mono ?_
 rintro e w2 ⟨⟨r, rfl, hr⟩, hc2⟩
 have HRR := Aa hr
 have HC2 := Aa hc2
 clear hr hc2 hk2
 go_wp2
 go_ret
 exact ⟨B6 _ ⟨fun h => HRR.out.1 (by simpa using h), fun h => by simpa using HRR.out.2 h⟩, HCA.out.trans HC2.out⟩
theorem Aa2 (E : Dc cs ms) (h : Bl w0 w b cs ms xv mb vb nn vs ret l c) (hv : F6 vs) (hr : ret.size ≤ maxLen) {k : Int} {x y z t f : ByteArray} (hs : Bb x y z t f) {ga : Option Addr} {gs : List ByteArray} {gc : Nat} (hga : Ah w (.slice ga gs.length gc) gs) (hgz : gs.length ≤ 41 ∧ ∀ x ∈ gs, x.size ≤ 20000) (ba oa : Option Addr) (n l2 c2 : Int) (bn bc on oc : Nat) :
 Calls Tryz.prog 101 #[.pointer (some ⟨b, 0, none⟩), .agg #[.int .i64 k, .string x, .string y, .string z, .string t, .string f, .slice ga gs.length gc, .int .i64 n, .slice ba bn bc, .slice oa on oc, .int .i64 l2, .int .i64 c2]] w (D7 (Fh cs ms vs ret ⟨k, x, y, z, t, f, n, l2, c2⟩ gs) w) := by
 by_cases k0 : k = 0
 {subst k0
  exact Yt h hv n l2 c2 x y z t f ga ba oa gs.length gc bn bc on oc (Ak hs.1) (Ak hs.2.2.2.1)}
 by_cases k1 : k = 1
 {subst k1
  exact Ad0 E h hv hr hs hga hgz ba oa n l2 c2 bn bc on oc}
 by_cases k2 : k = 2
 {subst k2
  exact Ad1 E h hv hr hs hga hgz ba oa n l2 c2 bn bc on oc}
 by_cases k3 : k = 3
 {subst k3
  exact Ad2 E h hv hr hs hga hgz ba oa n l2 c2 bn bc on oc}
 by_cases k4 : k = 4
 {subst k4
  exact Ad7 E h hv hr hs hga hgz ba oa n l2 c2 bn bc on oc}
 by_cases k5 : k = 5
 {subst k5
  exact Ad3 E h hv hr hs hga hgz ba oa n l2 c2 bn bc on oc}
 by_cases k6 : k = 6
 {subst k6
  exact Ad4 E h hv hr hs hga hgz ba oa n l2 c2 bn bc on oc}
 by_cases k7 : k = 7
 {subst k7
  exact Ad5 E h hv hr hs hga hgz ba oa n l2 c2 bn bc on oc}
 by_cases k8 : k = 8
 {subst k8
  exact Ad6 E h hv hr hs hga hgz ba oa n l2 c2 bn bc on oc}
 by_cases k9 : k = 9
 {subst k9
  exact Ad8 E h hv hr hs hga hgz ba oa n l2 c2 bn bc on oc}
 by_cases k10 : k = 10
 {subst k10
  exact Ad9 E h hv hr hs hga hgz ba oa n l2 c2 bn bc on oc}
 exact Aes E h hv hr hs hga hgz ba oa n l2 c2 bn bc on oc ⟨k0, k1, k2, k3, k4, k5, k6, k7, k8, k9, k10⟩
end
theorem Gt {cs : List Aj} {ms : List Ba} {vs : ByteArray → Option ByteArray} {ret : ByteArray} : ∀ {t : Tr}, I1 cs ms vs ret t ↔ ∀ (j : Nat) (h : Sh) (b o : Tr), t.get j = some (h, b, o) → Fh cs ms vs ret h.s h.gs ∧ I1 cs ms vs ret b ∧ I1 cs ms vs ret o
 | .nil => ⟨fun _ j h b o e => (by cases e), fun _ => trivial⟩
 | .cons h b o r => by
  constructor
  {rintro ⟨h1, h2, h3, h4⟩ j h' b' o' e
   match j, e with
   | 0, e => cases e; exact ⟨h1, h2, h3⟩
   | j + 1, e => exact Gt.1 h4 j h' b' o' e}
  {intro H
   obtain ⟨h1, h2, h3⟩ := H 0 h b o rfl
   exact ⟨h1, h2, h3, Gt.2 (fun j h' b' o' e => H (j + 1) h' b' o' e)⟩}
def Vk (P : Prop) (w0 w : World) (b : Nat) (cs : List Aj) (ms : List Ba) (xv : Value) (mb vb n : Nat) (vs : ByteArray → Option ByteArray) (ret : ByteArray) (e : Ending) (w' : World) : Prop :=
 Am P e ∧ Ch (fun k _ => k = b) w w' ∧ ∃ l c, Bl w0 w' b cs ms xv mb vb n vs ret l c
theorem Xw {cs : List Aj} {ms : List Ba} (E : Dc cs ms) {vs : ByteArray → Option ByteArray} (hv : F6 vs) {ret : ByteArray} (hr : ret.size ≤ maxLen) {P : Nat → Prop} {w0 : World} {b : Nat} {xv : Value} {mb : Nat} :
 ∀ t : Tr, ∀ {ao : Option Addr} {cap : Nat}, Bo P w0 t → A5 P w0 ao t.len cap t.cells → ∀ {w : World} {vb n : Nat} {l c : Int}, Bl w0 w b cs ms xv mb vb n vs ret l c →
  Calls Tryz.prog 62 #[.pointer (some ⟨b, 0, none⟩), .slice ao t.len cap] w (Vk (I1 cs ms vs ret t) w0 w b cs ms xv mb vb n vs ret) := by
 refine Tr.rule (fun t ih => ?_)
 intro ao cap ht hrow w vb n l c h
 have hcap := hrow.1
 have hmax := hrow.2.1
 unfold maxLen at hmax
 have HRW := Aa hrow
 have HT := Aa ht
 have IH := Aa ih
 have H := Aa h
 have HE := Aa E
 have HV := Aa hv
 have HR := Aa hr
 obtain ⟨len, Av⟩ := Ax t.len
 have HL := Aa Av
 rw [Av] at hcap ⊢
 clear hrow ht ih Av h E hv hr
 go_in
 go_wp2
 go_loopg [4, 6, 9] len (fun gg s4 s6 s9 wr => ∃ k : Nat, k ≤ len ∧ len - k ≤ gg ∧ s9 = .int .i64 k ∧ Hid (∀ (j : Nat) (x : Sh) (p q : Tr), j < k → t.get j = some (x, p, q) → Fh cs ms vs ret x.s x.gs ∧ I1 cs ms vs ret p ∧ I1 cs ms vs ret q) ∧ Hid (Ch (fun k _ => k = b) w wr ∧ ∃ l c, Bl w0 wr b cs ms xv mb vb n vs ret l c))
 case atStart => exact ⟨0, Nat.zero_le _, by omega, rfl, Aa (fun j x p q h => absurd h (Nat.not_lt_zero _)), Aa ⟨Ch.refl _ _, l, c, H.out⟩⟩
 case round =>
  obtain ⟨k, hk, hg, rfl, HA, HB⟩ := hrel
  obtain ⟨hcw, l1, c1, hck⟩ := HB.out
  have HCW := Aa hcw
  have HCK := Aa hck
  clear hcw hck
  cases hd : decide (k < len) with
  | true =>
   have hkl : k < len := by simpa using hd
   obtain ⟨x, p, q, hget⟩ := Tr.get_lt (t := t) (i := k) (by have := HL.out; omega)
   obtain ⟨g, off, rfl, hcell⟩ := HRW.out.stN hget
   obtain ⟨⟨hok, _, _, hga, hba, hoa⟩, htb, hto⟩ := HT.out.get hget
   have hw0 := HCK.out.ch
   have q_ : ∀ j u, (Bk x p.len q.len)[j]? = some u → j < 12 → wr.cell? ⟨g, off + k * 12 + j, none⟩ = some u := fun j u hu hj => Ae ((hcell j hj).trans hu) hw0 (fun _ _ h => h)
   have q0 : wr.cell? ⟨g, off + k * 12, none⟩ = some (.int .i64 x.s.k) := q_ 0 _ rfl (by omega)
   have q1 := q_ 1 _ rfl (by omega)
   have q2 := q_ 2 _ rfl (by omega)
   have q3 := q_ 3 _ rfl (by omega)
   have q4 := q_ 4 _ rfl (by omega)
   have q5 := q_ 5 _ rfl (by omega)
   have q6 := q_ 6 _ rfl (by omega)
   have q7 := q_ 7 _ rfl (by omega)
   have q8 := q_ 8 _ rfl (by omega)
   have q9 := q_ 9 _ rfl (by omega)
   have q10 := q_ 10 _ rfl (by omega)
   have q11 := q_ 11 _ rfl (by omega)
   have HGET := Aa hget
   have hg0 := Lq hga
   have hbs : Hid (∀ {w : World} {l c : Int}, Bl w0 w b cs ms xv mb vb n vs ret l c → Calls Tryz.prog 62 #[.pointer (some ⟨b, 0, none⟩), .slice x.ba p.len x.bc] w (Vk (I1 cs ms vs ret p) w0 w b cs ms xv mb vb n vs ret)) := Aa (fun h => (IH.out k x p q hget).1 htb hba h)
   have hos : Hid (∀ {w : World} {l c : Int}, Bl w0 w b cs ms xv mb vb n vs ret l c → Calls Tryz.prog 62 #[.pointer (some ⟨b, 0, none⟩), .slice x.oa q.len x.oc] w (Vk (I1 cs ms vs ret q) w0 w b cs ms xv mb vb n vs ret)) := Aa (fun h => (IH.out k x p q hget).2 hto hoa h)
   obtain ⟨wx, hwx, hbx, hcx⟩ := A2 wr (.cells (Bk x p.len q.len).toArray 128)
   unfold Bk at hwx hbx
   have HBX := Aa hbx
   have HCX := Aa hcx
   have HKX := Aa (HCK.out.no hcx)
   have hfi := Aa2 HE.out HKX.out HV.out HR.out (k := x.s.k) hok.1 (Ah.no hg0 (hw0.trans hcx)) hok.2 x.ba x.oa x.s.n x.s.l x.s.c p.len x.bc q.len x.oc
   obtain ⟨p0, p1, p2, p3, p4, p5, p6, p7, p8, p9, p10, p11⟩ := Ap hbx
   have ybx := Ac hbx
   have hbne : Hid (¬ wr.heap.size = b) := Aa (by have := Ac HCK.out.blk; omega)
   clear hbx hcx hcell hok hga hba hoa htb hto hw0 q_ hget hg0
   go_wp2_with fail
   clear hwx
   refine hfi.mono ?_
   rintro e w3 ⟨⟨r, rfl, hr⟩, hc3⟩
   have HRR := Aa hr
   have HC3 := Aa (HCX.out.trans hc3)
   have HB3 := Aa (hc3.keep _ _ HBX.out (fun h => h))
   have HK3 := Aa (HKX.out.no hc3)
   clear hr hc3 hfi p0 p1 p2 p3 p4 p5 p6 p7 p8 p9 p10 p11 q0 q1 q2 q3 q4 q5 q6 q7 q8 q9 q10 q11
   cases r with
   | false =>
    have HNO := Aa (show ¬ I1 cs ms vs ret t from fun h => by
     have h1 := HRR.out.2 (Gt.1 h k x p q HGET.out).1
     cases h1)
    have hb3 := HB3.out
    have p10 := Ab hb3 10
    have p11 := Ab hb3 11
    have hbk := HK3.out.blk
    have r4 := Ab hbk 4
    have r5 := Ab hbk 5
    have f4 := Ad hbk 4
    have f5 := Ad hbk 5
    obtain ⟨wf, hwf, hfb, hfc⟩ := Vg hbk (.int .i64 x.s.l) (.int .i64 x.s.c)
    have HFB := Aa hfb
    have HFC := Aa hfc
    clear hb3 hbk hfb hfc
    go_wp2_with fail
    first | rw [hwf] | skip
    clear hwf
    go_ret
    obtain ⟨es, cl, hvm⟩ := HK3.out.vars.isMap
    have hvb : ¬ vb = b := fun e => by rw [e, HK3.out.blk] at hvm; cases hvm
    exact ⟨.f HNO.out, (HCW.out.trans (HC3.out.mono (fun _ _ _ h => h.elim))).trans HFC.out, x.s.l, x.s.c, HK3.out.set HFC.out HFB.out (HK3.out.vars.ch HFC.out (fun _ _ e => hvb e))⟩
   | true =>
    have HFIT := Aa (HRR.out.1 rfl)
    have hb3 := HB3.out
    have p8 := Ab hb3 8
    have hk := hbs.out HK3.out
    clear hb3
    go_wp2_with fail
    refine hk.mono ?_
    rintro e w4 ⟨⟨r, rfl, hr⟩, hc4, l4, c4, hk4⟩
    have HR4 := Aa hr
    have HC4 := Aa (HCW.out.trans ((HC3.out.mono (fun _ _ _ h => h.elim)).trans hc4))
    have HK4 := Aa hk4
    have HB4 := Aa (hc4.keep _ _ HB3.out (fun e => hbne.out e))
    clear hr hc4 hk4 hk p8
    cases r with
    | false =>
     have HNO := Aa (show ¬ I1 cs ms vs ret t from fun h => by
      have h1 := HR4.out.2 (Gt.1 h k x p q HGET.out).2.1
      cases h1)
     go_wp2
     go_ret
     exact ⟨.f HNO.out, HC4.out, l4, c4, HK4.out⟩
    | true =>
     have HBOD := Aa (HR4.out.1 rfl)
     have hb4 := HB4.out
     have p9 := Ab hb4 9
     have hk := hos.out HK4.out
     clear hb4
     go_wp2_with fail
     refine hk.mono ?_
     rintro e w5 ⟨⟨r, rfl, hr⟩, hc5, l5, c5, hk5⟩
     have HR5 := Aa hr
     have HC5 := Aa (HC4.out.trans hc5)
     have HK5 := Aa hk5
     clear hr hc5 hk5 hk p9
     cases r with
     | false =>
      have HNO := Aa (show ¬ I1 cs ms vs ret t from fun h => by
       have h1 := HR5.out.2 (Gt.1 h k x p q HGET.out).2.2
       cases h1)
      go_wp2
      go_ret
      exact ⟨.f HNO.out, HC5.out, l5, c5, HK5.out⟩
     | true =>
      have HOTH := Aa (HR5.out.1 rfl)
      go_wp2
      go_roundg (len - k - 1)
      case rel => exact ⟨k + 1, by omega, by omega, by go_num, Aa (fun j x' p' q' hj e => by
       by_cases h1 : j < k
       {exact HA.out j x' p' q' h1 e}
       · obtain rfl : j = k := by omega
         rw [HGET.out] at e; cases e
         exact ⟨HFIT.out, HBOD.out, HOTH.out⟩), Aa ⟨HC5.out, l5, c5, HK5.out⟩⟩
      case measure => omega
  | false =>
   have hkl : ¬ k < len := by simpa using hd
   go_wp2
   go_ret
   exact ⟨.t (Gt.2 (fun j x p q e => HA.out j x p q (by have h1 := Tr.lt_get e; have := HL.out; omega) e)), HCW.out, l1, c1, HCK.out⟩
def Wa (cs : List Aj) (ms : List Ba) (z : Int) (x : Md) : Prop := Hu cs (Ck cs z x.m x.ls) (C4 cs z x.m).length ∧ I1 cs ms (Dx (Ck cs z x.m x.ls)) x.m.ret x.t
def Vl (cs : List Aj) (ms : List Ba) (i : Nat) (K : KD) : Prop := (∀ b x, K.ini = some (b, x) → Wa cs ms i x) ∧ ∀ x ∈ K.ms, x.m.ba = false → Wa cs ms i x
def S0 (Ks : List KD) (M : Md) : Prop := Fw (Ks.map KD.c) (Ks.map KD.m) ∧ (∀ i K, Ks[i]? = some K → Vl (Ks.map KD.c) (Ks.map KD.m) i K) ∧ Wa (Ks.map KD.c) (Ks.map KD.m) (-1) M
def Af9 (P : Prop) (w : World) (e : Ending) (w' : World) : Prop :=
 Ch No w w' ∧ ((P ∧ ∃ mb, e = .returned (.tuple #[.pointer (some mb), .agg #[.int .i64 0, .int .i64 0, .int .i64 0]])) ∨ (¬ P ∧ ∃ l c, e = .returned (.tuple #[.pointer none, .agg #[.int .i64 11, .int .i64 l, .int .i64 c]])))
theorem Vm {cs : List Aj} {ms : List Ba} (h : Ir cs ms) : (∀ m ∈ ms, T9 m) ∧ Gj ms := by
 have key : ∀ m ∈ ms, T9 m := by
  intro m hm
  obtain ⟨i, hi⟩ := List.getElem?_of_mem hm
  have hs := h.mem i m hi
  have h1 := hs.1
  have h2 := hs.2.1
  have h3 := hs.2.2.1
  exact ⟨by omega, by omega, by omega, fun x hx => by have := hs.2.2.2 x hx; omega⟩
 exact ⟨key, fun m hm x hx => (key m hm).ps x hx⟩
theorem Xx {cs : List Aj} (hz : Sv cs) {z : Int} {x : Md} {P : Nat → Prop} {w : World} (hx : E8 P w x) : ∀ v ∈ Ck cs z x.m x.ls, v.nm.size ≤ maxLen ∧ v.ty.size ≤ maxLen := by
 intro v hv
 unfold Ck at hv
 rcases List.mem_append.1 hv with hv | hv
 {rcases List.mem_append.1 hv with hv | hv
  {unfold C4 at hv
   split at hv
   {split at hv
    {rename_i c hc
     simp at hv
     rw [hv]
     exact ⟨lb rfl, (hz c (mG hc)).1⟩}
    {cases hv}}
   {cases hv}}
  {exact Va (hx.zp.2 v hv)}}
 {exact Va (hx.zl.2 v hv)}
section
variable {w0 w : World} {b : Nat} {cs : List Aj} {ms : List Ba} {xv : Value} {mb : Nat} {mv : Option Nat} {ret : ByteArray} {l c : Int}
def Aet (P : Prop) (w0 w : World) (b : Nat) (cs : List Aj) (ms : List Ba) (xv : Value) (mb : Nat) (e : Ending) (w' : World) : Prop :=
 Am P e ∧ Ch (fun k _ => k = b) w w' ∧ ∃ mv ret l c, M6 w0 w' b cs ms xv mb mv ret l c
theorem Aa3 (E : Dc cs ms) (hzp : Sv cs) (hck : M6 w0 w b cs ms xv mb mv ret l c) {pv : Value} (h0 : Cz w0 pv cs) (z : Int) {x : Md} {P : Nat → Prop} (hx : E8 P w0 x) :
 Calls Tryz.prog 33 #[.pointer (some ⟨b, 0, none⟩), pv, .int .i64 z, .agg #[.string x.m.ret, .string x.m.nm, .bool x.m.st, .bool x.m.ba, .slice x.m.pa x.m.ps.length x.m.pc, .slice x.m.s5.1 x.m.s5.2.1 x.m.s5.2.2, .slice x.m.s6.1 x.m.s6.2.1 x.m.s6.2.2, .int .i64 x.m.line, .int .i64 x.m.col]] w (Aet (Wa cs ms z x) w0 w b cs ms xv mb) := by
 have hsz := Xx hzp (z := z) hx
 have hsv : F6 (Dx (Ck cs z x.m x.ls)) := by
  intro n t h
  obtain ⟨v, hv, _, rfl⟩ := Oi h
  exact (hsz v hv).2
 have hst : Rj (I1 cs ms (Dx (Ck cs z x.m x.ls)) x.m.ret x.t) (fun _ _ => True) w0 b cs ms xv mb (Dx (Ck cs z x.m x.ls)) x.m.ret (.slice x.m.s6.1 x.m.s6.2.1 x.m.s6.2.2) := by
  intro w1 vb n l c hc
  have hk := Xw E hsv (Ak hx.sz.1) x.t hx.tr hx.st hc
  rw [← hx.e6] at hk
  refine hk.mono ?_
  rintro e w2 ⟨⟨r, rfl, hr⟩, hc2, l2, c2, hk2⟩
  exact ⟨r, rfl, hr, hc2, vb, n, _, _, l2, c2, hk2, fun _ => trivial⟩
 have hp := hx.zp.1
 have hl := hx.zl.1
 refine (Rk hck h0 z x.m x.ls hx.mt.1 hx.mt.2 (by omega) (by omega) hsz hst).mono ?_
 rintro e w2 ⟨r, rfl, hr, hc2, vb, n, vs, ret2, l2, c2, hk2, _⟩
 exact ⟨⟨r, rfl, hr⟩, hc2, _, _, _, _, hk2.z⟩
end
theorem Yw {a b c : World} {q : Nat} (h : Ch No a b) (h' : Ch (fun k _ => k = q) b c) (hq : a.heap.size ≤ q) : Ch No a c := Ch.newOnly h h' (Eb (by omega))
theorem Aa4 {p : Prop} (h : p := by
 clear hk6
 go_wp2_with fail
 refine (Vi HK6.out).mono ?_
 rintro e w8 ⟨rfl, hc8⟩
 have HF8 := Aa (hc8.keep _ _ HF6.out (fun h => h))
 have HC8 := Aa (HC6.out.trans hc8)
 have hf8 := HF8.out
 obtain ⟨a0, a1, a2⟩ := Dy hf8
 obtain ⟨f0, f1, f2⟩ := I5 hf8
 clear hf8 hc8
 go_wp2_with fail
 obtain ⟨wf, hwf, hfb, hfc⟩ := Ev HF8.out (.int .i64 11) (.int .i64 l6) (.int .i64 c6)
 try rw [hwf]
 obtain ⟨k0, k1, k2⟩ := Dy hfb
 refine bodyPost_ret (v := .tuple #[.pointer none, .agg #[.int .i64 11, .int .i64 l6, .int .i64 c6]]) (by simp [results, Tryz.results11, go_sem, k0, k1, k2]) rfl ?_
 exact ⟨Yw HC8.out hfc hwB, .inr ⟨HNO.out, l6, c6, rfl⟩⟩
 ) : p := h
theorem Gu {w : World} {ca : Option Addr} {cc : Nat} {Ks : List KD} {m : Mt} {ls : List Vr} {t : Tr} (h : Db w ca cc Ks ⟨m, ls, t⟩) (hT : Ia w) (hsm : Ir (Ks.map KD.c) (Ks.map KD.m)) :
 Calls Tryz.prog 11 #[.agg #[.slice ca Ks.length cc, .string m.ret, .string m.nm, .bool m.st, .bool m.ba, .slice m.pa m.ps.length m.pc, .slice m.s5.1 m.s5.2.1 m.s5.2.2, .slice m.s6.1 m.s6.2.1 m.s6.2.2, .int .i64 m.line, .int .i64 m.col]] w (Af9 (S0 Ks ⟨m, ls, t⟩) w) := by
 have HP0 := Aa h
 have HSM := Aa hsm
 have HFM := Aa (Vm hsm)
 have hzp := h.szp
 have hzm := h.szm
 have HZP := Aa hzp
 have HZM := Aa hzm
 have h60 := h.len
 have hcap := h.row.1
 have hmax := h.row.2.1
 unfold maxLen at hmax
 have HPG : Hid (∀ {wq : World}, Ch No w wq → Cz wq (.agg #[.slice ca Ks.length cc, .string m.ret, .string m.nm, .bool m.st, .bool m.ba, .slice m.pa m.ps.length m.pc, .slice m.s5.1 m.s5.2.1 m.s5.2.2, .slice m.s6.1 m.s6.2.1 m.s6.2.2, .int .i64 m.line, .int .i64 m.col]) (Ks.map KD.c)) := Aa (fun hc => ⟨_, _, _, _, _, _, _, _, _, _, rfl, (HP0.out.no hc).clss⟩)
 obtain ⟨N, hN⟩ := Ax Ks.length
 have HN := Aa hN
 rw [hN] at h60 hcap HPG ⊢
 obtain ⟨wa, hwa, hba, hca⟩ := A2 w (.cells #[.slice ca N cc, .string m.ret, .string m.nm, .bool m.st, .bool m.ba, .slice m.pa m.ps.length m.pc, .slice m.s5.1 m.s5.2.1 m.s5.2.2, .slice m.s6.1 m.s6.2.1 m.s6.2.2, .int .i64 m.line, .int .i64 m.col] 31)
 obtain ⟨wb, hwb, hbb, hcb⟩ := A2 wa (.cells #[.int .i64 0, .int .i64 0, .int .i64 0] 34)
 have y1 := Ac hba
 have y2 := Ac hbb
 have hbP := hcb.keep _ _ hba (fun h => h)
 obtain ⟨B, hB⟩ := Ax wa.heap.size
 obtain ⟨A, hA⟩ := Ax w.heap.size
 rw [hA] at hba hbP
 rw [hB] at hbb
 have hwA : w.heap.size ≤ A := by omega
 have hwB : w.heap.size ≤ B := by omega
 have hAB : A ≠ B := by omega
 have HPB := Aa hbP
 have HFB := Aa hbb
 have HCB := Aa (hca.trans hcb)
 obtain ⟨p0, p1, p2, p3, p4, p5, p6, p7, p8, p9⟩ := Au hbP
 have hnw := Acb (HPG.out HCB.out) (HP0.out.no HCB.out).mems (hT.no HCB.out) hzp hzm hsm.few HFM.out.1
 clear hba hbb hca hcb hbP h hT hsm hzp hzm hN
 go_in
 go_wp2_with fail
 try rw [hA]
 try rw [hB]
 refine hnw.mono ?_
 rintro e w3 ⟨hc3, ⟨mb, rfl, hmb, hok⟩ | ⟨l6, c6, rfl, hno⟩⟩
 {have HC3 := Aa (HCB.out.trans hc3)
  have HMB := Aa hmb
  have HOK := Aa hok
  have HE : Hid (Dc (Ks.map KD.c) (Ks.map KD.m)) := Aa ⟨hok.1.1, Nv hok.1, HSM.out.few, by rw [List.length_map, List.length_map], HFM.out.2, HZM.out⟩
  have HP3 := Aa (hc3.keep _ _ HPB.out (fun h => h))
  have HF3 := Aa (hc3.keep _ _ HFB.out (fun h => h))
  clear hwa hwb hnw hc3 hmb hok p0 p1 p2 p3 p4 p5 p6 p7 p8 p9
  go_upto_region 4 with fail
  obtain ⟨w4, hw4⟩ := Ax (w3.alloc (.cells #[.int .i64 0, .int .i64 0, .int .i64 0] 34))
  rw [hw4]
  have hc4 : Ch No w3 w4 := by rw [← hw4]; exact (Ch.refl _ _).alloc _
  have HC4 := Aa (HC3.out.trans hc4)
  have HMB4 := Aa (HMB.out.no hc4)
  have HP4 := Aa (hc4.keep _ _ HP3.out (fun h => h))
  have HF4 := Aa (hc4.keep _ _ HF3.out (fun h => h))
  clear hw4 hc4
  go_wp2_with fail
  refine (U5 HMB4.out).mono ?_
  rintro e w5 ⟨⟨xv, rfl, hxv⟩, rfl⟩
  obtain ⟨xb, tb, abv, ss, hxe, hxt⟩ := hxv
  have HXV : Hid (Bv w4 xv (Ks.map KD.c)) := Aa ⟨xb, tb, abv, ss, hxe, hxt⟩
  subst hxe
  clear hxt
  obtain ⟨w5, hw5, hb5, hc5⟩ := A2 w4 (.cells #[.pointer (some ⟨xb, 0, none⟩), .pointer (some ⟨mb, 0, none⟩), .map none, .string ⟨#[]⟩, .int .i64 0, .int .i64 0] 85)
  obtain ⟨b, hb⟩ := Ax w4.heap.size
  rw [hb] at hb5
  have HCK5 : Hid (∃ mv ret l c, M6 w4 w5 b (Ks.map KD.c) (Ks.map KD.m) (.pointer (some ⟨xb, 0, none⟩)) mb mv ret l c) := Aa ⟨none, ⟨#[]⟩, 0, 0, hb5, HXV.out, HMB4.out, hc5, by omega⟩
  have HC5 := Aa (HC4.out.trans hc5)
  have HP5 := Aa (hc5.keep _ _ HP4.out (fun h => h))
  have HF5 := Aa (hc5.keep _ _ HF4.out (fun h => h))
  have ywb : A < b := by rw [← hb]; exact Ac HP4.out
  have yab : B < b := by rw [← hb]; exact Ac HF4.out
  have hwb : w.heap.size ≤ b := by omega
  have hAb : A ≠ b := by omega
  have hBb : B ≠ b := by omega
  have h45 := hc5.size
  have hb45 := Ac hb5
  obtain ⟨p0, p1, p2, p3, p4, p5, p6, p7, p8, p9⟩ := Au HP5.out
  have HBE := Aa hb
  clear hb5 hc5 hb
  go_wp2_with fail
  try rw [HBE.out]
  clear hw5 p0 p1 p2 p3 p4 p5 p6 p7 p8 p9
  go_loopg [2, 7, 8, 10, 28, 52] N (fun gg s2 s7 s8 s10 s28 s52 wr => ∃ k : Nat, k ≤ N ∧ N - k ≤ gg ∧ s28 = .int .i64 k ∧ Hid (Ch (fun q _ => q = b) w5 wr) ∧ Hid (∃ mv ret l c, M6 w4 wr b (Ks.map KD.c) (Ks.map KD.m) (.pointer (some ⟨xb, 0, none⟩)) mb mv ret l c) ∧ Hid (∀ i K, i < k → Ks[i]? = some K → Vl (Ks.map KD.c) (Ks.map KD.m) i K))
  case atStart => exact ⟨0, Nat.zero_le _, by omega, rfl, Aa (Ch.refl _ _), HCK5, Aa (fun i K h => absurd h (Nat.not_lt_zero _))⟩
  case round =>
   obtain ⟨k, hk, hg, rfl, HCR, HCK, HDN⟩ := hrel
   have HCW := Aa (Yw HC5.out HCR.out hwb)
   have HPW := Aa (HCR.out.keep _ _ HP5.out (fun e => hAb e))
   have HFW := Aa (HCR.out.keep _ _ HF5.out (fun e => hBb e))
   cases hd : decide (k < N) with
   | true =>
    have hkl : k < N := by simpa using hd
    obtain ⟨K, hK⟩ := gE (l := Ks) (i := k) (by have := HN.out; omega)
    obtain ⟨cb, co, cp, ecs, hcell, _, _⟩ := (HP0.out.no HCW.out).clss.cell (k := k) (c := K.c) (by rw [List.getElem?_map, hK]; rfl)
    rw [List.length_map, HN.out] at ecs
    cases ecs
    obtain ⟨q0, q1, q2, q3, q4, q5, q6, q7, q8, q9⟩ := hcell
    obtain ⟨wx, hwx, hbx, hcx⟩ := A2 wr (.cells #[.string K.name, .string K.sup, .bool K.face, .slice K.fa K.faces.length K.fc, .slice K.f4 K.fs.length K.c4, .slice K.f5 K.ss.length K.c5, .slice K.f6 K.ms.length K.c6, .pointer K.p7, .int .i64 K.line, .int .i64 K.col] 50)
    have hsx := HCR.out.size
    obtain ⟨M, hM⟩ := Ax wr.heap.size
    rw [hM] at hbx
    have hMb : M ≠ b := by omega
    have HBX := Aa hbx
    have HKX := Aa hK
    have HKM := Aa (mG hK)
    have HCWX := Aa (HCW.out.trans hcx)
    have HPX := Aa (hcx.keep _ _ HPW.out (fun h => h))
    have HFX := Aa (hcx.keep _ _ HFW.out (fun h => h))
    have HCRX := Aa (HCR.out.trans (hcx.mono (S' := fun q _ => q = b) (fun _ _ _ h => h.elim)))
    have HCKX : Hid (∃ mv ret l c, M6 w4 wx b (Ks.map KD.c) (Ks.map KD.m) (.pointer (some ⟨xb, 0, none⟩)) mb mv ret l c) := Aa (by obtain ⟨a1, a2, a3, a4, a5⟩ := HCK.out; exact ⟨a1, a2, a3, a4, a5.no hcx⟩)
    unfold KD.c at q0 q1 q2 q3 q4 q5 q6 q7 q8 q9
    have d7 := Ab hbx 7
    go_upto_region 8 with fail
    try rw [hwx]
    try rw [hM]
    clear q0 q1 q2 q3 q4 q5 q6 q7 q8 q9 hwx hbx hcx hK HCW HPW HFW HCK HCR hM
    go_cut [46] from 33 to 46 (fun s46 wz => ∃ r : Bool, s46 = .bool r ∧ Hid (r = false ↔ ∀ b x, K.ini = some (b, x) → Wa (Ks.map KD.c) (Ks.map KD.m) k x) ∧ Hid (Ch (fun q _ => q = b) w5 wz) ∧ Hid (wz.heap[M]? = some (.cells #[.string K.name, .string K.sup, .bool K.face, .slice K.fa K.faces.length K.fc, .slice K.f4 K.fs.length K.c4, .slice K.f5 K.ss.length K.c5, .slice K.f6 K.ms.length K.c6, .pointer K.p7, .int .i64 K.line, .int .i64 K.col] 50 (0, 0))) ∧ Hid (∃ mv ret l c, M6 w4 wz b (Ks.map KD.c) (Ks.map KD.m) (.pointer (some ⟨xb, 0, none⟩)) mb mv ret l c))
    case first =>
     cases hini : K.ini with
     | none =>
      have e7 : K.p7 = none := by unfold KD.p7; rw [hini]; rfl
      rw [e7] at d7
      have HSx := Aa (show wx.cell? ⟨M, 7, none⟩ = some (.pointer none) from d7)
      have HNI := Aa (show ∀ (b : Nat) (x : Md), K.ini = some (b, x) → Wa (Ks.map KD.c) (Ks.map KD.m) k x from fun b x e => by rw [hini] at e; cases e)
      clear hini e7 d7
      refine wp_region_held_drew (S := fun w' => w'.cell? ⟨M, 7, none⟩ = some (.pointer none)) (by kernel_rfl) HSx.out (fun hHeld => ?_)
      refine tk 0 rfl ?_
      refine tk 1 rfl ?_
      refine tk 2 rfl ?_
      refine tk 3 rfl ?_
      refine tn 4 rfl ?_
      refine tn 5 rfl ?_
      refine tn 6 rfl ?_
      refine tn 7 rfl ?_
      refine tn 8 rfl ?_
      refine tn 9 rfl ?_
      refine tn 10 rfl ?_
      refine tn 11 rfl ?_
      refine tn 12 rfl ?_
      refine tk 13 rfl ?_
      refine wpAnyH_done (by kernel_rfl) ?_ _
      go_wp2
      go_meet
      exact ⟨false, rfl, Aa ⟨fun _ => HNI.out, fun _ => rfl⟩, Aa HCRX.out.drew, Aa HBX.out, Aa (by obtain ⟨a1, a2, a3, a4, a5⟩ := HCKX.out; exact ⟨a1, a2, a3, a4, a5.no ((Ch.refl No wx).drew)⟩)⟩
     | some y =>
      have hi := (HP0.out.ks K HKM.out).ini
      rw [hini] at hi
      obtain ⟨_, hyb, hmd⟩ := hi
      have e7 : K.p7 = some ⟨y.1, 0, none⟩ := by unfold KD.p7; rw [hini]; rfl
      rw [e7] at d7
      have hyx := HCWX.out.keep _ _ hyb (fun h => h)
      have hyl := Ac hyb
      have hyne : y.1 ≠ b := by omega
      have HCKD : Hid (∃ mv ret l c, M6 w4 wx.drew b (Ks.map KD.c) (Ks.map KD.m) (.pointer (some ⟨xb, 0, none⟩)) mb mv ret l c) := Aa (by obtain ⟨a1, a2, a3, a4, a5⟩ := HCKX.out; exact ⟨a1, a2, a3, a4, a5.no ((Ch.refl No wx).drew)⟩)
      obtain ⟨mv, ret, l, c, hckd⟩ := HCKD.out
      have hcm := Aa3 HE.out HZP.out hckd (HPG.out HC4.out) (k : Int) (hmd.ch HC4.out (fun _ _ _ _ _ h => h))
      have HINI := Aa hini
      have HSx := Aa (show wx.cell? ⟨M, 7, none⟩ = some (.pointer (some ⟨y.1, 0, none⟩)) ∧ wx.cell? ⟨A, 0, none⟩ = some (.slice (some ⟨cb, co, none⟩) N cc) ∧ wx.cell? ⟨A, 1, none⟩ = some (.string m.ret) ∧ wx.cell? ⟨A, 2, none⟩ = some (.string m.nm) ∧ wx.cell? ⟨A, 3, none⟩ = some (.bool m.st) ∧ wx.cell? ⟨A, 4, none⟩ = some (.bool m.ba) ∧ wx.cell? ⟨A, 5, none⟩ = some (.slice m.pa m.ps.length m.pc) ∧ wx.cell? ⟨A, 6, none⟩ = some (.slice m.s5.1 m.s5.2.1 m.s5.2.2) ∧ wx.cell? ⟨A, 7, none⟩ = some (.slice m.s6.1 m.s6.2.1 m.s6.2.2) ∧ wx.cell? ⟨A, 8, none⟩ = some (.int .i64 m.line) ∧ wx.cell? ⟨A, 9, none⟩ = some (.int .i64 m.col) ∧ wx.cell? ⟨y.1, 0, none⟩ = some (.string y.2.m.ret) ∧ wx.cell? ⟨y.1, 1, none⟩ = some (.string y.2.m.nm) ∧ wx.cell? ⟨y.1, 2, none⟩ = some (.bool y.2.m.st) ∧ wx.cell? ⟨y.1, 3, none⟩ = some (.bool y.2.m.ba) ∧ wx.cell? ⟨y.1, 4, none⟩ = some (.slice y.2.m.pa y.2.m.ps.length y.2.m.pc) ∧ wx.cell? ⟨y.1, 5, none⟩ = some (.slice y.2.m.s5.1 y.2.m.s5.2.1 y.2.m.s5.2.2) ∧ wx.cell? ⟨y.1, 6, none⟩ = some (.slice y.2.m.s6.1 y.2.m.s6.2.1 y.2.m.s6.2.2) ∧ wx.cell? ⟨y.1, 7, none⟩ = some (.int .i64 y.2.m.line) ∧ wx.cell? ⟨y.1, 8, none⟩ = some (.int .i64 y.2.m.col) from ⟨d7, Ab HPX.out 0, Ab HPX.out 1, Ab HPX.out 2, Ab HPX.out 3, Ab HPX.out 4, Ab HPX.out 5, Ab HPX.out 6, Ab HPX.out 7, Ab HPX.out 8, Ab HPX.out 9, Ab hyx 0, Ab hyx 1, Ab hyx 2, Ab hyx 3, Ab hyx 4, Ab hyx 5, Ab hyx 6, Ab hyx 7, Ab hyx 8⟩)
      clear hini e7 d7 hyb hmd hckd hyx
      have HSd := Aa (show wx.drew.cell? ⟨M, 7, none⟩ = some (.pointer (some ⟨y.1, 0, none⟩)) ∧ wx.drew.cell? ⟨A, 0, none⟩ = some (.slice (some ⟨cb, co, none⟩) N cc) ∧ wx.drew.cell? ⟨A, 1, none⟩ = some (.string m.ret) ∧ wx.drew.cell? ⟨A, 2, none⟩ = some (.string m.nm) ∧ wx.drew.cell? ⟨A, 3, none⟩ = some (.bool m.st) ∧ wx.drew.cell? ⟨A, 4, none⟩ = some (.bool m.ba) ∧ wx.drew.cell? ⟨A, 5, none⟩ = some (.slice m.pa m.ps.length m.pc) ∧ wx.drew.cell? ⟨A, 6, none⟩ = some (.slice m.s5.1 m.s5.2.1 m.s5.2.2) ∧ wx.drew.cell? ⟨A, 7, none⟩ = some (.slice m.s6.1 m.s6.2.1 m.s6.2.2) ∧ wx.drew.cell? ⟨A, 8, none⟩ = some (.int .i64 m.line) ∧ wx.drew.cell? ⟨A, 9, none⟩ = some (.int .i64 m.col) ∧ wx.drew.cell? ⟨y.1, 0, none⟩ = some (.string y.2.m.ret) ∧ wx.drew.cell? ⟨y.1, 1, none⟩ = some (.string y.2.m.nm) ∧ wx.drew.cell? ⟨y.1, 2, none⟩ = some (.bool y.2.m.st) ∧ wx.drew.cell? ⟨y.1, 3, none⟩ = some (.bool y.2.m.ba) ∧ wx.drew.cell? ⟨y.1, 4, none⟩ = some (.slice y.2.m.pa y.2.m.ps.length y.2.m.pc) ∧ wx.drew.cell? ⟨y.1, 5, none⟩ = some (.slice y.2.m.s5.1 y.2.m.s5.2.1 y.2.m.s5.2.2) ∧ wx.drew.cell? ⟨y.1, 6, none⟩ = some (.slice y.2.m.s6.1 y.2.m.s6.2.1 y.2.m.s6.2.2) ∧ wx.drew.cell? ⟨y.1, 7, none⟩ = some (.int .i64 y.2.m.line) ∧ wx.drew.cell? ⟨y.1, 8, none⟩ = some (.int .i64 y.2.m.col) from HSx.out)
      go_region_held3 (fun w' => w'.cell? ⟨M, 7, none⟩ = some (.pointer (some ⟨y.1, 0, none⟩)) ∧ w'.cell? ⟨A, 0, none⟩ = some (.slice (some ⟨cb, co, none⟩) N cc) ∧ w'.cell? ⟨A, 1, none⟩ = some (.string m.ret) ∧ w'.cell? ⟨A, 2, none⟩ = some (.string m.nm) ∧ w'.cell? ⟨A, 3, none⟩ = some (.bool m.st) ∧ w'.cell? ⟨A, 4, none⟩ = some (.bool m.ba) ∧ w'.cell? ⟨A, 5, none⟩ = some (.slice m.pa m.ps.length m.pc) ∧ w'.cell? ⟨A, 6, none⟩ = some (.slice m.s5.1 m.s5.2.1 m.s5.2.2) ∧ w'.cell? ⟨A, 7, none⟩ = some (.slice m.s6.1 m.s6.2.1 m.s6.2.2) ∧ w'.cell? ⟨A, 8, none⟩ = some (.int .i64 m.line) ∧ w'.cell? ⟨A, 9, none⟩ = some (.int .i64 m.col) ∧ w'.cell? ⟨y.1, 0, none⟩ = some (.string y.2.m.ret) ∧ w'.cell? ⟨y.1, 1, none⟩ = some (.string y.2.m.nm) ∧ w'.cell? ⟨y.1, 2, none⟩ = some (.bool y.2.m.st) ∧ w'.cell? ⟨y.1, 3, none⟩ = some (.bool y.2.m.ba) ∧ w'.cell? ⟨y.1, 4, none⟩ = some (.slice y.2.m.pa y.2.m.ps.length y.2.m.pc) ∧ w'.cell? ⟨y.1, 5, none⟩ = some (.slice y.2.m.s5.1 y.2.m.s5.2.1 y.2.m.s5.2.2) ∧ w'.cell? ⟨y.1, 6, none⟩ = some (.slice y.2.m.s6.1 y.2.m.s6.2.1 y.2.m.s6.2.2) ∧ w'.cell? ⟨y.1, 7, none⟩ = some (.int .i64 y.2.m.line) ∧ w'.cell? ⟨y.1, 8, none⟩ = some (.int .i64 y.2.m.col)) (first | with_reducible exact HSx.out | with_reducible exact HSd.out | with_reducible exact HS6.out | go_keep) (first | (go_at_call 33; refine hcm.mono ?_; rintro e w6 ⟨⟨r, hr0, hr⟩, hc6, hck⟩; subst hr0; have HR := Aa hr; have HC6 := Aa hc6; have HK6 := Aa hck; have HS6 := Aa (show w6.cell? ⟨M, 7, none⟩ = some (.pointer (some ⟨y.1, 0, none⟩)) ∧ w6.cell? ⟨A, 0, none⟩ = some (.slice (some ⟨cb, co, none⟩) N cc) ∧ w6.cell? ⟨A, 1, none⟩ = some (.string m.ret) ∧ w6.cell? ⟨A, 2, none⟩ = some (.string m.nm) ∧ w6.cell? ⟨A, 3, none⟩ = some (.bool m.st) ∧ w6.cell? ⟨A, 4, none⟩ = some (.bool m.ba) ∧ w6.cell? ⟨A, 5, none⟩ = some (.slice m.pa m.ps.length m.pc) ∧ w6.cell? ⟨A, 6, none⟩ = some (.slice m.s5.1 m.s5.2.1 m.s5.2.2) ∧ w6.cell? ⟨A, 7, none⟩ = some (.slice m.s6.1 m.s6.2.1 m.s6.2.2) ∧ w6.cell? ⟨A, 8, none⟩ = some (.int .i64 m.line) ∧ w6.cell? ⟨A, 9, none⟩ = some (.int .i64 m.col) ∧ w6.cell? ⟨y.1, 0, none⟩ = some (.string y.2.m.ret) ∧ w6.cell? ⟨y.1, 1, none⟩ = some (.string y.2.m.nm) ∧ w6.cell? ⟨y.1, 2, none⟩ = some (.bool y.2.m.st) ∧ w6.cell? ⟨y.1, 3, none⟩ = some (.bool y.2.m.ba) ∧ w6.cell? ⟨y.1, 4, none⟩ = some (.slice y.2.m.pa y.2.m.ps.length y.2.m.pc) ∧ w6.cell? ⟨y.1, 5, none⟩ = some (.slice y.2.m.s5.1 y.2.m.s5.2.1 y.2.m.s5.2.2) ∧ w6.cell? ⟨y.1, 6, none⟩ = some (.slice y.2.m.s6.1 y.2.m.s6.2.1 y.2.m.s6.2.2) ∧ w6.cell? ⟨y.1, 7, none⟩ = some (.int .i64 y.2.m.line) ∧ w6.cell? ⟨y.1, 8, none⟩ = some (.int .i64 y.2.m.col) from ⟨Ae (HSd.out.1) HC6.out (fun _ _ e => hMb e), Ae (HSd.out.2.1) HC6.out (fun _ _ e => hAb e), Ae (HSd.out.2.2.1) HC6.out (fun _ _ e => hAb e), Ae (HSd.out.2.2.2.1) HC6.out (fun _ _ e => hAb e), Ae (HSd.out.2.2.2.2.1) HC6.out (fun _ _ e => hAb e), Ae (HSd.out.2.2.2.2.2.1) HC6.out (fun _ _ e => hAb e), Ae (HSd.out.2.2.2.2.2.2.1) HC6.out (fun _ _ e => hAb e), Ae (HSd.out.2.2.2.2.2.2.2.1) HC6.out (fun _ _ e => hAb e), Ae (HSd.out.2.2.2.2.2.2.2.2.1) HC6.out (fun _ _ e => hAb e), Ae (HSd.out.2.2.2.2.2.2.2.2.2.1) HC6.out (fun _ _ e => hAb e), Ae (HSd.out.2.2.2.2.2.2.2.2.2.2.1) HC6.out (fun _ _ e => hAb e), Ae (HSd.out.2.2.2.2.2.2.2.2.2.2.2.1) HC6.out (fun _ _ e => hyne e), Ae (HSd.out.2.2.2.2.2.2.2.2.2.2.2.2.1) HC6.out (fun _ _ e => hyne e), Ae (HSd.out.2.2.2.2.2.2.2.2.2.2.2.2.2.1) HC6.out (fun _ _ e => hyne e), Ae (HSd.out.2.2.2.2.2.2.2.2.2.2.2.2.2.2.1) HC6.out (fun _ _ e => hyne e), Ae (HSd.out.2.2.2.2.2.2.2.2.2.2.2.2.2.2.2.1) HC6.out (fun _ _ e => hyne e), Ae (HSd.out.2.2.2.2.2.2.2.2.2.2.2.2.2.2.2.2.1) HC6.out (fun _ _ e => hyne e), Ae (HSd.out.2.2.2.2.2.2.2.2.2.2.2.2.2.2.2.2.2.1) HC6.out (fun _ _ e => hyne e), Ae (HSd.out.2.2.2.2.2.2.2.2.2.2.2.2.2.2.2.2.2.2.1) HC6.out (fun _ _ e => hyne e), Ae (HSd.out.2.2.2.2.2.2.2.2.2.2.2.2.2.2.2.2.2.2.2) HC6.out (fun _ _ e => hyne e)⟩); clear hr hc6 hck hcm))
      all_goals (
       have HB6 := Aa (HC6.out.keep _ _ (show wx.drew.heap[M]? = some (.cells #[.string K.name, .string K.sup, .bool K.face, .slice K.fa K.faces.length K.fc, .slice K.f4 K.fs.length K.c4, .slice K.f5 K.ss.length K.c5, .slice K.f6 K.ms.length K.c6, .pointer K.p7, .int .i64 K.line, .int .i64 K.col] 50 (0, 0)) from HBX.out) (fun e => hMb e))
       go_wp2
       go_meet
       refine ⟨!r, rfl, Aa ⟨fun h b x e => ?_, fun h => ?_⟩, Aa (HCRX.out.drew.trans HC6.out), HB6, HK6⟩
       {rw [HINI.out] at e; cases e
        exact HR.out.1 (by simpa using h)}
       {have := HR.out.2 (h y.1 y.2 (by rw [HINI.out]))
        rw [this]; rfl})
    case rest =>
    obtain ⟨r, rfl, HIN, HCRC, HBC, HCKC⟩ := hcut
    have HCWC := Aa (Yw HC5.out HCRC.out hwb)
    have HPC := Aa (HCRC.out.keep _ _ HP5.out (fun e => hAb e))
    have HFC := Aa (HCRC.out.keep _ _ HF5.out (fun e => hBb e))
    clear d7 HCRX HCKX HPX HFX HCWX HBX
    cases r with
    | true =>
     have HNO := Aa (show ¬ S0 Ks ⟨m, ls, t⟩ from fun h => by
      have h1 := HIN.out.2 (h.2.1 k K HKX.out).1
      cases h1)
     obtain ⟨mv6, ret6, l6, c6, hk6⟩ := HCKC.out
     have HK6 := Aa hk6
     have HC6 := HCWC
     have HF6 := HFC
     exact Aa4
    | false =>
     have HINI := Aa (HIN.out.1 (by first | rfl | trivial))
     obtain ⟨J, hJ⟩ := Ax K.ms.length
     have HJ := Aa hJ
     have hJ9 : J ≤ 40 := by rw [← hJ]; exact (HP0.out.ks K HKM.out).z6
     have hcap6 : J ≤ K.c6 := by rw [← hJ]; exact (HP0.out.ks K HKM.out).r6.1
     have hbc := HBC.out
     rw [hJ] at hbc
     have d6 := Ab hbc 6
     obtain ⟨fa6, hfa6⟩ : ∃ f, K.f6 = f := ⟨_, rfl⟩
     rw [hfa6] at d6
     have HFA := Aa hfa6
     clear hbc hJ HIN hfa6
     obtain ⟨w9, hw9⟩ : ∃ w9, w9 = wc := ⟨_, rfl⟩
     subst hw9
     go_wp2
     go_loopg [2, 10, 52] J (fun gg s2 s10 s52 wr => ∃ q : Nat, q ≤ J ∧ J - q ≤ gg ∧ s52 = .int .i64 q ∧ Hid (Ch (fun q _ => q = b) w5 wr) ∧ Hid (∃ mv ret l c, M6 w4 wr b (Ks.map KD.c) (Ks.map KD.m) (.pointer (some ⟨xb, 0, none⟩)) mb mv ret l c) ∧ Hid (∀ x ∈ K.ms.take q, x.m.ba = false → Wa (Ks.map KD.c) (Ks.map KD.m) k x))
     case atStart => exact ⟨0, Nat.zero_le _, by omega, rfl, HCRC, HCKC, Aa (fun x h => by simp at h)⟩
     case round =>
      clear d6
      obtain ⟨q, hq, hg2, rfl, HCQ, HCKQ, HMQ⟩ := hrel
      have HCW := Aa (Yw HC5.out HCQ.out hwb)
      have HPW := Aa (HCQ.out.keep _ _ HP5.out (fun e => hAb e))
      have HFW := Aa (HCQ.out.keep _ _ HF5.out (fun e => hBb e))
      cases hd2 : decide (q < J) with
      | true =>
       have hqJ : q < J := by simpa using hd2
       obtain ⟨x, hx⟩ := gE (l := K.ms) (i := q) (by have := HJ.out; omega)
       obtain ⟨mb2, mo, emb, hmc⟩ := ((HP0.out.ks K HKM.out).mem.no HCW.out).ms.cell (k := q) (x := x.m) (by show (K.ms.map Md.m)[q]? = _; rw [List.getElem?_map, hx]; rfl)
       have emb' : fa6 = some ⟨mb2, mo, none⟩ := HFA.out.symm.trans emb
       subst emb'
       obtain ⟨q0, q1, q2, q3, q4, q5, q6, q7, q8⟩ := hmc
       have HXM := Aa (mG hx)
       have HXQ := Aa hx
       obtain ⟨wy, hwy, hby, hcy⟩ := A2 wr (.cells #[.string x.m.ret, .string x.m.nm, .bool x.m.st, .bool x.m.ba, .slice x.m.pa x.m.ps.length x.m.pc, .slice x.m.s5.1 x.m.s5.2.1 x.m.s5.2.2, .slice x.m.s6.1 x.m.s6.2.1 x.m.s6.2.2, .int .i64 x.m.line, .int .i64 x.m.col] 29)
       have HBY := Aa hby
       have HCY := Aa (HCW.out.trans hcy)
       have HPY := Aa (hcy.keep _ _ HPW.out (fun h => h))
       have HFY := Aa (hcy.keep _ _ HFW.out (fun h => h))
       have HCRY := Aa (HCQ.out.trans (hcy.mono (S' := fun q _ => q = b) (fun _ _ _ h => h.elim)))
       have HCKY : Hid (∃ mv ret l c, M6 w4 wy b (Ks.map KD.c) (Ks.map KD.m) (.pointer (some ⟨xb, 0, none⟩)) mb mv ret l c) := Aa (by obtain ⟨a1, a2, a3, a4, a5⟩ := HCKQ.out; exact ⟨a1, a2, a3, a4, a5.no hcy⟩)
       go_upto_region 13 with fail
       try rw [hwy]
       clear q0 q1 q2 q3 q4 q5 q6 q7 q8 hwy hby hcy hx emb
       obtain ⟨r0, r1, r2, r3, r4, r5, r6, r7, r8⟩ := B4 HBY.out
       cases hba : x.m.ba with
       | true =>
        rw [hba] at r3
        have HBA2 := Aa hba
        clear hba r0 r1 r2 r4 r5 r6 r7 r8
        go_wp2
        go_roundg (J - q - 1)
        case rel => exact ⟨q + 1, by omega, by omega, by go_num, HCRY, HCKY, Aa (fun x' hx' hb' => by
         rw [List.take_add_one, HXQ.out] at hx'
         rcases List.mem_append.1 hx' with h | h
         {exact HMQ.out x' h hb'}
         {simp at h; rw [h, HBA2.out] at hb'; cases hb'})⟩
        case measure => omega
       | false =>
        have HBA2 := Aa hba
        obtain ⟨mv, ret, l, c, hckd⟩ := HCKY.out
        have hcm := Aa3 HE.out HZP.out hckd (HPG.out HC4.out) (k : Int) (((HP0.out.ks K HKM.out).md x HXM.out).ch HC4.out (fun _ _ _ _ _ h => h))
        rw [hba] at hcm r3
        obtain ⟨p0, p1, p2, p3, p4, p5, p6, p7, p8, p9⟩ := Au HPY.out
        clear hba hckd
        go_wp2_with fail
        refine hcm.mono ?_
        rintro e w6 ⟨⟨r, rfl, hr⟩, hc6, hck⟩
        have HR := Aa hr
        have HC6 := Aa (Yw HCY.out hc6 hwb)
        have HF6 := Aa (hc6.keep _ _ HFY.out (fun e => hBb e))
        have HCR6 := Aa (HCRY.out.trans hc6)
        have HCK6 := Aa hck
        clear hr hc6 hck hcm p0 p1 p2 p3 p4 p5 p6 p7 p8 p9 r0 r1 r2 r3 r4 r5 r6 r7 r8
        cases r with
        | true =>
         have HOKX := Aa (HR.out.1 rfl)
         go_wp2
         go_roundg (J - q - 1)
         case rel => exact ⟨q + 1, by omega, by omega, by go_num, HCR6, HCK6, Aa (fun x' hx' hb' => by
          rw [List.take_add_one, HXQ.out] at hx'
          rcases List.mem_append.1 hx' with h | h
          {exact HMQ.out x' h hb'}
          {simp at h; rw [h]; exact HOKX.out})⟩
         case measure => omega
        | false =>
         have HNO := Aa (show ¬ S0 Ks ⟨m, ls, t⟩ from fun h => by
          have h1 := HR.out.2 ((h.2.1 k K HKX.out).2 x HXM.out HBA2.out)
          cases h1)
         obtain ⟨mv6, ret6, l6, c6, hk6⟩ := HCK6.out
         have HK6 := Aa hk6
         exact Aa4
      | false =>
       have hqJ : ¬ q < J := by simpa using hd2
       have HALL := Aa (show Vl (Ks.map KD.c) (Ks.map KD.m) k K from ⟨HINI.out, fun x hx hb => HMQ.out x (by rw [List.take_of_length_le (by have := HJ.out; omega)]; exact hx) hb⟩)
       go_wp2
       go_roundg (N - k - 1)
       case rel => exact ⟨k + 1, by omega, by omega, by go_num, HCQ, HCKQ, Aa (fun i K' hi hK' => by
        by_cases h1 : i < k
        {exact HDN.out i K' h1 hK'}
        {obtain rfl : i = k := by omega
         rw [HKX.out] at hK'; cases hK'
         exact HALL.out})⟩
       case measure => omega
   | false =>
    have hkl : ¬ k < N := by simpa using hd
    obtain ⟨mv, ret, l, c, hckd⟩ := HCK.out
    have hcm := Aa3 HE.out HZP.out hckd (HPG.out HC4.out) (-1) (x := ⟨m, ls, t⟩) (HP0.out.no HC4.out).main
    obtain ⟨p0, p1, p2, p3, p4, p5, p6, p7, p8, p9⟩ := Au HPW.out
    clear hckd
    go_wp2_with fail
    refine hcm.mono ?_
    rintro e w6 ⟨⟨r, rfl, hr⟩, hc6, hck⟩
    have HR := Aa hr
    have HC6 := Aa (Yw HCW.out hc6 hwb)
    have HF6 := Aa (hc6.keep _ _ HFW.out (fun e => hBb e))
    have HCK6 := Aa hck
    clear hr hc6 hck hcm p0 p1 p2 p3 p4 p5 p6 p7 p8 p9
    cases r with
    | true =>
     have HOKP := Aa (show S0 Ks ⟨m, ls, t⟩ from ⟨HOK.out, fun i K hK => HDN.out i K (by have h1 := (gL hK); have := HN.out; omega) hK, HR.out.1 rfl⟩)
     obtain ⟨a0, a1, a2⟩ := Dy HF6.out
     obtain ⟨f0, f1, f2⟩ := I5 HF6.out
     go_wp2_with fail
     obtain ⟨wf, hwf, hfb, hfc⟩ := Ev HF6.out (.int .i64 0) (.int .i64 0) (.int .i64 0)
     try rw [hwf]
     obtain ⟨k0, k1, k2⟩ := Dy hfb
     refine bodyPost_ret (v := .tuple #[.pointer (some ⟨mb, 0, none⟩), .agg #[.int .i64 0, .int .i64 0, .int .i64 0]]) (by simp [results, Tryz.results11, go_sem, k0, k1, k2]) rfl ?_
     exact ⟨Yw HC6.out hfc hwB, .inl ⟨HOKP.out, _, rfl⟩⟩
    | false =>
     have HNO := Aa (show ¬ S0 Ks ⟨m, ls, t⟩ from fun h => by
      have h1 := HR.out.2 h.2.2
      cases h1)
     obtain ⟨mv6, ret6, l6, c6, hk6⟩ := HCK6.out
     have HK6 := Aa hk6
     exact Aa4}
 {have HNO := Aa (show ¬ S0 Ks ⟨m, ls, t⟩ from fun h => hno h.1)
  have HC3 := Aa (HCB.out.trans hc3)
  have HF3 := Aa (hc3.keep _ _ HFB.out (fun h => h))
  clear hwa hwb hnw hc3 hno p0 p1 p2 p3 p4 p5 p6 p7 p8 p9
  go_upto_region 3 with fail
  obtain ⟨w4, hw4, hb4, hc4⟩ := A2 w3 (.cells #[.int .i64 11, .int .i64 l6, .int .i64 c6] 34)
  try rw [hw4]
  have HF4 := Aa (hc4.keep _ _ HF3.out (fun h => h))
  have HC4 := Aa (HC3.out.trans hc4)
  have hf4 := HF4.out
  obtain ⟨a0, a1, a2⟩ := Dy hf4
  obtain ⟨f0, f1, f2⟩ := I5 hf4
  obtain ⟨m0, m1, m2⟩ := Dy hb4
  clear hf4 hb4 hc4 hw4
  go_region
  all_goals (
   go_wp2_with fail
   obtain ⟨wf, hwf, hfb, hfc⟩ := Ev HF4.out (.int .i64 11) (.int .i64 l6) (.int .i64 c6)
   try rw [hwf]
   obtain ⟨k0, k1, k2⟩ := Dy hfb
   refine bodyPost_ret (v := .tuple #[.pointer none, .agg #[.int .i64 11, .int .i64 l6, .int .i64 c6]]) (by simp [results, Tryz.results11, go_sem, k0, k1, k2]) rfl ?_
   exact ⟨Yw HC4.out (by first | exact hfc | exact hfc.drew) hwB, .inr ⟨HNO.out, l6, c6, rfl⟩⟩)}
end Go.Proofs.YtgjpgfedlgdjhaaGreatDoor
end
