/- Part 8. -/
import Derived.Test.YtgjpgfedlgdjhaaGreatDoorYag
import Derived.Deep.CutRange
import Derived.Maps.RangeWalk
import Derived.Deep.RegionLaw
set_option linter.unusedVariables false
set_option linter.unusedSimpArgs false
set_option maxHeartbeats 64000000
set_option maxRecDepth 8192
section
namespace Go.Proofs.YtgjpgfedlgdjhaaGreatDoor
open Go.RowKit Go.W
def G9 (lk : Nat → Ba → ByteArray → Option Cy) (ms : List Ba) (nm : ByteArray) (i : Nat) : Option Cy := match ms[i]? with | some m => lk i m nm | none => none
def Fj (cs : List Aj) (lk : Nat → Ba → ByteArray → Option Cy) (ms : List Ba) (nm : ByteArray) (o : Option Nat) : Option (Nat × Cy) := Qp (G9 lk ms nm) (C7 cs o)
theorem Ka {cs : List Aj} {lk : Nat → Ba → ByteArray → Option Cy} {ms : List Ba} (hno : A3 cs) (nm : ByteArray) (i : Nat) :
 Fj cs lk ms nm (some i) = match G9 lk ms nm i with | some x => some (i, x) | none => Fj cs lk ms nm (D4 cs i) := by
 unfold Fj
 show Qp _ (E4 cs i) = _
 rw [Hn hno i]
 rw [Ea]
 cases G9 lk ms nm i <;> rfl
theorem Ll {cs : List Aj} (hno : A3 cs) (i : Nat) : (C7 cs (some i)).length = (C7 cs (D4 cs i)).length + 1 := T2 hno i
def UpV (o : Option Cy) (B : Nat) (e : Ending) (w' : World) : Prop := match o with
 | some x => ∃ sa sn sc, e = .returned (.tuple #[.agg #[.int .i64 x.cls, .string x.nm, .string x.ty, .slice sa sn sc, .bool x.st, .bool x.ba], .bool true]) ∧ Aq w' B (.slice sa sn sc) x.ps
 | none => e = .returned (.tuple #[.agg #[.int .i64 0, .string ⟨#[]⟩, .string ⟨#[]⟩, .slice none 0 0, .bool false, .bool false], .bool false])
def Lm (o : Option Cy) (w : World) (e : Ending) (w' : World) : Prop := UpV o w.heap.size e w' ∧ Ch No w w'
def Gj (ms : List Ba) : Prop := ∀ m ∈ ms, ∀ x ∈ m.ms, x.ps.length ≤ 1000
theorem Ud {ms : List Ba} (h : Gj ms) {i : Nat} {nm : ByteArray} {x : Cy} (hx : G9 Bi ms nm i = some x) : x.ps.length ≤ 1000 := by
 unfold G9 at hx
 cases hm : ms[i]? with
 | none => rw [hm] at hx; cases hx
 | some m =>
  rw [hm] at hx
  unfold Bi Ma at hx
  cases hv : Qo m.fs nm with
  | none => simp [hv] at hx
  | some v => simp [hv] at hx; subst hx; exact Nat.zero_le _
theorem R9 {ms : List Ba} (h : Gj ms) {i : Nat} {nm : ByteArray} {x : Cy} (hx : G9 A8 ms nm i = some x) : x.ps.length ≤ 1000 := by
 unfold G9 at hx
 cases hm : ms[i]? with
 | none => rw [hm] at hx; cases hx
 | some m =>
  rw [hm] at hx
  unfold A8 Ma at hx
  cases hv : Qo m.ss nm with
  | none => simp [hv] at hx
  | some v => simp [hv] at hx; subst hx; exact Nat.zero_le _
theorem Sa {ms : List Ba} (h : Gj ms) {i : Nat} {nm : ByteArray} {x : Cy} (hx : G9 A7 ms nm i = some x) : x.ps.length ≤ 1000 := by
 unfold G9 at hx
 cases hm : ms[i]? with
 | none => rw [hm] at hx; cases hx
 | some m =>
  rw [hm] at hx
  unfold A7 Hp at hx
  cases hk : Lk m.ms nm with
  | none => simp [hk] at hx
  | some k =>
   obtain ⟨y, hy, _⟩ := Ft hk
   simp [hk, hy] at hx
   subst hx
   simpa using h m (mG hm) y (mG hy)
theorem Gi.ownCell {w : World} {mb : Nat} {cs : List Aj} {ms : List Ba} {cv m0 m1 m2 m3 m4 m5 m6 m7 m8 xv ov : Value} {bs : List (Nat × Nat × Nat)} (h : Gi w mb cs ms cv m0 m1 m2 m3 m4 m5 m6 m7 m8 xv ov bs) {i : Nat} {m : Ba} (hi : i < cs.length) (hm : ms[i]? = some m) :
 ∃ ob oo oc b1 b2 b3, ov = .slice (some ⟨ob, oo, none⟩) cs.length oc ∧ cs.length ≤ oc ∧ oc ≤ maxLen ∧ Jb w (b1, b2, b3) i m ∧ w.cell? ⟨ob, oo + i * 3, none⟩ = some (.map (some b1)) ∧ w.cell? ⟨ob, oo + i * 3 + 1, none⟩ = some (.map (some b2)) ∧ w.cell? ⟨ob, oo + i * 3 + 2, none⟩ = some (.map (some b3)) := by
 obtain ⟨ao, cap, e, h1, h2, h3, h4⟩ := h.row
 rw [List.length_map, h.len] at e h1
 obtain ⟨ob, oo, rfl, h5⟩ := h4 (by rw [List.length_map, h.len]; omega)
 obtain ⟨b, hb⟩ := gE (l := bs) (i := i) (by rw [h.len]; exact hi)
 have h6 := fun j hj => h5 i (Ep b) (by rw [List.getElem?_map, hb]; rfl) j hj
 obtain ⟨b1, b2, b3⟩ := b
 exact ⟨ob, oo, cap, b1, b2, b3, e, h1, h2, h.own i _ m hb hm, h6 0 (by omega), h6 1 (by omega), h6 2 (by omega)⟩
theorem Gi.ownShape {w : World} {mb : Nat} {cs : List Aj} {ms : List Ba} {cv m0 m1 m2 m3 m4 m5 m6 m7 m8 xv ov : Value} {bs : List (Nat × Nat × Nat)} (h : Gi w mb cs ms cv m0 m1 m2 m3 m4 m5 m6 m7 m8 xv ov bs) :
 ∃ oa oc, ov = .slice oa cs.length oc ∧ cs.length ≤ oc ∧ oc ≤ maxLen := by
 obtain ⟨ao, cap, e, h1, h2, h3, h4⟩ := h.row
 rw [List.length_map, h.len] at e h1
 exact ⟨ao, cap, e, h1, h2⟩
theorem Z1 {p : Prop} (h : p := by
 subst hres
 clear hq HSTEP HR0
 go_wp2_with fail
 refine hclo.mono ?_
 rintro e w5 ⟨⟨sa, sn, sc, rfl, hst⟩, hc5⟩
 have K5 := Aa hc5
 have z5 := hc5.size
 obtain ⟨w6, hw6, hb6, hc6⟩ := A2 w5 (.cells #[.int .i64 x.cls, .string x.nm, .string x.ty, .slice sa sn sc, .bool x.st, .bool x.ba] 54)
 have hcl := Zz (hst.no hc6) hps
 have HB6 := Aa hb6
 have K6 := Aa (hc5.trans hc6)
 have i3 := Ab hb6 3
 clear hst hc5 hc6 hb6 hclo g0 g1 g2 c10 c11 x0
 go_wp2_with fail
 refine hcl.mono ?_
 rintro e w7 ⟨ua, un, uc, rfl, hst7, hc7⟩
 have K7 := Aa (K6.out.trans hc7)
 have HST := Aa hst7
 have hb7 := hc7.keep _ _ HB6.out (fun h => h)
 have HB7 := Aa hb7
 have hr7 := K7.out.keep _ _ HBR.out (fun h => h)
 have HR7 := Aa hr7
 obtain ⟨i0, i1, i2, i3, i4, i5⟩ := Dm hb7
 have j3 := Ad hb7 3
 obtain ⟨a0, a1, a2, a3, a4, a5⟩ := Dm hr7
 obtain ⟨f0, f1, f2, f3, f4, f5⟩ := M4 hr7
 have yne : w.heap.size ≠ w5.heap.size := by omega
 have yne' : w5.heap.size ≠ w.heap.size := by omega
 clear hw6 hst7 hc7 hb7 hr7 hcl
 go_wp2_with fail
 obtain ⟨wg, hwg⟩ := Ax (w7.setCell ⟨w5.heap.size, 3, none⟩ (.slice ua un uc))
 rw [hwg]
 have hcg : Ch (fun k _ => k = w5.heap.size) w7 wg := by rw [← hwg]; exact (Ch.refl _ w7).setCell (fun _ _ => rfl) _
 have hrg := hcg.keep _ _ HR7.out (fun e => yne e)
 obtain ⟨wf, hwf, hfb, hfc⟩ := Ew hrg (.int .i64 x.cls) (.string x.nm) (.string x.ty) (.slice ua un uc) (.bool x.st) (.bool x.ba)
 rw [hwf]
 obtain ⟨k0, k1, k2, k3, k4, k5⟩ := Dm hfb
 refine bodyPost_ret (v := .tuple #[.agg #[.int .i64 x.cls, .string x.nm, .string x.ty, .slice ua un uc, .bool x.st, .bool x.ba], .bool true]) (by simp [results, Tryz.results47, go_sem, k0, k1, k2, k3, k4, k5]) rfl ?_
 have y6 := Ac HB6.out
 refine ⟨⟨ua, un, uc, rfl, ?_⟩, Ch.newOnly (Ch.newOnly (HC1.out.trans (HC2.out.trans K7.out)) hcg (Eb (by omega))) hfc (fun k _ _ e => Nat.le_of_eq (show k = w.heap.size from e).symm)⟩
 exact ((HST.out.ch hcg (fun g cur hg hbg e => by have e' : g = w5.heap.size := e; omega)).ch hfc (fun g cur hg hbg e => by have e' : g = w.heap.size := e; omega)).base (by omega)
 ) : p := h
theorem Z2 {p : Prop} (h : p := by
 have HRES := Aa hres
 clear hres hq
 go_wp2_with fail
 refine hclo.mono ?_
 rintro e w5 ⟨rfl, hc5⟩
 have K5 := Aa hc5
 have e10 := Ab (hc5.keep _ _ HMR.out.blk (fun h => h)) 10
 have f0 := Ab (hc5.keep _ _ HXR.out.blk (fun h => h)) 0
 have z5 := hc5.size
 have zmb : mb < w5.heap.size := by omega
 have zxb : xb < w5.heap.size := by omega
 have hsu := Tv ((HXR.out.tab.no K5.out).no ((Ch.refl No w5).alloc (.cells #[.int .i64 0, .string ⟨#[]⟩, .string ⟨#[]⟩, .slice none 0 0, .bool false, .bool false] 54))) HCS.out
 clear hc5 hclo g0 g1 g2 c10 c11 x0
 go_wp2_with fail
 refine hsu.mono ?_
 rintro e w6 ⟨rfl, rfl⟩
 clear hsu
 go_wp2
 go_roundg (L - 1)
 case rel => exact ⟨_, L - 1, Nat.le_refl _, rfl, Aa ⟨_, T3 HCS.out (HS.out k c HCS.out), HRES.out.symm, by have h1 := Ll HNO.out k; have h2 := HLNN.out; omega⟩, HC2.out.trans (K5.out.alloc _)⟩
 case measure => have h1 := Ll HNO.out k; have h2 := HLNN.out; omega
 ) : p := h
theorem Z3 {p : Prop} (h : p := by
 have hres : r0 = none := by rw [← hv]; rfl
 subst hres
 clear hv hln HO HR0
 obtain ⟨a0, a1, a2, a3, a4, a5⟩ := Dm HBR.out
 obtain ⟨f0, f1, f2, f3, f4, f5⟩ := M4 HBR.out
 have hzz : (0 ≤ z1 ∧ ¬ z1 < len) ∨ ¬ 0 ≤ z1 := by omega
 rcases hzz with ⟨h0, h1⟩ | h1
 all_goals (
  go_wp2_with fail
  obtain ⟨wf, hwf, hfb, hfc⟩ := Ew HBR.out (.int .i64 0) (.string ⟨#[]⟩) (.string ⟨#[]⟩) (.slice none 0 0) (.bool false) (.bool false)
  rw [hwf]
  obtain ⟨k0, k1, k2, k3, k4, k5⟩ := Dm hfb
  refine bodyPost_ret (v := .tuple #[.agg #[.int .i64 0, .string ⟨#[]⟩, .string ⟨#[]⟩, .slice none 0 0, .bool false, .bool false], .bool false]) (by simp [results, Tryz.results47, go_sem, k0, k1, k2, k3, k4, k5]) rfl ?_
  exact ⟨rfl, Ch.newOnly (HC1.out.trans HC2.out) hfc (fun k _ _ e => Nat.le_of_eq (show k = w.heap.size from e).symm)⟩)
 ) : p := h
theorem W9 {w : World} {mb : Nat} {cs : List Aj} {ms : List Ba} (h : B3 w mb cs ms) (hS : B2 cs) (hno : A3 cs) (hln : ms.length = cs.length) (hfw : Gj ms) {z : Int} {o : Option Nat} (hz : Ja cs z o) {nb : Nat} {nm : ByteArray} (hnz : nm.size ≤ maxLen) (hnb : w.cell? ⟨nb, 0, none⟩ = some (.string nm)) :
 Calls Tryz.prog 47 #[.pointer (some ⟨mb, 0, none⟩), .int .i64 z, .func (.func 52) #[] #[.pointer (some ⟨nb, 0, none⟩)]] w (Lm ((Fj cs Bi ms nm o).map Prod.snd) w) := by
 obtain ⟨cv, m0, m1, m2, m3, m4, m5, m6, m7, m8, xv, ov, bs, h⟩ := h
 obtain ⟨oa, oc, rfl, hoc, hom⟩ := h.ownShape
 obtain ⟨len, Av⟩ := Ax cs.length
 rw [Av] at h hoc
 unfold maxLen at hom
 have HL := Aa Av
 have HS := Aa hS
 have HNO := Aa hno
 have HLN := Aa hln
 have HFW := Aa hfw
 have HNZ := Aa hnz
 have HZ := Aa hz
 obtain ⟨xb, tb, abv, ss, hxv, hx⟩ := h.typ
 subst hxv
 obtain ⟨w1, hw1, hb1, hc1⟩ := A2 w (.cells #[.int .i64 0, .string ⟨#[]⟩, .string ⟨#[]⟩, .slice none 0 0, .bool false, .bool false] 54)
 have HC1 := Aa hc1
 have HB1 := Aa hb1
 have HM := Aa (h.no hc1)
 have HX := Aa (hx.no hc1)
 have HNB := Aa (Ae hnb hc1 (fun _ _ h => h))
 have ymb : mb < w.heap.size := Ac h.blk
 have yxb : xb < w.heap.size := Ac hx.blk
 have y1 := Ac hb1
 obtain ⟨r0, hr0⟩ : ∃ r, Fj cs Bi ms nm o = r := ⟨_, rfl⟩
 obtain ⟨N, hN⟩ := Ax ((C7 cs o).length)
 have HR0 := Aa hr0
 have HNN := Aa hN
 rw [hr0]
 clear Av hS hno hln hfw hnz hz h hx hb1 hc1 hnb hr0 hN
 go_in
 go_wp2_with fail
 clear hw1
 go_loopg [8, 9, 10] N (fun g s8 s9 s10 wr => ∃ (z1 : Int) (L : Nat), L ≤ g ∧ s8 = .int .i64 z1 ∧ Hid (∃ o, Ja cs z1 o ∧ Fj cs Bi ms nm o = r0 ∧ (C7 cs o).length ≤ L) ∧ Ch No w1 wr)
 case atStart => exact ⟨z, N, Nat.le_refl _, rfl, Aa ⟨_, HZ.out, HR0.out, by have := HNN.out; omega⟩, Ch.refl _ _⟩
 case round =>
  obtain ⟨z1, L, hL, rfl, HO, hc⟩ := hrel
  have HC2 := Aa hc
  have hzr := hc.size
  have HBR := Aa (hc.keep _ _ HB1.out (fun h => h))
  have HMR := Aa (HM.out.no hc)
  have HXR := Aa (HX.out.no hc)
  have c11 := Ab HMR.out.blk 11
  have c10 := Ab HMR.out.blk 10
  have x0 := Ab HXR.out.blk 0
  clear hc
  have ho := HO.out
  obtain ⟨o, hz, hv, hln⟩ := ho
  rcases hz with ⟨k, rfl, hk, rfl⟩ | ⟨rfl, hz⟩
  {have hkl : k < len := by have := HL.out; omega
   obtain ⟨c, hcs⟩ : ∃ c, cs[k]? = some c := ⟨_, List.getElem?_eq_getElem hk⟩
   obtain ⟨m, hmk⟩ := gE (l := ms) (i := k) (by have := HLN.out; omega)
   obtain ⟨ob, oo, oc', b1, b2, b3, e, _, _, hob, g0, g1, g2⟩ := HMR.out.ownCell hk hmk
   rw [HL.out] at e
   cases e
   have hlk : G9 Bi ms nm k = Bi k m nm := by unfold G9; rw [hmk]
   have hclo := Uc (b := (b1, b2, b3)) (hob.tells nm).1 HNZ.out (Ae HNB.out HC2.out (fun _ _ h => h))
   have hstep := Ka (lk := Bi) (ms := ms) HNO.out nm k
   rw [hv, hlk] at hstep
   have HSTEP := Aa hstep
   have HLK := Aa hlk
   have HLNN := Aa hln
   have HCS := Aa hcs
   have HK := Aa hk
   clear hob hmk hv hln hcs hstep hlk HO hk
   cases hq : Bi k m nm with
   | none =>
    rw [hq] at hclo HSTEP
    have hres : r0 = Fj cs Bi ms nm (D4 cs k) := HSTEP.out
    exact Z2
   | some x =>
    rw [hq] at hclo HSTEP
    have hres : r0 = some (k, x) := HSTEP.out
    have hps : x.ps.length ≤ 1000 := Ud HFW.out (HLK.out.trans hq)
    exact Z1}
  {have hz' : ¬ (0 ≤ z1 ∧ z1 < len) := by have := HL.out; omega
   exact Z3}
theorem Ue {w : World} {mb : Nat} {cs : List Aj} {ms : List Ba} (h : B3 w mb cs ms) (hS : B2 cs) (hno : A3 cs) (hln : ms.length = cs.length) (hfw : Gj ms) {z : Int} {o : Option Nat} (hz : Ja cs z o) {nb : Nat} {nm : ByteArray} (hnz : nm.size ≤ maxLen) (hnb : w.cell? ⟨nb, 0, none⟩ = some (.string nm)) :
 Calls Tryz.prog 47 #[.pointer (some ⟨mb, 0, none⟩), .int .i64 z, .func (.func 117) #[] #[.pointer (some ⟨nb, 0, none⟩)]] w (Lm ((Fj cs A8 ms nm o).map Prod.snd) w) := by
 obtain ⟨cv, m0, m1, m2, m3, m4, m5, m6, m7, m8, xv, ov, bs, h⟩ := h
 obtain ⟨oa, oc, rfl, hoc, hom⟩ := h.ownShape
 obtain ⟨len, Av⟩ := Ax cs.length
 rw [Av] at h hoc
 unfold maxLen at hom
 have HL := Aa Av
 have HS := Aa hS
 have HNO := Aa hno
 have HLN := Aa hln
 have HFW := Aa hfw
 have HNZ := Aa hnz
 have HZ := Aa hz
 obtain ⟨xb, tb, abv, ss, hxv, hx⟩ := h.typ
 subst hxv
 obtain ⟨w1, hw1, hb1, hc1⟩ := A2 w (.cells #[.int .i64 0, .string ⟨#[]⟩, .string ⟨#[]⟩, .slice none 0 0, .bool false, .bool false] 54)
 have HC1 := Aa hc1
 have HB1 := Aa hb1
 have HM := Aa (h.no hc1)
 have HX := Aa (hx.no hc1)
 have HNB := Aa (Ae hnb hc1 (fun _ _ h => h))
 have ymb : mb < w.heap.size := Ac h.blk
 have yxb : xb < w.heap.size := Ac hx.blk
 have y1 := Ac hb1
 obtain ⟨r0, hr0⟩ : ∃ r, Fj cs A8 ms nm o = r := ⟨_, rfl⟩
 obtain ⟨N, hN⟩ := Ax ((C7 cs o).length)
 have HR0 := Aa hr0
 have HNN := Aa hN
 rw [hr0]
 clear Av hS hno hln hfw hnz hz h hx hb1 hc1 hnb hr0 hN
 go_in
 go_wp2_with fail
 clear hw1
 go_loopg [8, 9, 10] N (fun g s8 s9 s10 wr => ∃ (z1 : Int) (L : Nat), L ≤ g ∧ s8 = .int .i64 z1 ∧ Hid (∃ o, Ja cs z1 o ∧ Fj cs A8 ms nm o = r0 ∧ (C7 cs o).length ≤ L) ∧ Ch No w1 wr)
 case atStart => exact ⟨z, N, Nat.le_refl _, rfl, Aa ⟨_, HZ.out, HR0.out, by have := HNN.out; omega⟩, Ch.refl _ _⟩
 case round =>
  obtain ⟨z1, L, hL, rfl, HO, hc⟩ := hrel
  have HC2 := Aa hc
  have hzr := hc.size
  have HBR := Aa (hc.keep _ _ HB1.out (fun h => h))
  have HMR := Aa (HM.out.no hc)
  have HXR := Aa (HX.out.no hc)
  have c11 := Ab HMR.out.blk 11
  have c10 := Ab HMR.out.blk 10
  have x0 := Ab HXR.out.blk 0
  clear hc
  have ho := HO.out
  obtain ⟨o, hz, hv, hln⟩ := ho
  rcases hz with ⟨k, rfl, hk, rfl⟩ | ⟨rfl, hz⟩
  {have hkl : k < len := by have := HL.out; omega
   obtain ⟨c, hcs⟩ : ∃ c, cs[k]? = some c := ⟨_, List.getElem?_eq_getElem hk⟩
   obtain ⟨m, hmk⟩ := gE (l := ms) (i := k) (by have := HLN.out; omega)
   obtain ⟨ob, oo, oc', b1, b2, b3, e, _, _, hob, g0, g1, g2⟩ := HMR.out.ownCell hk hmk
   rw [HL.out] at e
   cases e
   have hlk : G9 A8 ms nm k = A8 k m nm := by unfold G9; rw [hmk]
   have hclo := R7 (b := (b1, b2, b3)) (hob.tells nm).2.1 HNZ.out (Ae HNB.out HC2.out (fun _ _ h => h))
   have hstep := Ka (lk := A8) (ms := ms) HNO.out nm k
   rw [hv, hlk] at hstep
   have HSTEP := Aa hstep
   have HLK := Aa hlk
   have HLNN := Aa hln
   have HCS := Aa hcs
   have HK := Aa hk
   clear hob hmk hv hln hcs hstep hlk HO hk
   cases hq : A8 k m nm with
   | none =>
    rw [hq] at hclo HSTEP
    have hres : r0 = Fj cs A8 ms nm (D4 cs k) := HSTEP.out
    exact Z2
   | some x =>
    rw [hq] at hclo HSTEP
    have hres : r0 = some (k, x) := HSTEP.out
    have hps : x.ps.length ≤ 1000 := R9 HFW.out (HLK.out.trans hq)
    exact Z1}
  {have hz' : ¬ (0 ≤ z1 ∧ z1 < len) := by have := HL.out; omega
   exact Z3}
theorem Uf {w : World} {mb : Nat} {cs : List Aj} {ms : List Ba} (h : B3 w mb cs ms) (hS : B2 cs) (hno : A3 cs) (hln : ms.length = cs.length) (hfw : Gj ms) {z : Int} {o : Option Nat} (hz : Ja cs z o) {nb : Nat} {nm : ByteArray} (hnz : nm.size ≤ maxLen) (hnb : w.cell? ⟨nb, 0, none⟩ = some (.string nm)) :
 Calls Tryz.prog 47 #[.pointer (some ⟨mb, 0, none⟩), .int .i64 z, .func (.func 48) #[] #[.pointer (some ⟨nb, 0, none⟩)]] w (Lm ((Fj cs A7 ms nm o).map Prod.snd) w) := by
 obtain ⟨cv, m0, m1, m2, m3, m4, m5, m6, m7, m8, xv, ov, bs, h⟩ := h
 obtain ⟨oa, oc, rfl, hoc, hom⟩ := h.ownShape
 obtain ⟨len, Av⟩ := Ax cs.length
 rw [Av] at h hoc
 unfold maxLen at hom
 have HL := Aa Av
 have HS := Aa hS
 have HNO := Aa hno
 have HLN := Aa hln
 have HFW := Aa hfw
 have HNZ := Aa hnz
 have HZ := Aa hz
 obtain ⟨xb, tb, abv, ss, hxv, hx⟩ := h.typ
 subst hxv
 obtain ⟨w1, hw1, hb1, hc1⟩ := A2 w (.cells #[.int .i64 0, .string ⟨#[]⟩, .string ⟨#[]⟩, .slice none 0 0, .bool false, .bool false] 54)
 have HC1 := Aa hc1
 have HB1 := Aa hb1
 have HM := Aa (h.no hc1)
 have HX := Aa (hx.no hc1)
 have HNB := Aa (Ae hnb hc1 (fun _ _ h => h))
 have ymb : mb < w.heap.size := Ac h.blk
 have yxb : xb < w.heap.size := Ac hx.blk
 have y1 := Ac hb1
 obtain ⟨r0, hr0⟩ : ∃ r, Fj cs A7 ms nm o = r := ⟨_, rfl⟩
 obtain ⟨N, hN⟩ := Ax ((C7 cs o).length)
 have HR0 := Aa hr0
 have HNN := Aa hN
 rw [hr0]
 clear Av hS hno hln hfw hnz hz h hx hb1 hc1 hnb hr0 hN
 go_in
 go_wp2_with fail
 clear hw1
 go_loopg [8, 9, 10] N (fun g s8 s9 s10 wr => ∃ (z1 : Int) (L : Nat), L ≤ g ∧ s8 = .int .i64 z1 ∧ Hid (∃ o, Ja cs z1 o ∧ Fj cs A7 ms nm o = r0 ∧ (C7 cs o).length ≤ L) ∧ Ch No w1 wr)
 case atStart => exact ⟨z, N, Nat.le_refl _, rfl, Aa ⟨_, HZ.out, HR0.out, by have := HNN.out; omega⟩, Ch.refl _ _⟩
 case round =>
  obtain ⟨z1, L, hL, rfl, HO, hc⟩ := hrel
  have HC2 := Aa hc
  have hzr := hc.size
  have HBR := Aa (hc.keep _ _ HB1.out (fun h => h))
  have HMR := Aa (HM.out.no hc)
  have HXR := Aa (HX.out.no hc)
  have c11 := Ab HMR.out.blk 11
  have c10 := Ab HMR.out.blk 10
  have x0 := Ab HXR.out.blk 0
  clear hc
  have ho := HO.out
  obtain ⟨o, hz, hv, hln⟩ := ho
  rcases hz with ⟨k, rfl, hk, rfl⟩ | ⟨rfl, hz⟩
  {have hkl : k < len := by have := HL.out; omega
   obtain ⟨c, hcs⟩ : ∃ c, cs[k]? = some c := ⟨_, List.getElem?_eq_getElem hk⟩
   obtain ⟨m, hmk⟩ := gE (l := ms) (i := k) (by have := HLN.out; omega)
   obtain ⟨ob, oo, oc', b1, b2, b3, e, _, _, hob, g0, g1, g2⟩ := HMR.out.ownCell hk hmk
   rw [HL.out] at e
   cases e
   have hlk : G9 A7 ms nm k = A7 k m nm := by unfold G9; rw [hmk]
   have hclo := R8 (b := (b1, b2, b3)) (hob.tells nm).2.2 HNZ.out (Ae HNB.out HC2.out (fun _ _ h => h))
   have hstep := Ka (lk := A7) (ms := ms) HNO.out nm k
   rw [hv, hlk] at hstep
   have HSTEP := Aa hstep
   have HLK := Aa hlk
   have HLNN := Aa hln
   have HCS := Aa hcs
   have HK := Aa hk
   clear hob hmk hv hln hcs hstep hlk HO hk
   cases hq : A7 k m nm with
   | none =>
    rw [hq] at hclo HSTEP
    have hres : r0 = Fj cs A7 ms nm (D4 cs k) := HSTEP.out
    exact Z2
   | some x =>
    rw [hq] at hclo HSTEP
    have hres : r0 = some (k, x) := HSTEP.out
    have hps : x.ps.length ≤ 1000 := Sa HFW.out (HLK.out.trans hq)
    exact Z1}
  {have hz' : ¬ (0 ≤ z1 ∧ z1 < len) := by have := HL.out; omega
   exact Z3}
theorem Abp {p : Prop} (h : p := by
 refine ⟨⟨sa, sn, sc, rfl, ?_⟩, Ch.newOnly HC3.out hfc (Eb (by omega))⟩
 exact (HST.out.ch hfc (fun g cur hg hbg e => by have e' : g = w1.heap.size := e; omega)).base (by omega)
 ) : p := h
theorem Ug {w : World} {mb : Nat} {cs : List Aj} {ms : List Ba} (h : B3 w mb cs ms) (hS : B2 cs) (hno : A3 cs) (hln : ms.length = cs.length) (hfw : Gj ms) {z : Int} {o : Option Nat} (hz : Ja cs z o) {nm : ByteArray} (hnz : nm.size ≤ maxLen) :
 Calls Tryz.prog 21 #[.pointer (some ⟨mb, 0, none⟩), .int .i64 z, .string nm] w (Lm ((Fj cs Bi ms nm o).map Prod.snd) w) := by
 have hmf := @G3 Tryz.prog
 obtain ⟨w1, hw1, hb1, hc1⟩ := A2 w (.cells #[.string nm] 9)
 obtain ⟨w2, hw2, hb2, hc2⟩ := A2 w1 (.cells #[.int .i64 0, .string ⟨#[]⟩, .string ⟨#[]⟩, .slice none 0 0, .bool false, .bool false] 54)
 have HC := Aa (hc1.trans hc2)
 have HB2 := Aa hb2
 have hzw := hc1.size
 have hzw2 := Ac hb2
 have hup := W9 (h.no HC.out) hS hno hln hfw hz hnz (Ab (hc2.keep _ _ hb1 (fun h => h)) 0)
 clear h hS hno hln hfw hz hnz hb1 hb2 hc1 hc2
 cases hr : (Fj cs Bi ms nm o).map Prod.snd with
 | none =>
  rw [hr] at hup
  clear hr
  go_in
  go_wp2_with fail
  refine hup.mono ?_
  rintro e w3 ⟨rfl, hc3⟩
  have HC3 := Aa (HC.out.trans hc3)
  have HB3 := Aa (hc3.keep _ _ HB2.out (fun h => h))
  have hb3 := HB3.out
  obtain ⟨a0, a1, a2, a3, a4, a5⟩ := Dm hb3
  obtain ⟨f0, f1, f2, f3, f4, f5⟩ := M4 hb3
  clear hb3 hc3 hup hw1 hw2
  go_wp2_with fail
  obtain ⟨wf, hwf, hfb, hfc⟩ := Ew HB3.out (.int .i64 0) (.string ⟨#[]⟩) (.string ⟨#[]⟩) (.slice none 0 0) (.bool false) (.bool false)
  rw [hwf]
  obtain ⟨k0, k1, k2, k3, k4, k5⟩ := Dm hfb
  refine bodyPost_ret (v := .tuple #[.agg #[.int .i64 0, .string ⟨#[]⟩, .string ⟨#[]⟩, .slice none 0 0, .bool false, .bool false], .bool false]) (by simp [results, Tryz.results21, go_sem, k0, k1, k2, k3, k4, k5]) rfl ?_
  exact ⟨rfl, Ch.newOnly HC3.out hfc (Eb (by omega))⟩
 | some x =>
  rw [hr] at hup
  clear hr
  go_in
  go_wp2_with fail
  refine hup.mono ?_
  rintro e w3 ⟨⟨sa, sn, sc, rfl, hst⟩, hc3⟩
  have HC3 := Aa (HC.out.trans hc3)
  have HB3 := Aa (hc3.keep _ _ HB2.out (fun h => h))
  have HST := Aa hst
  have hb3 := HB3.out
  obtain ⟨a0, a1, a2, a3, a4, a5⟩ := Dm hb3
  obtain ⟨f0, f1, f2, f3, f4, f5⟩ := M4 hb3
  clear hb3 hc3 hup hw1 hw2 hst
  go_wp2_with fail
  obtain ⟨wf, hwf, hfb, hfc⟩ := Ew HB3.out (.int .i64 x.cls) (.string x.nm) (.string x.ty) (.slice sa sn sc) (.bool x.st) (.bool x.ba)
  rw [hwf]
  obtain ⟨k0, k1, k2, k3, k4, k5⟩ := Dm hfb
  refine bodyPost_ret (v := .tuple #[.agg #[.int .i64 x.cls, .string x.nm, .string x.ty, .slice sa sn sc, .bool x.st, .bool x.ba], .bool true]) (by simp [results, Tryz.results21, go_sem, k0, k1, k2, k3, k4, k5]) rfl ?_
  exact Abp
theorem Qt {w : World} {mb : Nat} {cs : List Aj} {ms : List Ba} (h : B3 w mb cs ms) (hS : B2 cs) (hno : A3 cs) (hln : ms.length = cs.length) (hfw : Gj ms) {z : Int} {o : Option Nat} (hz : Ja cs z o) {nm : ByteArray} (hnz : nm.size ≤ maxLen) :
 Calls Tryz.prog 83 #[.pointer (some ⟨mb, 0, none⟩), .int .i64 z, .string nm] w (Lm ((Fj cs A8 ms nm o).map Prod.snd) w) := by
 have hmf := @G3 Tryz.prog
 obtain ⟨w1, hw1, hb1, hc1⟩ := A2 w (.cells #[.string nm] 9)
 obtain ⟨w2, hw2, hb2, hc2⟩ := A2 w1 (.cells #[.int .i64 0, .string ⟨#[]⟩, .string ⟨#[]⟩, .slice none 0 0, .bool false, .bool false] 54)
 have HC := Aa (hc1.trans hc2)
 have HB2 := Aa hb2
 have hzw := hc1.size
 have hzw2 := Ac hb2
 have hup := Ue (h.no HC.out) hS hno hln hfw hz hnz (Ab (hc2.keep _ _ hb1 (fun h => h)) 0)
 clear h hS hno hln hfw hz hnz hb1 hb2 hc1 hc2
 cases hr : (Fj cs A8 ms nm o).map Prod.snd with
 | none =>
  rw [hr] at hup
  clear hr
  go_in
  go_wp2_with fail
  refine hup.mono ?_
  rintro e w3 ⟨rfl, hc3⟩
  have HC3 := Aa (HC.out.trans hc3)
  have HB3 := Aa (hc3.keep _ _ HB2.out (fun h => h))
  have hb3 := HB3.out
  obtain ⟨a0, a1, a2, a3, a4, a5⟩ := Dm hb3
  obtain ⟨f0, f1, f2, f3, f4, f5⟩ := M4 hb3
  clear hb3 hc3 hup hw1 hw2
  go_wp2_with fail
  obtain ⟨wf, hwf, hfb, hfc⟩ := Ew HB3.out (.int .i64 0) (.string ⟨#[]⟩) (.string ⟨#[]⟩) (.slice none 0 0) (.bool false) (.bool false)
  rw [hwf]
  obtain ⟨k0, k1, k2, k3, k4, k5⟩ := Dm hfb
  refine bodyPost_ret (v := .tuple #[.agg #[.int .i64 0, .string ⟨#[]⟩, .string ⟨#[]⟩, .slice none 0 0, .bool false, .bool false], .bool false]) (by simp [results, Tryz.results83, go_sem, k0, k1, k2, k3, k4, k5]) rfl ?_
  exact ⟨rfl, Ch.newOnly HC3.out hfc (Eb (by omega))⟩
 | some x =>
  rw [hr] at hup
  clear hr
  go_in
  go_wp2_with fail
  refine hup.mono ?_
  rintro e w3 ⟨⟨sa, sn, sc, rfl, hst⟩, hc3⟩
  have HC3 := Aa (HC.out.trans hc3)
  have HB3 := Aa (hc3.keep _ _ HB2.out (fun h => h))
  have HST := Aa hst
  have hb3 := HB3.out
  obtain ⟨a0, a1, a2, a3, a4, a5⟩ := Dm hb3
  obtain ⟨f0, f1, f2, f3, f4, f5⟩ := M4 hb3
  clear hb3 hc3 hup hw1 hw2 hst
  go_wp2_with fail
  obtain ⟨wf, hwf, hfb, hfc⟩ := Ew HB3.out (.int .i64 x.cls) (.string x.nm) (.string x.ty) (.slice sa sn sc) (.bool x.st) (.bool x.ba)
  rw [hwf]
  obtain ⟨k0, k1, k2, k3, k4, k5⟩ := Dm hfb
  refine bodyPost_ret (v := .tuple #[.agg #[.int .i64 x.cls, .string x.nm, .string x.ty, .slice sa sn sc, .bool x.st, .bool x.ba], .bool true]) (by simp [results, Tryz.results83, go_sem, k0, k1, k2, k3, k4, k5]) rfl ?_
  exact Abp
def Jc (ms : List Ba) (r : Nat × Nat) : Option Cy := match ms[r.1]? with | some m => (m.ms[r.2]?).map (fun x => ⟨r.1, x.nm, x.ret, x.ps.map Vr.ty, x.st, x.ba⟩) | none => none
def C9 (cs : List Aj) (ms : List Ba) (nm : ByteArray) (o : Option Nat) : Option Cy := match o with | some i => (Ez cs ms nm i).bind (Jc ms) | none => none
theorem Kb {ms : List Ba} {nm : ByteArray} : ∀ l : List Nat, (Qp (G9 A7 ms nm) l).map Prod.snd = (Qp (J7 ms nm) l).bind (Jc ms)
 | [] => rfl
 | j :: l => by
  rw [Ea, Ea]
  unfold G9 J7
  cases hm : ms[j]? with
  | none => exact Kb l
  | some m =>
   simp only
   unfold A7 Hp
   cases hk : Lk m.ms nm with
   | none => exact Kb l
   | some k =>
    obtain ⟨x, hx, _⟩ := Ft hk
    simp [hx, Jc, hm]
theorem Nn {cs : List Aj} {ms : List Ba} {nm : ByteArray} {o : Option Nat} : (Fj cs A7 ms nm o).map Prod.snd = (Cc cs ms nm o).bind (Jc ms) := Kb _
theorem Jl {ms : List Ba} {nm : ByteArray} : ∀ {l : List Nat} {r : Nat × Nat}, Qp (J7 ms nm) l = some r → ∃ x, Jc ms r = some x
 | [], r, h => by cases h
 | j :: l, r, h => by
  rw [Ea] at h
  unfold J7 at h
  cases hm : ms[j]? with
  | none => rw [hm] at h; exact Jl h
  | some m =>
   rw [hm] at h
   simp only at h
   cases hk : Lk m.ms nm with
   | none => rw [hk] at h; exact Jl h
   | some k =>
    rw [hk] at h
    obtain ⟨x, hx, _⟩ := Ft hk
    cases h
    exact ⟨_, by unfold Jc; simp only [hm]; simp only [hx, Option.map_some]; rfl⟩
theorem Np {cs : List Aj} {ms : List Ba} {nm : ByteArray} {o : Option Nat} (h : (Fj cs A7 ms nm o).map Prod.snd = none) : Cc cs ms nm o = none := by
 rw [Nn] at h
 cases hr : Cc cs ms nm o with
 | none => rfl
 | some r =>
  rw [hr] at h
  obtain ⟨x, hx⟩ := Jl hr
  rw [Option.bind_some, hx] at h
  cases h
theorem Uh {cs : List Aj} {ms : List Ba} (hno : A3 cs) {nm : ByteArray} {o : Option Nat} {x : Cy} (h : (Fj cs A7 ms nm o).map Prod.snd = some x) : C9 cs ms nm o = some x := by
 rw [Nn] at h
 cases o with
 | none => cases h
 | some i =>
  unfold C9
  simp only
  rw [D5 hno]
  cases hr : Cc cs ms nm (some i) with
  | none => rw [hr] at h; cases h
  | some r => rw [hr] at h; exact h
theorem Iz {cs : List Aj} {ms : List Ba} (hno : A3 cs) {nm : ByteArray} {i : Nat} (h : Cc cs ms nm (some i) = none) (hf : Fd cs i = false) : Ez cs ms nm i = none := by
 rw [D5 hno, h]
 simp [hf]
theorem Fe {cs : List Aj} {i : Nat} {c : Aj} (hc : cs[i]? = some c) : Fd cs i = c.face := by unfold Fd; rw [hc]
theorem Kc {cs : List Aj} {ms : List Ba} (hno : A3 cs) {nm : ByteArray} {i : Nat} {c : Aj} (hc : cs[i]? = some c) (ho : V9 cs i c) (h : Cc cs ms nm (some i) = none) (hf : c.face = true) : Ez cs ms nm i = (Az cs i).findSome? (Ez cs ms nm) := by
 rw [D5 hno, h, Fe hc, hf]
 simp only [if_true]
 unfold Az Fs
 rw [hc]
 simp only
 unfold Aj.ups
 cases he : c.sup.toList.isEmpty with
 | true => simp
 | false =>
  obtain ⟨s, d, hfs, hds, hdf⟩ := ho.sup he
  have hup : D4 cs i = some s := by
   unfold D4
   rw [hc]
   simp [he, hfs]
  have h2 : Cc cs ms nm (some s) = none := by
   have h3 := Nj (ms := ms) hno nm i
   rw [h, hup] at h3
   cases ho : J7 ms nm i with
   | none => rw [ho] at h3; exact h3.symm
   | some q => rw [ho] at h3; cases h3
  have h4 : Ez cs ms nm s = none := Iz hno h2 (by rw [Fe hds]; exact hdf)
  simp [hfs, h4]
theorem Nq {α β : Type} {f : α → Option β} {l : List α} {k : Nat} {j : α} {r : β} (hj : l[k]? = some j) (hn : ∀ x ∈ l.take k, f x = none) (hr : f j = some r) : l.findSome? f = some r := by
 induction l generalizing k with
 | nil => simp at hj
 | cons x l ih =>
  cases k with
  | zero =>
   obtain rfl : x = j := by simpa using hj
   simp [hr]
  | succ k =>
   have h1 : f x = none := hn x (by rw [List.take_succ_cons]; exact List.mem_cons_self)
   simp only [List.findSome?_cons, h1]
   exact ih (by simpa using hj) (fun y hy => hn y (by rw [List.take_succ_cons]; exact List.mem_cons_of_mem _ hy))
theorem Nr {α β : Type} {f : α → Option β} {l : List α} (hn : ∀ x ∈ l, f x = none) : l.findSome? f = none := by
 rw [List.findSome?_eq_none_iff]; exact hn
theorem Sb {cs : List Aj} {ms : List Ba} (hno : A3 cs) {nm : ByteArray} : ∀ (N i : Nat), Eo cs i ≤ N → ∀ r, Ez cs ms nm i = some r → ∃ x, Jc ms r = some x := by
 intro N
 induction N using Nat.strongRecOn with
 | ind N ih =>
 intro i hi r h
 rw [D5 hno] at h
 cases hr : Cc cs ms nm (some i) with
 | some r' => rw [hr] at h; cases h; exact Jl hr
 | none =>
  rw [hr] at h
  simp only at h
  cases hf : Fd cs i with
  | false => rw [hf] at h; cases h
  | true =>
   rw [hf] at h
   simp only [if_true] at h
   obtain ⟨j, hj, hr'⟩ := List.exists_of_findSome?_eq_some h
   have := Hm hno i j (Ij hj)
   exact ih (Eo cs j) (by omega) j (Nat.le_refl _) r hr'
theorem A9.cellI {w : World} {ao : Option Addr} {n cap : Nat} {l : List Int} (h : A9 w (.slice ao n cap) l) {k : Nat} {x : Int} (hk : l[k]? = some x) :
 ∃ b off, ao = some ⟨b, off, none⟩ ∧ w.cell? ⟨b, off + k, none⟩ = some (.int .i64 x) := by
 obtain ⟨ao', cap', e, _, _, _, h4⟩ := h
 cases e
 obtain ⟨b, off, rfl, h5⟩ := h4 (by have := (gL hk); omega)
 exact ⟨b, off, rfl, h5 k x hk⟩
theorem Ui {cs : List Aj} {ms : List Ba} (hS0 : B2 cs) (hno0 : A3 cs) (hsm0 : Df cs) (hln0 : ms.length = cs.length) (hfw0 : Gj ms) {nm : ByteArray} (hnz0 : nm.size ≤ maxLen) : ∀ (N : Nat) {w : World} {mb : Nat} (z : Int) (o : Option Nat), B3 w mb cs ms → Ja cs z o → (∀ i, o = some i → Eo cs i ≤ N) →
 Calls Tryz.prog 18 #[.pointer (some ⟨mb, 0, none⟩), .int .i64 z, .string nm] w (Lm (C9 cs ms nm o) w) := by
 intro N
 induction N using Nat.strongRecOn with
 | ind N ih =>
 intro w mb z o h hz hrk
 have hmf := @G3 Tryz.prog
 obtain ⟨w1, hw1, hb1, hc1⟩ := A2 w (.cells #[.string nm] 9)
 obtain ⟨w2, hw2, hb2, hc2⟩ := A2 w1 (.cells #[.int .i64 0, .string ⟨#[]⟩, .string ⟨#[]⟩, .slice none 0 0, .bool false, .bool false] 54)
 have HC := Aa (hc1.trans hc2)
 have HB2 := Aa hb2
 have HB1 := Aa (hc2.keep _ _ hb1 (fun h => h))
 have hzw := hc1.size
 have hzw1 := Ac hb1
 have hzw2 := Ac hb2
 have hup := Uf (h.no HC.out) hS0 hno0 hln0 hfw0 hz hnz0 (Ab (hc2.keep _ _ hb1 (fun h => h)) 0)
 have HM := Aa (h.no HC.out)
 have HIH := Aa ih
 have HZ := Aa hz
 have HRK := Aa hrk
 clear h ih hz hrk hb1 hb2 hc1 hc2
 cases hr : (Fj cs A7 ms nm o).map Prod.snd with
 | some x =>
  rw [hr] at hup
  have HR := Aa (Uh hno0 hr)
  clear hr
  go_in
  go_wp2_with fail
  refine hup.mono ?_
  rintro e w3 ⟨⟨sa, sn, sc, rfl, hst⟩, hc3⟩
  obtain ⟨w4, hw4, hb4, hc4⟩ := A2 w3 (.cells #[.int .i64 x.cls, .string x.nm, .string x.ty, .slice sa sn sc, .bool x.st, .bool x.ba] 54)
  have HC4 := Aa (HC.out.trans (hc3.trans hc4))
  have HB24 := Aa ((hc3.trans hc4).keep _ _ HB2.out (fun h => h))
  have HST := Aa (hst.no hc4)
  have hbb := HB24.out
  obtain ⟨g0, g1, g2, g3, g4, g5⟩ := Dm hb4
  obtain ⟨a0, a1, a2, a3, a4, a5⟩ := Dm hbb
  obtain ⟨f0, f1, f2, f3, f4, f5⟩ := M4 hbb
  have z3 := hc3.size
  have z4 := Ac hb4
  clear hbb hc3 hc4 hb4 hup hw1 hw2 hst
  go_wp2_with fail
  obtain ⟨wf, hwf, hfb, hfc⟩ := Ew HB24.out (.int .i64 x.cls) (.string x.nm) (.string x.ty) (.slice sa sn sc) (.bool x.st) (.bool x.ba)
  rw [hwf]
  obtain ⟨k0, k1, k2, k3, k4, k5⟩ := Dm hfb
  refine bodyPost_ret (v := .tuple #[.agg #[.int .i64 x.cls, .string x.nm, .string x.ty, .slice sa sn sc, .bool x.st, .bool x.ba], .bool true]) (by simp [results, Tryz.results18, go_sem, k0, k1, k2, k3, k4, k5]) rfl ?_
  rw [HR.out]
  refine ⟨⟨sa, sn, sc, rfl, ?_⟩, Ch.newOnly HC4.out hfc (Eb (by omega))⟩
  exact (HST.out.ch hfc (fun g cur hg hbg e => by have e' : g = w1.heap.size := e; omega)).base (by omega)
 | none =>
  rw [hr] at hup
  have HUN := Aa (Np hr)
  clear hr
  go_in
  go_wp2_with fail
  refine hup.mono ?_
  rintro e w3 ⟨rfl, hc3⟩
  have HC3 := Aa hc3
  have hb23 := hc3.keep _ _ HB2.out (fun h => h)
  have HM3 := Aa (HM.out.no hc3)
  have hm3 := HM3.out
  obtain ⟨cv, m0, m1, m2, m3, m4, m5, m6, m7, m8, xv, ov, bs, hm⟩ := hm3
  obtain ⟨xb, tb, abv, ss, hxv, hx⟩ := hm.typ
  subst hxv
  have c10 := Ab hm.blk 10
  have x0 := Ab hx.blk 0
  have zmb := Ac hm.blk
  have zxb := Ac hx.blk
  have HX3 := Aa hx.tab
  have HMB := Aa hm.blk
  have HXB := Aa hx.blk
  have hc4' : Ch No w3 (w3.alloc (.cells #[.int .i64 0, .string ⟨#[]⟩, .string ⟨#[]⟩, .slice none 0 0, .bool false, .bool false] 54)) := (Ch.refl No w3).alloc _
  have hb4' := heap_alloc_new w3 (.cells #[.int .i64 0, .string ⟨#[]⟩, .string ⟨#[]⟩, .slice none 0 0, .bool false, .bool false] 54)
  have z3 := hc3.size
  have hzo := HZ.out
  clear hup hw1 hw2 hc3 hm hx
  rcases hzo with ⟨i, rfl, hi, rfl⟩ | ⟨rfl, hzn⟩
  {obtain ⟨c, hc⟩ : ∃ c, cs[i]? = some c := ⟨_, List.getElem?_eq_getElem hi⟩
   have hfc := Qh (HX3.out.no hc4') hc
   obtain ⟨fb, hfb⟩ := Ax c.face
   rw [hfb] at hfc
   have HFB := Aa hfb
   have HCS := Aa hc
   clear hc hfb hi
   cases fb with
   | false =>
    go_wp2_with fail
    refine hfc.mono ?_
    rintro e w4 ⟨rfl, hw4⟩
    rw [hw4] at hc4' hb4'
    have HC4 := Aa hc4'
    have HB24 := Aa (hc4'.keep _ _ hb23 (fun h => h))
    have hbb := HB24.out
    obtain ⟨g0, g1, g2, g3, g4, g5⟩ := Dm hb4'
    obtain ⟨a0, a1, a2, a3, a4, a5⟩ := Dm hbb
    obtain ⟨f0, f1, f2, f3, f4, f5⟩ := M4 hbb
    clear hw4 hc4' hb4' hbb hfc
    go_wp2_with fail
    obtain ⟨wf, hwf, hfb, hfc'⟩ := Ew HB24.out (.int .i64 0) (.string ⟨#[]⟩) (.string ⟨#[]⟩) (.slice none 0 0) (.bool false) (.bool false)
    rw [hwf]
    obtain ⟨k0, k1, k2, k3, k4, k5⟩ := Dm hfb
    refine bodyPost_ret (v := .tuple #[.agg #[.int .i64 0, .string ⟨#[]⟩, .string ⟨#[]⟩, .slice none 0 0, .bool false, .bool false], .bool false]) (by simp [results, Tryz.results18, go_sem, k0, k1, k2, k3, k4, k5]) rfl ?_
    rw [show C9 cs ms nm (some i) = none from by unfold C9; simp only; rw [Iz hno0 HUN.out (by rw [Fe HCS.out]; exact HFB.out)]; rfl]
    exact ⟨rfl, Ch.newOnly (HC.out.trans (HC3.out.trans HC4.out)) hfc' (Eb (by omega))⟩
   | true =>
    go_wp2_with fail
    refine hfc.mono ?_
    rintro e w4 ⟨rfl, hw4⟩
    rw [hw4] at hc4' hb4'
    clear hw4 hfc
    have HC4 := Aa hc4'
    have c10' := Ae c10 hc4' (fun _ _ h => h)
    have x0' := Ae x0 hc4' (fun _ _ h => h)
    have hri := Zs (HX3.out.no hc4') hS0 hsm0 HCS.out
    have z4 := hc4'.size
    have HB24 := Aa (hc4'.keep _ _ hb23 (fun h => h))
    have HB14 := Aa ((HC3.out.trans hc4').keep _ _ HB1.out (fun h => h))
    clear hc4' hb4' c10 x0 hb23
    go_wp2_with fail
    refine hri.mono ?_
    rintro e w5 ⟨u, rfl, hu, hc5⟩
    rw [G7 HCS.out (hS0 i c HCS.out)] at hu
    have HU := Aa hu.at_
    obtain ⟨ua, ucap, rfl, hucap, humax, _, _⟩ := hu.at_
    obtain ⟨n, hn⟩ := Ax ((Az cs i).length)
    have hul := HU.out
    rw [List.length_map, hn] at hucap hul
    rw [List.length_map, hn]
    unfold maxLen at humax
    have HUL := Aa hul
    have HN := Aa hn
    have HC5 := Aa hc5
    have hno : n ≤ 9223372036854775807 := by omega
    clear hri hu hc5 hn hul c10' x0' HU
    go_wp2
    go_loopg [46, 11, 12, 13] n (fun g s46 s11 s12 s13 wr => ∃ k : Nat, k ≤ n ∧ n - k ≤ g ∧ s46 = .int .i64 k ∧ Hid (∀ j ∈ (Az cs i).take k, Ez cs ms nm j = none) ∧ Ch No w5 wr)
    case atStart => exact ⟨0, Nat.zero_le _, by omega, rfl, Aa (by simp), Ch.refl _ _⟩
    case round =>
     obtain ⟨k, hk, hg, rfl, HN', hcr⟩ := hrel
     have HCR := Aa (HC4.out.trans (HC5.out.trans hcr))
     have HCR5 := Aa hcr
     have hzr := HCR.out.size
     have hb2r := (HC5.out.trans hcr).keep _ _ HB24.out (fun h => h)
     have hb1r := (HC5.out.trans hcr).keep _ _ HB14.out (fun h => h)
     have HB2R := Aa hb2r
     have b0 := Ab hb1r 0
     clear hcr hb1r
     cases hd : decide (k < n) with
     | false =>
      have hkl : ¬ k < n := by simpa using hd
      obtain ⟨a0, a1, a2, a3, a4, a5⟩ := Dm hb2r
      obtain ⟨f0, f1, f2, f3, f4, f5⟩ := M4 hb2r
      clear hb2r b0
      go_wp2_with fail
      obtain ⟨wf, hwf, hfb, hfc'⟩ := Ew HB2R.out (.int .i64 0) (.string ⟨#[]⟩) (.string ⟨#[]⟩) (.slice none 0 0) (.bool false) (.bool false)
      rw [hwf]
      obtain ⟨k0, k1, k2, k3, k4, k5⟩ := Dm hfb
      refine bodyPost_ret (v := .tuple #[.agg #[.int .i64 0, .string ⟨#[]⟩, .string ⟨#[]⟩, .slice none 0 0, .bool false, .bool false], .bool false]) (by simp [results, Tryz.results18, go_sem, k0, k1, k2, k3, k4, k5]) rfl ?_
      have hall := HN'.out
      rw [List.take_of_length_le (by have := HN.out; omega)] at hall
      rw [show C9 cs ms nm (some i) = none from by unfold C9; simp only; rw [Kc hno0 HCS.out (hS0 i c HCS.out) HUN.out HFB.out, Nr hall]; rfl]
      exact ⟨rfl, Ch.newOnly (HC.out.trans (HC3.out.trans HCR.out)) hfc' (Eb (by omega))⟩
     | true =>
      have hkl : k < n := by simpa using hd
      obtain ⟨j, hj⟩ : ∃ j, (Az cs i)[k]? = some j := ⟨_, List.getElem?_eq_getElem (by have := HN.out; omega)⟩
      have hcl := HUL.out.no HCR5.out
      obtain ⟨ub, uo, eua, hcell⟩ := hcl.cellI (by rw [List.getElem?_map, hj]; rfl)
      subst eua
      have hjm := mG hj
      have hjl := Dq cs i j hjm
      have hrj := Hm hno0 i j hjm
      have hri := HRK.out i rfl
      have hme := HIH.out (Eo cs j) (by omega) (j : Int) (some j) (HM3.out.no HCR.out) (Ja.some hjl) (fun i' e => by cases e; exact Nat.le_refl _)
      have HJ := Aa hj
      clear hcl hj hjm hjl hrj hri
      cases hmj : Ez cs ms nm j with
      | none =>
       rw [show C9 cs ms nm (some j) = none from by unfold C9; simp only; rw [hmj]; rfl] at hme
       have HMJ := Aa hmj
       clear hmj hb2r
       go_wp2_with fail
       refine hme.mono ?_
       rintro e w6 ⟨rfl, hc6⟩
       have HC6 := Aa hc6
       clear hme hc6
       go_wp2
       go_roundg (n - k - 1)
       case rel =>
        refine ⟨k + 1, by omega, by omega, by go_num, Aa fun y hy => ?_, HCR5.out.trans (HC6.out.alloc _)⟩
        rw [List.take_add_one, HJ.out] at hy
        rcases List.mem_append.1 hy with hy | hy
        {exact HN'.out y hy}
        {simp at hy; subst hy; exact HMJ.out}
       case measure => omega
      | some r =>
       obtain ⟨x, hx⟩ := Sb (ms := ms) hno0 (nm := nm) (Eo cs j) j (Nat.le_refl _) r hmj
       rw [show C9 cs ms nm (some j) = some x from by unfold C9; simp only; rw [hmj]; exact hx] at hme
       have HX := Aa hx
       have HMJ := Aa hmj
       clear hmj hx hb2r
       go_wp2_with fail
       refine hme.mono ?_
       rintro e w6 ⟨⟨sa, sn, sc, rfl, hst⟩, hc6⟩
       obtain ⟨w7, hw7, hb7, hc7⟩ := A2 w6 (.cells #[.int .i64 x.cls, .string x.nm, .string x.ty, .slice sa sn sc, .bool x.st, .bool x.ba] 54)
       have HC7 := Aa (hc6.trans hc7)
       have HB27 := Aa ((hc6.trans hc7).keep _ _ HB2R.out (fun h => h))
       have HST := Aa (hst.no hc7)
       have hbb := HB27.out
       obtain ⟨g0, g1, g2, g3, g4, g5⟩ := Dm hb7
       obtain ⟨a0, a1, a2, a3, a4, a5⟩ := Dm hbb
       obtain ⟨f0, f1, f2, f3, f4, f5⟩ := M4 hbb
       have z6 := hc6.size
       have z7 := Ac hb7
       clear hbb hc6 hc7 hb7 hme hst b0
       go_wp2_with fail
       obtain ⟨wf, hwf, hfb, hfc'⟩ := Ew HB27.out (.int .i64 x.cls) (.string x.nm) (.string x.ty) (.slice sa sn sc) (.bool x.st) (.bool x.ba)
       rw [hwf]
       obtain ⟨k0, k1, k2, k3, k4, k5⟩ := Dm hfb
       refine bodyPost_ret (v := .tuple #[.agg #[.int .i64 x.cls, .string x.nm, .string x.ty, .slice sa sn sc, .bool x.st, .bool x.ba], .bool true]) (by simp [results, Tryz.results18, go_sem, k0, k1, k2, k3, k4, k5]) rfl ?_
       rw [show C9 cs ms nm (some i) = some x from by unfold C9; simp only; rw [Kc hno0 HCS.out (hS0 i c HCS.out) HUN.out HFB.out, Nq HJ.out HN'.out HMJ.out]; exact HX.out]
       refine ⟨⟨sa, sn, sc, rfl, ?_⟩, Ch.newOnly (HC.out.trans (HC3.out.trans (HCR.out.trans HC7.out))) hfc' (Eb (by omega))⟩
       exact (HST.out.ch hfc' (fun g cur hg hbg e => by have e' : g = w1.heap.size := e; omega)).base (by omega)}
  {have hfc := Ww (HX3.out.no hc4') hzn
   go_wp2_with fail
   refine hfc.mono ?_
   rintro e w4 ⟨rfl, hw4⟩
   rw [hw4] at hc4' hb4'
   have HC4 := Aa hc4'
   have HB24 := Aa (hc4'.keep _ _ hb23 (fun h => h))
   have hbb := HB24.out
   obtain ⟨g0, g1, g2, g3, g4, g5⟩ := Dm hb4'
   obtain ⟨a0, a1, a2, a3, a4, a5⟩ := Dm hbb
   obtain ⟨f0, f1, f2, f3, f4, f5⟩ := M4 hbb
   clear hw4 hc4' hb4' hbb hfc
   go_wp2_with fail
   obtain ⟨wf, hwf, hfb, hfc'⟩ := Ew HB24.out (.int .i64 0) (.string ⟨#[]⟩) (.string ⟨#[]⟩) (.slice none 0 0) (.bool false) (.bool false)
   rw [hwf]
   obtain ⟨k0, k1, k2, k3, k4, k5⟩ := Dm hfb
   refine bodyPost_ret (v := .tuple #[.agg #[.int .i64 0, .string ⟨#[]⟩, .string ⟨#[]⟩, .slice none 0 0, .bool false, .bool false], .bool false]) (by simp [results, Tryz.results18, go_sem, k0, k1, k2, k3, k4, k5]) rfl ?_
   exact ⟨rfl, Ch.newOnly (HC.out.trans (HC3.out.trans HC4.out)) hfc' (Eb (by omega))⟩}
structure G1 (w : World) (v : Value) (l : List Cy) : Prop where
 ex : ∃ css, B5 w v 6 css ∧ css.length = l.length ∧ ∀ (k : Nat) (x : Cy), l[k]? = some x → ∃ sa sn sc, css[k]? = some [.int .i64 x.cls, .string x.nm, .string x.ty, .slice sa sn sc, .bool x.st, .bool x.ba] ∧ Ah w (.slice sa sn sc) x.ps
theorem G1.no {w w' : World} {v : Value} {l : List Cy} (h : G1 w v l) (hc : Ch No w w') : G1 w' v l := by
 obtain ⟨css, h1, h2, h3⟩ := h.ex
 exact ⟨css, h1.no hc, h2, fun k x hx => by
  obtain ⟨sa, sn, sc, h4, h5⟩ := h3 k x hx
  exact ⟨sa, sn, sc, h4, h5.no hc⟩⟩
theorem G1.shape {w : World} {ao : Option Addr} {n cap : Nat} {l : List Cy} (h : G1 w (.slice ao n cap) l) : n = l.length ∧ l.length ≤ cap ∧ cap ≤ maxLen := by
 obtain ⟨css, ⟨ao', cap', e, h1, h2, _⟩, hl, _⟩ := h.ex
 cases e
 rw [hl] at h1
 exact ⟨hl, h1, h2⟩
theorem G1.cell {w : World} {ao : Option Addr} {n cap : Nat} {l : List Cy} (h : G1 w (.slice ao n cap) l) {k : Nat} {x : Cy} (hk : l[k]? = some x) :
 ∃ b off sa sn sc, ao = some ⟨b, off, none⟩ ∧ w.cell? ⟨b, off + k * 6, none⟩ = some (.int .i64 x.cls) ∧ w.cell? ⟨b, off + k * 6 + 1, none⟩ = some (.string x.nm) ∧ w.cell? ⟨b, off + k * 6 + 2, none⟩ = some (.string x.ty) ∧ w.cell? ⟨b, off + k * 6 + 3, none⟩ = some (.slice sa sn sc) ∧ w.cell? ⟨b, off + k * 6 + 4, none⟩ = some (.bool x.st) ∧ w.cell? ⟨b, off + k * 6 + 5, none⟩ = some (.bool x.ba) ∧ Ah w (.slice sa sn sc) x.ps := by
 obtain ⟨css, ⟨ao', cap', e, h1, h2, h3, h4⟩, hl, h5⟩ := h.ex
 obtain ⟨sa, sn, sc, h6, h7⟩ := h5 k x hk
 cases e
 obtain ⟨b, off, rfl, h8⟩ := h4 (by have := (gL h6); omega)
 have h9 := fun j hj => h8 k _ h6 j hj
 exact ⟨b, off, sa, sn, sc, rfl, h9 0 (by omega), h9 1 (by omega), h9 2 (by omega), h9 3 (by omega), h9 4 (by omega), h9 5 (by omega), h7⟩
theorem Ah.shape {w : World} {ao : Option Addr} {n cap : Nat} {l : List ByteArray} (h : Ah w (.slice ao n cap) l) : n = l.length ∧ l.length ≤ cap ∧ cap ≤ maxLen := by
 obtain ⟨ao', cap', e, h1, h2, _⟩ := h
 cases e
 exact ⟨rfl, h1, h2⟩
def Gk (Q : Prop) (e : Ending) : Prop := ∃ i : Int, e = .returned (.int .i64 i) ∧ (0 ≤ i ↔ Q)
theorem Xa {p : Prop} (h : p := by
 subst hva
 have HX := Aa hx
 clear hx hclo
 go_wp2_with fail
 refine hcl.mono ?_
 rintro e w5 ⟨⟨r, rfl, hr⟩, hc5⟩
 have HC5 := Aa (HCR.out.trans hc5)
 have HR := Aa hr
 clear hcl hc5 hr
 cases r with
 | true =>
  go_wp2
  go_ret
  exact ⟨⟨(k : Int), rfl, fun _ => ⟨x, mG HX.out, HR.out.1 (by first | rfl | trivial)⟩, fun _ => by omega⟩, HC5.out⟩
 | false =>
  go_wp2
  go_roundg (vn - k - 1)
  case rel =>
   refine ⟨k + 1, by omega, by omega, by go_num, Aa fun y hy => ?_, HC5.out⟩
   rw [List.take_add_one, HX.out] at hy
   rcases List.mem_append.1 hy with hy | hy
   {exact HN.out y hy}
   {simp at hy; subst hy
    exact fun hp => by have h0 := HR.out.2 hp; first | cases h0 | exact h0}
  case measure => omega
 ) : p := h
theorem Xb {p : Prop} (h : p := by
 have hkl : ¬ k < vn := by simpa using hd
 go_wp2
 go_ret
 have hn := HN.out
 rw [List.take_of_length_le (by have := HVN.out; omega)] at hn
 refine ⟨⟨-1, rfl, ?_⟩, HCR.out⟩
 constructor
 {intro h; omega}
 {rintro ⟨x, hx, hp⟩; exact absurd hp (hn x hx)}
 ) : p := h
theorem Abq {w : World} {va : Option Addr} {vn vc : Nat} {l : List Vr} {bx : Nat} (hv : Bc w (.slice va vn vc) l) (P : Vr → Prop) (hclo : ∀ (wz : World) (x : Vr), Ch No w wz → x ∈ l → Calls Tryz.prog 115 #[.agg #[.string x.ty, .string x.nm, .int .i64 x.line, .int .i64 x.col], .pointer (some ⟨bx, 0, none⟩)] wz fun e w' => Am (P x) e ∧ Ch No wz w') :
 Calls Tryz.prog 151 #[.slice va vn vc, .func (.func 115) #[] #[.pointer (some ⟨bx, 0, none⟩)]] w fun e w' => Gk (∃ x ∈ l, P x) e ∧ Ch No w w' := by
 have HV := Aa hv
 obtain ⟨hvn, hvc, hvm⟩ := hv.shape
 unfold maxLen at hvm
 have hvx : vn ≤ vc := by have h1 : vn = l.length := hvn; have h2 : l.length ≤ vc := hvc; omega
 have HVN := Aa (show vn = l.length from hvn)
 clear hv hvn hvc
 go_in
 go_wp2
 go_loopg [8, 5] vn (fun g s8 s5 wr => ∃ k : Nat, k ≤ vn ∧ vn - k ≤ g ∧ s8 = .int .i64 k ∧ Hid (∀ x ∈ l.take k, ¬ P x) ∧ Ch No w wr)
 case atStart => exact ⟨0, Nat.zero_le _, by omega, rfl, Aa (by simp), Ch.refl _ _⟩
 case round =>
  obtain ⟨k, hk, hg, rfl, HN, hcr⟩ := hrel
  have HCR := Aa hcr
  clear hcr
  cases hd : decide (k < vn) with
  | false =>
   exact Xb
  | true =>
   have hkl : k < vn := by simpa using hd
   obtain ⟨x, hx⟩ := gE (l := l) (i := k) (by have := HVN.out; omega)
   obtain ⟨b, off, hva, q0, q1, q2, q3⟩ := (HV.out.no HCR.out).cell hx
   have hcl := hclo wr x HCR.out (mG hx)
   exact Xa
theorem Abr {w : World} {va : Option Addr} {vn vc : Nat} {l : List Mt} {bx : Nat} (hv : F1 w (.slice va vn vc) l) (P : Mt → Prop) (hclo : ∀ (wz : World) (x : Mt), Ch No w wz → x ∈ l → Calls Tryz.prog 85 #[.agg #[.string x.ret, .string x.nm, .bool x.st, .bool x.ba, .slice x.pa x.ps.length x.pc, .slice x.s5.1 x.s5.2.1 x.s5.2.2, .slice x.s6.1 x.s6.2.1 x.s6.2.2, .int .i64 x.line, .int .i64 x.col], .pointer (some ⟨bx, 0, none⟩)] wz fun e w' => Am (P x) e ∧ Ch No wz w') :
 Calls Tryz.prog 118 #[.slice va vn vc, .func (.func 85) #[] #[.pointer (some ⟨bx, 0, none⟩)]] w fun e w' => Gk (∃ x ∈ l, P x) e ∧ Ch No w w' := by
 have HV := Aa hv
 obtain ⟨hvn, hvc, hvm⟩ := hv.shape
 unfold maxLen at hvm
 have hvx : vn ≤ vc := by have h1 : vn = l.length := hvn; have h2 : l.length ≤ vc := hvc; omega
 have HVN := Aa (show vn = l.length from hvn)
 clear hv hvn hvc
 go_in
 go_wp2
 go_loopg [8, 5] vn (fun g s8 s5 wr => ∃ k : Nat, k ≤ vn ∧ vn - k ≤ g ∧ s8 = .int .i64 k ∧ Hid (∀ x ∈ l.take k, ¬ P x) ∧ Ch No w wr)
 case atStart => exact ⟨0, Nat.zero_le _, by omega, rfl, Aa (by simp), Ch.refl _ _⟩
 case round =>
  obtain ⟨k, hk, hg, rfl, HN, hcr⟩ := hrel
  have HCR := Aa hcr
  clear hcr
  cases hd : decide (k < vn) with
  | false =>
   exact Xb
  | true =>
   have hkl : k < vn := by simpa using hd
   obtain ⟨x, hx⟩ := gE (l := l) (i := k) (by have := HVN.out; omega)
   obtain ⟨b, off, hva, q0, q1, q2, q3, q4, q5, q6, q7, q8⟩ := (HV.out.no HCR.out).cell hx
   have hcl := hclo wr x HCR.out (mG hx)
   exact Xa
theorem Abs {w : World} {va : Option Addr} {vn vc : Nat} {l : List ByteArray} {bx : Nat} (hv : Ah w (.slice va vn vc) l) (P : ByteArray → Prop) (hclo : ∀ (wz : World) (x : ByteArray), Ch No w wz → x ∈ l → Calls Tryz.prog 120 #[.string x, .pointer (some ⟨bx, 0, none⟩)] wz fun e w' => Am (P x) e ∧ Ch No wz w') :
 Calls Tryz.prog 152 #[.slice va vn vc, .func (.func 120) #[] #[.pointer (some ⟨bx, 0, none⟩)]] w fun e w' => Gk (∃ x ∈ l, P x) e ∧ Ch No w w' := by
 have HV := Aa hv
 obtain ⟨hvn, hvc, hvm⟩ := hv.shape
 unfold maxLen at hvm
 have hvx : vn ≤ vc := by have h1 : vn = l.length := hvn; have h2 : l.length ≤ vc := hvc; omega
 have HVN := Aa (show vn = l.length from hvn)
 clear hv hvn hvc
 go_in
 go_wp2
 go_loopg [8, 5] vn (fun g s8 s5 wr => ∃ k : Nat, k ≤ vn ∧ vn - k ≤ g ∧ s8 = .int .i64 k ∧ Hid (∀ x ∈ l.take k, ¬ P x) ∧ Ch No w wr)
 case atStart => exact ⟨0, Nat.zero_le _, by omega, rfl, Aa (by simp), Ch.refl _ _⟩
 case round =>
  obtain ⟨k, hk, hg, rfl, HN, hcr⟩ := hrel
  have HCR := Aa hcr
  clear hcr
  cases hd : decide (k < vn) with
  | false =>
   exact Xb
  | true =>
   have hkl : k < vn := by simpa using hd
   obtain ⟨x, hx⟩ := gE (l := l) (i := k) (by have := HVN.out; omega)
   obtain ⟨-, b, off, hva, q0⟩ := (HV.out.no HCR.out).cell hx
   have hcl := hclo wr x HCR.out (mG hx)
   exact Xa
theorem Abt {w : World} {va : Option Addr} {vn vc : Nat} {l : List Cy} {bx : Nat} (hv : G1 w (.slice va vn vc) l) (P : Cy → Prop) (hclo : ∀ (wz : World) (x : Cy) (sa : Option Addr) (sn sc : Nat), Ch No w wz → x ∈ l → Ah wz (.slice sa sn sc) x.ps → Calls Tryz.prog 123 #[.agg #[.int .i64 x.cls, .string x.nm, .string x.ty, .slice sa sn sc, .bool x.st, .bool x.ba], .pointer (some ⟨bx, 0, none⟩)] wz fun e w' => Am (P x) e ∧ Ch No wz w') :
 Calls Tryz.prog 153 #[.slice va vn vc, .func (.func 123) #[] #[.pointer (some ⟨bx, 0, none⟩)]] w fun e w' => Gk (∃ x ∈ l, P x) e ∧ Ch No w w' := by
 have HV := Aa hv
 obtain ⟨hvn, hvc, hvm⟩ := hv.shape
 unfold maxLen at hvm
 have hvx : vn ≤ vc := by have h1 : vn = l.length := hvn; have h2 : l.length ≤ vc := hvc; omega
 have HVN := Aa (show vn = l.length from hvn)
 clear hv hvn hvc
 go_in
 go_wp2
 go_loopg [8, 5] vn (fun g s8 s5 wr => ∃ k : Nat, k ≤ vn ∧ vn - k ≤ g ∧ s8 = .int .i64 k ∧ Hid (∀ x ∈ l.take k, ¬ P x) ∧ Ch No w wr)
 case atStart => exact ⟨0, Nat.zero_le _, by omega, rfl, Aa (by simp), Ch.refl _ _⟩
 case round =>
  obtain ⟨k, hk, hg, rfl, HN, hcr⟩ := hrel
  have HCR := Aa hcr
  clear hcr
  cases hd : decide (k < vn) with
  | false =>
   exact Xb
  | true =>
   have hkl : k < vn := by simpa using hd
   obtain ⟨x, hx⟩ := gE (l := l) (i := k) (by have := HVN.out; omega)
   obtain ⟨b, off, sa, sn, sc, hva, q0, q1, q2, q3, q4, q5, hst⟩ := (HV.out.no HCR.out).cell hx
   have hcl := hclo wr x sa sn sc HCR.out (mG hx) hst
   exact Xa
theorem Xc {p : Prop} (h : p := by
 go_in
 go_wp2_with fail
 refine hi.mono ?_
 rintro e w' ⟨⟨i, rfl, hv⟩, hc⟩
 have HV := Aa hv
 have HC := Aa hc
 clear hv hc hi
 go_wp2
 go_ret
 exact ⟨⟨_, rfl, by rw [decide_eq_true_iff]; exact HV.out⟩, HC.out⟩
 ) : p := h
theorem Yg {w : World} {va : Option Addr} {vn vc : Nat} {bx : Nat} {Q : Prop} (hi : Calls Tryz.prog 151 #[.slice va vn vc, .func (.func 115) #[] #[.pointer (some ⟨bx, 0, none⟩)]] w fun e w' => Gk Q e ∧ Ch No w w') :
 Calls Tryz.prog 114 #[.slice va vn vc, .func (.func 115) #[] #[.pointer (some ⟨bx, 0, none⟩)]] w fun e w' => Am Q e ∧ Ch No w w' := by
 exact Xc
theorem Z4 {w : World} {va : Option Addr} {vn vc : Nat} {bx : Nat} {Q : Prop} (hi : Calls Tryz.prog 118 #[.slice va vn vc, .func (.func 85) #[] #[.pointer (some ⟨bx, 0, none⟩)]] w fun e w' => Gk Q e ∧ Ch No w w') :
 Calls Tryz.prog 84 #[.slice va vn vc, .func (.func 85) #[] #[.pointer (some ⟨bx, 0, none⟩)]] w fun e w' => Am Q e ∧ Ch No w w' := by
 exact Xc
theorem Yh {w : World} {va : Option Addr} {vn vc : Nat} {bx : Nat} {Q : Prop} (hi : Calls Tryz.prog 152 #[.slice va vn vc, .func (.func 120) #[] #[.pointer (some ⟨bx, 0, none⟩)]] w fun e w' => Gk Q e ∧ Ch No w w') :
 Calls Tryz.prog 119 #[.slice va vn vc, .func (.func 120) #[] #[.pointer (some ⟨bx, 0, none⟩)]] w fun e w' => Am Q e ∧ Ch No w w' := by
 exact Xc
theorem Z5 {w : World} {va : Option Addr} {vn vc : Nat} {bx : Nat} {Q : Prop} (hi : Calls Tryz.prog 153 #[.slice va vn vc, .func (.func 123) #[] #[.pointer (some ⟨bx, 0, none⟩)]] w fun e w' => Gk Q e ∧ Ch No w w') :
 Calls Tryz.prog 121 #[.slice va vn vc, .func (.func 123) #[] #[.pointer (some ⟨bx, 0, none⟩)]] w fun e w' => Am Q e ∧ Ch No w w' := by
 exact Xc
theorem Abu {a b : ByteArray} : Am (a = b) (.returned (.bool (a.toList == b.toList))) := ⟨_, rfl, by rw [Hi]; simp⟩
theorem Qu {w : World} {x : Vr} {bx : Nat} {nm : ByteArray} (h : w.cell? ⟨bx, 1, none⟩ = some (.string nm)) :
 Calls Tryz.prog 115 #[.agg #[.string x.ty, .string x.nm, .int .i64 x.line, .int .i64 x.col], .pointer (some ⟨bx, 0, none⟩)] w fun e w' => Am (x.nm = nm) e ∧ Ch No w w' := by
 have hl := block_lt_of_cell h
 go_in
 go_wp2
 go_ret
 exact ⟨Abu, (Ch.refl No w).alloc _⟩
theorem Uj {w : World} {x : Mt} {bx : Nat} {nm : ByteArray} (h : w.cell? ⟨bx, 1, none⟩ = some (.string nm)) :
 Calls Tryz.prog 85 #[.agg #[.string x.ret, .string x.nm, .bool x.st, .bool x.ba, .slice x.pa x.ps.length x.pc, .slice x.s5.1 x.s5.2.1 x.s5.2.2, .slice x.s6.1 x.s6.2.1 x.s6.2.2, .int .i64 x.line, .int .i64 x.col], .pointer (some ⟨bx, 0, none⟩)] w fun e w' => Am (x.nm = nm) e ∧ Ch No w w' := by
 have hl := block_lt_of_cell h
 go_in
 go_wp2
 go_ret
 exact ⟨Abu, (Ch.refl No w).alloc _⟩
theorem Ns {w : World} {mb : Nat} {cs : List Aj} {ms : List Ba} (h : B3 w mb cs ms) {bx : Nat} (hb : w.cell? ⟨bx, 0, none⟩ = some (.pointer (some ⟨mb, 0, none⟩))) {x : ByteArray} (hx : x.size ≤ maxLen) :
 Calls Tryz.prog 120 #[.string x, .pointer (some ⟨bx, 0, none⟩)] w fun e w' => Am (¬ D6 cs x) e ∧ Ch No w w' := by
 have hty := L9 h hx
 clear h hx
 go_in
 go_wp2_with fail
 refine hty.mono ?_
 rintro e w' ⟨⟨r, rfl, hr⟩, hc⟩
 have HR := Aa hr
 have HC := Aa hc
 clear hr hc hty
 go_wp2
 go_ret
 refine ⟨⟨_, rfl, ?_⟩, HC.out⟩
 have := HR.out
 cases r <;> simp_all
theorem Abv {p : Prop} (h : p := by
 obtain ⟨j, x⟩ := r
 rw [hu, Option.map_some] at hfi
 clear hu
 go_in
 go_wp2_with fail
 refine hfi.mono ?_
 rintro e w3 ⟨⟨sa, sn, sc, rfl, hst⟩, hc3⟩
 have HC3 := Aa hc3
 clear hfi hc3 hst
 go_wp2
 go_ret
 exact ⟨Am.t (by simp), HC3.out.alloc _⟩
 ) : p := h
theorem Abw {p : Prop} (h : p := by
 rw [hu, Option.map_none] at hfi
 clear hu
 go_in
 go_wp2_with fail
 refine hfi.mono ?_
 rintro e w3 ⟨rfl, hc3⟩
 have HC3 := Aa hc3
 clear hfi hc3
 go_wp2
 go_ret
 exact ⟨Am.f (by simp), HC3.out.alloc _⟩
 ) : p := h
theorem Uk {w : World} {mb : Nat} {cs : List Aj} {ms : List Ba} (h : B3 w mb cs ms) (hS : B2 cs) (hno : A3 cs) (hln : ms.length = cs.length) (hfw : Gj ms) {z : Int} {o : Option Nat} (hz : Ja cs z o) {nm : ByteArray} (hnz : nm.size ≤ maxLen)
 {b1 b2 : Nat} (h1 : w.cell? ⟨b1, 0, none⟩ = some (.pointer (some ⟨mb, 0, none⟩))) (h2 : w.cell? ⟨b2, 0, none⟩ = some (.int .i64 z)) :
 Calls Tryz.prog 81 #[.string nm, .pointer (some ⟨b1, 0, none⟩), .pointer (some ⟨b2, 0, none⟩)] w fun e w' => Am ((Fj cs Bi ms nm o) ≠ none) e ∧ Ch No w w' := by
 have hfi := Ug h hS hno hln hfw hz hnz
 clear h hS hno hln hfw hz hnz
 cases hu : Fj cs Bi ms nm o with
 | none =>
  exact Abw
 | some r =>
  exact Abv
theorem Ul {w : World} {mb : Nat} {cs : List Aj} {ms : List Ba} (h : B3 w mb cs ms) (hS : B2 cs) (hno : A3 cs) (hln : ms.length = cs.length) (hfw : Gj ms) {z : Int} {o : Option Nat} (hz : Ja cs z o) {nm : ByteArray} (hnz : nm.size ≤ maxLen)
 {b1 b2 : Nat} (h1 : w.cell? ⟨b1, 0, none⟩ = some (.pointer (some ⟨mb, 0, none⟩))) (h2 : w.cell? ⟨b2, 0, none⟩ = some (.int .i64 z)) :
 Calls Tryz.prog 82 #[.string nm, .pointer (some ⟨b1, 0, none⟩), .pointer (some ⟨b2, 0, none⟩)] w fun e w' => Am ((Fj cs A8 ms nm o) ≠ none) e ∧ Ch No w w' := by
 have hfi := Qt h hS hno hln hfw hz hnz
 clear h hS hno hln hfw hz hnz
 cases hu : Fj cs A8 ms nm o with
 | none =>
  exact Abw
 | some r =>
  exact Abv
theorem Abx {p : Prop} (h : p := by
 refine ⟨ao, cap, by rw [hl], by omega, h2, fun c hc => ?_, fun h0 => ?_⟩
 {obtain ⟨x, _, rfl⟩ := List.mem_map.1 hc
  rfl}
 {obtain ⟨b, off, rfl, h5⟩ := h4 (by omega)
  refine ⟨b, off, rfl, fun i c hi j hj => h5 i c ?_ j hj⟩
  rw [List.getElem?_map] at hi ⊢
  cases hx : (l.take k)[i]? with
  | none => rw [hx] at hi; cases hi
  | some x =>
   rw [hx] at hi
   rw [List.getElem?_take] at hx
   split at hx
   {rw [hx]; exact hi}
   {cases hx}}
 ) : p := h
theorem Bc.take {w : World} {ao : Option Addr} {n cap : Nat} {l : List Vr} (h : Bc w (.slice ao n cap) l) {k : Nat} (hk : k ≤ l.length) : Bc w (.slice ao k cap) (l.take k) := by
 obtain ⟨ao', cap', e, h1, h2, h3, h4⟩ := h
 rw [List.length_map] at e h1 h4
 cases e
 have hl : ((l.take k).map Vr.cells).length = k := by rw [List.length_map, List.length_take]; omega
 exact Abx
theorem F1.take {w : World} {ao : Option Addr} {n cap : Nat} {l : List Mt} (h : F1 w (.slice ao n cap) l) {k : Nat} (hk : k ≤ l.length) : F1 w (.slice ao k cap) (l.take k) := by
 refine ⟨?_, fun m hm => h.ps m (List.mem_of_mem_take hm)⟩
 obtain ⟨ao', cap', e, h1, h2, h3, h4⟩ := h.row
 rw [List.length_map] at e h1 h4
 cases e
 have hl : ((l.take k).map Mt.cells).length = k := by rw [List.length_map, List.length_take]; omega
 exact Abx
theorem Jd {w : World} {b : Nat} {x0 x1 : Value} {t : TypeId} (h : w.heap[b]? = some (.cells #[x0, x1] t (0, 0))) (v0 v1 : Value) :
 ∃ wf, (w.setCell ⟨b, 0, none⟩ v0).setCell ⟨b, 1, none⟩ v1 = wf ∧ wf.heap[b]? = some (.cells #[v0, v1] t (0, 0)) ∧ Ch (fun k _ => k = b) w wf := by
 refine ⟨_, rfl, ?_, ((Ch.refl _ _).setCell (fun _ _ => rfl) _).setCell (fun _ _ => rfl) _⟩
 rw [Af (Af h 0 v0) 1 v1]
 rfl
def C2 (Q : Prop) (e : Ending) : Prop := ∃ p q ok, e = .returned (.tuple #[.agg #[.int .i64 p, .int .i64 q], .bool ok]) ∧ (ok = true ↔ Q)
theorem C2.t {Q : Prop} {p q : Int} (h : Q) : C2 Q (.returned (.tuple #[.agg #[.int .i64 p, .int .i64 q], .bool true])) := ⟨p, q, true, rfl, fun _ => h, fun _ => rfl⟩
theorem C2.f {Q : Prop} {p q : Int} (h : ¬ Q) : C2 Q (.returned (.tuple #[.agg #[.int .i64 p, .int .i64 q], .bool false])) := ⟨p, q, false, rfl, (fun h => by cases h), fun h' => absurd h' h⟩
def Um (cs : List Aj) (lk : Nat → Ba → ByteArray → Option Cy) (ms : List Ba) (o : Option Nat) (l : List Vr) (k : Nat) : Prop :=
 ∀ v, l[k]? = some v → D6 cs v.ty ∧ (∀ u ∈ l.take k, u.nm ≠ v.nm) ∧ Fj cs lk ms v.nm o = none
def Ee (cs : List Aj) (lk : Nat → Ba → ByteArray → Option Cy) (ms : List Ba) (o : Option Nat) (l : List Vr) : Prop := ∀ k, k < l.length → Um cs lk ms o l k
theorem Aby {p : Prop} (h : p := by
 have hkl : ¬ k < vn := by simpa using hd
 go_wp2_with fail
 obtain ⟨wf, hwf, hfb, hfc⟩ := Jd HBR.out (.int .i64 0) (.int .i64 0)
 rw [hwf]
 obtain ⟨k0, k1⟩ := Co hfb
 refine bodyPost_ret (v := .tuple #[.agg #[.int .i64 0, .int .i64 0], .bool true]) (by simp [results, Tryz.results80, go_sem, k0, k1]) rfl ?_
 exact ⟨C2.t (fun q hq => HA.out q (by have := HVN.out; omega)), Ch.newOnly (HC1.out.trans HCR.out) hfc (fun k _ _ e => Nat.le_of_eq (show k = w.heap.size from e).symm)⟩
 ) : p := h
theorem Abz {p : Prop} (h : p := by
 go_wp2_with fail
 obtain ⟨wf, hwf, hfb, hfc⟩ := Jd HBRA.out (.int .i64 v.line) (.int .i64 v.col)
 rw [hwf]
 obtain ⟨k0, k1⟩ := Co hfb
 refine bodyPost_ret (v := .tuple #[.agg #[.int .i64 v.line, .int .i64 v.col], .bool false]) (by simp [results, Tryz.results80, go_sem, k0, k1]) rfl ?_
 exact ⟨C2.f HBAD.out, Ch.newOnly (HC1.out.trans HCA.out) hfc (fun k _ _ e => Nat.le_of_eq (show k = w.heap.size from e).symm)⟩
 ) : p := h
theorem Ab0 {p : Prop} (h : p := by
 go_wp2
 go_roundg (vn - k - 1)
 case rel =>
  refine ⟨k + 1, by omega, by omega, by go_num, Aa fun q hq => ?_, HCA.out⟩
  by_cases h1 : q < k
  {exact HA.out q h1}
  {obtain rfl : q = k := by omega
   intro v' hv'
   rw [HVK.out] at hv'; cases hv'
   exact ⟨HTY.out, HNT.out, HUN.out⟩}
 case measure => omega
 ) : p := h
theorem Ab1 {p : Prop} (h : p := by
 go_wp2_with fail
 obtain ⟨wf, hwf, hfb, hfc⟩ := Jd HBR9.out (.int .i64 v.line) (.int .i64 v.col)
 rw [hwf]
 obtain ⟨k0, k1⟩ := Co hfb
 refine bodyPost_ret (v := .tuple #[.agg #[.int .i64 v.line, .int .i64 v.col], .bool false]) (by simp [results, Tryz.results80, go_sem, k0, k1]) rfl ?_
 exact ⟨C2.f HBAD.out, Ch.newOnly (HC1.out.trans HC9.out) hfc (fun k _ _ e => Nat.le_of_eq (show k = w.heap.size from e).symm)⟩
 ) : p := h
theorem Ab2 {p : Prop} (h : p := by
 obtain ⟨wf, hwf, hfb, hfc⟩ := Jd HBR8.out (.int .i64 v.line) (.int .i64 v.col)
 rw [hwf]
 obtain ⟨k0, k1⟩ := Co hfb
 refine bodyPost_ret (v := .tuple #[.agg #[.int .i64 v.line, .int .i64 v.col], .bool false]) (by simp [results, Tryz.results80, go_sem, k0, k1]) rfl ?_
 exact ⟨C2.f HBAD.out, Ch.newOnly (HC1.out.trans HC8.out) hfc (fun k _ _ e => Nat.le_of_eq (show k = w.heap.size from e).symm)⟩
 ) : p := h
theorem Ph {w : World} {mb : Nat} {cs : List Aj} {ms : List Ba} (h : B3 w mb cs ms) (hS : B2 cs) (hno : A3 cs) (hln : ms.length = cs.length) (hfw : Gj ms) {z : Int} {o : Option Nat} (hz : Ja cs z o)
 {va : Option Addr} {vn vc : Nat} {l : List Vr} (hv : Bc w (.slice va vn vc) l) (hsz : ∀ v ∈ l, v.nm.size ≤ maxLen ∧ v.ty.size ≤ maxLen)
 {b1 b2 : Nat} (h1 : w.cell? ⟨b1, 0, none⟩ = some (.pointer (some ⟨mb, 0, none⟩))) (h2 : w.cell? ⟨b2, 0, none⟩ = some (.int .i64 z)) :
 Calls Tryz.prog 80 #[.pointer (some ⟨mb, 0, none⟩), .slice va vn vc, .func (.func 81) #[] #[.pointer (some ⟨b1, 0, none⟩), .pointer (some ⟨b2, 0, none⟩)]] w fun e w' => C2 (Ee cs Bi ms o l) e ∧ Ch No w w' := by
 have hmf := @G3 Tryz.prog
 obtain ⟨hvn, hvc, hvm⟩ := hv.shape
 unfold maxLen at hvm
 have hvx : vn ≤ vc := by have h1 : vn = l.length := hvn; have h2 : l.length ≤ vc := hvc; omega
 have HVN := Aa (show vn = l.length from hvn)
 obtain ⟨w1, hw1, hb1, hc1⟩ := A2 w (.cells #[.int .i64 0, .int .i64 0] 27)
 have HM := Aa (h.no hc1)
 have HV := Aa (hv.no hc1)
 have HS := Aa hS
 have HNO := Aa hno
 have HLN := Aa hln
 have HFW := Aa hfw
 have HZ := Aa hz
 have HSZ := Aa hsz
 have H1 := Aa (Ae h1 hc1 (fun _ _ h => h))
 have H2 := Aa (Ae h2 hc1 (fun _ _ h => h))
 have HC1 := Aa hc1
 have HB1 := Aa hb1
 clear h hS hno hln hfw hz hv hsz h1 h2 hc1 hb1 hvn hvc
 go_in
 go_wp2_with fail
 clear hw1
 go_loopg [13, 8, 9, 10] vn (fun g s13 s8 s9 s10 wr => ∃ k : Nat, k ≤ vn ∧ vn - k ≤ g ∧ s13 = .int .i64 k ∧ Hid (∀ q, q < k → Um cs Bi ms o l q) ∧ Ch No w1 wr)
 case atStart => exact ⟨0, Nat.zero_le _, by omega, rfl, Aa (fun q hq => absurd hq (Nat.not_lt_zero q)), Ch.refl _ _⟩
 case round =>
  obtain ⟨k, hk, hg, rfl, HA, hcr⟩ := hrel
  have HCR := Aa hcr
  have HBR := Aa (hcr.keep _ _ HB1.out (fun h => h))
  have hzr := hcr.size
  have hbr := HBR.out
  obtain ⟨a0, a1⟩ := Co hbr
  obtain ⟨f0, f1⟩ := Lb hbr
  clear hcr hbr
  cases hd : decide (k < vn) with
  | false =>
   exact Aby
  | true =>
   have hkl : k < vn := by simpa using hd
   obtain ⟨v, hv⟩ := gE (l := l) (i := k) (by have := HVN.out; omega)
   have hvr := HV.out.no HCR.out
   obtain ⟨vb, vo, hva, q0, q1, q2, q3⟩ := hvr.cell hv
   obtain ⟨w7, hw7, hb7, hc7⟩ := A2 wr (.cells #[.string v.ty, .string v.nm, .int .i64 v.line, .int .i64 v.col] 64)
   have HB7 := Aa hb7
   have hcont := Yg (bx := wr.heap.size) (Abq (bx := wr.heap.size) ((hvr.take (k := k) (by have := HVN.out; omega)).no hc7) (fun u => u.nm = v.nm) (fun wz x hcz hx => Qu (Ab (hcz.keep _ _ HB7.out (fun h => h)) 1)))
   have HVK := Aa hv
   have HC7 := Aa (HCR.out.trans hc7)
   have y7 := Ac hb7
   subst hva
   clear hvr hb7 hc7 hv
   go_wp2_with fail
   refine hcont.mono ?_
   rintro e w8 ⟨⟨r8, rfl, hr8⟩, hc8⟩
   have K8 := Aa hc8
   have HR8 := Aa hr8
   have hb8 := hc8.keep _ _ HB7.out (fun h => h)
   obtain ⟨g0, g1, g2, g3⟩ := F9 hb8
   have HC8 := Aa (HC7.out.trans hc8)
   have HBR8 := Aa (HC8.out.keep _ _ HB1.out (fun h => h))
   have hbr8 := HBR8.out
   obtain ⟨a0, a1⟩ := Co hbr8
   obtain ⟨f0, f1⟩ := Lb hbr8
   have z8 := hc8.size
   clear hcont hc8 hr8 hb8 hbr8 hw7 q0 q1 q2 q3
   cases r8 with
   | true =>
    go_wp2_with fail
    have HBAD := Aa (show ¬ Ee cs Bi ms o l from fun ha => by
     obtain ⟨u, hu, hn⟩ := HR8.out.1 (by first | rfl | trivial)
     exact (ha k (by have := HVN.out; omega) v HVK.out).2.1 u hu hn)
    exact Ab2
   | false =>
    have HNT := Aa (show ∀ u ∈ l.take k, u.nm ≠ v.nm from fun u hu hn => by
     have h0 := HR8.out.2 ⟨u, hu, hn⟩
     first | cases h0 | exact h0)
    have hty := L9 (HM.out.no HC8.out) (HSZ.out v (mG HVK.out)).2
    go_wp2_with fail
    refine hty.mono ?_
    rintro e w9 ⟨⟨r9, rfl, hr9⟩, hc9⟩
    have HR9 := Aa hr9
    have hb9 := hc9.keep _ _ (K8.out.keep _ _ HB7.out (fun h => h)) (fun h => h)
    obtain ⟨g0, g1, g2, g3⟩ := F9 hb9
    have HC9 := Aa (HC8.out.trans hc9)
    have HBR9 := Aa (HC9.out.keep _ _ HB1.out (fun h => h))
    have hbr9 := HBR9.out
    obtain ⟨a0, a1⟩ := Co hbr9
    obtain ⟨f0, f1⟩ := Lb hbr9
    have z9 := hc9.size
    have HB79 := Aa hb9
    clear hty hc9 hr9 hb9 hbr9
    cases r9 with
    | false =>
     have HBAD := Aa (show ¬ Ee cs Bi ms o l from fun ha => by
      have h0 := HR9.out.2 (ha k (by have := HVN.out; omega) v HVK.out).1
      first | cases h0 | exact h0)
     exact Ab1
    | true =>
     have HTY := Aa (HR9.out.1 (by first | rfl | trivial))
     have hha := Uk (HM.out.no HC9.out) HS.out HNO.out HLN.out HFW.out HZ.out (HSZ.out v (mG HVK.out)).1 (Ae H1.out HC9.out (fun _ _ h => h)) (Ae H2.out HC9.out (fun _ _ h => h))
     go_wp2_with fail
     refine hha.mono ?_
     rintro e wa ⟨⟨ra, rfl, hra⟩, hca⟩
     have HRA := Aa hra
     have hba := hca.keep _ _ HB79.out (fun h => h)
     obtain ⟨g0, g1, g2, g3⟩ := F9 hba
     have HCA := Aa (HC9.out.trans hca)
     have HBRA := Aa (HCA.out.keep _ _ HB1.out (fun h => h))
     have hbra := HBRA.out
     obtain ⟨a0, a1⟩ := Co hbra
     obtain ⟨f0, f1⟩ := Lb hbra
     have za := hca.size
     clear hha hca hra hba hbra
     cases ra with
     | true =>
      have HBAD := Aa (show ¬ Ee cs Bi ms o l from fun ha => by
       exact (HRA.out.1 (by first | rfl | trivial)) (ha k (by have := HVN.out; omega) v HVK.out).2.2)
      exact Abz
     | false =>
      have HUN := Aa (show Fj cs Bi ms v.nm o = none from by
       cases hu : Fj cs Bi ms v.nm o with
       | none => rfl
       | some r =>
        have h0 := HRA.out.2 (by rw [hu]; simp)
        first | cases h0 | exact h0.elim)
      exact Ab0
theorem Nt {w : World} {mb : Nat} {cs : List Aj} {ms : List Ba} (h : B3 w mb cs ms) (hS : B2 cs) (hno : A3 cs) (hln : ms.length = cs.length) (hfw : Gj ms) {z : Int} {o : Option Nat} (hz : Ja cs z o)
 {va : Option Addr} {vn vc : Nat} {l : List Vr} (hv : Bc w (.slice va vn vc) l) (hsz : ∀ v ∈ l, v.nm.size ≤ maxLen ∧ v.ty.size ≤ maxLen)
 {b1 b2 : Nat} (h1 : w.cell? ⟨b1, 0, none⟩ = some (.pointer (some ⟨mb, 0, none⟩))) (h2 : w.cell? ⟨b2, 0, none⟩ = some (.int .i64 z)) :
 Calls Tryz.prog 80 #[.pointer (some ⟨mb, 0, none⟩), .slice va vn vc, .func (.func 82) #[] #[.pointer (some ⟨b1, 0, none⟩), .pointer (some ⟨b2, 0, none⟩)]] w fun e w' => C2 (Ee cs A8 ms o l) e ∧ Ch No w w' := by
 have hmf := @G3 Tryz.prog
 obtain ⟨hvn, hvc, hvm⟩ := hv.shape
 unfold maxLen at hvm
 have hvx : vn ≤ vc := by have h1 : vn = l.length := hvn; have h2 : l.length ≤ vc := hvc; omega
 have HVN := Aa (show vn = l.length from hvn)
 obtain ⟨w1, hw1, hb1, hc1⟩ := A2 w (.cells #[.int .i64 0, .int .i64 0] 27)
 have HM := Aa (h.no hc1)
 have HV := Aa (hv.no hc1)
 have HS := Aa hS
 have HNO := Aa hno
 have HLN := Aa hln
 have HFW := Aa hfw
 have HZ := Aa hz
 have HSZ := Aa hsz
 have H1 := Aa (Ae h1 hc1 (fun _ _ h => h))
 have H2 := Aa (Ae h2 hc1 (fun _ _ h => h))
 have HC1 := Aa hc1
 have HB1 := Aa hb1
 clear h hS hno hln hfw hz hv hsz h1 h2 hc1 hb1 hvn hvc
 go_in
 go_wp2_with fail
 clear hw1
 go_loopg [13, 8, 9, 10] vn (fun g s13 s8 s9 s10 wr => ∃ k : Nat, k ≤ vn ∧ vn - k ≤ g ∧ s13 = .int .i64 k ∧ Hid (∀ q, q < k → Um cs A8 ms o l q) ∧ Ch No w1 wr)
 case atStart => exact ⟨0, Nat.zero_le _, by omega, rfl, Aa (fun q hq => absurd hq (Nat.not_lt_zero q)), Ch.refl _ _⟩
 case round =>
  obtain ⟨k, hk, hg, rfl, HA, hcr⟩ := hrel
  have HCR := Aa hcr
  have HBR := Aa (hcr.keep _ _ HB1.out (fun h => h))
  have hzr := hcr.size
  have hbr := HBR.out
  obtain ⟨a0, a1⟩ := Co hbr
  obtain ⟨f0, f1⟩ := Lb hbr
  clear hcr hbr
  cases hd : decide (k < vn) with
  | false =>
   exact Aby
  | true =>
   have hkl : k < vn := by simpa using hd
   obtain ⟨v, hv⟩ := gE (l := l) (i := k) (by have := HVN.out; omega)
   have hvr := HV.out.no HCR.out
   obtain ⟨vb, vo, hva, q0, q1, q2, q3⟩ := hvr.cell hv
   obtain ⟨w7, hw7, hb7, hc7⟩ := A2 wr (.cells #[.string v.ty, .string v.nm, .int .i64 v.line, .int .i64 v.col] 64)
   have HB7 := Aa hb7
   have hcont := Yg (bx := wr.heap.size) (Abq (bx := wr.heap.size) ((hvr.take (k := k) (by have := HVN.out; omega)).no hc7) (fun u => u.nm = v.nm) (fun wz x hcz hx => Qu (Ab (hcz.keep _ _ HB7.out (fun h => h)) 1)))
   have HVK := Aa hv
   have HC7 := Aa (HCR.out.trans hc7)
   have y7 := Ac hb7
   subst hva
   clear hvr hb7 hc7 hv
   go_wp2_with fail
   refine hcont.mono ?_
   rintro e w8 ⟨⟨r8, rfl, hr8⟩, hc8⟩
   have K8 := Aa hc8
   have HR8 := Aa hr8
   have hb8 := hc8.keep _ _ HB7.out (fun h => h)
   obtain ⟨g0, g1, g2, g3⟩ := F9 hb8
   have HC8 := Aa (HC7.out.trans hc8)
   have HBR8 := Aa (HC8.out.keep _ _ HB1.out (fun h => h))
   have hbr8 := HBR8.out
   obtain ⟨a0, a1⟩ := Co hbr8
   obtain ⟨f0, f1⟩ := Lb hbr8
   have z8 := hc8.size
   clear hcont hc8 hr8 hb8 hbr8 hw7 q0 q1 q2 q3
   cases r8 with
   | true =>
    go_wp2_with fail
    have HBAD := Aa (show ¬ Ee cs A8 ms o l from fun ha => by
     obtain ⟨u, hu, hn⟩ := HR8.out.1 (by first | rfl | trivial)
     exact (ha k (by have := HVN.out; omega) v HVK.out).2.1 u hu hn)
    exact Ab2
   | false =>
    have HNT := Aa (show ∀ u ∈ l.take k, u.nm ≠ v.nm from fun u hu hn => by
     have h0 := HR8.out.2 ⟨u, hu, hn⟩
     first | cases h0 | exact h0)
    have hty := L9 (HM.out.no HC8.out) (HSZ.out v (mG HVK.out)).2
    go_wp2_with fail
    refine hty.mono ?_
    rintro e w9 ⟨⟨r9, rfl, hr9⟩, hc9⟩
    have HR9 := Aa hr9
    have hb9 := hc9.keep _ _ (K8.out.keep _ _ HB7.out (fun h => h)) (fun h => h)
    obtain ⟨g0, g1, g2, g3⟩ := F9 hb9
    have HC9 := Aa (HC8.out.trans hc9)
    have HBR9 := Aa (HC9.out.keep _ _ HB1.out (fun h => h))
    have hbr9 := HBR9.out
    obtain ⟨a0, a1⟩ := Co hbr9
    obtain ⟨f0, f1⟩ := Lb hbr9
    have z9 := hc9.size
    have HB79 := Aa hb9
    clear hty hc9 hr9 hb9 hbr9
    cases r9 with
    | false =>
     have HBAD := Aa (show ¬ Ee cs A8 ms o l from fun ha => by
      have h0 := HR9.out.2 (ha k (by have := HVN.out; omega) v HVK.out).1
      first | cases h0 | exact h0)
     exact Ab1
    | true =>
     have HTY := Aa (HR9.out.1 (by first | rfl | trivial))
     have hha := Ul (HM.out.no HC9.out) HS.out HNO.out HLN.out HFW.out HZ.out (HSZ.out v (mG HVK.out)).1 (Ae H1.out HC9.out (fun _ _ h => h)) (Ae H2.out HC9.out (fun _ _ h => h))
     go_wp2_with fail
     refine hha.mono ?_
     rintro e wa ⟨⟨ra, rfl, hra⟩, hca⟩
     have HRA := Aa hra
     have hba := hca.keep _ _ HB79.out (fun h => h)
     obtain ⟨g0, g1, g2, g3⟩ := F9 hba
     have HCA := Aa (HC9.out.trans hca)
     have HBRA := Aa (HCA.out.keep _ _ HB1.out (fun h => h))
     have hbra := HBRA.out
     obtain ⟨a0, a1⟩ := Co hbra
     obtain ⟨f0, f1⟩ := Lb hbra
     have za := hca.size
     clear hha hca hra hba hbra
     cases ra with
     | true =>
      have HBAD := Aa (show ¬ Ee cs A8 ms o l from fun ha => by
       exact (HRA.out.1 (by first | rfl | trivial)) (ha k (by have := HVN.out; omega) v HVK.out).2.2)
      exact Abz
     | false =>
      have HUN := Aa (show Fj cs A8 ms v.nm o = none from by
       cases hu : Fj cs A8 ms v.nm o with
       | none => rfl
       | some r =>
        have h0 := HRA.out.2 (by rw [hu]; simp)
        first | cases h0 | exact h0.elim)
      exact Ab0
open Classical in
/-- a class, and those above it -/
noncomputable def C8 (cs : List Aj) (i : Nat) : List Nat := (List.range cs.length).filter (fun j => decide (AbP cs [(i : Int)] j))
theorem Ha (cs : List Aj) (i : Nat) : Gz cs [(i : Int)] cs.length = (C8 cs i).map (fun j : Nat => (j : Int)) := rfl
theorem Fu {cs : List Aj} {i j : Nat} (hi : i < cs.length) : j ∈ C8 cs i ↔ j < cs.length ∧ Yb cs i j := by
 have h := Lg (cs := cs) (i := i) (z := (j : Int))
 rw [Ha, List.mem_map] at h
 constructor
 {intro hj
  obtain ⟨k, e, h1, _, h2⟩ := h.1 ⟨j, hj, rfl⟩
  obtain rfl : j = k := by omega
  exact ⟨h1, h2⟩}
 {rintro ⟨h1, h2⟩
  obtain ⟨k, hk, e⟩ := h.2 ⟨j, rfl, h1, hi, h2⟩
  obtain rfl : k = j := by omega
  exact hk}
theorem Kd (cs : List Aj) (i : Nat) : (C8 cs i).length ≤ cs.length := by
 unfold C8
 have := List.length_filter_le (fun j => @decide (AbP cs [(i : Int)] j) (Classical.propDecidable _)) (List.range cs.length)
 simpa using this
def abM (ms : List Ba) (nm : ByteArray) (i u : Nat) : Option Cy := if u = i then none else G9 A7 ms nm u
def Fv (w : World) (css : List (List Value)) (l : List Cy) : Prop := css.length = l.length ∧ ∀ (k : Nat) (x : Cy), l[k]? = some x → ∃ sa sn sc, css[k]? = some [.int .i64 x.cls, .string x.nm, .string x.ty, .slice sa sn sc, .bool x.st, .bool x.ba] ∧ Ah w (.slice sa sn sc) x.ps
theorem Fv.six {w : World} {css : List (List Value)} {l : List Cy} (h : Fv w css l) : ∀ c ∈ css, c.length = 6 := by
 intro c hc
 obtain ⟨k, hk, rfl⟩ := List.mem_iff_getElem.1 hc
 obtain ⟨x, hx⟩ := gE (l := l) (i := k) (by have := h.1; omega)
 obtain ⟨sa, sn, sc, h1, _⟩ := h.2 k x hx
 rw [List.getElem?_eq_getElem hk] at h1
 rw [Option.some.inj h1]
 rfl
theorem Fv.snoc {w : World} {css : List (List Value)} {l : List Cy} (h : Fv w css l) {x : Cy} {sa : Option Addr} {sn sc : Nat} (hs : Ah w (.slice sa sn sc) x.ps) :
 Fv w (css ++ [[.int .i64 x.cls, .string x.nm, .string x.ty, .slice sa sn sc, .bool x.st, .bool x.ba]]) (l ++ [x]) := by
 refine ⟨by simp [h.1], fun k y hy => ?_⟩
 by_cases hk : k < l.length
 {rw [List.getElem?_append_left hk] at hy
  obtain ⟨sa', sn', sc', h1, h2⟩ := h.2 k y hy
  exact ⟨sa', sn', sc', by rw [List.getElem?_append_left (by have := h.1; omega)]; exact h1, h2⟩}
 {have hk2 : k = l.length := by
   have := (gL hy)
   simp at this
   omega
  subst hk2
  rw [List.getElem?_append_right (Nat.le_refl _), Nat.sub_self] at hy
  obtain rfl : x = y := by simpa using hy
  refine ⟨sa, sn, sc, ?_, hs⟩
  rw [List.getElem?_append_right (by have := h.1; omega), h.1, Nat.sub_self]
  rfl}
theorem Sc {css : List (List Value)} (h6 : ∀ c ∈ css, c.length = 6) {i j : Nat} {c : List Value} (hi : css[i]? = some c) (hj : j < 6) : css.flatten[i * 6 + j]? = c[j]? := by
 induction css generalizing i with
 | nil => simp at hi
 | cons d css ih =>
  have hd := h6 d List.mem_cons_self
  rw [List.flatten_cons]
  cases i with
  | zero =>
   obtain rfl : d = c := by simpa using hi
   rw [List.getElem?_append_left (by omega)]
   simp
  | succ i =>
   rw [List.getElem?_append_right (by omega), hd, show (i + 1) * 6 + j - 6 = i * 6 + j by omega]
   exact ih (fun c hc => h6 c (List.mem_cons_of_mem _ hc)) (by simpa using hi)
theorem Ab3 {w w' : World} {base : Nat} {v : Value} {css : List (List Value)} {l : List Cy} (h : Fv w css l) (ho : w'.ownsRow base 54 6 v css.length css.flatten) (hc : Ch No w w') : G1 w' v l := by
 refine ⟨css, ?_, h.1, fun k x hx => ?_⟩
 {rcases ho.2 with ⟨rfl, h0⟩ | ⟨g, cap, cur, rfl, hg, hh, h4, h5, h6, h7⟩
  {have : css = [] := List.length_eq_zero_iff.1 h0
   subst this
   exact ⟨none, 0, rfl, Nat.le_refl _, Nat.zero_le _, by simp, fun h => by simp at h⟩}
  {refine ⟨some ⟨g, 0, none⟩, cap, rfl, h4, h5, h.six, fun _ => ⟨g, 0, rfl, fun i c hi j hj => ?_⟩⟩
   have hil := (gL hi)
   rw [Ab hh, Nat.zero_add, ← Array.getElem?_toList]
   have hf := Sc h.six hi hj
   rw [← h7, List.getElem?_take, if_pos (by omega)] at hf
   exact hf}}
 {obtain ⟨sa, sn, sc, h1, h2⟩ := h.2 k x hx
  exact ⟨sa, sn, sc, h1, h2.no hc⟩}
theorem Tryz.infoMemb : (Tryz.prog.info? 54).map (fun i => (i.zero.map (fun z => z.cells.size), i.size, i.bytes)) = some (some 6, 6, 72) := by kernel_rfl
theorem Tryz.sliceMemb : Tryz.prog.underlying 57 = some (.slice 54) := by kernel_rfl
theorem Hq {α β : Type} (f : α → Option β) : ∀ l : List α, (l.filterMap f).length ≤ l.length
 | [] => Nat.le_refl _
 | x :: l => by
  rw [List.filterMap_cons]
  have := Hq f l
  cases f x <;> simp <;> omega
theorem Ik {w : World} {base sz n : Nat} {e : TypeId} {v : Value} {xs : List Value} (h : w.ownsRow base e sz v n xs) : ∃ ao cap, v = .slice ao n cap ∧ n ≤ cap ∧ cap ≤ maxLen := by
 rcases h.2 with ⟨rfl, h0⟩ | ⟨g, cap, cur, rfl, _, _, h4, h5, _⟩
 {rw [h0]; exact ⟨_, _, rfl, Nat.le_refl _, Nat.zero_le _⟩}
 {exact ⟨_, _, rfl, h4, h5⟩}
theorem Z6 {w : World} {mb : Nat} {cs : List Aj} {ms : List Ba} (hT : Ia w) (h : B3 w mb cs ms) (hf : Bt cs none) (hn : cs.length ≤ 20) (hln : ms.length = cs.length) {i : Nat} (hi : i < cs.length) {nm : ByteArray} (hnz : nm.size ≤ maxLen) :
 Calls Tryz.prog 122 #[.pointer (some ⟨mb, 0, none⟩), .int .i64 i, .string nm] w fun e w' => ∃ ua un uc, e = .returned (.slice ua un uc) ∧ G1 w' (.slice ua un uc) ((C8 cs i).filterMap (abM ms nm i)) ∧ Ch No w w' := by
 have HM := Aa h
 obtain ⟨cv, m0, m1, m2, m3, m4, m5, m6, m7, m8, xv, ov, bs, hm⟩ := h
 obtain ⟨oa, oc, hov, hoc, hom⟩ := hm.ownShape
 subst hov
 obtain ⟨xb, tb, abv, ss, hxv, hx⟩ := hm.typ
 subst hxv
 have hab := Pd (is := [(i : Int)]) (hT.no ((Ch.refl No w).alloc _)) (hx.tab.no ((Ch.refl No w).alloc _)) hf hn (Ga w (i : Int))
 rw [Ha] at hab
 obtain ⟨len, Av⟩ := Ax cs.length
 unfold maxLen at hom
 have HL := Aa Av
 have HBLK := Aa hm.blk
 have HMA := Aa hm
 have HLN := Aa hln
 have HI := Aa hi
 have HNZ := Aa hnz
 have HUL := Aa (Kd cs i)
 have HF := Aa hn
 have HUM := Aa (fun j => (Fu (j := j) hi).1)
 have c10 := Ab hm.blk 10
 have c11 := Ab hm.blk 11
 have x0 := Ab hx.blk 0
 rw [Av] at c11 hoc
 have ymb := Ac hm.blk
 have yxb := Ac hx.blk
 clear hm hx hT hf hn hln hi hnz Av
 go_in
 go_wp2_with fail
 refine hab.mono ?_
 rintro e w1 ⟨u, rfl, hu, hc1⟩
 have HU := Aa hu.at_
 obtain ⟨ua, ucap, rfl, hucap, humax, _, _⟩ := hu.at_
 obtain ⟨n, hn⟩ := Ax ((C8 cs i).length)
 have hul := HU.out
 rw [List.length_map, hn] at hucap hul
 rw [List.length_map, hn]
 unfold maxLen at humax
 have HUS := Aa hul
 have HN := Aa hn
 have HC1 := Aa (((Ch.refl No w).alloc (.cells #[.int .i64 i] 3)).trans hc1)
 have hn20 : n ≤ 20 := by have := HUL.out; have := HF.out; omega
 have hno : n ≤ 9223372036854775807 := by omega
 clear hab hu hc1 hn hul c10 c11 x0 HU
 go_wp2
 go_loopg [23, 7, 9, 10, 11] n (fun g s23 s7 s9 s10 s11 wr => ∃ k : Nat, k ≤ n ∧ n - k ≤ g ∧ s23 = .int .i64 k ∧ Hid (∃ css, Fv w css (((C8 cs i).take k).filterMap (abM ms nm i)) ∧ wr.ownsRow w1.heap.size 54 6 s7 css.length css.flatten) ∧ Ch No w1 wr)
 case atStart => exact ⟨0, Nat.zero_le _, by omega, rfl, Aa ⟨[], ⟨rfl, fun k x h => by simp at h⟩, World.ownsRow_nil _ _ _ _⟩, Ch.refl _ _⟩
 case round =>
  obtain ⟨k, hk, hg, rfl, HS, hcr1⟩ := hrel
  have HCR1 := Aa hcr1
  have hcr := HC1.out.trans hcr1
  have hs := HS.out
  obtain ⟨css, hcs, hown⟩ := hs
  obtain ⟨a7, c7, e7, hc7, hm7⟩ := Ik hown
  subst e7
  obtain ⟨L, hL⟩ := Ax css.length
  rw [hL] at hc7 hown ⊢
  unfold maxLen at hm7
  have HLL := Aa hL
  have HCS := Aa hcs
  have HOW := Aa hown
  have HCR := Aa hcr
  have hzr := hcr.size
  have hL1 : L + 1 ≤ 100000 := by
   rw [← hL, hcs.1]
   have := Hq (abM ms nm i) ((C8 cs i).take k)
   rw [List.length_take] at this
   omega
  have c11 := Ab (hcr.keep _ _ HBLK.out (fun h => h)) 11
  rw [HL.out] at c11
  clear HS hcr hcr1 hcs hown hL
  cases hd : decide (k < n) with
  | false =>
   have hkl : ¬ k < n := by simpa using hd
   go_wp2
   go_ret
   have hcs := HCS.out
   rw [List.take_of_length_le (by have := HN.out; omega)] at hcs
   refine ⟨_, _, _, rfl, Ab3 hcs (by rw [HLL.out]; exact HOW.out) HCR.out, HCR.out⟩
  | true =>
   have hkl : k < n := by simpa using hd
   obtain ⟨j, hj⟩ : ∃ j, (C8 cs i)[k]? = some j := ⟨_, List.getElem?_eq_getElem (by have := HN.out; omega)⟩
   obtain ⟨ub, uo, eua, hcell⟩ := (HUS.out.no HCR1.out).cellI (k := k) (by rw [List.getElem?_map, hj]; rfl)
   subst eua
   have hjl := (HUM.out j (mG hj)).1
   obtain ⟨mj, hmj⟩ : ∃ m, ms[j]? = some m := ⟨_, List.getElem?_eq_getElem (by have := HLN.out; omega)⟩
   obtain ⟨ob, oo, oc', b1, b2, b3, e, _, _, hob, g0', g1', g2'⟩ := HMA.out.ownCell hjl hmj
   have g0 := Ae g0' HCR.out (fun _ _ h => h)
   have g1 := Ae g1' HCR.out (fun _ _ h => h)
   have g2 := Ae g2' HCR.out (fun _ _ h => h)
   rw [HL.out] at e
   cases e
   have hjn : j < len := by have := HL.out; omega
   obtain ⟨n1, get, hmp, ho⟩ := (hob.tells nm).2.2
   have hlk := (hmp.ch HCR.out (fun _ _ h => h)).lookOk Gx Tryz.underlying98 (Ho wr) (Gy HNZ.out)
   have HJ := Aa hj
   have HMJ := Aa hmj
   have hlkN : G9 A7 ms nm j = A7 j mj nm := by unfold G9; rw [hmj]
   have HLK := Aa hlkN
   clear hj hjl hmj hob hmp hlkN g0' g1' g2'
   cases hq : A7 j mj nm with
   | none =>
    rw [hq] at ho
    dsimp only at ho
    rw [ho] at hlk
    have hlk' : (Instr.lookup 98 (.map (some b3)) (.string nm) true).run Tryz.prog wr = .ok (.tuple #[.agg #[.int .i64 0, .string ⟨#[]⟩, .string ⟨#[]⟩, .slice none 0 0, .bool false, .bool false], .bool false]) wr := hlk
    have HAB := Aa (show abM ms nm i j = none from by unfold abM; rw [HLK.out, hq]; simp)
    clear hlk ho hq
    go_wp2
    go_roundg (n - k - 1)
    case rel =>
     refine ⟨k + 1, by omega, by omega, by go_num, Aa ⟨css, ?_, ?_⟩, HCR1.out.alloc _⟩
     {rw [List.take_add_one, HJ.out, List.filterMap_append]
      simpa [HAB.out] using HCS.out}
     {rw [HLL.out]
      exact An HOW.out ((Ch.refl No wr).alloc _) (fun _ _ _ _ _ h => h)}
    case measure => omega
   | some x =>
    rw [hq] at ho
    obtain ⟨u, hu, sa, sn, sc, rfl, hst⟩ := ho
    rw [hu] at hlk
    have hlk' : (Instr.lookup 98 (.map (some b3)) (.string nm) true).run Tryz.prog wr = .ok (.tuple #[.agg #[.int .i64 x.cls, .string x.nm, .string x.ty, .slice sa sn sc, .bool x.st, .bool x.ba], .bool true]) wr := hlk
    have HST := Aa hst
    have HQ := Aa (HLK.out.trans hq)
    obtain ⟨w8, hw8, hb8, hc8⟩ := A2 wr (.cells #[.int .i64 x.cls, .string x.nm, .string x.ty, .slice sa sn sc, .bool x.st, .bool x.ba] 54)
    obtain ⟨e0, e1, e2, e3, e4, e5⟩ := Dm hb8
    have HC8 := Aa hc8
    by_cases hji : j = i
    {have HAB := Aa (show abM ms nm i j = none from by unfold abM; rw [if_pos hji])
     clear hlk hu hst hq hb8 hc8
     subst hji
     go_wp2
     go_roundg (n - k - 1)
     case rel =>
      refine ⟨k + 1, by omega, by omega, by go_num, Aa ⟨css, ?_, ?_⟩, HCR1.out.trans HC8.out⟩
      {rw [List.take_add_one, HJ.out, List.filterMap_append]
       simpa [HAB.out] using HCS.out}
      {rw [HLL.out]
       exact An HOW.out HC8.out (fun _ _ _ _ _ h => h)}
     case measure => omega}
    {have HAB := Aa (show abM ms nm i j = some x from by unfold abM; rw [if_neg hji]; exact HQ.out)
     have hji' : ¬ (j : Int) = i := by omega
     have hji2 : ((j : Int) == (i : Int)) = false := by simpa using hji'
     have hc9 := hc8.alloc (.cells #[.int .i64 x.cls, .string x.nm, .string x.ty, .slice sa sn sc, .bool x.st, .bool x.ba] 54)
     have HROW := Aa (An HOW.out hc9 (fun _ _ _ _ _ h => h))
     have hbase : w1.heap.size ≤ (w8.alloc (.cells #[.int .i64 x.cls, .string x.nm, .string x.ty, .slice sa sn sc, .bool x.st, .bool x.ba] 54)).heap.size := Nat.le_trans HCR1.out.size hc9.size
     have HC9 := Aa hc9
     have h61 : ∀ u ∈ [Value.int .i64 x.cls, .string x.nm, .string x.ty, .slice sa sn sc, .bool x.st, .bool x.ba], u.oneCell' = true := by
      intro u hu
      simp at hu
      rcases hu with rfl | rfl | rfl | rfl | rfl | rfl <;> rfl
     clear hlk hu hst hq hji hb8 hc8 hc9
     go_wp2_with (at_builtin; go_must (refine C1 rfl _ _ rfl Tryz.sliceMemb Tryz.infoMemb (lb rfl) (lb rfl) w1.heap.size (.slice a7 L c7) L _ rfl HROW.out w8.heap.size 1 1 [.int .i64 x.cls, .string x.nm, .string x.ty, .slice sa sn sc, .bool x.st, .bool x.ba] rfl rfl (heap_alloc_new w8 _) h61 hL1 hbase ?_))
     intro v9 w9 hr9 hc9
     have HR9 := Aa hr9
     have HC10 := Aa ((HCR1.out.trans HC9.out).trans' hc9 (fun j o ho e => by
      obtain ⟨h1, _⟩ := Aw HROW.out j e
      have := Ac ho
      omega))
     clear hr9 hc9
     go_wp2
     go_roundg (n - k - 1)
     case rel =>
      refine ⟨k + 1, by omega, by omega, by go_num, Aa ⟨css ++ [[.int .i64 x.cls, .string x.nm, .string x.ty, .slice sa sn sc, .bool x.st, .bool x.ba]], ?_, ?_⟩, HC10.out⟩
      {rw [List.take_add_one, HJ.out, List.filterMap_append]
       simpa [HAB.out] using HCS.out.snoc HST.out}
      {rw [List.length_append, HLL.out, List.flatten_append]
       simpa using HR9.out}
     case measure => omega}
def Pi (x y : Cy) : Prop := (x.ty = y.ty ∧ x.ps = y.ps) ∧ x.st = false ∧ y.st = false
theorem Un {w : World} {x y : Cy} {bx : Nat} {sa sa' : Option Addr} {sn sc sn' sc' : Nat} (hb : w.heap[bx]? = some (.cells #[.int .i64 x.cls, .string x.nm, .string x.ty, .slice sa sn sc, .bool x.st, .bool x.ba] 54 (0, 0))) (hx : Ah w (.slice sa sn sc) x.ps) (hy : Ah w (.slice sa' sn' sc') y.ps) :
 Calls Tryz.prog 123 #[.agg #[.int .i64 y.cls, .string y.nm, .string y.ty, .slice sa' sn' sc', .bool y.st, .bool y.ba], .pointer (some ⟨bx, 0, none⟩)] w fun e w' => Am (¬ Pi x y) e ∧ Ch No w w' := by
 obtain ⟨xc, xn, xt, xp, xs, xb⟩ := x
 obtain ⟨yc, yn, yt, yp, ys, yb⟩ := y
 dsimp only at hb hx hy ⊢
 obtain ⟨w1, hw1, hb1, hc1⟩ := A2 w (.cells #[.int .i64 yc, .string yn, .string yt, .slice sa' sn' sc', .bool ys, .bool yb] 54)
 have hbx := hc1.keep _ _ hb (fun h => h)
 have hal := Ub (c := xc) (nm := xn) (ty := xt) (st := xs) (ba := xb) (c' := yc) (nm' := yn) (ty' := yt) (st' := ys) (ba' := yb) (hx.no hc1) (hy.no hc1)
 have HC1 := Aa hc1
 have HB1 := Aa hb1
 have HBX := Aa hbx
 obtain ⟨d0, d1, d2, d3, d4, d5⟩ := Dm hb1
 obtain ⟨e0, e1, e2, e3, e4, e5⟩ := Dm hbx
 have y0 := Ac hb
 clear hb hx hy hb1 hc1 hbx
 go_in
 go_wp2_with fail
 refine hal.mono ?_
 rintro e w2 ⟨⟨r, rfl, hr⟩, hc2⟩
 have HR := Aa hr
 have HC2 := Aa (HC1.out.trans hc2)
 have hb2 := hc2.keep _ _ HB1.out (fun h => h)
 have hx2 := hc2.keep _ _ HBX.out (fun h => h)
 have d4' := Ab hb2 4
 have e4' := Ab hx2 4
 clear hal hr hc2 hb2 hx2 d0 d1 d2 d3 d4 d5 e0 e1 e2 e3 e4 e5 hw1
 cases r with
 | false =>
  go_wp2
  go_ret
  refine ⟨Am.t (fun h => ?_), HC2.out⟩
  have h0 := HR.out.2 h.1
  first | cases h0 | exact h0
 | true =>
  have HAL := Aa (HR.out.1 (by first | rfl | trivial))
  cases xs with
  | true =>
   go_wp2
   go_ret
   exact ⟨Am.t (fun h => by have h0 : true = false := h.2.1; cases h0), HC2.out⟩
  | false =>
   cases ys with
   | true =>
    go_wp2
    go_ret
    exact ⟨Am.t (fun h => by have h0 : true = false := h.2.2; cases h0), HC2.out⟩
   | false =>
    go_wp2
    go_ret
    exact ⟨Am.f (fun h => h ⟨HAL.out, rfl, rfl⟩), HC2.out⟩
def Qv (cs : List Aj) (ms : List Ba) (i : Nat) (x : Cy) : Prop :=
 (x.ty = Gf ∨ D6 cs x.ty) ∧ (∀ p ∈ x.ps, D6 cs p) ∧ ∀ y ∈ (C8 cs i).filterMap (abM ms x.nm i), Pi x y
theorem Ab4 {p : Prop} (h : p := by
 have hb24 := K4.out.keep _ _ HB2.out (fun h => h)
 have hb14 := K4.out.keep _ _ HB1.out (fun h => h)
 clear hcont hr4 hc4 d0 e0 e1 e2 e3 e4 e5
 have d0 := Ab hb14 0
 obtain ⟨e0, e1, e2, e3, e4, e5⟩ := Dm hb24
 clear hb24 hb14
 cases r4 with
 | true =>
  go_wp2
  go_ret
  refine ⟨Am.f (fun h => ?_), HC.out.trans K4.out⟩
  obtain ⟨p, hp, hn⟩ := HR4.out.1 (by first | rfl | trivial)
  exact hn (h.2.1 p hp)
 | false =>
  have HPS := Aa (show ∀ p ∈ x.ps, D6 cs p from fun p hp => Classical.byContradiction fun hn => by
   have h0 := HR4.out.2 ⟨p, hp, hn⟩
   first | cases h0 | exact h0)
  have hab := Z6 (HT.out.no K4.out) (HM.out.no K4.out) HF.out HN.out HLN.out HI.out (nm := x.nm) HNZ.out
  go_wp2_with fail
  refine hab.mono ?_
  rintro e w5 ⟨ua, un, uc, rfl, hmb, hc5⟩
  have K5 := Aa (K4.out.trans hc5)
  have hcn := Z5 (Abt (bx := w1.heap.size) hmb (fun y => ¬ Pi x y) (fun wz y sa' sn' sc' hc hy hys => Un ((K5.out.trans hc).keep _ _ HB2.out (fun h => h)) (HX.out.no (K5.out.trans hc)) hys))
  clear hab hmb hc5 d0 e0 e1 e2 e3 e4 e5
  go_wp2_with fail
  refine hcn.mono ?_
  rintro e w6 ⟨⟨r6, rfl, hr6⟩, hc6⟩
  have HR6 := Aa hr6
  have HC6 := Aa (HC.out.trans (K5.out.trans hc6))
  clear hcn hr6 hc6
  go_wp2
  go_ret
  refine ⟨⟨_, rfl, ?_⟩, HC6.out⟩
  have h6 := HR6.out
  constructor
  {intro h0
   refine ⟨HV.out, HPS.out, fun y hy => Classical.byContradiction fun hn => ?_⟩
   have h7 := h6.2 ⟨y, hy, hn⟩
   subst h7
   cases h0}
  {intro h0
   cases r6 with
   | false => rfl
   | true =>
    obtain ⟨y, hy, hn⟩ := h6.1 rfl
    exact absurd (h0.2.2 y hy) hn}
 ) : p := h
theorem Z7 {w : World} {mb : Nat} {cs : List Aj} {ms : List Ba} (hT : Ia w) (h : B3 w mb cs ms) (hf : Bt cs none) (hn : cs.length ≤ 20) (hln : ms.length = cs.length) {i : Nat} (hi : i < cs.length)
 {x : Cy} {sa : Option Addr} {sn sc : Nat} (hx : Ah w (.slice sa sn sc) x.ps) (hnz : x.nm.size ≤ maxLen) (htz : x.ty.size ≤ maxLen) (hpz : ∀ p ∈ x.ps, p.size ≤ maxLen) :
 Calls Tryz.prog 86 #[.pointer (some ⟨mb, 0, none⟩), .int .i64 i, .agg #[.int .i64 x.cls, .string x.nm, .string x.ty, .slice sa sn sc, .bool x.st, .bool x.ba]] w fun e w' => Am (Qv cs ms i x) e ∧ Ch No w w' := by
 have hmf := @G3 Tryz.prog
 obtain ⟨w1, hw1, hb1, hc1⟩ := A2 w (.cells #[.pointer (some ⟨mb, 0, none⟩)] 38)
 obtain ⟨w2, hw2, hb2, hc2⟩ := A2 w1 (.cells #[.int .i64 x.cls, .string x.nm, .string x.ty, .slice sa sn sc, .bool x.st, .bool x.ba] 54)
 have HC := Aa (hc1.trans hc2)
 have HB1 := Aa (hc2.keep _ _ hb1 (fun h => h))
 have HB2 := Aa hb2
 have HM := Aa (h.no HC.out)
 have HX := Aa (hx.no HC.out)
 have HT := Aa (hT.no HC.out)
 have HF := Aa hf
 have HN := Aa hn
 have HLN := Aa hln
 have HI := Aa hi
 have HNZ := Aa hnz
 have HTZ := Aa htz
 have HPZ := Aa hpz
 have hb12 := HB1.out
 have d0 := Ab hb12 0
 obtain ⟨e0, e1, e2, e3, e4, e5⟩ := Dm hb2
 have y1 := Ac hb1
 have y2 := Ac hb2
 clear h hx hT hf hn hln hi hnz htz hpz hb1 hc1 hb2 hc2 hb12
 by_cases hv : x.ty = Gf
 {have e0 := lit x.ty [118, 111, 105, 100] hv
  have HV := Aa (show x.ty = Gf ∨ D6 cs x.ty from .inl hv)
  clear hv
  go_in
  have hcont := Yh (Abs (bx := w.heap.size) HX.out (fun p => ¬ D6 cs p) (fun wz p hc hp => Ns (HM.out.no hc) (Ab (hc.keep _ _ HB1.out (fun h => h)) 0) (HPZ.out p hp)))
  go_wp2_with fail
  refine hcont.mono ?_
  rintro e w4 ⟨⟨r4, rfl, hr4⟩, hc4⟩
  have HR4 := Aa hr4
  have K4 := Aa (Ch.trans (Ch.refl No w2) hc4)
  exact Ab4}
 {have e0' := Bf x.ty [118, 111, 105, 100] hv
  have HV0 := Aa hv
  have hty := L9 HM.out HTZ.out
  clear hv
  go_in
  go_wp2_with fail
  refine hty.mono ?_
  rintro e w3 ⟨⟨r, rfl, hr⟩, hc3⟩
  have HR := Aa hr
  have K3 := Aa hc3
  have hb23 := hc3.keep _ _ HB2.out (fun h => h)
  have hb13 := hc3.keep _ _ HB1.out (fun h => h)
  clear hty hr d0 e0 e1 e2 e3 e4 e5
  have d0 := Ab hb13 0
  obtain ⟨e0, e1, e2, e3, e4, e5⟩ := Dm hb23
  clear hb23 hb13
  cases r with
  | false =>
   go_wp2
   go_ret
   refine ⟨Am.f (fun h => ?_), HC.out.trans K3.out⟩
   rcases h.1 with h1 | h1
   {exact HV0.out h1}
   {have h0 := HR.out.2 h1
    first | cases h0 | exact h0}
  | true =>
   have HV := Aa (show x.ty = Gf ∨ D6 cs x.ty from .inr (HR.out.1 (by first | rfl | trivial)))
   have hcont := Yh (Abs (bx := w.heap.size) (HX.out.no hc3) (fun p => ¬ D6 cs p) (fun wz p hc hp => Ns (HM.out.no (K3.out.trans hc)) (Ab ((K3.out.trans hc).keep _ _ HB1.out (fun h => h)) 0) (HPZ.out p hp)))
   clear hc3
   go_wp2_with fail
   refine hcont.mono ?_
   rintro e w4 ⟨⟨r4, rfl, hr4⟩, hc4⟩
   have HR4 := Aa hr4
   have K4 := Aa (Ch.trans K3.out hc4)
   exact Ab4}
theorem Xd {key : Value} {kl : Lit} (h : keyOf Tryz.prog 9 key = some kl) : ∃ x : ByteArray, key = .string x := by
 have hk : Tryz.prog.underlying 9 = some .string := Tryz.underlying9
 cases key <;> simp [keyOf, hk, mapKey] at h
 exact ⟨_, rfl⟩
theorem Xe {x : ByteArray} {kl : Lit} (h : keyOf Tryz.prog 9 (.string x) = some kl) : x.size ≤ maxLen ∧ kl = Bx.lit x := by
 have hk : Tryz.prog.underlying 9 = some .string := Tryz.underlying9
 simp [keyOf, hk, mapKey] at h
 exact ⟨h.1, h.2.symm⟩
theorem Ab5 {a b : ByteArray} : (Bx.lit a).sameKey (Bx.lit b) = true ↔ a = b := by
 show (a.data.toList == b.data.toList) = true ↔ _
 constructor
 {intro h
  have h1 : a.data.toList = b.data.toList := by simpa using h
  cases a; cases b; simp_all [Array.ext_iff]}
 {rintro rfl; simp}
theorem Ln {H : Type} {P : Program} {k : TypeId} {R : Value → Option (DataW H × List MemPlace)} {S : Nat → Obj → Prop} {w w' : World} {b r n : Nat} {D : DataW H} {left : Lit → Bool} {cnt : Nat} (h : w.ranges P k R b r n D left cnt) (hc : Ch S w w') (hb : ∀ o, ¬ S b o) (hr : ∀ o, ¬ S r o) : w'.ranges P k R b r n D left cnt := by
 obtain ⟨es, clock, since, seen, c0, h1, F, hs, hD, h2, rest⟩ := h
 exact ⟨es, clock, since, seen, c0, hc.keep _ _ h1 (hb _), F, hs, hD, hc.keep _ _ h2 (hr _), rest⟩
theorem Sd {w : World} {i : Nat} {pv : Nat → Option Addr × Nat × Nat} {l : List Mt} (hp : ∀ (k : Nat) (x : Mt), l[k]? = some x → Ah w (.slice (pv k).1 (pv k).2.1 (pv k).2.2) (x.ps.map Vr.ty)) {nm : ByteArray} {c : Value} (h : D1 i pv l nm = some c) :
 ∃ (x : Cy) (sa : Option Addr) (sn sc : Nat), Hp i l nm = some x ∧ c = .agg #[.int .i64 x.cls, .string x.nm, .string x.ty, .slice sa sn sc, .bool x.st, .bool x.ba] ∧ Ah w (.slice sa sn sc) x.ps := by
 unfold D1 at h
 cases hk : Lk l nm with
 | none => rw [hk] at h; cases h
 | some k =>
  obtain ⟨x, hx, hn⟩ := Ft hk
  rw [hk] at h
  simp only [hx] at h
  refine ⟨⟨i, x.nm, x.ret, x.ps.map Vr.ty, x.st, x.ba⟩, (pv k).1, (pv k).2.1, (pv k).2.2, by unfold Hp; rw [hk]; simp [hx], ?_, hp k x hx⟩
  exact (Option.some.inj h).symm
theorem Pj {i : Nat} {pv : Nat → Option Addr × Nat × Nat} {l : List Mt} {nm : ByteArray} {x : Cy} (h : Hp i l nm = some x) : ∃ c, D1 i pv l nm = some c := by
 unfold Hp at h
 cases hk : Lk l nm with
 | none => rw [hk] at h; cases h
 | some k =>
  obtain ⟨y, hy, _⟩ := Ft hk
  refine ⟨Nk i y.nm y.ret (pv k).1 (pv k).2.1 (pv k).2.2 y.st y.ba, ?_⟩
  unfold D1
  rw [hk]
  simp only [hy]
theorem Qw {i : Nat} {l : List Mt} {nm : ByteArray} {x : Cy} (h : Hp i l nm = some x) : x.nm = nm ∧ ∃ y ∈ l, y.nm = nm := by
 unfold Hp at h
 cases hk : Lk l nm with
 | none => rw [hk] at h; cases h
 | some k =>
  obtain ⟨y, hy, hn⟩ := Ft hk
  rw [hk] at h
  simp [hy] at h
  subst h
  exact ⟨hn, y, mG hy, hn⟩
def Ab6 (cs : List Aj) (ms : List Ba) (i : Nat) (nm : ByteArray) (x : Cy) : Prop := ∃ y, C9 cs ms nm (some i) = some y ∧ y.ba = false ∧ y.st = false ∧ x.ty = y.ty ∧ x.ps = y.ps
def Uo (cs : List Aj) (ms : List Ba) (i u : Nat) : Prop := ∀ nm x, G9 A7 ms nm u = some x → x.ba = true → Ab6 cs ms i nm x
def Mc (cs : List Aj) (ms : List Ba) (i : Nat) : Prop := ∀ u ∈ C8 cs i, Uo cs ms i u
def Ab7 (cs : List Aj) (ms : List Ba) (i j : Nat) (mj : Ba) (left : Lit → Bool) : Prop := ∀ nm x, Hp j mj.ms nm = some x → left (Bx.lit nm) = false → x.ba = true → Ab6 cs ms i nm x
theorem Z8 {w : World} {mb : Nat} {cs : List Aj} {ms : List Ba} (hT : Ia w) (h : B3 w mb cs ms) (hf : Bt cs none) (hno : A3 cs) (hsm : Df cs) (hn : cs.length ≤ 20) (hln : ms.length = cs.length) (hfw : Gj ms) (hsz : W5 ms) {i : Nat} (hi : i < cs.length) :
 Calls Tryz.prog 87 #[.pointer (some ⟨mb, 0, none⟩), .int .i64 i] w fun e w' => Am (Mc cs ms i) e ∧ Ch No w w' := by
 have HMS := Aa h
 obtain ⟨cv, m0, m1, m2, m3, m4, m5, m6, m7, m8, xv, ov, bs, hm⟩ := h
 obtain ⟨oa, oc, hov, hoc, hom⟩ := hm.ownShape
 subst hov
 obtain ⟨xb, tb, abv, ss, hxv, hx⟩ := hm.typ
 subst hxv
 have hab := Pd (is := [(i : Int)]) (hT.no ((Ch.refl No w).alloc _)) (hx.tab.no ((Ch.refl No w).alloc _)) hf hn (Ga w (i : Int))
 rw [Ha] at hab
 obtain ⟨len, Av⟩ := Ax cs.length
 unfold maxLen at hom
 have HL := Aa Av
 have HBLK := Aa hm.blk
 have HMA := Aa hm
 have HLN := Aa hln
 have HI := Aa hi
 have HUL := Aa (Kd cs i)
 have HN20 := Aa hn
 have HF := Aa hf
 have HNO := Aa hno
 have HSM := Aa hsm
 have HFW := Aa hfw
 have HSZ := Aa hsz
 have HUM := Aa (fun j => (Fu (j := j) hi).1)
 have c10 := Ab hm.blk 10
 have c11 := Ab hm.blk 11
 have x0 := Ab hx.blk 0
 rw [Av] at c11 hoc
 have ymb := Ac hm.blk
 have yxb := Ac hx.blk
 clear hm hx hT hf hno hsm hn hln hfw hsz hi Av
 go_in
 go_wp2_with fail
 refine hab.mono ?_
 rintro e w1 ⟨u, rfl, hu, hc1⟩
 have HU := Aa hu.at_
 obtain ⟨ua, ucap, rfl, hucap, humax, _, _⟩ := hu.at_
 obtain ⟨n, hn⟩ := Ax ((C8 cs i).length)
 have hul := HU.out
 rw [List.length_map, hn] at hucap hul
 rw [List.length_map, hn]
 unfold maxLen at humax
 have HUS := Aa hul
 have HN := Aa hn
 have HC1 := Aa (((Ch.refl No w).alloc (.cells #[.int .i64 i] 3)).trans hc1)
 have hno : n ≤ 9223372036854775807 := by omega
 clear hab hu hc1 hn hul c10 c11 x0 HU
 go_wp2
 go_loopg [22, 6, 7, 8, 9, 10] n (fun g s22 s6 s7 s8 s9 s10 wr => ∃ k : Nat, k ≤ n ∧ n - k ≤ g ∧ s22 = .int .i64 k ∧ Hid (∀ u ∈ (C8 cs i).take k, Uo cs ms i u) ∧ Ch No w1 wr)
 case atStart => exact ⟨0, Nat.zero_le _, by omega, rfl, Aa (by simp), Ch.refl _ _⟩
 case round =>
  obtain ⟨k, hk, hg, rfl, HA, hcr1⟩ := hrel
  obtain ⟨w2, hw2⟩ : ∃ w2, w2 = wr := ⟨_, rfl⟩
  subst hw2
  have HCR1 := Aa hcr1
  have HCR := Aa (HC1.out.trans hcr1)
  have c11 := Ab (HCR.out.keep _ _ HBLK.out (fun h => h)) 11
  rw [HL.out] at c11
  clear hcr1
  cases hd : decide (k < n) with
  | false =>
   have hkl : ¬ k < n := by simpa using hd
   go_wp2
   go_ret
   have ha := HA.out
   rw [List.take_of_length_le (by have := HN.out; omega)] at ha
   exact ⟨Am.t ha, HCR.out⟩
  | true =>
   have hkl : k < n := by simpa using hd
   obtain ⟨j, hj⟩ : ∃ j, (C8 cs i)[k]? = some j := ⟨_, List.getElem?_eq_getElem (by have := HN.out; omega)⟩
   obtain ⟨ub, uo, eua, hcell⟩ := (HUS.out.no HCR1.out).cellI (k := k) (by rw [List.getElem?_map, hj]; rfl)
   subst eua
   have hjl := (HUM.out j (mG hj)).1
   obtain ⟨mj, hmj⟩ : ∃ m, ms[j]? = some m := ⟨_, List.getElem?_eq_getElem (by have := HLN.out; omega)⟩
   obtain ⟨ob, oo, oc', b1, b2, b3, e, _, _, hob, g0', g1', g2'⟩ := HMA.out.ownCell hjl hmj
   have g0 := Ae g0' HCR.out (fun _ _ h => h)
   have g1 := Ae g1' HCR.out (fun _ _ h => h)
   have g2 := Ae g2' HCR.out (fun _ _ h => h)
   rw [HL.out] at e
   cases e
   have hjn : j < len := by have := HL.out; omega
   obtain ⟨n1, n2, n3, pv, _, _, hmp, hn3, hps⟩ := hob.ex
   have hmp2 := hmp.ch HCR.out (fun _ _ h => h)
   obtain ⟨D, hown, hD⟩ := hmp2
   dsimp only at hown hD
   have HJ := Aa hj
   have HMJ := Aa hmj
   have HPS := Aa (fun k x hx => (hps k x hx).at_)
   have HD := Aa hD
   have hlkN : ∀ nm, G9 A7 ms nm j = Hp j mj.ms nm := fun nm => by unfold G9; rw [hmj]; rfl
   have HLK := Aa hlkN
   have hbl := hown.lt
   clear hj hjl hmj hob hmp hn3 hps hD hlkN g0' g1' g2'
   go_wp2_with (first
    | (at_range; refine wpList_range_own _ rfl _ 98 rfl 9 54 Gx Tryz.underlying98 RV b3 n3 D rfl hown ?_; intro w3 hrg3 hg3 hs3)
    | go_in)
   try go_frame
   have HC3 := Aa ((Ch.refl No w2).grown hg3 (fun _ _ h _ => by cases h))
   have HCT3 := Aa (HCR.out.trans HC3.out)
   obtain ⟨r, hr⟩ := Ax w2.heap.size
   rw [hr] at hrg3 hs3 ⊢
   have hwr : w.heap.size ≤ r := by rw [← hr]; exact HCR.out.size
   have hbr : b3 ≠ r := by omega
   have HW2 := Aa hr
   clear hr hown hg3
   obtain ⟨C0, hC0⟩ := Ax (Go.Maps.size D)
   rw [hC0] at hrg3
   clear hC0
   go_loopg [7, 8, 9, 10] C0 (fun g s7 s8 s9 s10 wr' => ∃ left cnt, cnt ≤ g ∧ Hid (wr'.ranges Tryz.prog 9 RV b3 r n3 D left cnt) ∧ Hid (Ab7 cs ms i j mj left) ∧ Hid (Ch (fun q _ => q = r) w3 wr'))
   case atStart =>
    refine ⟨_, _, Nat.le_refl _, Aa hrg3, Aa ?_, Aa (Ch.refl _ _)⟩
    intro nm x hx hl
    exfalso
    obtain ⟨c, hc⟩ := Pj (pv := pv) hx
    obtain ⟨hxn, y, hym, hyn⟩ := Qw hx
    have hz := ((HSZ.out mj (mG HMJ.out)).ms y hym).1
    have h1 := (HD.out nm (Gy (by rw [← hyn]; exact hz))).1
    rw [hc, hl] at h1
    cases h1
   case round =>
    obtain ⟨left, cnt, hcnt, HRG, HDN, HCX⟩ := hrel
    have hrg := HRG.out
    have HC4 := Aa (Ch.newOnly HCT3.out HCX.out (Eb (by omega)))
    go_wp2_with (first
     | (at_next; refine wpList_next_ranges _ rfl _ rfl 9 Gx RV Value.string (fun v => v) (fun _ _ h => Xd h) (fun v _ _ => ⟨v, rfl⟩) b3 r n3 D left cnt rfl hrg ?_ ?_)
     | go_in)
    {intro hc0 hl0
     clear hrg
     go_wp2
     go_roundg (n - k - 1)
     case rel =>
      refine ⟨k + 1, by omega, by omega, by go_num, Aa fun u hu => ?_, HCR1.out.trans (Ch.newOnly HC3.out HCX.out (fun q _ _ e => by have e' : q = r := e; have := HW2.out; omega))⟩
      rw [List.take_add_one, HJ.out] at hu
      rcases List.mem_append.1 hu with hu | hu
      {exact HA.out u hu}
      {simp at hu; subst hu
       intro nm x hx hb
       rw [HLK.out] at hx
       exact HDN.out nm x hx (hl0 _) hb}
     case measure => omega}
    {intro x c kl ya yb0 w5 cnt5 hkx hlx hRx hatx hrg5 hlt5 hg5 hs5 hen
     obtain ⟨hxz, hkl'⟩ := Xe hkx
     subst hkl'
     have hget : D1 j pv mj.ms x = some c := by
      have hy1 : ya = .held c := by
       have h1 : RV c = some (ya, yb0) := hRx
       unfold RV at h1
       have h2 := Option.some.inj h1
       exact (Prod.mk.inj h2).1.symm
      have h2 := fun z => ((HD.out x (Gy hxz)).2 z).symm.trans ((hatx (.held z)).trans hy1)
      cases hgx : D1 j pv mj.ms x with
      | none =>
       rw [hgx] at h2
       have h3 := h2 (.bool true)
       have h4 := h2 (.bool false)
       simp only [Option.getD_none, DataW.held.injEq] at h3 h4
       rw [← h3] at h4
       cases h4
      | some v =>
       rw [hgx] at h2
       have h3 := h2 v
       simp only [Option.getD_some, DataW.held.injEq] at h3
       rw [h3]
     obtain ⟨xx, sa, sn, sc, hlkx, hcx, hst⟩ := Sd HPS.out hget
     subst hcx
     have HLX := Aa hlkx
     have HXN := Aa (Qw hlkx).1
     have HC5' := Aa (HCX.out.trans ((Ch.refl (fun q _ => q = r) wr).grown hg5 (fun _ _ h _ => by cases h; rfl)))
     have HC5 := Aa (Ch.newOnly HCT3.out HC5'.out (Eb (by omega)))
     have HST := Aa (hst.no HC5.out)
     have HRG5 := Aa hrg5
     have HXZ := Aa hxz
     clear hrg hkx hlx hRx hatx hrg5 hg5 hs5 hget hlkx hst hxz
     obtain ⟨xc, xn, xt, xp, xs, xbb⟩ := xx
     dsimp only at hen
     obtain ⟨w6, hw6, hb6, hc6⟩ := A2 w5 (.cells #[.int .i64 xc, .string xn, .string xt, .slice sa sn sc, .bool xs, .bool xbb] 54)
     have HB6 := Aa hb6
     have K6 := Aa hc6
     obtain ⟨d0, d1, d2, d3, d4, d5⟩ := Dm hb6
     have hstep : ∀ nm', (left (Bx.lit nm') && !(Bx.lit nm').sameKey (Bx.lit x)) = false → left (Bx.lit nm') = false ∨ nm' = x := fun nm' h => by
      cases hl : left (Bx.lit nm') with
      | false => exact .inl rfl
      | true =>
       rw [hl] at h
       right
       apply Ab5.1
       simpa using h
     have HSTEP := Aa hstep
     clear hb6 hc6 hstep
     go_upto_region 7 with fail
     clear hw6
     cases xbb with
     | false =>
      go_wp2
      go_roundg cnt5
      case rel =>
       refine ⟨_, cnt5, Nat.le_refl _, Aa (Ln HRG5.out K6.out (fun _ h => h) (fun _ h => h)), Aa ?_, Aa (HC5'.out.trans (K6.out.mono (fun _ _ _ h => h.elim)))⟩
       intro nm' x' hx' hl'
       rcases HSTEP.out nm' hl' with h | h
       {exact HDN.out nm' x' hx' h}
       {subst h
        rw [HLX.out] at hx'; cases hx'
        intro hb; cases hb}
      case measure => omega
     | true =>
      have hme := Ui HF.out.1 HNO.out HSM.out HLN.out HFW.out HXZ.out (Eo cs i) (i : Int) (some i) ((HMS.out.no HC5.out).no K6.out) (Ja.some HI.out) (fun i' e => by cases e; exact Nat.le_refl _)
      cases hmm : C9 cs ms x (some i) with
      | none =>
       rw [hmm] at hme
       have HMM := Aa hmm
       clear hmm
       go_wp2_with fail
       refine hme.mono ?_
       rintro e w7 ⟨rfl, hc7⟩
       have K7 := Aa hc7
       clear hme hc7
       go_wp2
       go_ret
       refine ⟨Am.f (fun hw => ?_), HC5.out.trans (K6.out.trans (K7.out.alloc _))⟩
       obtain ⟨y, hy, _⟩ := hw j (mG HJ.out) x _ ((HLK.out x).trans HLX.out) rfl
       rw [HMM.out] at hy; cases hy
      | some y =>
       obtain ⟨yc, yn, yt, yp, ys, yb⟩ := y
       rw [hmm] at hme
       have HMM := Aa hmm
       clear hmm
       go_wp2_with fail
       refine hme.mono ?_
       rintro e w7 ⟨⟨ta, tn, tc, rfl, hty⟩, hc7⟩
       dsimp only at hty
       obtain ⟨w8, hw8, hb8, hc8⟩ := A2 w7 (.cells #[.int .i64 yc, .string yn, .string yt, .slice ta tn tc, .bool ys, .bool yb] 54)
       have K8 := Aa (hc7.trans hc8)
       have HTY := Aa (hty.at_.no hc8)
       have hb68 := K8.out.keep _ _ HB6.out (fun h => h)
       obtain ⟨g0, g1, g2, g3, g4, g5⟩ := Dm hb8
       clear d0 d1 d2 d3 d4 d5
       obtain ⟨d0, d1, d2, d3, d4, d5⟩ := Dm hb68
       have hal := Ub (c := xc) (nm := xn) (ty := xt) (st := xs) (ba := true) (c' := yc) (nm' := yn) (ty' := yt) (st' := ys) (ba' := yb) ((HST.out.no K6.out).no K8.out) HTY.out
       clear hme hty hc7 hc8 hb8 hb68
       have HALL := Aa (show (Mc cs ms i → yb = false ∧ ys = false ∧ xt = yt ∧ xp = yp) from fun hw => by
        obtain ⟨y, hy, h1, h2, h3, h4⟩ := hw j (mG HJ.out) x _ ((HLK.out x).trans HLX.out) rfl
        rw [HMM.out] at hy; cases hy
        exact ⟨h1, h2, h3, h4⟩)
       go_upto_region 9 with fail
       clear hw8
       cases yb with
       | true =>
        go_wp2
        go_ret
        exact ⟨Am.f (fun hw => by have h0 := (HALL.out hw).1; cases h0), HC5.out.trans (K6.out.trans K8.out)⟩
       | false =>
        cases ys with
        | true =>
         go_wp2
         go_ret
         exact ⟨Am.f (fun hw => by have h0 := (HALL.out hw).2.1; cases h0), HC5.out.trans (K6.out.trans K8.out)⟩
        | false =>
         go_wp2_with fail
         refine hal.mono ?_
         rintro e w9 ⟨⟨r9, rfl, hr9⟩, hc9⟩
         have HR9 := Aa hr9
         have K9 := Aa (K6.out.trans (K8.out.trans hc9))
         clear hal hr9 hc9
         cases r9 with
         | false =>
          go_wp2
          go_ret
          refine ⟨Am.f (fun hw => ?_), HC5.out.trans K9.out⟩
          have h0 := HR9.out.2 (HALL.out hw).2.2
          first | cases h0 | exact h0
         | true =>
          have HAL := Aa (HR9.out.1 (by first | rfl | trivial))
          go_wp2
          go_roundg cnt5
          case rel =>
           refine ⟨_, cnt5, Nat.le_refl _, Aa (Ln HRG5.out K9.out (fun _ h => h) (fun _ h => h)), Aa ?_, Aa (HC5'.out.trans (K9.out.mono (fun _ _ _ h => h.elim)))⟩
           intro nm' x' hx' hl'
           rcases HSTEP.out nm' hl' with h | h
           {exact HDN.out nm' x' hx' h}
           {subst h
            rw [HLX.out] at hx'; cases hx'
            intro _
            exact ⟨_, HMM.out, rfl, rfl, HAL.out.1, HAL.out.2⟩}
          case measure => omega}
def mbR (i : Nat) (x : Mt) : Cy := ⟨i, x.nm, x.ret, x.ps.map Vr.ty, x.st, x.ba⟩
def Z9 (cs : List Aj) (ms : List Ba) (i : Nat) (face : Bool) (l : List Mt) (k : Nat) : Prop :=
 ∀ x, l[k]? = some x → (∀ y ∈ l.take k, y.nm ≠ x.nm) ∧ (face = true → x.ba = true) ∧ Qv cs ms i (mbR i x)
structure D8 (cs : List Aj) (ms : List Ba) (i : Nat) (c : Aj) (m : Ba) : Prop where
 fs : Ee cs Bi ms (D4 cs i) m.fs
 ss : Ee cs A8 ms (D4 cs i) m.ss
 mts : ∀ k, k < m.ms.length → Z9 cs ms i c.face m.ms k
 face : c.face = true → c.sup.toList.isEmpty = true
 whole : c.face = false → Mc cs ms i
theorem Ab8 {p : Prop} (h : p := by
 refine tk 8 rfl ?_
 refine tk 9 rfl ?_
 refine tk 10 rfl ?_
 refine tk 11 rfl ?_
 refine tk 12 rfl ?_
 refine tk 13 rfl ?_
 refine tk 14 rfl ?_
 refine wpAnyH_ready (rs := [15]) (by kernel_rfl) (by simp) (AllReadyH.cons rfl (fun K hK => ?_) AllReadyH.nil)
 go_simp
 go_at_call 79
 refine (hme).mono ?_
 rintro e w10 ⟨sa, sn, sc, rfl, hst, hc10⟩
 have K10 := Aa (((Ch.refl No wa).drew).trans hc10)
 have HST := Aa hst.at_
 clear hst
 clear hc10
 go_simp
 have HS10 := Aa (Aa9 HSx.out K10.out)
 refine hK.out _ _ HS10.out (fun hHeld10 => ?_)
 clear hK
 refine wpAnyH_ready (rs := [16]) (by kernel_rfl) (by simp) (AllReadyH.cons rfl (fun K hK => ?_) AllReadyH.nil)
 go_simp
 go_at_call 86
 refine (hso _ K10.out _ _ _ HST.out).mono ?_
 rintro e w11 ⟨⟨r11, rfl, hr11⟩, hc11⟩
 have K11 := Aa (K10.out.trans hc11)
 have HR11 := Aa hr11
 clear hr11
 clear hc11
 go_simp
 have HS11 := Aa (Aa9 HSx.out K11.out)
 refine hK.out _ _ HS11.out (fun hHeld11 => ?_)
 clear hK
 refine tk 17 rfl ?_
 refine tk 18 rfl ?_
 refine wpAnyH_done (by kernel_rfl) ?_ _
 clear a0 a1 f0 f1 d0 d1 d2 d3 d4 d5 d6 d7 d8
 have hb9k := K11.out.keep _ _ HB9A.out (fun h => h)
 have hb3k := K11.out.keep _ _ HB3A.out (fun h => h)
 have HB3K := Aa hb3k
 obtain ⟨d0, d1, d2, d3, d4, d5, d6, d7, d8⟩ := Y4 hb9k
 obtain ⟨a0, a1⟩ := Co hb3k
 obtain ⟨f0, f1⟩ := Lb hb3k
 clear hb9k hb3k
 cases r11 with
 | false =>
  have HBAD := Aa (show ¬ D8 cs ms i c m from fun hr => by
   have h0 := HR11.out.2 (hr.mts k (by have := N6.out; omega) x HX.out).2.2
   first | cases h0 | exact h0)
  go_wp2_with fail
  obtain ⟨wf, hwf, hfb, hfc⟩ := Jd HB3K.out (.int .i64 x.line) (.int .i64 x.col)
  rw [hwf]
  obtain ⟨k0, k1⟩ := Co hfb
  refine bodyPost_ret (v := .tuple #[.agg #[.int .i64 x.line, .int .i64 x.col], .bool false]) (by simp [results, Tryz.results45, go_sem, k0, k1]) rfl ?_
  exact ⟨C2.f HBAD.out, Ch.newOnly (HCA.out.trans K11.out) hfc (Eb (by omega))⟩
 | true =>
  have HSO := Aa (HR11.out.1 (by first | rfl | trivial))
  go_wp2
  go_roundg (n6 - k - 1)
  case rel =>
   refine ⟨k + 1, by omega, by omega, by go_num, Aa fun q hq => ?_, HCR.out.trans (KA.out.trans K11.out)⟩
   by_cases h1 : q < k
   {exact HA.out q h1}
   {obtain rfl : q = k := by omega
    intro x' hx'
    rw [HX.out] at hx'; cases hx'
    exact ⟨HNT.out, (fun hf => by first | exact HXBA.out | cases hf), HSO.out⟩}
  case measure => omega
 ) : p := h
theorem Ab9 {p : Prop} (h : p := by
 go_wp2_with fail
 go_quiet (fail)
 go_wp2_with fail
 obtain ⟨wf, hwf, hfb, hfc⟩ := Jd (w := wa.drewN nq) HB3A.out (.int .i64 x.line) (.int .i64 x.col)
 rw [hwf]
 obtain ⟨k0, k1⟩ := Co hfb
 refine bodyPost_ret (v := .tuple #[.agg #[.int .i64 x.line, .int .i64 x.col], .bool false]) (by simp [results, Tryz.results45, go_sem, k0, k1]) rfl ?_
 exact ⟨C2.f HBAD.out, Ch.newOnly (HCA.out.drewN nq) hfc (Eb (by omega))⟩
 ) : p := h
set_option maxRecDepth 100000 in
set_option maxHeartbeats 64000000 in
theorem Aaa {w : World} {mb : Nat} {cs : List Aj} {ms : List Ba} (hT : Ia w) (h : B3 w mb cs ms) (hma : En w cs ms) (hf : Bt cs none) (hno : A3 cs) (hsm : Df cs) (hn : cs.length ≤ 20) (hln : ms.length = cs.length) (hfw : Gj ms) (hsz : W5 ms) {i : Nat} {c : Aj} {m : Ba} (hcs : cs[i]? = some c) (hmi : ms[i]? = some m) :
 Calls Tryz.prog 45 #[.pointer (some ⟨mb, 0, none⟩), .int .i64 i, .agg #[.string c.name, .string c.sup, .bool c.face, .slice c.fa c.faces.length c.fc, .slice c.s4.1 c.s4.2.1 c.s4.2.2, .slice c.s5.1 c.s5.2.1 c.s5.2.2, .slice c.s6.1 c.s6.2.1 c.s6.2.2, .pointer c.p7, .int .i64 c.line, .int .i64 c.col]] w fun e w' => C2 (D8 cs ms i c m) e ∧ Ch No w w' := by
 have hmf := @G3 Tryz.prog
 have HT := Aa hT
 have HMS := Aa h
 have HF := Aa hf
 have HNO := Aa hno
 have HSM := Aa hsm
 have HN20 := Aa hn
 have HLN := Aa hln
 have HFW := Aa hfw
 have HSZ := Aa hsz
 have HCS := Aa hcs
 have HMI := Aa hmi
 have HI := Aa (gL hcs)
 have HSA := Aa (T3 hcs (hf.1 i c hcs))
 have HMA := Aa (hma.at_ i c m hcs hmi)
 obtain ⟨z, hz⟩ := Ax (Ed cs c)
 have hsu := fun (wz : World) (hz : Ch No w wz) => HMS.out.no hz
 rw [hz] at HSA
 have HZ := Aa hz
 obtain ⟨r4, hr4⟩ : ∃ r, c.s4 = r := ⟨_, rfl⟩
 obtain ⟨r5, hr5⟩ : ∃ r, c.s5 = r := ⟨_, rfl⟩
 obtain ⟨r6, hr6⟩ : ∃ r, c.s6 = r := ⟨_, rfl⟩
 have v4 := HMA.out.fs
 have v5 := HMA.out.ss
 have v6 := HMA.out.ms
 rw [hr4] at v4
 rw [hr5] at v5
 rw [hr6] at v6
 obtain ⟨fb, hfb⟩ := Ax c.face
 rw [hr4, hr5, hr6, hfb]
 have HFB := Aa hfb
 obtain ⟨a4, n4, c4⟩ := r4
 obtain ⟨a5, n5, c5⟩ := r5
 obtain ⟨a6, n6, c6⟩ := r6
 dsimp only at v4 v5 v6 ⊢
 obtain ⟨hn6, hc6, hm6⟩ := v6.shape
 unfold maxLen at hm6
 have x6 : n6 ≤ c6 := by have h1 : n6 = m.ms.length := hn6; have h2 : m.ms.length ≤ c6 := hc6; omega
 have V4 := Aa v4
 have V5 := Aa v5
 have V6 := Aa v6
 have N6 := Aa (show n6 = m.ms.length from hn6)
 have HSZM := Aa (hsz m (mG hmi))
 have HFWM := Aa (hfw m (mG hmi))
 obtain ⟨w1, hw1, hb1, hc1⟩ := A2 w (.cells #[.pointer (some ⟨mb, 0, none⟩)] 38)
 obtain ⟨w2, hw2, hb2, hc2⟩ := A2 w1 (.cells #[.string c.name, .string c.sup, .bool fb, .slice c.fa c.faces.length c.fc, .slice a4 n4 c4, .slice a5 n5 c5, .slice a6 n6 c6, .pointer c.p7, .int .i64 c.line, .int .i64 c.col] 50)
 obtain ⟨w3, hw3, hb3, hc3⟩ := A2 w2 (.cells #[.int .i64 0, .int .i64 0] 27)
 have HC3 := Aa (hc1.trans (hc2.trans hc3))
 have HB1 := Aa ((hc2.trans hc3).keep _ _ hb1 (fun h => h))
 have HB2 := Aa (hc3.keep _ _ hb2 (fun h => h))
 have HB3 := Aa hb3
 have y1 := Ac hb1
 have y2 := Ac hb2
 have y3 := Ac hb3
 have hm3 := HMS.out.no HC3.out
 obtain ⟨cv, m0, m1, m2, m3, m4, m5, m6, m7, m8, xv, ov, bs, hm⟩ := hm3
 obtain ⟨xb, tb, abv, ss, hxv, hx⟩ := hm.typ
 subst hxv
 have c10 := Ab hm.blk 10
 have x0 := Ab hx.blk 0
 have hsu := Tv hx.tab hcs
 rw [hz] at hsu
 have b10 := Ab HB1.out 0
 clear hT h hma hf hno hsm hn hln hfw hsz hcs hmi hz hr4 hr5 hr6 hfb v4 v5 v6 hn6 hc6 hb1 hc1 hb2 hc2 hb3 hc3 hm hx
 go_in
 go_wp2_with fail
 refine hsu.mono ?_
 rintro e w3' ⟨rfl, rfl⟩
 clear hsu hw1 hw2 hw3 c10 x0
 obtain ⟨w4, hw4, hb4, hc4⟩ := A2 w3 (.cells #[.int .i64 z] 3)
 have HC4 := Aa (HC3.out.trans hc4)
 have HB14 := Aa (hc4.keep _ _ HB1.out (fun h => h))
 have HB24 := Aa (hc4.keep _ _ HB2.out (fun h => h))
 have HB34 := Aa (hc4.keep _ _ HB3.out (fun h => h))
 have HB44 := Aa hb4
 have hb14 := HB14.out
 have hb24 := HB24.out
 have b10 := Ab hb14 0
 have e4 := Ab hb24 4
 have hvf := Ph (HMS.out.no HC4.out) HF.out.1 HNO.out HLN.out HFW.out HSA.out (V4.out.no HC4.out) HSZM.out.fs (Ab HB14.out 0) (Ab HB44.out 0)
 have y4 := Ac hb4
 clear hb4 hc4 hb14 hb24
 go_wp2_with fail
 refine hvf.mono ?_
 rintro e w5 ⟨⟨p5, q5, ok5, rfl, hok5⟩, hc5⟩
 clear hw4 hvf b10 e4
 have HOK5 := Aa hok5
 obtain ⟨w6, hwm, hbm, hcm⟩ := A2 w5 (.cells #[.int .i64 p5, .int .i64 q5] 27)
 have HC6 := Aa (HC4.out.trans (hc5.trans hcm))
 have HB16 := Aa ((hc5.trans hcm).keep _ _ HB14.out (fun h => h))
 have HB26 := Aa ((hc5.trans hcm).keep _ _ HB24.out (fun h => h))
 have HB36 := Aa ((hc5.trans hcm).keep _ _ HB34.out (fun h => h))
 have HB46 := Aa ((hc5.trans hcm).keep _ _ HB44.out (fun h => h))
 obtain ⟨g0, g1⟩ := Co hbm
 have hb3m := HB36.out
 obtain ⟨a0, a1⟩ := Co hb3m
 obtain ⟨f0, f1⟩ := Lb hb3m
 clear hok5 hbm hcm hb3m hc5
 go_upto_region 3 with fail
 clear hwm
 cases ok5 with
 | false =>
  go_wp2_with fail
  have HBAD := Aa (show ¬ D8 cs ms i c m from fun hr => by
   have h0 := HOK5.out.2 hr.fs
   first | cases h0 | exact h0)
  obtain ⟨wf, hwf, hfb, hfc⟩ := Jd HB36.out (.int .i64 p5) (.int .i64 q5)
  rw [hwf]
  obtain ⟨k0, k1⟩ := Co hfb
  refine bodyPost_ret (v := .tuple #[.agg #[.int .i64 p5, .int .i64 q5], .bool false]) (by simp [results, Tryz.results45, go_sem, k0, k1]) rfl ?_
  exact ⟨C2.f HBAD.out, Ch.newOnly HC6.out hfc (Eb (by omega))⟩
 | true =>
  have HFS := Aa (HOK5.out.1 (by first | rfl | trivial))
  have hb16 := HB16.out
  have hb26 := HB26.out
  clear a0 a1 f0 f1 g0 g1
  have b10 := Ab hb16 0
  have e5 := Ab hb26 5
  have hvs := Nt (HMS.out.no HC6.out) HF.out.1 HNO.out HLN.out HFW.out HSA.out (V5.out.no HC6.out) HSZM.out.ss (Ab HB16.out 0) (Ab HB46.out 0)
  clear hb16 hb26
  go_wp2_with fail
  refine hvs.mono ?_
  rintro e w7 ⟨⟨p7, q7, ok7, rfl, hok7⟩, hc7⟩
  clear hvs b10 e5
  have HOK7 := Aa hok7
  obtain ⟨w8, hwm, hbm, hcm⟩ := A2 w7 (.cells #[.int .i64 p7, .int .i64 q7] 27)
  have HC8 := Aa (HC6.out.trans (hc7.trans hcm))
  have HB18 := Aa ((hc7.trans hcm).keep _ _ HB16.out (fun h => h))
  have HB28 := Aa ((hc7.trans hcm).keep _ _ HB26.out (fun h => h))
  have HB38 := Aa ((hc7.trans hcm).keep _ _ HB36.out (fun h => h))
  have HB48 := Aa ((hc7.trans hcm).keep _ _ HB46.out (fun h => h))
  obtain ⟨g0, g1⟩ := Co hbm
  have hb3m := HB38.out
  obtain ⟨a0, a1⟩ := Co hb3m
  obtain ⟨f0, f1⟩ := Lb hb3m
  clear hok7 hbm hcm hb3m hc7
  go_upto_region 6 with fail
  clear hwm
  cases ok7 with
  | false =>
   go_wp2_with fail
   have HBAD := Aa (show ¬ D8 cs ms i c m from fun hr => by
    have h0 := HOK7.out.2 hr.ss
    first | cases h0 | exact h0)
   obtain ⟨wf, hwf, hfb, hfc⟩ := Jd HB38.out (.int .i64 p7) (.int .i64 q7)
   rw [hwf]
   obtain ⟨k0, k1⟩ := Co hfb
   refine bodyPost_ret (v := .tuple #[.agg #[.int .i64 p7, .int .i64 q7], .bool false]) (by simp [results, Tryz.results45, go_sem, k0, k1]) rfl ?_
   exact ⟨C2.f HBAD.out, Ch.newOnly HC8.out hfc (Eb (by omega))⟩
  | true =>
   have HSS := Aa (HOK7.out.1 (by first | rfl | trivial))
   have hb28 := HB28.out
   clear a0 a1 f0 f1 g0 g1
   have e6 := Ab hb28 6
   clear hb28
   go_wp2_with fail
   clear e6
   go_loopg [50, 13, 14, 15] n6 (fun g s50 s13 s14 s15 wr => ∃ k : Nat, k ≤ n6 ∧ n6 - k ≤ g ∧ s50 = .int .i64 k ∧ Hid (∀ q, q < k → Z9 cs ms i fb m.ms q) ∧ Ch No w8 wr)
   case atStart => exact ⟨0, Nat.zero_le _, by omega, rfl, Aa (fun q hq => absurd hq (Nat.not_lt_zero q)), Ch.refl _ _⟩
   case round =>
    obtain ⟨k, hk, hg, rfl, HA, hcr⟩ := hrel
    have HCR := Aa hcr
    have HCW := Aa (HC8.out.trans hcr)
    have HB1R := Aa (hcr.keep _ _ HB18.out (fun h => h))
    have HB2R := Aa (hcr.keep _ _ HB28.out (fun h => h))
    have HB3R := Aa (hcr.keep _ _ HB38.out (fun h => h))
    have zr := HCW.out.size
    clear hcr
    cases hd : decide (k < n6) with
    | true =>
     have hkl : k < n6 := by simpa using hd
     obtain ⟨x, hx⟩ := gE (l := m.ms) (i := k) (by have := N6.out; omega)
     have hmts := V6.out.no HCW.out
     obtain ⟨mxb, mxo, hma6, q0, q1, q2, q3, q4, q5, q6, q7, q8⟩ := hmts.cell hx
     obtain ⟨w9, hw9, hb9, hc9⟩ := A2 wr (.cells #[.string x.ret, .string x.nm, .bool x.st, .bool x.ba, .slice x.pa x.ps.length x.pc, .slice x.s5.1 x.s5.2.1 x.s5.2.2, .slice x.s6.1 x.s6.2.1 x.s6.2.2, .int .i64 x.line, .int .i64 x.col] 29)
     have HB9 := Aa hb9
     have hb29 := hc9.keep _ _ HB2R.out (fun h => h)
     have e6 := Ab hb29 6
     have hcont := Z4 (bx := wr.heap.size) (Abr (bx := wr.heap.size) ((hmts.take (k := k) (by have := N6.out; omega)).no hc9) (fun y => y.nm = x.nm) (fun wz y hcz hy => Uj (Ab (hcz.keep _ _ HB9.out (fun h => h)) 1)))
     have HX := Aa hx
     have HC9 := Aa hc9
     have y9 := Ac hb9
     have y29 := Ac hb29
     subst hma6
     clear hmts hb9 hc9 hb29 hx
     go_wp2_with fail
     refine hcont.mono ?_
     rintro e wa ⟨⟨ra, rfl, hra⟩, hca⟩
     have HRA := Aa hra
     have KA := Aa (HC9.out.trans hca)
     have HCA := Aa (HCW.out.trans KA.out)
     have HB9A := Aa (hca.keep _ _ HB9.out (fun h => h))
     have HB2A := Aa (KA.out.keep _ _ HB2R.out (fun h => h))
     have HB3A := Aa (KA.out.keep _ _ HB3R.out (fun h => h))
     have HB1A := Aa (KA.out.keep _ _ HB1R.out (fun h => h))
     obtain ⟨xb, hxb⟩ := Ax x.ba
     have hb9a := HB9A.out
     rw [hxb] at hb9a
     have HB9B := Aa hb9a
     have hb3a := HB3A.out
     have hb2a := HB2A.out
     obtain ⟨d0, d1, d2, d3, d4, d5, d6, d7, d8⟩ := Y4 hb9a
     obtain ⟨a0, a1⟩ := Co hb3a
     obtain ⟨f0, f1⟩ := Lb hb3a
     have e2 := Ab hb2a 2
     have HXBA := Aa hxb
     clear hw9 hcont hra hca hxb hb9a hb3a hb2a e6 q0 q1 q2 q3 q4 q5 q6 q7 q8
     cases ra with
     | true =>
      have HBAD := Aa (show ¬ D8 cs ms i c m from fun hr => by
       obtain ⟨y, hy, hn⟩ := HRA.out.1 (by first | rfl | trivial)
       exact (hr.mts k (by have := N6.out; omega) x HX.out).1 y hy hn)
      exact Ab9
     | false =>
      have HNT := Aa (show ∀ y ∈ m.ms.take k, y.nm ≠ x.nm from fun y hy hn => by
       have h0 := HRA.out.2 ⟨y, hy, hn⟩
       first | cases h0 | exact h0)
      have hme := Qq ((V6.out.ps x (mG HX.out)).no (HCA.out.trans ((Ch.refl No wa).drew))) (HFWM.out x (mG HX.out)) (i : Int)
      unfold Nk at hme
      rw [HXBA.out] at hme
      have hso := fun (wz : World) (hz : Ch No wa wz) (sa : Option Addr) (sn sc : Nat) (hst : Ah wz (.slice sa sn sc) (x.ps.map Vr.ty)) => Z7 (x := mbR i x) (HT.out.no (HCA.out.trans hz)) (HMS.out.no (HCA.out.trans hz)) HF.out HN20.out HLN.out HI.out hst (HSZM.out.ms x (mG HX.out)).1 (HSZM.out.ms x (mG HX.out)).2.1 (fun p hp => by
       obtain ⟨v, hv, rfl⟩ := List.mem_map.1 hp
       exact (HSZM.out.ms x (mG HX.out)).2.2 v hv)
      unfold mbR at hso
      dsimp only at hso
      rw [HXBA.out] at hso
      have HSx := Aa (show wa.cell? ⟨w1.heap.size, 2, none⟩ = some (.bool fb) ∧ wa.cell? ⟨w.heap.size, 0, none⟩ = some (.pointer (some ⟨mb, 0, none⟩)) ∧ wa.cell? ⟨wr.heap.size, 0, none⟩ = some (.string x.ret) ∧ wa.cell? ⟨wr.heap.size, 1, none⟩ = some (.string x.nm) ∧ wa.cell? ⟨wr.heap.size, 2, none⟩ = some (.bool x.st) ∧ wa.cell? ⟨wr.heap.size, 3, none⟩ = some (.bool xb) ∧ wa.cell? ⟨wr.heap.size, 4, none⟩ = some (.slice x.pa x.ps.length x.pc) ∧ wa.cell? ⟨wr.heap.size, 5, none⟩ = some (.slice x.s5.1 x.s5.2.1 x.s5.2.2) ∧ wa.cell? ⟨wr.heap.size, 6, none⟩ = some (.slice x.s6.1 x.s6.2.1 x.s6.2.2) ∧ wa.cell? ⟨wr.heap.size, 7, none⟩ = some (.int .i64 x.line) ∧ wa.cell? ⟨wr.heap.size, 8, none⟩ = some (.int .i64 x.col) from ⟨e2, Ab HB1A.out 0, d0, d1, d2, d3, d4, d5, d6, d7, d8⟩)
      cases fb with
      | true =>
       cases xb with
       | false =>
        have HBAD := Aa (show ¬ D8 cs ms i c m from fun hr => by
         have h0 := (hr.mts k (by have := N6.out; omega) x HX.out).2.1 HFB.out
         rw [HXBA.out] at h0; cases h0)
        exact Ab9
       | true =>
        go_wp2_with fail
        refine wp_region_held_drew (S := fun w' => w'.cell? ⟨w1.heap.size, 2, none⟩ = some (.bool true) ∧ w'.cell? ⟨w.heap.size, 0, none⟩ = some (.pointer (some ⟨mb, 0, none⟩)) ∧ w'.cell? ⟨wr.heap.size, 0, none⟩ = some (.string x.ret) ∧ w'.cell? ⟨wr.heap.size, 1, none⟩ = some (.string x.nm) ∧ w'.cell? ⟨wr.heap.size, 2, none⟩ = some (.bool x.st) ∧ w'.cell? ⟨wr.heap.size, 3, none⟩ = some (.bool true) ∧ w'.cell? ⟨wr.heap.size, 4, none⟩ = some (.slice x.pa x.ps.length x.pc) ∧ w'.cell? ⟨wr.heap.size, 5, none⟩ = some (.slice x.s5.1 x.s5.2.1 x.s5.2.2) ∧ w'.cell? ⟨wr.heap.size, 6, none⟩ = some (.slice x.s6.1 x.s6.2.1 x.s6.2.2) ∧ w'.cell? ⟨wr.heap.size, 7, none⟩ = some (.int .i64 x.line) ∧ w'.cell? ⟨wr.heap.size, 8, none⟩ = some (.int .i64 x.col)) (by kernel_rfl) HSx.out (fun hHeld => ?_)
        refine tk 0 rfl ?_
        refine tk 1 rfl ?_
        refine tk 2 rfl ?_
        refine tk 3 rfl ?_
        refine tk 4 rfl ?_
        refine tk 5 rfl ?_
        refine tk 6 rfl ?_
        refine tk 7 rfl ?_
        exact Ab8
      | false =>
       go_wp2_with fail
       refine wp_region_held_drew (S := fun w' => w'.cell? ⟨w1.heap.size, 2, none⟩ = some (.bool false) ∧ w'.cell? ⟨w.heap.size, 0, none⟩ = some (.pointer (some ⟨mb, 0, none⟩)) ∧ w'.cell? ⟨wr.heap.size, 0, none⟩ = some (.string x.ret) ∧ w'.cell? ⟨wr.heap.size, 1, none⟩ = some (.string x.nm) ∧ w'.cell? ⟨wr.heap.size, 2, none⟩ = some (.bool x.st) ∧ w'.cell? ⟨wr.heap.size, 3, none⟩ = some (.bool xb) ∧ w'.cell? ⟨wr.heap.size, 4, none⟩ = some (.slice x.pa x.ps.length x.pc) ∧ w'.cell? ⟨wr.heap.size, 5, none⟩ = some (.slice x.s5.1 x.s5.2.1 x.s5.2.2) ∧ w'.cell? ⟨wr.heap.size, 6, none⟩ = some (.slice x.s6.1 x.s6.2.1 x.s6.2.2) ∧ w'.cell? ⟨wr.heap.size, 7, none⟩ = some (.int .i64 x.line) ∧ w'.cell? ⟨wr.heap.size, 8, none⟩ = some (.int .i64 x.col)) (by kernel_rfl) HSx.out (fun hHeld => ?_)
       refine tk 0 rfl ?_
       refine tk 1 rfl ?_
       refine tk 2 rfl ?_
       refine tk 3 rfl ?_
       refine tk 4 rfl ?_
       refine tn 5 rfl ?_
       refine tn 6 rfl ?_
       refine tn 7 rfl ?_
       exact Ab8
    | false =>
     have hkl : ¬ k < n6 := by simpa using hd
     have HALL := Aa (show ∀ q, q < m.ms.length → Z9 cs ms i fb m.ms q from fun q hq => HA.out q (by have := N6.out; omega))
     have hb2r := HB2R.out
     have hb3r := HB3R.out
     have hb1r := HB1R.out
     obtain ⟨e0, e1, e2, e3, e4, e5, e6, e7, e8, e9⟩ := Cp hb2r
     obtain ⟨a0, a1⟩ := Co hb3r
     obtain ⟨f0, f1⟩ := Lb hb3r
     have b10 := Ab hb1r 0
     clear hb1r hb2r hb3r HA
     cases fb with
     | true =>
      cases he : c.sup.toList.isEmpty with
      | true =>
       have HE := Aa he
       go_wp2_with fail
       go_region
       go_wp2_with fail
       obtain ⟨wf, hwf, hfb, hfc⟩ := Jd HB3R.out (.int .i64 c.line) (.int .i64 c.col)
       rw [hwf]
       obtain ⟨k0, k1⟩ := Co hfb
       refine bodyPost_ret (v := .tuple #[.agg #[.int .i64 c.line, .int .i64 c.col], .bool true]) (by simp [results, Tryz.results45, go_sem, k0, k1]) rfl ?_
       exact ⟨C2.t ⟨HFS.out, HSS.out, fun q hq => by rw [HFB.out]; exact HALL.out q hq, fun _ => HE.out, fun h => by rw [HFB.out] at h; cases h⟩, Ch.newOnly HCW.out hfc.drew (Eb (by omega))⟩
      | false =>
       have HE := Aa he
       go_wp2_with fail
       go_region
       go_wp2_with fail
       obtain ⟨wf, hwf, hfb, hfc⟩ := Jd HB3R.out (.int .i64 c.line) (.int .i64 c.col)
       rw [hwf]
       obtain ⟨k0, k1⟩ := Co hfb
       refine bodyPost_ret (v := .tuple #[.agg #[.int .i64 c.line, .int .i64 c.col], .bool false]) (by simp [results, Tryz.results45, go_sem, k0, k1]) rfl ?_
       exact ⟨C2.f (fun hr => by have h0 := hr.face HFB.out; rw [HE.out] at h0; cases h0), Ch.newOnly HCW.out hfc.drew (Eb (by omega))⟩
     | false =>
      have hwh := fun (wz : World) (hz : Ch No w wz) => Z8 (HT.out.no hz) (HMS.out.no hz) HF.out HNO.out HSM.out HN20.out HLN.out HFW.out HSZ.out HI.out
      have hwA := hwh wr.drew (HCW.out.trans ((Ch.refl No wr).drew))
      obtain ⟨wf, hwf, hfb, hfc⟩ := Jd HB3R.out (.int .i64 c.line) (.int .i64 c.col)
      have hchf := Ch.newOnly HCW.out hfc (Eb (by omega))
      have hwB := hwh wf.drew (hchf.trans ((Ch.refl No wf).drew))
      have HFBK := Aa hfb
      have hb2f := hfc.keep _ _ HB2R.out (Bm (by omega))
      have hb1f := hfc.keep _ _ HB1R.out (Bm (by omega))
      have eF2 := Ab hb2f 2
      have eF8 := Ab hb2f 8
      have eF9 := Ab hb2f 9
      have bF0 := Ab hb1f 0
      have yw2 : w2.heap.size < wf.heap.size := Ac HFBK.out
      clear hb2f hb1f
      have HCF := Aa hchf
      clear hwh hfb hfc hchf
      go_wp2_with fail
      go_region_law (first | (go_simp; go_at_call 87; refine hwA.mono ?_; rintro e wb ⟨⟨rb, rfl, hrb⟩, hcb⟩; have HRB := Aa hrb; have KB := Aa (((Ch.refl No wr).drew).trans hcb); have hb3b := KB.out.keep _ _ HB3R.out (fun h => h); have HB3B := Aa hb3b; obtain ⟨a0, a1⟩ := Co hb3b; obtain ⟨f0, f1⟩ := Lb hb3b; have hb2b := KB.out.keep _ _ HB2R.out (fun h => h); have eb8 := Ab hb2b 8; have eb9 := Ab hb2b 9; clear hrb hcb hb3b hb2b hwA) | (go_simp; go_at_call 87; refine hwB.mono ?_; rintro e wb ⟨⟨rb, rfl, hrb⟩, hcb⟩; have HRB := Aa hrb; have KB := Aa hcb; clear hrb hcb hwB))
      all_goals (
       clear hwf
       go_wp2_with fail
       obtain ⟨wg, hwg, hgb, hgc⟩ := Jd HB3B.out (.int .i64 c.line) (.int .i64 c.col)
       rw [hwg]
       obtain ⟨k0, k1⟩ := Co hgb
       refine bodyPost_ret (v := .tuple #[.agg #[.int .i64 c.line, .int .i64 c.col], .bool rb]) (by simp [results, Tryz.results45, go_sem, k0, k1]) rfl ?_
       refine ⟨⟨_, _, _, rfl, ?_⟩, Ch.newOnly (HCW.out.trans KB.out) hgc (Eb (by omega))⟩
       rw [HRB.out]
       exact ⟨fun hw => ⟨HFS.out, HSS.out, fun q hq => by rw [HFB.out]; exact HALL.out q hq, fun h => (by rw [HFB.out] at h; cases h), fun _ => hw⟩, fun hr => hr.whole HFB.out⟩)
end Go.Proofs.YtgjpgfedlgdjhaaGreatDoor
end
