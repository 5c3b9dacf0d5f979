/- Part 13. -/
import Derived.Test.YtgjpgfedlgdjhaaGreatDoorYaj
set_option linter.unusedVariables false
set_option linter.unusedSimpArgs false
set_option maxHeartbeats 64000000
set_option maxRecDepth 8192
section
namespace Go.Proofs.YtgjpgfedlgdjhaaGreatDoor
open Go.RowKit Go.W
section
variable {w0 w : World} {g : Nat} {L : List Tk} {a b c d : Int}
theorem Ac3 {p : Prop} (h : p := by
 clear ha hb hfb
 go_wp2_with fail
 try rw [hwf]
 refine bodyPost_ret (v := .tuple #[.agg #[.int .i64 0, .string s.x, .string s.y, .string s.z, .string n5.1, .string s.f, .slice none 0 0, .int .i64 s.n, .slice none 0 0, .slice none 0 0, .int .i64 s.l, .int .i64 s.c], .int .i64 n5.2]) (by simp [results, Tryz.results157, go_sem, k0, k1, k2, k3, k4, k5, k6, k7, k8, k9, k10, k11]) rfl ?_
 exact HO.out
 ) : p := h
theorem Xk (h : Tx w0 w g L a b c d) (hL : Gq L) {z : Int} (hz0 : 0 ≤ z) (hz9 : z ≤ 30000) (s : St) (hs : Bb s.x s.y s.z s.t s.f) :
 Calls Tryz.prog 157 #[.pointer (some ⟨g, 0, none⟩), .agg #[.int .i64 s.k, .string s.x, .string s.y, .string s.z, .string s.t, .string s.f, .slice none 0 0, .int .i64 s.n, .slice none 0 0, .slice none 0 0, .int .i64 s.l, .int .i64 s.c], .int .i64 z] w (B8 w0 w g L a b c d z) := by
 obtain ⟨hsx, hsy, hsz, hst, hsf⟩ := hs
 obtain ⟨wa, hwa, hba, hca⟩ := A2 w (.cells #[.int .i64 s.k, .string s.x, .string s.y, .string s.z, .string s.t, .string s.f, .slice none 0 0, .int .i64 s.n, .slice none 0 0, .slice none 0 0, .int .i64 s.l, .int .i64 s.c] 128)
 obtain ⟨wb, hwb, hbb, hcb⟩ := A2 wa (.cells O2 128)
 unfold O2 at hwb hbb
 have HTb := Aa ((h.no hca).no hcb)
 have HAb := Aa (hcb.keep _ _ hba (fun h => h))
 have HBb := Aa hbb
 have HCb := Aa (Ce (S := Tb g) (hca.trans hcb))
 have HL := Aa hL
 have hLL := hL.1
 have hgl := h.lt
 have h0w := h.ch.size
 have hsw := hca.size
 have hlt := Ac hba
 have ne1 : w.heap.size ≠ g := by omega
 have HN2 : Hid (wa.heap.size ≠ g) := Aa (by omega)
 clear h hL hba hbb hca hcb hgl
 have htw := A6 HTb.out z
 obtain ⟨W, hW⟩ := Ax (Ar L z)
 rw [hW] at htw
 have HW := Aa hW
 clear hW
 have wz : IntKind.i64.wrap (z + 1) = z + 1 := by rw [IntKind.wrap_i64]; omega
 have kq : W ≠ ⟨#[]⟩ → z < L.length := fun h => (Be (L := L) (z := z) (by rw [HW.out]; exact h)).2
 go_in
 go_wp2_with fail
 clear hwa hwb
 refine htw.mono ?_
 rintro e wx ⟨rfl, rfl⟩
 clear htw
 by_cases h0 : W = ⟨#[110, 117, 108, 108]⟩
 {have e0 := lit _ [110, 117, 108, 108] h0
  have hlt := kq (by rw [h0]; decide)
  clear h0
  have p0 := Ab HAb.out 0
  have f0 := Ad HAb.out 0
  obtain ⟨w1, hw1, hb, hc⟩ := Ai HAb.out 0 (.int .i64 2)
  simp only [s4, s5, s6] at hb
  have HA1 := Aa hb
  have HT1 := Aa (HTb.out.new hc h0w (fun e => ne1 e.symm))
  have HB1 := Aa (hc.keep _ _ HBb.out (Bm (by omega)))
  have HC1 := Aa (Ao HCb.out hc (Nat.le_refl _))
  clear hb hc
  go_upto_region 4 with fail
  clear hw1 p0 f0
  have ha := HA1.out
  have hb := HB1.out
  obtain ⟨p0, p1, p2, p3, p4, p5, p6, p7, p8, p9, p10, p11⟩ := Ay ha
  obtain ⟨f0, f1, f2, f3, f4, f5, f6, f7, f8, f9, f10, f11⟩ := De hb
  obtain ⟨q0, q1, q2, q3, q4, q5, q6, q7, q8, q9, q10, q11⟩ := Ay hb
  obtain ⟨w2, hwf, hfb, hfc⟩ := Bj hb (.int .i64 2) (.string s.x) (.string s.y) (.string s.z) (.string s.t) (.string s.f) (.slice none 0 0) (.int .i64 s.n) (.slice none 0 0) (.slice none 0 0) (.int .i64 s.l) (.int .i64 s.c)
  obtain ⟨k0, k1, k2, k3, k4, k5, k6, k7, k8, k9, k10, k11⟩ := Ay hfb
  have HO := Aa (show B8 w0 w g L a b c d z (.returned (.tuple #[.agg #[.int .i64 2, .string s.x, .string s.y, .string s.z, .string s.t, .string s.f, .slice none 0 0, .int .i64 s.n, .slice none 0 0, .slice none 0 0, .int .i64 s.l, .int .i64 s.c], .int .i64 (z + 1)])) w2 from
   ⟨⟨2, s.x, s.y, s.z, s.t, s.f, s.n, s.l, s.c⟩, none, 0, [], z + 1, rfl, Aq.nil _ _, (Nat.zero_le _), (fun x hx => by cases hx), (show Bb s.x s.y s.z s.t s.f from ⟨by omega, by omega, by omega, by omega, by omega⟩), c, d, HT1.out.new hfc (by omega) (fun e => HN2.out e.symm), Ao HC1.out hfc (by omega), (by omega)⟩)
  clear ha hb hfb
  go_wp2_with fail
  try rw [hwf]
  refine bodyPost_ret (v := .tuple #[.agg #[.int .i64 2, .string s.x, .string s.y, .string s.z, .string s.t, .string s.f, .slice none 0 0, .int .i64 s.n, .slice none 0 0, .slice none 0 0, .int .i64 s.l, .int .i64 s.c], .int .i64 (z + 1)]) (by simp [results, Tryz.results157, go_sem, k0, k1, k2, k3, k4, k5, k6, k7, k8, k9, k10, k11]) rfl ?_
  exact HO.out}
 have e0 := Bf _ [110, 117, 108, 108] h0
 clear h0
 by_cases h1 : W = ⟨#[105, 110, 112, 117, 116]⟩
 {have e1 := lit _ [105, 110, 112, 117, 116] h1
  have hlt := kq (by rw [h1]; decide)
  clear h1
  have p0 := Ab HAb.out 0
  have f0 := Ad HAb.out 0
  obtain ⟨w3, hw3, hb, hc⟩ := Ai HAb.out 0 (.int .i64 17)
  simp only [s4, s5, s6] at hb
  have HA3 := Aa hb
  have HT3 := Aa (HTb.out.new hc h0w (fun e => ne1 e.symm))
  have HB3 := Aa (hc.keep _ _ HBb.out (Bm (by omega)))
  have HC3 := Aa (Ao HCb.out hc (Nat.le_refl _))
  clear hb hc
  go_upto_region 7 with fail
  clear hw3 p0 f0
  have ha := HA3.out
  have hb := HB3.out
  obtain ⟨p0, p1, p2, p3, p4, p5, p6, p7, p8, p9, p10, p11⟩ := Ay ha
  obtain ⟨f0, f1, f2, f3, f4, f5, f6, f7, f8, f9, f10, f11⟩ := De hb
  obtain ⟨q0, q1, q2, q3, q4, q5, q6, q7, q8, q9, q10, q11⟩ := Ay hb
  obtain ⟨w4, hwf, hfb, hfc⟩ := Bj hb (.int .i64 17) (.string s.x) (.string s.y) (.string s.z) (.string s.t) (.string s.f) (.slice none 0 0) (.int .i64 s.n) (.slice none 0 0) (.slice none 0 0) (.int .i64 s.l) (.int .i64 s.c)
  obtain ⟨k0, k1, k2, k3, k4, k5, k6, k7, k8, k9, k10, k11⟩ := Ay hfb
  have HO := Aa (show B8 w0 w g L a b c d z (.returned (.tuple #[.agg #[.int .i64 17, .string s.x, .string s.y, .string s.z, .string s.t, .string s.f, .slice none 0 0, .int .i64 s.n, .slice none 0 0, .slice none 0 0, .int .i64 s.l, .int .i64 s.c], .int .i64 (z + 1)])) w4 from
   ⟨⟨17, s.x, s.y, s.z, s.t, s.f, s.n, s.l, s.c⟩, none, 0, [], z + 1, rfl, Aq.nil _ _, (Nat.zero_le _), (fun x hx => by cases hx), (show Bb s.x s.y s.z s.t s.f from ⟨by omega, by omega, by omega, by omega, by omega⟩), c, d, HT3.out.new hfc (by omega) (fun e => HN2.out e.symm), Ao HC3.out hfc (by omega), (by omega)⟩)
  clear ha hb hfb
  go_wp2_with fail
  try rw [hwf]
  refine bodyPost_ret (v := .tuple #[.agg #[.int .i64 17, .string s.x, .string s.y, .string s.z, .string s.t, .string s.f, .slice none 0 0, .int .i64 s.n, .slice none 0 0, .slice none 0 0, .int .i64 s.l, .int .i64 s.c], .int .i64 (z + 1)]) (by simp [results, Tryz.results157, go_sem, k0, k1, k2, k3, k4, k5, k6, k7, k8, k9, k10, k11]) rfl ?_
  exact HO.out}
 have e1 := Bf _ [105, 110, 112, 117, 116] h1
 clear h1
 by_cases h2 : W = ⟨#[110, 101, 119]⟩
 {have e2 := lit _ [110, 101, 119] h2
  have hlt := kq (by rw [h2]; decide)
  clear h2
  have hk := Dz HTb.out HL.out (z := z + 1) (by omega)
  have hz5 := Bw HL.out (z + 1)
  obtain ⟨n5, hn⟩ : ∃ n, Gm L (z + 1) = n := ⟨_, rfl⟩
  rw [hn] at hk hz5
  clear hn
  go_wp2_with fail
  refine hk.mono ?_
  rintro e w5 ⟨rfl, c5, d5, hT5, hc, hq⟩
  have HA5 := Aa (hc.keep _ _ HAb.out (fun e => ne1 e))
  have HB5 := Aa (hc.keep _ _ HBb.out (fun e => HN2.out e))
  have HC5 := Aa (HCb.out.trans hc)
  have HT5 := Aa hT5
  have HQ5 := Aa (show n5.2 = -1 ∨ (0 ≤ z ∧ z < n5.2 ∧ n5.2 ≤ L.length ∧ c5 = c ∧ d5 = d) from by omega)
  have hb5 : -1 ≤ n5.2 ∧ n5.2 ≤ L.length := by have h1 := HQ5.out; omega
  clear hc hq hk hT5
  have p4 := Ab HA5.out 4
  have f4 := Ad HA5.out 4
  have p0 := Ab HA5.out 0
  have f0 := Ad HA5.out 0
  obtain ⟨w6, hw6, hb, hc⟩ := Eq HA5.out 4 (.string n5.1) 0 (.int .i64 0)
  have HA6 : Hid (w6.heap[w.heap.size]? = some (.cells #[.int .i64 0, .string s.x, .string s.y, .string s.z, .string n5.1, .string s.f, .slice none 0 0, .int .i64 s.n, .slice none 0 0, .slice none 0 0, .int .i64 s.l, .int .i64 s.c] 128 (0, 0))) := Aa hb
  have HT6 := Aa (HT5.out.new hc h0w (fun e => ne1 e.symm))
  have HB6 := Aa (hc.keep _ _ HB5.out (Bm (by omega)))
  have HC6 := Aa (Ao HC5.out hc (Nat.le_refl _))
  have HQ6 := Aa (show n5.2 = -1 ∨ (0 ≤ z ∧ z < n5.2 ∧ n5.2 ≤ L.length ∧ c5 = c ∧ d5 = d) from HQ5.out)
  clear hb hc
  go_upto_region 11 with fail
  clear hw6 p0 f0 p4 f4
  by_cases hq0 : 0 ≤ n5.2
  {have dq : decide (n5.2 ≥ 0) = true := decide_eq_true hq0
   have wz7 : IntKind.i64.wrap (n5.2 + 1) = n5.2 + 1 := by rw [IntKind.wrap_i64]; omega
   by_cases hb : Ar L n5.2 = ⟨#[91]⟩
   {have eb := lit _ [91] hb
    clear hb
    go_wp2_with fail
    refine (A6 HT6.out n5.2).mono ?_
    rintro e wx8 ⟨rfl, rfl⟩
    have p0 := Ab HA6.out 0
    have f0 := Ad HA6.out 0
    obtain ⟨w9, hw9, hb, hc⟩ := Ai HA6.out 0 (.int .i64 1)
    simp only [s4, s5, s6] at hb
    have HA9 := Aa hb
    have HT9 := Aa (HT6.out.new hc h0w (fun e => ne1 e.symm))
    have HB9 := Aa (hc.keep _ _ HB6.out (Bm (by omega)))
    have HC9 := Aa (Ao HC6.out hc (Nat.le_refl _))
    have HQ9 := Aa (show n5.2 = -1 ∨ (0 ≤ z ∧ z < n5.2 ∧ n5.2 ≤ L.length ∧ c5 = c ∧ d5 = d) from HQ6.out)
    clear hb hc
    have hk := Da HT9.out (z := n5.2 + 1) (by omega) (by omega) ⟨#[93]⟩ (by decide)
    obtain ⟨r10, hn⟩ : ∃ n, Gs L (n5.2 + 1) ⟨#[93]⟩ = n := ⟨_, rfl⟩
    rw [hn] at hk
    clear hn
    go_wp2_with fail
    refine hk.mono ?_
    rintro e w10 ⟨rfl, c10, d10, hT10, hc, hq⟩
    have HA10 := Aa (hc.keep _ _ HA9.out (fun e => ne1 e))
    have HB10 := Aa (hc.keep _ _ HB9.out (fun e => HN2.out e))
    have HC10 := Aa (HC9.out.trans hc)
    have HT10 := Aa hT10
    have HQ10 := Aa (show r10 = -1 ∨ (0 ≤ z ∧ z < r10 ∧ r10 ≤ L.length ∧ c10 = c ∧ d10 = d) from by have h1 := HQ9.out; omega)
    have hb10 : -1 ≤ r10 ∧ r10 ≤ L.length := by have h1 := HQ10.out; omega
    clear hc hq hk hT10
    clear hw9 p0 f0
    have ha := HA10.out
    have hb := HB10.out
    obtain ⟨p0, p1, p2, p3, p4, p5, p6, p7, p8, p9, p10, p11⟩ := Ay ha
    obtain ⟨f0, f1, f2, f3, f4, f5, f6, f7, f8, f9, f10, f11⟩ := De hb
    obtain ⟨q0, q1, q2, q3, q4, q5, q6, q7, q8, q9, q10, q11⟩ := Ay hb
    obtain ⟨w11, hwf, hfb, hfc⟩ := Bj hb (.int .i64 1) (.string s.x) (.string s.y) (.string s.z) (.string n5.1) (.string s.f) (.slice none 0 0) (.int .i64 s.n) (.slice none 0 0) (.slice none 0 0) (.int .i64 s.l) (.int .i64 s.c)
    obtain ⟨k0, k1, k2, k3, k4, k5, k6, k7, k8, k9, k10, k11⟩ := Ay hfb
    have HO := Aa (show B8 w0 w g L a b c d z (.returned (.tuple #[.agg #[.int .i64 1, .string s.x, .string s.y, .string s.z, .string n5.1, .string s.f, .slice none 0 0, .int .i64 s.n, .slice none 0 0, .slice none 0 0, .int .i64 s.l, .int .i64 s.c], .int .i64 r10])) w11 from
     ⟨⟨1, s.x, s.y, s.z, n5.1, s.f, s.n, s.l, s.c⟩, none, 0, [], r10, rfl, Aq.nil _ _, (Nat.zero_le _), (fun x hx => by cases hx), (show Bb s.x s.y s.z n5.1 s.f from ⟨by omega, by omega, by omega, by omega, by omega⟩), c10, d10, HT10.out.new hfc (by omega) (fun e => HN2.out e.symm), Ao HC10.out hfc (by omega), HQ10.out⟩)
    clear ha hb hfb
    go_wp2_with fail
    try rw [hwf]
    refine bodyPost_ret (v := .tuple #[.agg #[.int .i64 1, .string s.x, .string s.y, .string s.z, .string n5.1, .string s.f, .slice none 0 0, .int .i64 s.n, .slice none 0 0, .slice none 0 0, .int .i64 s.l, .int .i64 s.c], .int .i64 r10]) (by simp [results, Tryz.results157, go_sem, k0, k1, k2, k3, k4, k5, k6, k7, k8, k9, k10, k11]) rfl ?_
    exact HO.out}
   {have eb := Bf _ [91] hb
    clear hb
    go_wp2_with fail
    refine (A6 HT6.out n5.2).mono ?_
    rintro e wx12 ⟨rfl, rfl⟩
    have ha := HA6.out
    have hb := HB6.out
    obtain ⟨p0, p1, p2, p3, p4, p5, p6, p7, p8, p9, p10, p11⟩ := Ay ha
    obtain ⟨f0, f1, f2, f3, f4, f5, f6, f7, f8, f9, f10, f11⟩ := De hb
    obtain ⟨q0, q1, q2, q3, q4, q5, q6, q7, q8, q9, q10, q11⟩ := Ay hb
    obtain ⟨w13, hwf, hfb, hfc⟩ := Bj hb (.int .i64 0) (.string s.x) (.string s.y) (.string s.z) (.string n5.1) (.string s.f) (.slice none 0 0) (.int .i64 s.n) (.slice none 0 0) (.slice none 0 0) (.int .i64 s.l) (.int .i64 s.c)
    obtain ⟨k0, k1, k2, k3, k4, k5, k6, k7, k8, k9, k10, k11⟩ := Ay hfb
    have HO := Aa (show B8 w0 w g L a b c d z (.returned (.tuple #[.agg #[.int .i64 0, .string s.x, .string s.y, .string s.z, .string n5.1, .string s.f, .slice none 0 0, .int .i64 s.n, .slice none 0 0, .slice none 0 0, .int .i64 s.l, .int .i64 s.c], .int .i64 n5.2])) w13 from
     ⟨⟨0, s.x, s.y, s.z, n5.1, s.f, s.n, s.l, s.c⟩, none, 0, [], n5.2, rfl, Aq.nil _ _, (Nat.zero_le _), (fun x hx => by cases hx), (show Bb s.x s.y s.z n5.1 s.f from ⟨by omega, by omega, by omega, by omega, by omega⟩), c5, d5, HT6.out.new hfc (by omega) (fun e => HN2.out e.symm), Ao HC6.out hfc (by omega), HQ6.out⟩)
    exact Ac3}}
  {have dq : decide (n5.2 ≥ 0) = false := decide_eq_false hq0
   have ha := HA6.out
   have hb := HB6.out
   obtain ⟨p0, p1, p2, p3, p4, p5, p6, p7, p8, p9, p10, p11⟩ := Ay ha
   obtain ⟨f0, f1, f2, f3, f4, f5, f6, f7, f8, f9, f10, f11⟩ := De hb
   obtain ⟨q0, q1, q2, q3, q4, q5, q6, q7, q8, q9, q10, q11⟩ := Ay hb
   obtain ⟨w14, hwf, hfb, hfc⟩ := Bj hb (.int .i64 0) (.string s.x) (.string s.y) (.string s.z) (.string n5.1) (.string s.f) (.slice none 0 0) (.int .i64 s.n) (.slice none 0 0) (.slice none 0 0) (.int .i64 s.l) (.int .i64 s.c)
   obtain ⟨k0, k1, k2, k3, k4, k5, k6, k7, k8, k9, k10, k11⟩ := Ay hfb
   have HO := Aa (show B8 w0 w g L a b c d z (.returned (.tuple #[.agg #[.int .i64 0, .string s.x, .string s.y, .string s.z, .string n5.1, .string s.f, .slice none 0 0, .int .i64 s.n, .slice none 0 0, .slice none 0 0, .int .i64 s.l, .int .i64 s.c], .int .i64 n5.2])) w14 from
    ⟨⟨0, s.x, s.y, s.z, n5.1, s.f, s.n, s.l, s.c⟩, none, 0, [], n5.2, rfl, Aq.nil _ _, (Nat.zero_le _), (fun x hx => by cases hx), (show Bb s.x s.y s.z n5.1 s.f from ⟨by omega, by omega, by omega, by omega, by omega⟩), c5, d5, HT6.out.new hfc (by omega) (fun e => HN2.out e.symm), Ao HC6.out hfc (by omega), HQ6.out⟩)
   exact Ac3}}
 have e2 := Bf _ [110, 101, 119] h2
 clear h2
 by_cases h3 : W = ⟨#[40]⟩
 {have e3 := lit _ [40] h3
  have hlt := kq (by rw [h3]; decide)
  clear h3
  have p0 := Ab HAb.out 0
  have f0 := Ad HAb.out 0
  obtain ⟨w15, hw15, hb, hc⟩ := Ai HAb.out 0 (.int .i64 4)
  simp only [s4, s5, s6] at hb
  have HA15 := Aa hb
  have HT15 := Aa (HTb.out.new hc h0w (fun e => ne1 e.symm))
  have HB15 := Aa (hc.keep _ _ HBb.out (Bm (by omega)))
  have HC15 := Aa (Ao HCb.out hc (Nat.le_refl _))
  clear hb hc
  have hk := Qz HT15.out HL.out (z := z + 1) (by omega)
  have hz16 := Q2 HL.out (z + 1)
  obtain ⟨n16, hn⟩ : ∃ n, F5 L (z + 1) = n := ⟨_, rfl⟩
  rw [hn] at hk hz16
  clear hn
  go_wp2_with fail
  refine hk.mono ?_
  rintro e w16 ⟨rfl, c16, d16, hT16, hc, hq⟩
  have HA16 := Aa (hc.keep _ _ HA15.out (fun e => ne1 e))
  have HB16 := Aa (hc.keep _ _ HB15.out (fun e => HN2.out e))
  have HC16 := Aa (HC15.out.trans hc)
  have HT16 := Aa hT16
  have HQ16 := Aa (show n16.2 = -1 ∨ (0 ≤ z ∧ z < n16.2 ∧ n16.2 ≤ L.length ∧ c16 = c ∧ d16 = d) from by omega)
  have hb16 : -1 ≤ n16.2 ∧ n16.2 ≤ L.length := by have h1 := HQ16.out; omega
  clear hc hq hk hT16
  clear hw15 p0 f0
  have p4 := Ab HA16.out 4
  have f4 := Ad HA16.out 4
  obtain ⟨w17, hw17, hb, hc⟩ := Ai HA16.out 4 (.string n16.1)
  simp only [s4, s5, s6] at hb
  have HA17 := Aa hb
  have HT17 := Aa (HT16.out.new hc h0w (fun e => ne1 e.symm))
  have HB17 := Aa (hc.keep _ _ HB16.out (Bm (by omega)))
  have HC17 := Aa (Ao HC16.out hc (Nat.le_refl _))
  have HQ17 := Aa (show n16.2 = -1 ∨ (0 ≤ z ∧ z < n16.2 ∧ n16.2 ≤ L.length ∧ c16 = c ∧ d16 = d) from HQ16.out)
  clear hb hc
  have hk := Da HT17.out (z := n16.2) (by omega) (by omega) ⟨#[41]⟩ (by decide)
  obtain ⟨r18, hn⟩ : ∃ n, Gs L (n16.2) ⟨#[41]⟩ = n := ⟨_, rfl⟩
  rw [hn] at hk
  clear hn
  go_wp2_with fail
  refine hk.mono ?_
  rintro e w18 ⟨rfl, c18, d18, hT18, hc, hq⟩
  have HA18 := Aa (hc.keep _ _ HA17.out (fun e => ne1 e))
  have HB18 := Aa (hc.keep _ _ HB17.out (fun e => HN2.out e))
  have HC18 := Aa (HC17.out.trans hc)
  have HT18 := Aa hT18
  have HQ18 := Aa (show r18 = -1 ∨ (0 ≤ z ∧ z < r18 ∧ r18 ≤ L.length ∧ c18 = c ∧ d18 = d) from by have h1 := HQ17.out; omega)
  have hb18 : -1 ≤ r18 ∧ r18 ≤ L.length := by have h1 := HQ18.out; omega
  clear hc hq hk hT18
  clear hw17 p4 f4
  have hk := Dz HT18.out HL.out (z := r18) (by omega)
  have hz19 := Bw HL.out (r18)
  obtain ⟨n19, hn⟩ : ∃ n, Gm L (r18) = n := ⟨_, rfl⟩
  rw [hn] at hk hz19
  clear hn
  go_wp2_with fail
  refine hk.mono ?_
  rintro e w19 ⟨rfl, c19, d19, hT19, hc, hq⟩
  have HA19 := Aa (hc.keep _ _ HA18.out (fun e => ne1 e))
  have HB19 := Aa (hc.keep _ _ HB18.out (fun e => HN2.out e))
  have HC19 := Aa (HC18.out.trans hc)
  have HT19 := Aa hT19
  have HQ19 := Aa (show n19.2 = -1 ∨ (0 ≤ z ∧ z < n19.2 ∧ n19.2 ≤ L.length ∧ c19 = c ∧ d19 = d) from by have h1 := HQ18.out; omega)
  have hb19 : -1 ≤ n19.2 ∧ n19.2 ≤ L.length := by have h1 := HQ19.out; omega
  clear hc hq hk hT19
  have p2 := Ab HA19.out 2
  have f2 := Ad HA19.out 2
  obtain ⟨w20, hw20, hb, hc⟩ := Ai HA19.out 2 (.string n19.1)
  simp only [s4, s5, s6] at hb
  have HA20 := Aa hb
  have HT20 := Aa (HT19.out.new hc h0w (fun e => ne1 e.symm))
  have HB20 := Aa (hc.keep _ _ HB19.out (Bm (by omega)))
  have HC20 := Aa (Ao HC19.out hc (Nat.le_refl _))
  have HQ20 := Aa (show n19.2 = -1 ∨ (0 ≤ z ∧ z < n19.2 ∧ n19.2 ≤ L.length ∧ c19 = c ∧ d19 = d) from HQ19.out)
  clear hb hc
  go_upto_region 20 with fail
  clear hw20 p2 f2
  have ha := HA20.out
  have hb := HB20.out
  obtain ⟨p0, p1, p2, p3, p4, p5, p6, p7, p8, p9, p10, p11⟩ := Ay ha
  obtain ⟨f0, f1, f2, f3, f4, f5, f6, f7, f8, f9, f10, f11⟩ := De hb
  obtain ⟨q0, q1, q2, q3, q4, q5, q6, q7, q8, q9, q10, q11⟩ := Ay hb
  obtain ⟨w21, hwf, hfb, hfc⟩ := Bj hb (.int .i64 4) (.string s.x) (.string n19.1) (.string s.z) (.string n16.1) (.string s.f) (.slice none 0 0) (.int .i64 s.n) (.slice none 0 0) (.slice none 0 0) (.int .i64 s.l) (.int .i64 s.c)
  obtain ⟨k0, k1, k2, k3, k4, k5, k6, k7, k8, k9, k10, k11⟩ := Ay hfb
  have HO := Aa (show B8 w0 w g L a b c d z (.returned (.tuple #[.agg #[.int .i64 4, .string s.x, .string n19.1, .string s.z, .string n16.1, .string s.f, .slice none 0 0, .int .i64 s.n, .slice none 0 0, .slice none 0 0, .int .i64 s.l, .int .i64 s.c], .int .i64 n19.2])) w21 from
   ⟨⟨4, s.x, n19.1, s.z, n16.1, s.f, s.n, s.l, s.c⟩, none, 0, [], n19.2, rfl, Aq.nil _ _, (Nat.zero_le _), (fun x hx => by cases hx), (show Bb s.x n19.1 s.z n16.1 s.f from ⟨by omega, by omega, by omega, by omega, by omega⟩), c19, d19, HT20.out.new hfc (by omega) (fun e => HN2.out e.symm), Ao HC20.out hfc (by omega), HQ20.out⟩)
  clear ha hb hfb
  go_wp2_with fail
  try rw [hwf]
  refine bodyPost_ret (v := .tuple #[.agg #[.int .i64 4, .string s.x, .string n19.1, .string s.z, .string n16.1, .string s.f, .slice none 0 0, .int .i64 s.n, .slice none 0 0, .slice none 0 0, .int .i64 s.l, .int .i64 s.c], .int .i64 n19.2]) (by simp [results, Tryz.results157, go_sem, k0, k1, k2, k3, k4, k5, k6, k7, k8, k9, k10, k11]) rfl ?_
  exact HO.out}
 have e3 := Bf _ [40] h3
 clear h3
 have hT := HTb.out
 obtain ⟨⟨A0, c0, hgb, hrow⟩, _, hch⟩ := hT
 have g0 := Ab hgb 0
 have hrw := hrow.no hch
 have HRW := Aa hrw
 have hWs : W.size ≤ 20000 := by rw [← HW.out]; exact HL.out.word2 z
 clear hgb hrow hch hrw
 have dz1 : decide (z ≥ 0) = true := decide_eq_true hz0
 obtain ⟨len, Av⟩ : ∃ n, L.length = n := ⟨_, rfl⟩
 rw [Av] at g0 HRW
 have HLEN := Aa Av
 clear Av
 by_cases hzl : z < (len : Int)
 have dz2 : decide (z < (len : Int)) = true := decide_eq_true hzl
 obtain ⟨tk, htk⟩ : ∃ t, L[z.toNat]? = some t := ⟨_, List.getElem?_eq_getElem (by have := HLEN.out; omega)⟩
 obtain ⟨bb, off, rfl, q0, _, _, _⟩ := Pl HRW.out htk
 clear htk
 obtain ⟨kd, hkd⟩ := Ax ((tk.kind == 1))
 cases kd
 rotate_left
 {have hzL : z < L.length := by have := HLEN.out; omega
  have p0 := Ab HAb.out 0
  have f0 := Ad HAb.out 0
  obtain ⟨w22, hw22, hb, hc⟩ := Ai HAb.out 0 (.int .i64 14)
  simp only [s4, s5, s6] at hb
  have HA22 := Aa hb
  have HT22 := Aa (HTb.out.new hc h0w (fun e => ne1 e.symm))
  have HB22 := Aa (hc.keep _ _ HBb.out (Bm (by omega)))
  have HC22 := Aa (Ao HCb.out hc (Nat.le_refl _))
  clear hb hc
  have htw := A6 HT22.out z
  rw [HW.out] at htw
  go_wp2_with fail
  refine htw.mono ?_
  rintro e wx ⟨rfl, rfl⟩
  clear hw22 p0 f0
  clear htw g0 q0
  go_wp2
  go_loopg [9] W.size (fun gg s9 wr => ∃ (i : Nat) (m : Int), i ≤ W.size ∧ W.size - i ≤ gg ∧ s9 = .int .i64 i ∧ Hid (wr.heap[w.heap.size]? = some (.cells #[.int .i64 14, .string s.x, .string s.y, .string s.z, .string s.t, .string s.f, .slice none 0 0, .int .i64 m, .slice none 0 0, .slice none 0 0, .int .i64 s.l, .int .i64 s.c] 128 (0, 0))) ∧ Hid (wr.heap[wa.heap.size]? = some (.cells #[.int .i64 0, .string ⟨#[]⟩, .string ⟨#[]⟩, .string ⟨#[]⟩, .string ⟨#[]⟩, .string ⟨#[]⟩, .slice none 0 0, .int .i64 0, .slice none 0 0, .slice none 0 0, .int .i64 0, .int .i64 0] 128 (0, 0))) ∧ Hid (Ch (Tb g) w wr) ∧ Hid (Tx w0 wr g L a b c d))
  case atStart => exact ⟨0, s.n, Nat.zero_le _, by omega, rfl, HA22, HB22, HC22, HT22⟩
  case round =>
   obtain ⟨i, m, hi, hgg, rfl, HAr, HBr, HCr, HTr⟩ := hrel
   have ha := HAr.out
   cases hd : decide (i < W.size) with
   | true =>
    have hks : i < W.size := by have := of_decide_eq_true hd; omega
    have p7 := Ab ha 7
    have f7 := Ad ha 7
    clear ha
    go_wp2_with fail
    have hcs : ∀ v, Ch (Tb w.heap.size) wr (wr.setCell (⟨w.heap.size, 7, none⟩ : Addr) v).drew := fun v => Ch.drew (Ch.setCell (Ch.refl (Tb w.heap.size) wr) (p := (⟨w.heap.size, 7, none⟩ : Addr)) (fun _ _ => rfl) v)
    have HCS := Aa hcs
    clear hcs
    go_region
    go_wp2
    go_roundg (W.size - i - 1)
    case rel => exact ⟨i + 1, _, by omega, by omega, by go_num, Aa (Af HAr.out 7 _), Aa ((HCS.out _).keep _ _ HBr.out (Bm (by omega))), Aa (Ao HCr.out (HCS.out _) (Nat.le_refl _)), Aa (HTr.out.new (HCS.out _) h0w (fun e => ne1 e.symm))⟩
    case measure => omega
   | false =>
    clear ha
    have ha := HAr.out
    have hb := HBr.out
    obtain ⟨p0, p1, p2, p3, p4, p5, p6, p7, p8, p9, p10, p11⟩ := Ay ha
    obtain ⟨f0, f1, f2, f3, f4, f5, f6, f7, f8, f9, f10, f11⟩ := De hb
    obtain ⟨q0, q1, q2, q3, q4, q5, q6, q7, q8, q9, q10, q11⟩ := Ay hb
    obtain ⟨w23, hwf, hfb, hfc⟩ := Bj hb (.int .i64 14) (.string s.x) (.string s.y) (.string s.z) (.string s.t) (.string s.f) (.slice none 0 0) (.int .i64 m) (.slice none 0 0) (.slice none 0 0) (.int .i64 s.l) (.int .i64 s.c)
    obtain ⟨k0, k1, k2, k3, k4, k5, k6, k7, k8, k9, k10, k11⟩ := Ay hfb
    have HO := Aa (show B8 w0 w g L a b c d z (.returned (.tuple #[.agg #[.int .i64 14, .string s.x, .string s.y, .string s.z, .string s.t, .string s.f, .slice none 0 0, .int .i64 m, .slice none 0 0, .slice none 0 0, .int .i64 s.l, .int .i64 s.c], .int .i64 (z + 1)])) w23 from
     ⟨⟨14, s.x, s.y, s.z, s.t, s.f, m, s.l, s.c⟩, none, 0, [], z + 1, rfl, Aq.nil _ _, (Nat.zero_le _), (fun x hx => by cases hx), (show Bb s.x s.y s.z s.t s.f from ⟨by omega, by omega, by omega, by omega, by omega⟩), c, d, HTr.out.new hfc (by omega) (fun e => HN2.out e.symm), Ao HCr.out hfc (by omega), (by omega)⟩)
    clear ha hb hfb
    go_wp2_with fail
    try rw [hwf]
    refine bodyPost_ret (v := .tuple #[.agg #[.int .i64 14, .string s.x, .string s.y, .string s.z, .string s.t, .string s.f, .slice none 0 0, .int .i64 m, .slice none 0 0, .slice none 0 0, .int .i64 s.l, .int .i64 s.c], .int .i64 (z + 1)]) (by simp [results, Tryz.results157, go_sem, k0, k1, k2, k3, k4, k5, k6, k7, k8, k9, k10, k11]) rfl ?_
    exact HO.out}
 have dz2 : decide (z < (len : Int)) = false := decide_eq_false hzl
 have Hdz := Aa trivial
 all_goals (
  have hk := Dz HTb.out HL.out (z := z) (by omega)
  have hz24 := Bw HL.out (z)
  obtain ⟨n24, hn⟩ : ∃ n, Gm L (z) = n := ⟨_, rfl⟩
  rw [hn] at hk hz24
  clear hn
  go_wp2_with fail
  refine hk.mono ?_
  rintro e w24 ⟨rfl, c24, d24, hT24, hc, hq⟩
  have HA24 := Aa (hc.keep _ _ HAb.out (fun e => ne1 e))
  have HB24 := Aa (hc.keep _ _ HBb.out (fun e => HN2.out e))
  have HC24 := Aa (HCb.out.trans hc)
  have HT24 := Aa hT24
  have HQ24 := Aa (show n24.2 = -1 ∨ (0 ≤ z ∧ z < n24.2 ∧ n24.2 ≤ L.length ∧ c24 = c ∧ d24 = d) from by omega)
  have hb24 : -1 ≤ n24.2 ∧ n24.2 ≤ L.length := by have h1 := HQ24.out; omega
  clear hc hq hk hT24
  by_cases hq0 : n24.2 < 0
  {have dq : decide (n24.2 < 0) = true := decide_eq_true hq0
   have ha := HA24.out
   have hb := HB24.out
   obtain ⟨p0, p1, p2, p3, p4, p5, p6, p7, p8, p9, p10, p11⟩ := Ay ha
   obtain ⟨f0, f1, f2, f3, f4, f5, f6, f7, f8, f9, f10, f11⟩ := De hb
   obtain ⟨q0, q1, q2, q3, q4, q5, q6, q7, q8, q9, q10, q11⟩ := Ay hb
   obtain ⟨w25, hwf, hfb, hfc⟩ := Bj hb (.int .i64 s.k) (.string s.x) (.string s.y) (.string s.z) (.string s.t) (.string s.f) (.slice none 0 0) (.int .i64 s.n) (.slice none 0 0) (.slice none 0 0) (.int .i64 s.l) (.int .i64 s.c)
   obtain ⟨k0, k1, k2, k3, k4, k5, k6, k7, k8, k9, k10, k11⟩ := Ay hfb
   have HO := Aa (show B8 w0 w g L a b c d z (.returned (.tuple #[.agg #[.int .i64 s.k, .string s.x, .string s.y, .string s.z, .string s.t, .string s.f, .slice none 0 0, .int .i64 s.n, .slice none 0 0, .slice none 0 0, .int .i64 s.l, .int .i64 s.c], .int .i64 n24.2])) w25 from
    ⟨⟨s.k, s.x, s.y, s.z, s.t, s.f, s.n, s.l, s.c⟩, none, 0, [], n24.2, rfl, Aq.nil _ _, (Nat.zero_le _), (fun x hx => by cases hx), (show Bb s.x s.y s.z s.t s.f from ⟨by omega, by omega, by omega, by omega, by omega⟩), c24, d24, HT24.out.new hfc (by omega) (fun e => HN2.out e.symm), Ao HC24.out hfc (by omega), HQ24.out⟩)
   clear ha hb hfb
   go_wp2_with fail
   try rw [hwf]
   refine bodyPost_ret (v := .tuple #[.agg #[.int .i64 s.k, .string s.x, .string s.y, .string s.z, .string s.t, .string s.f, .slice none 0 0, .int .i64 s.n, .slice none 0 0, .slice none 0 0, .int .i64 s.l, .int .i64 s.c], .int .i64 n24.2]) (by simp [results, Tryz.results157, go_sem, k0, k1, k2, k3, k4, k5, k6, k7, k8, k9, k10, k11]) rfl ?_
   exact HO.out}
  {have dq : decide (n24.2 < 0) = false := decide_eq_false hq0
   have wz26 : IntKind.i64.wrap (n24.2 + 1) = n24.2 + 1 := by rw [IntKind.wrap_i64]; omega
   have htw := A6 HT24.out n24.2
   obtain ⟨V, hV⟩ : ∃ W, Ar L n24.2 = W := ⟨_, rfl⟩
   rw [hV] at htw
   have HV := Aa hV
   clear hV
   go_wp2_with fail
   refine htw.mono ?_
   rintro e wx ⟨rfl, rfl⟩
   by_cases v0 : V = ⟨#[46]⟩
   {have ev0 := lit _ [46] v0
    clear v0
    have hk := Mj HT24.out HL.out (z := n24.2) (by omega) (by omega) s ⟨hsx, hsy, hsz, hst, hsf⟩ n24.1 (by omega) false
    obtain ⟨p0, p1, p2, p3, p4, p5, p6, p7, p8, p9, p10, p11⟩ := Ay HA24.out
    go_wp2_with fail
    refine hk.mono ?_
    rintro e w27 ⟨s2, ga27, gc27, gs27, r27, rfl, ho27, hl27, hs27, hz27, c27, d27, hT27, hc, hq⟩
    clear p0 p1 p2 p3 p4 p5 p6 p7 p8 p9 p10 p11
    have HA27 := Aa (hc.keep _ _ HA24.out (fun e => ne1 e))
    have HB27 := Aa (hc.keep _ _ HB24.out (fun e => HN2.out e))
    have HC27 := Aa (HC24.out.trans hc)
    have HT27 := Aa hT27
    have HQ27 := Aa (show r27 = -1 ∨ (0 ≤ z ∧ z < r27 ∧ r27 ≤ L.length ∧ c27 = c ∧ d27 = d) from by have h1 := HQ24.out; omega)
    have hb27 : -1 ≤ r27 ∧ r27 ≤ L.length := by have h1 := HQ27.out; omega
    have HG27 := Aa (Cg ho27 (HC24.out.size))
    have HS27 := Aa hs27
    obtain ⟨y1, y2, y3, y4, y5⟩ := hz27
    clear ho27 hs27 hc hq hk hT27
    have ha := HA27.out
    have hb := HB27.out
    obtain ⟨p0, p1, p2, p3, p4, p5, p6, p7, p8, p9, p10, p11⟩ := Ay ha
    obtain ⟨f0, f1, f2, f3, f4, f5, f6, f7, f8, f9, f10, f11⟩ := De hb
    obtain ⟨q0, q1, q2, q3, q4, q5, q6, q7, q8, q9, q10, q11⟩ := Ay hb
    obtain ⟨w28, hwf, hfb, hfc⟩ := Bj hb (.int .i64 s2.k) (.string s2.x) (.string s2.y) (.string s2.z) (.string s2.t) (.string s2.f) (.slice ga27 gs27.length gc27) (.int .i64 s2.n) (.slice none 0 0) (.slice none 0 0) (.int .i64 s2.l) (.int .i64 s2.c)
    obtain ⟨k0, k1, k2, k3, k4, k5, k6, k7, k8, k9, k10, k11⟩ := Ay hfb
    have HO := Aa (show B8 w0 w g L a b c d z (.returned (.tuple #[.agg #[.int .i64 s2.k, .string s2.x, .string s2.y, .string s2.z, .string s2.t, .string s2.f, .slice ga27 gs27.length gc27, .int .i64 s2.n, .slice none 0 0, .slice none 0 0, .int .i64 s2.l, .int .i64 s2.c], .int .i64 r27])) w28 from
     ⟨⟨s2.k, s2.x, s2.y, s2.z, s2.t, s2.f, s2.n, s2.l, s2.c⟩, ga27, gc27, gs27, r27, rfl, Bd (HG27.out) hfc HB27.out (by decide : (128 : TypeId) ≠ 9), hl27, HS27.out, (show Bb s2.x s2.y s2.z s2.t s2.f from ⟨by omega, by omega, by omega, by omega, by omega⟩), c27, d27, HT27.out.new hfc (by omega) (fun e => HN2.out e.symm), Ao HC27.out hfc (by omega), HQ27.out⟩)
    clear ha hb hfb
    go_wp2_with fail
    try rw [hwf]
    refine bodyPost_ret (v := .tuple #[.agg #[.int .i64 s2.k, .string s2.x, .string s2.y, .string s2.z, .string s2.t, .string s2.f, .slice ga27 gs27.length gc27, .int .i64 s2.n, .slice none 0 0, .slice none 0 0, .int .i64 s2.l, .int .i64 s2.c], .int .i64 r27]) (by simp [results, Tryz.results157, go_sem, k0, k1, k2, k3, k4, k5, k6, k7, k8, k9, k10, k11]) rfl ?_
    exact HO.out}
   have ev0 := Bf _ [46] v0
   clear v0
   by_cases v1 : V = ⟨#[58, 58]⟩
   {have ev1 := lit _ [58, 58] v1
    clear v1
    have hk := Mj HT24.out HL.out (z := n24.2) (by omega) (by omega) s ⟨hsx, hsy, hsz, hst, hsf⟩ n24.1 (by omega) false
    obtain ⟨p0, p1, p2, p3, p4, p5, p6, p7, p8, p9, p10, p11⟩ := Ay HA24.out
    go_wp2_with fail
    refine hk.mono ?_
    rintro e w29 ⟨s2, ga29, gc29, gs29, r29, rfl, ho29, hl29, hs29, hz29, c29, d29, hT29, hc, hq⟩
    clear p0 p1 p2 p3 p4 p5 p6 p7 p8 p9 p10 p11
    have HA29 := Aa (hc.keep _ _ HA24.out (fun e => ne1 e))
    have HB29 := Aa (hc.keep _ _ HB24.out (fun e => HN2.out e))
    have HC29 := Aa (HC24.out.trans hc)
    have HT29 := Aa hT29
    have HQ29 := Aa (show r29 = -1 ∨ (0 ≤ z ∧ z < r29 ∧ r29 ≤ L.length ∧ c29 = c ∧ d29 = d) from by have h1 := HQ24.out; omega)
    have hb29 : -1 ≤ r29 ∧ r29 ≤ L.length := by have h1 := HQ29.out; omega
    have HG29 := Aa (Cg ho29 (HC24.out.size))
    have HS29 := Aa hs29
    obtain ⟨y1, y2, y3, y4, y5⟩ := hz29
    clear ho29 hs29 hc hq hk hT29
    have ha := HA29.out
    have hb := HB29.out
    obtain ⟨p0, p1, p2, p3, p4, p5, p6, p7, p8, p9, p10, p11⟩ := Ay ha
    obtain ⟨f0, f1, f2, f3, f4, f5, f6, f7, f8, f9, f10, f11⟩ := De hb
    obtain ⟨q0, q1, q2, q3, q4, q5, q6, q7, q8, q9, q10, q11⟩ := Ay hb
    obtain ⟨w30, hwf, hfb, hfc⟩ := Bj hb (.int .i64 s2.k) (.string s2.x) (.string s2.y) (.string s2.z) (.string s2.t) (.string s2.f) (.slice ga29 gs29.length gc29) (.int .i64 s2.n) (.slice none 0 0) (.slice none 0 0) (.int .i64 s2.l) (.int .i64 s2.c)
    obtain ⟨k0, k1, k2, k3, k4, k5, k6, k7, k8, k9, k10, k11⟩ := Ay hfb
    have HO := Aa (show B8 w0 w g L a b c d z (.returned (.tuple #[.agg #[.int .i64 s2.k, .string s2.x, .string s2.y, .string s2.z, .string s2.t, .string s2.f, .slice ga29 gs29.length gc29, .int .i64 s2.n, .slice none 0 0, .slice none 0 0, .int .i64 s2.l, .int .i64 s2.c], .int .i64 r29])) w30 from
     ⟨⟨s2.k, s2.x, s2.y, s2.z, s2.t, s2.f, s2.n, s2.l, s2.c⟩, ga29, gc29, gs29, r29, rfl, Bd (HG29.out) hfc HB29.out (by decide : (128 : TypeId) ≠ 9), hl29, HS29.out, (show Bb s2.x s2.y s2.z s2.t s2.f from ⟨by omega, by omega, by omega, by omega, by omega⟩), c29, d29, HT29.out.new hfc (by omega) (fun e => HN2.out e.symm), Ao HC29.out hfc (by omega), HQ29.out⟩)
    clear ha hb hfb
    go_wp2_with fail
    try rw [hwf]
    refine bodyPost_ret (v := .tuple #[.agg #[.int .i64 s2.k, .string s2.x, .string s2.y, .string s2.z, .string s2.t, .string s2.f, .slice ga29 gs29.length gc29, .int .i64 s2.n, .slice none 0 0, .slice none 0 0, .int .i64 s2.l, .int .i64 s2.c], .int .i64 r29]) (by simp [results, Tryz.results157, go_sem, k0, k1, k2, k3, k4, k5, k6, k7, k8, k9, k10, k11]) rfl ?_
    exact HO.out}
   have ev1 := Bf _ [58, 58] v1
   clear v1
   by_cases v2 : V = ⟨#[91]⟩
   {have ev2 := lit _ [91] v2
    clear v2
    have p0 := Ab HA24.out 0
    have f0 := Ad HA24.out 0
    have p2 := Ab HA24.out 2
    have f2 := Ad HA24.out 2
    obtain ⟨w31, hw31, hb, hc⟩ := Eq HA24.out 0 (.int .i64 9) 2 (.string n24.1)
    have HA31 : Hid (w31.heap[w.heap.size]? = some (.cells #[.int .i64 9, .string s.x, .string n24.1, .string s.z, .string s.t, .string s.f, .slice none 0 0, .int .i64 s.n, .slice none 0 0, .slice none 0 0, .int .i64 s.l, .int .i64 s.c] 128 (0, 0))) := Aa hb
    have HT31 := Aa (HT24.out.new hc h0w (fun e => ne1 e.symm))
    have HB31 := Aa (hc.keep _ _ HB24.out (Bm (by omega)))
    have HC31 := Aa (Ao HC24.out hc (Nat.le_refl _))
    have HQ31 := Aa (show n24.2 = -1 ∨ (0 ≤ z ∧ z < n24.2 ∧ n24.2 ≤ L.length ∧ c24 = c ∧ d24 = d) from HQ24.out)
    clear hb hc
    have hk := Dz HT31.out HL.out (z := n24.2 + 1) (by omega)
    have hz32 := Bw HL.out (n24.2 + 1)
    obtain ⟨n32, hn⟩ : ∃ n, Gm L (n24.2 + 1) = n := ⟨_, rfl⟩
    rw [hn] at hk hz32
    clear hn
    go_wp2_with fail
    refine hk.mono ?_
    rintro e w32 ⟨rfl, c32, d32, hT32, hc, hq⟩
    have HA32 := Aa (hc.keep _ _ HA31.out (fun e => ne1 e))
    have HB32 := Aa (hc.keep _ _ HB31.out (fun e => HN2.out e))
    have HC32 := Aa (HC31.out.trans hc)
    have HT32 := Aa hT32
    have HQ32 := Aa (show n32.2 = -1 ∨ (0 ≤ z ∧ z < n32.2 ∧ n32.2 ≤ L.length ∧ c32 = c ∧ d32 = d) from by have h1 := HQ31.out; omega)
    have hb32 : -1 ≤ n32.2 ∧ n32.2 ≤ L.length := by have h1 := HQ32.out; omega
    clear hc hq hk hT32
    clear hw31 p0 f0 p2 f2
    have p3 := Ab HA32.out 3
    have f3 := Ad HA32.out 3
    obtain ⟨w33, hw33, hb, hc⟩ := Ai HA32.out 3 (.string n32.1)
    simp only [s4, s5, s6] at hb
    have HA33 := Aa hb
    have HT33 := Aa (HT32.out.new hc h0w (fun e => ne1 e.symm))
    have HB33 := Aa (hc.keep _ _ HB32.out (Bm (by omega)))
    have HC33 := Aa (Ao HC32.out hc (Nat.le_refl _))
    have HQ33 := Aa (show n32.2 = -1 ∨ (0 ≤ z ∧ z < n32.2 ∧ n32.2 ≤ L.length ∧ c32 = c ∧ d32 = d) from HQ32.out)
    clear hb hc
    go_upto_region 40 with fail
    clear hw33 p3 f3
    have hk := Da (HT33.out.no ((Ch.refl No w33).drew)) (z := n32.2) (by omega) (by omega) ⟨#[93]⟩ (by decide)
    obtain ⟨r34, hn⟩ : ∃ n, Gs L (n32.2) ⟨#[93]⟩ = n := ⟨_, rfl⟩
    rw [hn] at hk
    clear hn
    have ha := HA33.out
    have HSa : Hid (w33.cell? ⟨w.heap.size, 0, none⟩ = some (.int .i64 9) ∧ w33.cell? ⟨w.heap.size, 1, none⟩ = some (.string s.x) ∧ w33.cell? ⟨w.heap.size, 2, none⟩ = some (.string n24.1) ∧ w33.cell? ⟨w.heap.size, 3, none⟩ = some (.string n32.1) ∧ w33.cell? ⟨w.heap.size, 4, none⟩ = some (.string s.t) ∧ w33.cell? ⟨w.heap.size, 5, none⟩ = some (.string s.f) ∧ w33.cell? ⟨w.heap.size, 6, none⟩ = some (.slice none 0 0) ∧ w33.cell? ⟨w.heap.size, 7, none⟩ = some (.int .i64 s.n) ∧ w33.cell? ⟨w.heap.size, 8, none⟩ = some (.slice none 0 0) ∧ w33.cell? ⟨w.heap.size, 9, none⟩ = some (.slice none 0 0) ∧ w33.cell? ⟨w.heap.size, 10, none⟩ = some (.int .i64 s.l) ∧ w33.cell? ⟨w.heap.size, 11, none⟩ = some (.int .i64 s.c)) := Aa ⟨Ab ha 0, Ab ha 1, Ab ha 2, Ab ha 3, Ab ha 4, Ab ha 5, Ab ha 6, Ab ha 7, Ab ha 8, Ab ha 9, Ab ha 10, Ab ha 11⟩
    have HSd := Aa (O5 HSa.out)
    clear ha
    go_region_held3 (fun w' => w'.cell? ⟨w.heap.size, 0, none⟩ = some (.int .i64 9) ∧ w'.cell? ⟨w.heap.size, 1, none⟩ = some (.string s.x) ∧ w'.cell? ⟨w.heap.size, 2, none⟩ = some (.string n24.1) ∧ w'.cell? ⟨w.heap.size, 3, none⟩ = some (.string n32.1) ∧ w'.cell? ⟨w.heap.size, 4, none⟩ = some (.string s.t) ∧ w'.cell? ⟨w.heap.size, 5, none⟩ = some (.string s.f) ∧ w'.cell? ⟨w.heap.size, 6, none⟩ = some (.slice none 0 0) ∧ w'.cell? ⟨w.heap.size, 7, none⟩ = some (.int .i64 s.n) ∧ w'.cell? ⟨w.heap.size, 8, none⟩ = some (.slice none 0 0) ∧ w'.cell? ⟨w.heap.size, 9, none⟩ = some (.slice none 0 0) ∧ w'.cell? ⟨w.heap.size, 10, none⟩ = some (.int .i64 s.l) ∧ w'.cell? ⟨w.heap.size, 11, none⟩ = some (.int .i64 s.c)) (first | with_reducible exact HSa.out | with_reducible exact HSd.out | with_reducible exact HSb.out | with_reducible exact HSc.out | go_keep) (first | (go_at_call 29; refine hk.mono ?_; rintro e w34 ⟨rfl, c34, d34, hT34, hc7, hq⟩; have ha7 := hc7.keep _ _ HA33.out (fun e => ne1 e); have HSb := Aa (cZ ha7); have HC34 := Aa ((HC33.out.drew).trans hc7); have HT34 := Aa hT34; have HQ34 := Aa (show r34 = -1 ∨ (0 ≤ z ∧ z < r34 ∧ r34 ≤ L.length ∧ c34 = c ∧ d34 = d) from by have h1 := HQ33.out; omega); have HB34 := Aa (hc7.keep _ _ HB33.out (fun e => HN2.out e)); have hb7 := HB34.out; have q0 := Ab hb7 0; have f0 := Ad hb7 0; have q1 := Ab hb7 1; have f1 := Ad hb7 1; have q2 := Ab hb7 2; have f2 := Ad hb7 2; have q3 := Ab hb7 3; have f3 := Ad hb7 3; have q4 := Ab hb7 4; have f4 := Ad hb7 4; have q5 := Ab hb7 5; have f5 := Ad hb7 5; have q6 := Ab hb7 6; have f6 := Ad hb7 6; have q7 := Ab hb7 7; have f7 := Ad hb7 7; have q8 := Ab hb7 8; have f8 := Ad hb7 8; have q9 := Ab hb7 9; have f9 := Ad hb7 9; have q10 := Ab hb7 10; have f10 := Ad hb7 10; have q11 := Ab hb7 11; have f11 := Ad hb7 11; obtain ⟨w35, hw8, hb8, hfc⟩ := Bj HB34.out (.int .i64 9) (.string s.x) (.string n24.1) (.string n32.1) (.string s.t) (.string s.f) (.slice none 0 0) (.int .i64 s.n) (.slice none 0 0) (.slice none 0 0) (.int .i64 s.l) (.int .i64 s.c); have ha8 := hfc.keep _ _ ha7 (Bm (by omega)); have HSc := Aa (cZ ha8); have HFB := Aa hb8; have HFC := Aa hfc; clear hT34 hc7 ha7 hb7 hb8 hfc ha8 hq))
    all_goals (
     go_wp2_with fail
     have hfb := HFB.out
     have hfc := HFC.out
     try rw [hw8]
     obtain ⟨k0, k1, k2, k3, k4, k5, k6, k7, k8, k9, k10, k11⟩ := Ay hfb
     have HO := Aa (show B8 w0 w g L a b c d z (.returned (.tuple #[.agg #[.int .i64 9, .string s.x, .string n24.1, .string n32.1, .string s.t, .string s.f, .slice none 0 0, .int .i64 s.n, .slice none 0 0, .slice none 0 0, .int .i64 s.l, .int .i64 s.c], .int .i64 r34])) w35 from
      ⟨⟨9, s.x, n24.1, n32.1, s.t, s.f, s.n, s.l, s.c⟩, none, 0, [], r34, rfl, Aq.nil _ _, (Nat.zero_le _), (fun x hx => by cases hx), (show Bb s.x n24.1 n32.1 s.t s.f from ⟨by omega, by omega, by omega, by omega, by omega⟩), c34, d34, HT34.out.new hfc (by omega) (fun e => HN2.out e.symm), Ao HC34.out hfc (by omega), HQ34.out⟩)
     refine bodyPost_ret (v := .tuple #[.agg #[.int .i64 9, .string s.x, .string n24.1, .string n32.1, .string s.t, .string s.f, .slice none 0 0, .int .i64 s.n, .slice none 0 0, .slice none 0 0, .int .i64 s.l, .int .i64 s.c], .int .i64 r34]) (by simp [results, Tryz.results157, go_sem, k0, k1, k2, k3, k4, k5, k6, k7, k8, k9, k10, k11]) rfl ?_
     exact HO.out)}
   have ev2 := Bf _ [91] v2
   clear v2
   by_cases v3 : V = ⟨#[43]⟩
   {have ev3 := lit _ [43] v3
    have ev9 := Bf V [45] (by rw [v3]; decide)
    clear v3
    have p0 := Ab HA24.out 0
    have f0 := Ad HA24.out 0
    obtain ⟨w36, hw36, hb, hc⟩ := Ai HA24.out 0 (.int .i64 15)
    simp only [s4, s5, s6] at hb
    have HA36 := Aa hb
    have HT36 := Aa (HT24.out.new hc h0w (fun e => ne1 e.symm))
    have HB36 := Aa (hc.keep _ _ HB24.out (Bm (by omega)))
    have HC36 := Aa (Ao HC24.out hc (Nat.le_refl _))
    have HQ36 := Aa (show n24.2 = -1 ∨ (0 ≤ z ∧ z < n24.2 ∧ n24.2 ≤ L.length ∧ c24 = c ∧ d24 = d) from HQ24.out)
    clear hb hc
    go_upto_region 44 with fail
    clear hw36 p0 f0
    have htw := A6 HT36.out n24.2
    rw [HV.out] at htw
    go_wp2_with fail
    refine htw.mono ?_
    rintro e wx ⟨rfl, rfl⟩
    have p2 := Ab HA36.out 2
    have f2 := Ad HA36.out 2
    obtain ⟨w37, hw37, hb, hc⟩ := Ai HA36.out 2 (.string n24.1)
    simp only [s4, s5, s6] at hb
    have HA37 := Aa hb
    have HT37 := Aa (HT36.out.new hc h0w (fun e => ne1 e.symm))
    have HB37 := Aa (hc.keep _ _ HB36.out (Bm (by omega)))
    have HC37 := Aa (Ao HC36.out hc (Nat.le_refl _))
    have HQ37 := Aa (show n24.2 = -1 ∨ (0 ≤ z ∧ z < n24.2 ∧ n24.2 ≤ L.length ∧ c24 = c ∧ d24 = d) from HQ36.out)
    clear hb hc
    have hk := Dz HT37.out HL.out (z := n24.2 + 1) (by omega)
    have hz38 := Bw HL.out (n24.2 + 1)
    obtain ⟨n38, hn⟩ : ∃ n, Gm L (n24.2 + 1) = n := ⟨_, rfl⟩
    rw [hn] at hk hz38
    clear hn
    go_wp2_with fail
    refine hk.mono ?_
    rintro e w38 ⟨rfl, c38, d38, hT38, hc, hq⟩
    have HA38 := Aa (hc.keep _ _ HA37.out (fun e => ne1 e))
    have HB38 := Aa (hc.keep _ _ HB37.out (fun e => HN2.out e))
    have HC38 := Aa (HC37.out.trans hc)
    have HT38 := Aa hT38
    have HQ38 := Aa (show n38.2 = -1 ∨ (0 ≤ z ∧ z < n38.2 ∧ n38.2 ≤ L.length ∧ c38 = c ∧ d38 = d) from by have h1 := HQ37.out; omega)
    have hb38 : -1 ≤ n38.2 ∧ n38.2 ≤ L.length := by have h1 := HQ38.out; omega
    clear hc hq hk hT38
    clear hw37 p2 f2
    have p3 := Ab HA38.out 3
    have f3 := Ad HA38.out 3
    obtain ⟨w39, hw39, hb, hc⟩ := Ai HA38.out 3 (.string n38.1)
    simp only [s4, s5, s6] at hb
    have HA39 := Aa hb
    have HT39 := Aa (HT38.out.new hc h0w (fun e => ne1 e.symm))
    have HB39 := Aa (hc.keep _ _ HB38.out (Bm (by omega)))
    have HC39 := Aa (Ao HC38.out hc (Nat.le_refl _))
    have HQ39 := Aa (show n38.2 = -1 ∨ (0 ≤ z ∧ z < n38.2 ∧ n38.2 ≤ L.length ∧ c38 = c ∧ d38 = d) from HQ38.out)
    clear hb hc
    go_upto_region 48 with fail
    clear hw39 p3 f3
    have ha := HA39.out
    have hb := HB39.out
    obtain ⟨p0, p1, p2, p3, p4, p5, p6, p7, p8, p9, p10, p11⟩ := Ay ha
    obtain ⟨f0, f1, f2, f3, f4, f5, f6, f7, f8, f9, f10, f11⟩ := De hb
    obtain ⟨q0, q1, q2, q3, q4, q5, q6, q7, q8, q9, q10, q11⟩ := Ay hb
    obtain ⟨w40, hwf, hfb, hfc⟩ := Bj hb (.int .i64 15) (.string s.x) (.string n24.1) (.string n38.1) (.string s.t) (.string s.f) (.slice none 0 0) (.int .i64 s.n) (.slice none 0 0) (.slice none 0 0) (.int .i64 s.l) (.int .i64 s.c)
    obtain ⟨k0, k1, k2, k3, k4, k5, k6, k7, k8, k9, k10, k11⟩ := Ay hfb
    have HO := Aa (show B8 w0 w g L a b c d z (.returned (.tuple #[.agg #[.int .i64 15, .string s.x, .string n24.1, .string n38.1, .string s.t, .string s.f, .slice none 0 0, .int .i64 s.n, .slice none 0 0, .slice none 0 0, .int .i64 s.l, .int .i64 s.c], .int .i64 n38.2])) w40 from
     ⟨⟨15, s.x, n24.1, n38.1, s.t, s.f, s.n, s.l, s.c⟩, none, 0, [], n38.2, rfl, Aq.nil _ _, (Nat.zero_le _), (fun x hx => by cases hx), (show Bb s.x n24.1 n38.1 s.t s.f from ⟨by omega, by omega, by omega, by omega, by omega⟩), c38, d38, HT39.out.new hfc (by omega) (fun e => HN2.out e.symm), Ao HC39.out hfc (by omega), HQ39.out⟩)
    clear ha hb hfb
    go_wp2_with fail
    try rw [hwf]
    refine bodyPost_ret (v := .tuple #[.agg #[.int .i64 15, .string s.x, .string n24.1, .string n38.1, .string s.t, .string s.f, .slice none 0 0, .int .i64 s.n, .slice none 0 0, .slice none 0 0, .int .i64 s.l, .int .i64 s.c], .int .i64 n38.2]) (by simp [results, Tryz.results157, go_sem, k0, k1, k2, k3, k4, k5, k6, k7, k8, k9, k10, k11]) rfl ?_
    exact HO.out}
   have ev3 := Bf _ [43] v3
   clear v3
   by_cases v4 : V = ⟨#[45]⟩
   {have ev4 := lit _ [45] v4
    clear v4
    have p0 := Ab HA24.out 0
    have f0 := Ad HA24.out 0
    obtain ⟨w41, hw41, hb, hc⟩ := Ai HA24.out 0 (.int .i64 15)
    simp only [s4, s5, s6] at hb
    have HA41 := Aa hb
    have HT41 := Aa (HT24.out.new hc h0w (fun e => ne1 e.symm))
    have HB41 := Aa (hc.keep _ _ HB24.out (Bm (by omega)))
    have HC41 := Aa (Ao HC24.out hc (Nat.le_refl _))
    have HQ41 := Aa (show n24.2 = -1 ∨ (0 ≤ z ∧ z < n24.2 ∧ n24.2 ≤ L.length ∧ c24 = c ∧ d24 = d) from HQ24.out)
    clear hb hc
    go_upto_region 44 with fail
    clear hw41 p0 f0
    have htw := A6 HT41.out n24.2
    rw [HV.out] at htw
    go_wp2_with fail
    refine htw.mono ?_
    rintro e wx ⟨rfl, rfl⟩
    have p0 := Ab HA41.out 0
    have f0 := Ad HA41.out 0
    have p2 := Ab HA41.out 2
    have f2 := Ad HA41.out 2
    obtain ⟨w42, hw42, hb, hc⟩ := Eq HA41.out 0 (.int .i64 16) 2 (.string n24.1)
    have HA42 : Hid (w42.heap[w.heap.size]? = some (.cells #[.int .i64 16, .string s.x, .string n24.1, .string s.z, .string s.t, .string s.f, .slice none 0 0, .int .i64 s.n, .slice none 0 0, .slice none 0 0, .int .i64 s.l, .int .i64 s.c] 128 (0, 0))) := Aa hb
    have HT42 := Aa (HT41.out.new hc h0w (fun e => ne1 e.symm))
    have HB42 := Aa (hc.keep _ _ HB41.out (Bm (by omega)))
    have HC42 := Aa (Ao HC41.out hc (Nat.le_refl _))
    have HQ42 := Aa (show n24.2 = -1 ∨ (0 ≤ z ∧ z < n24.2 ∧ n24.2 ≤ L.length ∧ c24 = c ∧ d24 = d) from HQ41.out)
    clear hb hc
    have hk := Dz HT42.out HL.out (z := n24.2 + 1) (by omega)
    have hz43 := Bw HL.out (n24.2 + 1)
    obtain ⟨n43, hn⟩ : ∃ n, Gm L (n24.2 + 1) = n := ⟨_, rfl⟩
    rw [hn] at hk hz43
    clear hn
    go_wp2_with fail
    refine hk.mono ?_
    rintro e w43 ⟨rfl, c43, d43, hT43, hc, hq⟩
    have HA43 := Aa (hc.keep _ _ HA42.out (fun e => ne1 e))
    have HB43 := Aa (hc.keep _ _ HB42.out (fun e => HN2.out e))
    have HC43 := Aa (HC42.out.trans hc)
    have HT43 := Aa hT43
    have HQ43 := Aa (show n43.2 = -1 ∨ (0 ≤ z ∧ z < n43.2 ∧ n43.2 ≤ L.length ∧ c43 = c ∧ d43 = d) from by have h1 := HQ42.out; omega)
    have hb43 : -1 ≤ n43.2 ∧ n43.2 ≤ L.length := by have h1 := HQ43.out; omega
    clear hc hq hk hT43
    clear hw42 p0 f0 p2 f2
    have p3 := Ab HA43.out 3
    have f3 := Ad HA43.out 3
    obtain ⟨w44, hw44, hb, hc⟩ := Ai HA43.out 3 (.string n43.1)
    simp only [s4, s5, s6] at hb
    have HA44 := Aa hb
    have HT44 := Aa (HT43.out.new hc h0w (fun e => ne1 e.symm))
    have HB44 := Aa (hc.keep _ _ HB43.out (Bm (by omega)))
    have HC44 := Aa (Ao HC43.out hc (Nat.le_refl _))
    have HQ44 := Aa (show n43.2 = -1 ∨ (0 ≤ z ∧ z < n43.2 ∧ n43.2 ≤ L.length ∧ c43 = c ∧ d43 = d) from HQ43.out)
    clear hb hc
    go_upto_region 48 with fail
    clear hw44 p3 f3
    have ha := HA44.out
    have hb := HB44.out
    obtain ⟨p0, p1, p2, p3, p4, p5, p6, p7, p8, p9, p10, p11⟩ := Ay ha
    obtain ⟨f0, f1, f2, f3, f4, f5, f6, f7, f8, f9, f10, f11⟩ := De hb
    obtain ⟨q0, q1, q2, q3, q4, q5, q6, q7, q8, q9, q10, q11⟩ := Ay hb
    obtain ⟨w45, hwf, hfb, hfc⟩ := Bj hb (.int .i64 16) (.string s.x) (.string n24.1) (.string n43.1) (.string s.t) (.string s.f) (.slice none 0 0) (.int .i64 s.n) (.slice none 0 0) (.slice none 0 0) (.int .i64 s.l) (.int .i64 s.c)
    obtain ⟨k0, k1, k2, k3, k4, k5, k6, k7, k8, k9, k10, k11⟩ := Ay hfb
    have HO := Aa (show B8 w0 w g L a b c d z (.returned (.tuple #[.agg #[.int .i64 16, .string s.x, .string n24.1, .string n43.1, .string s.t, .string s.f, .slice none 0 0, .int .i64 s.n, .slice none 0 0, .slice none 0 0, .int .i64 s.l, .int .i64 s.c], .int .i64 n43.2])) w45 from
     ⟨⟨16, s.x, n24.1, n43.1, s.t, s.f, s.n, s.l, s.c⟩, none, 0, [], n43.2, rfl, Aq.nil _ _, (Nat.zero_le _), (fun x hx => by cases hx), (show Bb s.x n24.1 n43.1 s.t s.f from ⟨by omega, by omega, by omega, by omega, by omega⟩), c43, d43, HT44.out.new hfc (by omega) (fun e => HN2.out e.symm), Ao HC44.out hfc (by omega), HQ44.out⟩)
    clear ha hb hfb
    go_wp2_with fail
    try rw [hwf]
    refine bodyPost_ret (v := .tuple #[.agg #[.int .i64 16, .string s.x, .string n24.1, .string n43.1, .string s.t, .string s.f, .slice none 0 0, .int .i64 s.n, .slice none 0 0, .slice none 0 0, .int .i64 s.l, .int .i64 s.c], .int .i64 n43.2]) (by simp [results, Tryz.results157, go_sem, k0, k1, k2, k3, k4, k5, k6, k7, k8, k9, k10, k11]) rfl ?_
    exact HO.out}
   have ev4 := Bf _ [45] v4
   clear v4
   have p0 := Ab HA24.out 0
   have f0 := Ad HA24.out 0
   have p2 := Ab HA24.out 2
   have f2 := Ad HA24.out 2
   obtain ⟨w46, hw46, hb, hc⟩ := Eq HA24.out 0 (.int .i64 3) 2 (.string n24.1)
   have HA46 : Hid (w46.heap[w.heap.size]? = some (.cells #[.int .i64 3, .string s.x, .string n24.1, .string s.z, .string s.t, .string s.f, .slice none 0 0, .int .i64 s.n, .slice none 0 0, .slice none 0 0, .int .i64 s.l, .int .i64 s.c] 128 (0, 0))) := Aa hb
   have HT46 := Aa (HT24.out.new hc h0w (fun e => ne1 e.symm))
   have HB46 := Aa (hc.keep _ _ HB24.out (Bm (by omega)))
   have HC46 := Aa (Ao HC24.out hc (Nat.le_refl _))
   have HQ46 := Aa (show n24.2 = -1 ∨ (0 ≤ z ∧ z < n24.2 ∧ n24.2 ≤ L.length ∧ c24 = c ∧ d24 = d) from HQ24.out)
   clear hb hc
   go_upto_region 51 with fail
   clear hw46 p0 f0 p2 f2
   have ha := HA46.out
   have hb := HB46.out
   obtain ⟨p0, p1, p2, p3, p4, p5, p6, p7, p8, p9, p10, p11⟩ := Ay ha
   obtain ⟨f0, f1, f2, f3, f4, f5, f6, f7, f8, f9, f10, f11⟩ := De hb
   obtain ⟨q0, q1, q2, q3, q4, q5, q6, q7, q8, q9, q10, q11⟩ := Ay hb
   obtain ⟨w47, hwf, hfb, hfc⟩ := Bj hb (.int .i64 3) (.string s.x) (.string n24.1) (.string s.z) (.string s.t) (.string s.f) (.slice none 0 0) (.int .i64 s.n) (.slice none 0 0) (.slice none 0 0) (.int .i64 s.l) (.int .i64 s.c)
   obtain ⟨k0, k1, k2, k3, k4, k5, k6, k7, k8, k9, k10, k11⟩ := Ay hfb
   have HO := Aa (show B8 w0 w g L a b c d z (.returned (.tuple #[.agg #[.int .i64 3, .string s.x, .string n24.1, .string s.z, .string s.t, .string s.f, .slice none 0 0, .int .i64 s.n, .slice none 0 0, .slice none 0 0, .int .i64 s.l, .int .i64 s.c], .int .i64 n24.2])) w47 from
    ⟨⟨3, s.x, n24.1, s.z, s.t, s.f, s.n, s.l, s.c⟩, none, 0, [], n24.2, rfl, Aq.nil _ _, (Nat.zero_le _), (fun x hx => by cases hx), (show Bb s.x n24.1 s.z s.t s.f from ⟨by omega, by omega, by omega, by omega, by omega⟩), c24, d24, HT46.out.new hfc (by omega) (fun e => HN2.out e.symm), Ao HC46.out hfc (by omega), HQ46.out⟩)
   clear ha hb hfb
   go_wp2_with fail
   try rw [hwf]
   refine bodyPost_ret (v := .tuple #[.agg #[.int .i64 3, .string s.x, .string n24.1, .string s.z, .string s.t, .string s.f, .slice none 0 0, .int .i64 s.n, .slice none 0 0, .slice none 0 0, .int .i64 s.l, .int .i64 s.c], .int .i64 n24.2]) (by simp [results, Tryz.results157, go_sem, k0, k1, k2, k3, k4, k5, k6, k7, k8, k9, k10, k11]) rfl ?_
   exact HO.out})
end
end Go.Proofs.YtgjpgfedlgdjhaaGreatDoor
end
