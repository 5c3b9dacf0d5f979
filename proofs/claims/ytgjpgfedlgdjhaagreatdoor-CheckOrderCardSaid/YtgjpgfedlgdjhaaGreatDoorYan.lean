/- Part 14. -/
import Derived.Test.YtgjpgfedlgdjhaaGreatDoorYam
import Derived.Test.YtgjpgfedlgdjhaaGreatDoorYal
set_option linter.unusedVariables false
set_option linter.unusedSimpArgs false
set_option maxHeartbeats 64000000
set_option maxRecDepth 8192
section
namespace Go.Proofs.YtgjpgfedlgdjhaaGreatDoor
open Go.RowKit Go.W
section
variable {w0 w : World} {g : Nat} {L : List Tk} {a b c d : Int}
theorem Xl (h : Tx w0 w g L a b c d) (hL : Gq L) {z : Int} (hz0 : 0 ≤ z) (hz9 : z ≤ 25000) (s : St) (hs : Bb s.x s.y s.z s.t s.f) :
 Calls Tryz.prog 131 #[.pointer (some ⟨g, 0, none⟩), .agg #[.int .i64 s.k, .string s.x, .string s.y, .string s.z, .string s.t, .string s.f, .slice none 0 0, .int .i64 s.n, .slice none 0 0, .slice none 0 0, .int .i64 s.l, .int .i64 s.c], .int .i64 z] w (B8 w0 w g L a b c d z) := by
 obtain ⟨hsx, hsy, hsz, hst, hsf⟩ := hs
 obtain ⟨wa, hwa, hba, hca⟩ := A2 w (.cells #[.int .i64 s.k, .string s.x, .string s.y, .string s.z, .string s.t, .string s.f, .slice none 0 0, .int .i64 s.n, .slice none 0 0, .slice none 0 0, .int .i64 s.l, .int .i64 s.c] 128)
 obtain ⟨wb, hwb, hbb, hcb⟩ := A2 wa (.cells O2 128)
 unfold O2 at hwb hbb
 have HTb := Aa ((h.no hca).no hcb)
 have HAb := Aa (hcb.keep _ _ hba (fun h => h))
 have HBb := Aa hbb
 have HCb := Aa (Ce (S := Tb g) (hca.trans hcb))
 have HL := Aa hL
 have hLL := hL.1
 have hgl := h.lt
 have h0w := h.ch.size
 have hsw := hca.size
 have hlt := Ac hba
 have ne1 : w.heap.size ≠ g := by omega
 have HN2 : Hid (wa.heap.size ≠ g) := Aa (by omega)
 clear h hL hba hbb hca hcb hgl
 go_in
 go_wp2_with fail
 clear hwa hwb
 have hk := Dz HTb.out HL.out (z := z) (by omega)
 have hz1 := Bw HL.out (z)
 obtain ⟨n1, hn⟩ : ∃ n, Gm L (z) = n := ⟨_, rfl⟩
 rw [hn] at hk hz1
 clear hn
 go_wp2_with fail
 refine hk.mono ?_
 rintro e w1 ⟨rfl, c1, d1, hT1, hc, hq⟩
 have HA1 := Aa (hc.keep _ _ HAb.out (fun e => ne1 e))
 have HB1 := Aa (hc.keep _ _ HBb.out (fun e => HN2.out e))
 have HC1 := Aa (HCb.out.trans hc)
 have HT1 := Aa hT1
 have HQ1 := Aa (show n1.2 = -1 ∨ (0 ≤ z ∧ z < n1.2 ∧ n1.2 ≤ L.length ∧ c1 = c ∧ d1 = d) from by omega)
 have hb1 : -1 ≤ n1.2 ∧ n1.2 ≤ L.length := by have h1 := HQ1.out; omega
 clear hc hq hk hT1
 by_cases hq0 : n1.2 < 0
 {have dq : decide (n1.2 < 0) = true := decide_eq_true hq0
  have ha := HA1.out
  have hb := HB1.out
  obtain ⟨p0, p1, p2, p3, p4, p5, p6, p7, p8, p9, p10, p11⟩ := Ay ha
  obtain ⟨f0, f1, f2, f3, f4, f5, f6, f7, f8, f9, f10, f11⟩ := De hb
  obtain ⟨q0, q1, q2, q3, q4, q5, q6, q7, q8, q9, q10, q11⟩ := Ay hb
  obtain ⟨w2, hwf, hfb, hfc⟩ := Bj hb (.int .i64 s.k) (.string s.x) (.string s.y) (.string s.z) (.string s.t) (.string s.f) (.slice none 0 0) (.int .i64 s.n) (.slice none 0 0) (.slice none 0 0) (.int .i64 s.l) (.int .i64 s.c)
  obtain ⟨k0, k1, k2, k3, k4, k5, k6, k7, k8, k9, k10, k11⟩ := Ay hfb
  have HO := Aa (show B8 w0 w g L a b c d z (.returned (.tuple #[.agg #[.int .i64 s.k, .string s.x, .string s.y, .string s.z, .string s.t, .string s.f, .slice none 0 0, .int .i64 s.n, .slice none 0 0, .slice none 0 0, .int .i64 s.l, .int .i64 s.c], .int .i64 n1.2])) w2 from
   ⟨⟨s.k, s.x, s.y, s.z, s.t, s.f, s.n, s.l, s.c⟩, none, 0, [], n1.2, rfl, Aq.nil _ _, (Nat.zero_le _), (fun x hx => by cases hx), (show Bb s.x s.y s.z s.t s.f from ⟨by omega, by omega, by omega, by omega, by omega⟩), c1, d1, HT1.out.new hfc (by omega) (fun e => HN2.out e.symm), Ao HC1.out hfc (by omega), HQ1.out⟩)
  clear ha hb hfb
  go_wp2_with fail
  try rw [hwf]
  refine bodyPost_ret (v := .tuple #[.agg #[.int .i64 s.k, .string s.x, .string s.y, .string s.z, .string s.t, .string s.f, .slice none 0 0, .int .i64 s.n, .slice none 0 0, .slice none 0 0, .int .i64 s.l, .int .i64 s.c], .int .i64 n1.2]) (by simp [results, Tryz.results131, go_sem, k0, k1, k2, k3, k4, k5, k6, k7, k8, k9, k10, k11]) rfl ?_
  exact HO.out}
 have dq : decide (n1.2 < 0) = false := decide_eq_false hq0
 have wz3 : IntKind.i64.wrap (n1.2 + 1) = n1.2 + 1 := by rw [IntKind.wrap_i64]; omega
 have htw := A6 HT1.out n1.2
 obtain ⟨V, hV⟩ : ∃ W, Ar L n1.2 = W := ⟨_, rfl⟩
 rw [hV] at htw
 have HV := Aa hV
 have kq : V ≠ ⟨#[]⟩ → n1.2 < L.length := fun h => (Be (L := L) (z := n1.2) (by rw [HV.out]; exact h)).2
 clear hV
 go_wp2_with fail
 refine htw.mono ?_
 rintro e wx ⟨rfl, rfl⟩
 clear htw
 by_cases v0 : V = ⟨#[61]⟩
 {have ev0 := lit _ [61] v0
  have hlt := kq (by rw [v0]; decide)
  clear v0
  have p1 := Ab HA1.out 1
  have f1 := Ad HA1.out 1
  obtain ⟨w4, hw4, hb, hc⟩ := Ai HA1.out 1 (.string n1.1)
  simp only [s4, s5, s6] at hb
  have HA4 := Aa hb
  have HT4 := Aa (HT1.out.new hc h0w (fun e => ne1 e.symm))
  have HB4 := Aa (hc.keep _ _ HB1.out (Bm (by omega)))
  have HC4 := Aa (Ao HC1.out hc (Nat.le_refl _))
  have HQ4 := Aa (show n1.2 = -1 ∨ (0 ≤ z ∧ z < n1.2 ∧ n1.2 ≤ L.length ∧ c1 = c ∧ d1 = d) from HQ1.out)
  clear hb hc
  have hk := Xk HT4.out HL.out (z := n1.2 + 1) (by omega) (by omega) ⟨s.k, n1.1, s.y, s.z, s.t, s.f, s.n, s.l, s.c⟩ (show Bb n1.1 s.y s.z s.t s.f from ⟨by omega, hsy, hsz, hst, hsf⟩)
  obtain ⟨u0, u1, u2, u3, u4, u5, u6, u7, u8, u9, u10, u11⟩ := Ay HA4.out
  go_wp2_with fail
  refine hk.mono ?_
  rintro e w5 ⟨s2, ga5, gc5, gs5, r5, rfl, ho5, hl5, hs5, hz5, c5, d5, hT5, hc, hq⟩
  clear u0 u1 u2 u3 u4 u5 u6 u7 u8 u9 u10 u11
  have HA5 := Aa (hc.keep _ _ HA4.out (fun e => ne1 e))
  have HB5 := Aa (hc.keep _ _ HB4.out (fun e => HN2.out e))
  have HC5 := Aa (HC4.out.trans hc)
  have HT5 := Aa hT5
  have HQ5 := Aa (show r5 = -1 ∨ (0 ≤ z ∧ z < r5 ∧ r5 ≤ L.length ∧ c5 = c ∧ d5 = d) from by have h1 := HQ4.out; omega)
  have hb5 : -1 ≤ r5 ∧ r5 ≤ L.length := by have h1 := HQ5.out; omega
  have HG5 := Aa (Cg ho5 (HC4.out.size))
  have HS5 := Aa hs5
  obtain ⟨y1, y2, y3, y4, y5⟩ := hz5
  clear ho5 hs5 hc hq hk hT5
  have ha := HA5.out
  have hb := HB5.out
  obtain ⟨p0, p1, p2, p3, p4, p5, p6, p7, p8, p9, p10, p11⟩ := Ay ha
  obtain ⟨f0, f1, f2, f3, f4, f5, f6, f7, f8, f9, f10, f11⟩ := De hb
  obtain ⟨q0, q1, q2, q3, q4, q5, q6, q7, q8, q9, q10, q11⟩ := Ay hb
  obtain ⟨w6, hwf, hfb, hfc⟩ := Bj hb (.int .i64 s2.k) (.string s2.x) (.string s2.y) (.string s2.z) (.string s2.t) (.string s2.f) (.slice ga5 gs5.length gc5) (.int .i64 s2.n) (.slice none 0 0) (.slice none 0 0) (.int .i64 s2.l) (.int .i64 s2.c)
  obtain ⟨k0, k1, k2, k3, k4, k5, k6, k7, k8, k9, k10, k11⟩ := Ay hfb
  have HO := Aa (show B8 w0 w g L a b c d z (.returned (.tuple #[.agg #[.int .i64 s2.k, .string s2.x, .string s2.y, .string s2.z, .string s2.t, .string s2.f, .slice ga5 gs5.length gc5, .int .i64 s2.n, .slice none 0 0, .slice none 0 0, .int .i64 s2.l, .int .i64 s2.c], .int .i64 r5])) w6 from
   ⟨⟨s2.k, s2.x, s2.y, s2.z, s2.t, s2.f, s2.n, s2.l, s2.c⟩, ga5, gc5, gs5, r5, rfl, Bd (HG5.out) hfc HB5.out (by decide : (128 : TypeId) ≠ 9), hl5, HS5.out, (show Bb s2.x s2.y s2.z s2.t s2.f from ⟨by omega, by omega, by omega, by omega, by omega⟩), c5, d5, HT5.out.new hfc (by omega) (fun e => HN2.out e.symm), Ao HC5.out hfc (by omega), HQ5.out⟩)
  clear ha hb hfb
  go_wp2_with fail
  try rw [hwf]
  refine bodyPost_ret (v := .tuple #[.agg #[.int .i64 s2.k, .string s2.x, .string s2.y, .string s2.z, .string s2.t, .string s2.f, .slice ga5 gs5.length gc5, .int .i64 s2.n, .slice none 0 0, .slice none 0 0, .int .i64 s2.l, .int .i64 s2.c], .int .i64 r5]) (by simp [results, Tryz.results131, go_sem, k0, k1, k2, k3, k4, k5, k6, k7, k8, k9, k10, k11]) rfl ?_
  exact HO.out}
 have ev0 := Bf _ [61] v0
 clear v0
 by_cases v1 : V = ⟨#[91]⟩
 {have ev1 := lit _ [91] v1
  have hlt := kq (by rw [v1]; decide)
  clear v1
  have p0 := Ab HA1.out 0
  have f0 := Ad HA1.out 0
  have p1 := Ab HA1.out 1
  have f1 := Ad HA1.out 1
  obtain ⟨w7, hw7, hb, hc⟩ := Eq HA1.out 0 (.int .i64 10) 1 (.string n1.1)
  have HA7 : Hid (w7.heap[w.heap.size]? = some (.cells #[.int .i64 10, .string n1.1, .string s.y, .string s.z, .string s.t, .string s.f, .slice none 0 0, .int .i64 s.n, .slice none 0 0, .slice none 0 0, .int .i64 s.l, .int .i64 s.c] 128 (0, 0))) := Aa hb
  have HT7 := Aa (HT1.out.new hc h0w (fun e => ne1 e.symm))
  have HB7 := Aa (hc.keep _ _ HB1.out (Bm (by omega)))
  have HC7 := Aa (Ao HC1.out hc (Nat.le_refl _))
  have HQ7 := Aa (show n1.2 = -1 ∨ (0 ≤ z ∧ z < n1.2 ∧ n1.2 ≤ L.length ∧ c1 = c ∧ d1 = d) from HQ1.out)
  clear hb hc
  have hk := Dz HT7.out HL.out (z := n1.2 + 1) (by omega)
  have hz8 := Bw HL.out (n1.2 + 1)
  obtain ⟨n8, hn⟩ : ∃ n, Gm L (n1.2 + 1) = n := ⟨_, rfl⟩
  rw [hn] at hk hz8
  clear hn
  go_wp2_with fail
  refine hk.mono ?_
  rintro e w8 ⟨rfl, c8, d8, hT8, hc, hq⟩
  have HA8 := Aa (hc.keep _ _ HA7.out (fun e => ne1 e))
  have HB8 := Aa (hc.keep _ _ HB7.out (fun e => HN2.out e))
  have HC8 := Aa (HC7.out.trans hc)
  have HT8 := Aa hT8
  have HQ8 := Aa (show n8.2 = -1 ∨ (0 ≤ z ∧ z < n8.2 ∧ n8.2 ≤ L.length ∧ c8 = c ∧ d8 = d) from by have h1 := HQ7.out; omega)
  have hb8 : -1 ≤ n8.2 ∧ n8.2 ≤ L.length := by have h1 := HQ8.out; omega
  clear hc hq hk hT8
  clear hw7 p0 f0 p1 f1
  have p3 := Ab HA8.out 3
  have f3 := Ad HA8.out 3
  obtain ⟨w9, hw9, hb, hc⟩ := Ai HA8.out 3 (.string n8.1)
  simp only [s4, s5, s6] at hb
  have HA9 := Aa hb
  have HT9 := Aa (HT8.out.new hc h0w (fun e => ne1 e.symm))
  have HB9 := Aa (hc.keep _ _ HB8.out (Bm (by omega)))
  have HC9 := Aa (Ao HC8.out hc (Nat.le_refl _))
  have HQ9 := Aa (show n8.2 = -1 ∨ (0 ≤ z ∧ z < n8.2 ∧ n8.2 ≤ L.length ∧ c8 = c ∧ d8 = d) from HQ8.out)
  clear hb hc
  have hk := Acu (HT9.out.no ((Ch.refl No _).alloc (.cells #[.string ⟨#[93]⟩, .string ⟨#[61]⟩] 9))) (z := n8.2) (by omega) (by omega) (Ah.one (w := w9) [⟨#[93]⟩, ⟨#[61]⟩] (lb rfl)) (by decide)
  obtain ⟨r10, hn⟩ : ∃ n, muN L (n8.2) ⟨#[93]⟩ ⟨#[61]⟩ = n := ⟨_, rfl⟩
  rw [hn] at hk
  clear hn
  go_wp2_with fail
  refine hk.mono ?_
  rintro e w10 ⟨rfl, c10, d10, hT10, hc, hq⟩
  replace hc := (Ce (S := Tb g) ((Ch.refl No _).alloc (.cells #[.string ⟨#[93]⟩, .string ⟨#[61]⟩] 9))).trans hc
  have HA10 := Aa (hc.keep _ _ HA9.out (fun e => ne1 e))
  have HB10 := Aa (hc.keep _ _ HB9.out (fun e => HN2.out e))
  have HC10 := Aa (HC9.out.trans hc)
  have HT10 := Aa hT10
  have HQ10 := Aa (show r10 = -1 ∨ (0 ≤ z ∧ z < r10 ∧ r10 ≤ L.length ∧ c10 = c ∧ d10 = d) from by have h1 := HQ9.out; omega)
  have hb10 : -1 ≤ r10 ∧ r10 ≤ L.length := by have h1 := HQ10.out; omega
  clear hc hq hk hT10
  clear hw9 p3 f3
  have hk := Dz HT10.out HL.out (z := r10) (by omega)
  have hz11 := Bw HL.out (r10)
  obtain ⟨n11, hn⟩ : ∃ n, Gm L (r10) = n := ⟨_, rfl⟩
  rw [hn] at hk hz11
  clear hn
  go_wp2_with fail
  refine hk.mono ?_
  rintro e w11 ⟨rfl, c11, d11, hT11, hc, hq⟩
  have HA11 := Aa (hc.keep _ _ HA10.out (fun e => ne1 e))
  have HB11 := Aa (hc.keep _ _ HB10.out (fun e => HN2.out e))
  have HC11 := Aa (HC10.out.trans hc)
  have HT11 := Aa hT11
  have HQ11 := Aa (show n11.2 = -1 ∨ (0 ≤ z ∧ z < n11.2 ∧ n11.2 ≤ L.length ∧ c11 = c ∧ d11 = d) from by have h1 := HQ10.out; omega)
  have hb11 : -1 ≤ n11.2 ∧ n11.2 ≤ L.length := by have h1 := HQ11.out; omega
  clear hc hq hk hT11
  have p2 := Ab HA11.out 2
  have f2 := Ad HA11.out 2
  obtain ⟨w12, hw12, hb, hc⟩ := Ai HA11.out 2 (.string n11.1)
  simp only [s4, s5, s6] at hb
  have HA12 := Aa hb
  have HT12 := Aa (HT11.out.new hc h0w (fun e => ne1 e.symm))
  have HB12 := Aa (hc.keep _ _ HB11.out (Bm (by omega)))
  have HC12 := Aa (Ao HC11.out hc (Nat.le_refl _))
  have HQ12 := Aa (show n11.2 = -1 ∨ (0 ≤ z ∧ z < n11.2 ∧ n11.2 ≤ L.length ∧ c11 = c ∧ d11 = d) from HQ11.out)
  clear hb hc
  go_upto_region 14 with fail
  clear hw12 p2 f2
  have ha := HA12.out
  have hb := HB12.out
  obtain ⟨p0, p1, p2, p3, p4, p5, p6, p7, p8, p9, p10, p11⟩ := Ay ha
  obtain ⟨f0, f1, f2, f3, f4, f5, f6, f7, f8, f9, f10, f11⟩ := De hb
  obtain ⟨q0, q1, q2, q3, q4, q5, q6, q7, q8, q9, q10, q11⟩ := Ay hb
  obtain ⟨w13, hwf, hfb, hfc⟩ := Bj hb (.int .i64 10) (.string n1.1) (.string n11.1) (.string n8.1) (.string s.t) (.string s.f) (.slice none 0 0) (.int .i64 s.n) (.slice none 0 0) (.slice none 0 0) (.int .i64 s.l) (.int .i64 s.c)
  obtain ⟨k0, k1, k2, k3, k4, k5, k6, k7, k8, k9, k10, k11⟩ := Ay hfb
  have HO := Aa (show B8 w0 w g L a b c d z (.returned (.tuple #[.agg #[.int .i64 10, .string n1.1, .string n11.1, .string n8.1, .string s.t, .string s.f, .slice none 0 0, .int .i64 s.n, .slice none 0 0, .slice none 0 0, .int .i64 s.l, .int .i64 s.c], .int .i64 n11.2])) w13 from
   ⟨⟨10, n1.1, n11.1, n8.1, s.t, s.f, s.n, s.l, s.c⟩, none, 0, [], n11.2, rfl, Aq.nil _ _, (Nat.zero_le _), (fun x hx => by cases hx), (show Bb n1.1 n11.1 n8.1 s.t s.f from ⟨by omega, by omega, by omega, by omega, by omega⟩), c11, d11, HT12.out.new hfc (by omega) (fun e => HN2.out e.symm), Ao HC12.out hfc (by omega), HQ12.out⟩)
  clear ha hb hfb
  go_wp2_with fail
  try rw [hwf]
  refine bodyPost_ret (v := .tuple #[.agg #[.int .i64 10, .string n1.1, .string n11.1, .string n8.1, .string s.t, .string s.f, .slice none 0 0, .int .i64 s.n, .slice none 0 0, .slice none 0 0, .int .i64 s.l, .int .i64 s.c], .int .i64 n11.2]) (by simp [results, Tryz.results131, go_sem, k0, k1, k2, k3, k4, k5, k6, k7, k8, k9, k10, k11]) rfl ?_
  exact HO.out}
 have ev1 := Bf _ [91] v1
 clear v1
 by_cases v2 : V = ⟨#[46]⟩
 {have ev2 := lit _ [46] v2
  have hlt := kq (by rw [v2]; decide)
  clear v2
  have hk := Mj HT1.out HL.out (z := n1.2) (by omega) (by omega) s ⟨hsx, hsy, hsz, hst, hsf⟩ n1.1 (by omega) true
  obtain ⟨u0, u1, u2, u3, u4, u5, u6, u7, u8, u9, u10, u11⟩ := Ay HA1.out
  go_wp2_with fail
  refine hk.mono ?_
  rintro e w14 ⟨s2, ga14, gc14, gs14, r14, rfl, ho14, hl14, hs14, hz14, c14, d14, hT14, hc, hq⟩
  clear u0 u1 u2 u3 u4 u5 u6 u7 u8 u9 u10 u11
  have HA14 := Aa (hc.keep _ _ HA1.out (fun e => ne1 e))
  have HB14 := Aa (hc.keep _ _ HB1.out (fun e => HN2.out e))
  have HC14 := Aa (HC1.out.trans hc)
  have HT14 := Aa hT14
  have HQ14 := Aa (show r14 = -1 ∨ (0 ≤ z ∧ z < r14 ∧ r14 ≤ L.length ∧ c14 = c ∧ d14 = d) from by have h1 := HQ1.out; omega)
  have hb14 : -1 ≤ r14 ∧ r14 ≤ L.length := by have h1 := HQ14.out; omega
  have HG14 := Aa (Cg ho14 (HC1.out.size))
  have HS14 := Aa hs14
  obtain ⟨y1, y2, y3, y4, y5⟩ := hz14
  clear ho14 hs14 hc hq hk hT14
  have ha := HA14.out
  have hb := HB14.out
  obtain ⟨p0, p1, p2, p3, p4, p5, p6, p7, p8, p9, p10, p11⟩ := Ay ha
  obtain ⟨f0, f1, f2, f3, f4, f5, f6, f7, f8, f9, f10, f11⟩ := De hb
  obtain ⟨q0, q1, q2, q3, q4, q5, q6, q7, q8, q9, q10, q11⟩ := Ay hb
  obtain ⟨w15, hwf, hfb, hfc⟩ := Bj hb (.int .i64 s2.k) (.string s2.x) (.string s2.y) (.string s2.z) (.string s2.t) (.string s2.f) (.slice ga14 gs14.length gc14) (.int .i64 s2.n) (.slice none 0 0) (.slice none 0 0) (.int .i64 s2.l) (.int .i64 s2.c)
  obtain ⟨k0, k1, k2, k3, k4, k5, k6, k7, k8, k9, k10, k11⟩ := Ay hfb
  have HO := Aa (show B8 w0 w g L a b c d z (.returned (.tuple #[.agg #[.int .i64 s2.k, .string s2.x, .string s2.y, .string s2.z, .string s2.t, .string s2.f, .slice ga14 gs14.length gc14, .int .i64 s2.n, .slice none 0 0, .slice none 0 0, .int .i64 s2.l, .int .i64 s2.c], .int .i64 r14])) w15 from
   ⟨⟨s2.k, s2.x, s2.y, s2.z, s2.t, s2.f, s2.n, s2.l, s2.c⟩, ga14, gc14, gs14, r14, rfl, Bd (HG14.out) hfc HB14.out (by decide : (128 : TypeId) ≠ 9), hl14, HS14.out, (show Bb s2.x s2.y s2.z s2.t s2.f from ⟨by omega, by omega, by omega, by omega, by omega⟩), c14, d14, HT14.out.new hfc (by omega) (fun e => HN2.out e.symm), Ao HC14.out hfc (by omega), HQ14.out⟩)
  clear ha hb hfb
  go_wp2_with fail
  try rw [hwf]
  refine bodyPost_ret (v := .tuple #[.agg #[.int .i64 s2.k, .string s2.x, .string s2.y, .string s2.z, .string s2.t, .string s2.f, .slice ga14 gs14.length gc14, .int .i64 s2.n, .slice none 0 0, .slice none 0 0, .int .i64 s2.l, .int .i64 s2.c], .int .i64 r14]) (by simp [results, Tryz.results131, go_sem, k0, k1, k2, k3, k4, k5, k6, k7, k8, k9, k10, k11]) rfl ?_
  exact HO.out}
 have ev2 := Bf _ [46] v2
 clear v2
 by_cases v3 : V = ⟨#[58, 58]⟩
 {have ev3 := lit _ [58, 58] v3
  have hlt := kq (by rw [v3]; decide)
  clear v3
  have hk := Mj HT1.out HL.out (z := n1.2) (by omega) (by omega) s ⟨hsx, hsy, hsz, hst, hsf⟩ n1.1 (by omega) true
  obtain ⟨u0, u1, u2, u3, u4, u5, u6, u7, u8, u9, u10, u11⟩ := Ay HA1.out
  go_wp2_with fail
  refine hk.mono ?_
  rintro e w16 ⟨s2, ga16, gc16, gs16, r16, rfl, ho16, hl16, hs16, hz16, c16, d16, hT16, hc, hq⟩
  clear u0 u1 u2 u3 u4 u5 u6 u7 u8 u9 u10 u11
  have HA16 := Aa (hc.keep _ _ HA1.out (fun e => ne1 e))
  have HB16 := Aa (hc.keep _ _ HB1.out (fun e => HN2.out e))
  have HC16 := Aa (HC1.out.trans hc)
  have HT16 := Aa hT16
  have HQ16 := Aa (show r16 = -1 ∨ (0 ≤ z ∧ z < r16 ∧ r16 ≤ L.length ∧ c16 = c ∧ d16 = d) from by have h1 := HQ1.out; omega)
  have hb16 : -1 ≤ r16 ∧ r16 ≤ L.length := by have h1 := HQ16.out; omega
  have HG16 := Aa (Cg ho16 (HC1.out.size))
  have HS16 := Aa hs16
  obtain ⟨y1, y2, y3, y4, y5⟩ := hz16
  clear ho16 hs16 hc hq hk hT16
  have ha := HA16.out
  have hb := HB16.out
  obtain ⟨p0, p1, p2, p3, p4, p5, p6, p7, p8, p9, p10, p11⟩ := Ay ha
  obtain ⟨f0, f1, f2, f3, f4, f5, f6, f7, f8, f9, f10, f11⟩ := De hb
  obtain ⟨q0, q1, q2, q3, q4, q5, q6, q7, q8, q9, q10, q11⟩ := Ay hb
  obtain ⟨w17, hwf, hfb, hfc⟩ := Bj hb (.int .i64 s2.k) (.string s2.x) (.string s2.y) (.string s2.z) (.string s2.t) (.string s2.f) (.slice ga16 gs16.length gc16) (.int .i64 s2.n) (.slice none 0 0) (.slice none 0 0) (.int .i64 s2.l) (.int .i64 s2.c)
  obtain ⟨k0, k1, k2, k3, k4, k5, k6, k7, k8, k9, k10, k11⟩ := Ay hfb
  have HO := Aa (show B8 w0 w g L a b c d z (.returned (.tuple #[.agg #[.int .i64 s2.k, .string s2.x, .string s2.y, .string s2.z, .string s2.t, .string s2.f, .slice ga16 gs16.length gc16, .int .i64 s2.n, .slice none 0 0, .slice none 0 0, .int .i64 s2.l, .int .i64 s2.c], .int .i64 r16])) w17 from
   ⟨⟨s2.k, s2.x, s2.y, s2.z, s2.t, s2.f, s2.n, s2.l, s2.c⟩, ga16, gc16, gs16, r16, rfl, Bd (HG16.out) hfc HB16.out (by decide : (128 : TypeId) ≠ 9), hl16, HS16.out, (show Bb s2.x s2.y s2.z s2.t s2.f from ⟨by omega, by omega, by omega, by omega, by omega⟩), c16, d16, HT16.out.new hfc (by omega) (fun e => HN2.out e.symm), Ao HC16.out hfc (by omega), HQ16.out⟩)
  clear ha hb hfb
  go_wp2_with fail
  try rw [hwf]
  refine bodyPost_ret (v := .tuple #[.agg #[.int .i64 s2.k, .string s2.x, .string s2.y, .string s2.z, .string s2.t, .string s2.f, .slice ga16 gs16.length gc16, .int .i64 s2.n, .slice none 0 0, .slice none 0 0, .int .i64 s2.l, .int .i64 s2.c], .int .i64 r16]) (by simp [results, Tryz.results131, go_sem, k0, k1, k2, k3, k4, k5, k6, k7, k8, k9, k10, k11]) rfl ?_
  exact HO.out}
 have ev3 := Bf _ [58, 58] v3
 clear v3
 go_upto_region 18 with fail
 have hk := B9 (HT1.out.no ((Ch.refl No w1).drew)) (n1.2) 10
 have ha := HA1.out
 have HSa : Hid (w1.cell? ⟨w.heap.size, 0, none⟩ = some (.int .i64 s.k) ∧ w1.cell? ⟨w.heap.size, 1, none⟩ = some (.string s.x) ∧ w1.cell? ⟨w.heap.size, 2, none⟩ = some (.string s.y) ∧ w1.cell? ⟨w.heap.size, 3, none⟩ = some (.string s.z) ∧ w1.cell? ⟨w.heap.size, 4, none⟩ = some (.string s.t) ∧ w1.cell? ⟨w.heap.size, 5, none⟩ = some (.string s.f) ∧ w1.cell? ⟨w.heap.size, 6, none⟩ = some (.slice none 0 0) ∧ w1.cell? ⟨w.heap.size, 7, none⟩ = some (.int .i64 s.n) ∧ w1.cell? ⟨w.heap.size, 8, none⟩ = some (.slice none 0 0) ∧ w1.cell? ⟨w.heap.size, 9, none⟩ = some (.slice none 0 0) ∧ w1.cell? ⟨w.heap.size, 10, none⟩ = some (.int .i64 s.l) ∧ w1.cell? ⟨w.heap.size, 11, none⟩ = some (.int .i64 s.c)) := Aa ⟨Ab ha 0, Ab ha 1, Ab ha 2, Ab ha 3, Ab ha 4, Ab ha 5, Ab ha 6, Ab ha 7, Ab ha 8, Ab ha 9, Ab ha 10, Ab ha 11⟩
 have HSd := Aa (O5 HSa.out)
 clear ha
 go_region_held3 (fun w' => w'.cell? ⟨w.heap.size, 0, none⟩ = some (.int .i64 s.k) ∧ w'.cell? ⟨w.heap.size, 1, none⟩ = some (.string s.x) ∧ w'.cell? ⟨w.heap.size, 2, none⟩ = some (.string s.y) ∧ w'.cell? ⟨w.heap.size, 3, none⟩ = some (.string s.z) ∧ w'.cell? ⟨w.heap.size, 4, none⟩ = some (.string s.t) ∧ w'.cell? ⟨w.heap.size, 5, none⟩ = some (.string s.f) ∧ w'.cell? ⟨w.heap.size, 6, none⟩ = some (.slice none 0 0) ∧ w'.cell? ⟨w.heap.size, 7, none⟩ = some (.int .i64 s.n) ∧ w'.cell? ⟨w.heap.size, 8, none⟩ = some (.slice none 0 0) ∧ w'.cell? ⟨w.heap.size, 9, none⟩ = some (.slice none 0 0) ∧ w'.cell? ⟨w.heap.size, 10, none⟩ = some (.int .i64 s.l) ∧ w'.cell? ⟨w.heap.size, 11, none⟩ = some (.int .i64 s.c)) (first | with_reducible exact HSa.out | with_reducible exact HSd.out | with_reducible exact HSb.out | with_reducible exact HSc.out | go_keep) (first | (go_at_call 26; refine hk.mono ?_; rintro e w18 ⟨rfl, c18, d18, hT18, hc7⟩; have ha7 := hc7.keep _ _ HA1.out (fun e => ne1 e); have HSb := Aa (cZ ha7); have HC18 := Aa ((HC1.out.drew).trans hc7); have HT18 := Aa hT18; have HQ18 := Aa (show (-1 : Int) = -1 ∨ (0 ≤ z ∧ z < (-1 : Int) ∧ (-1 : Int) ≤ L.length ∧ c18 = c ∧ d18 = d) from by have h1 := HQ1.out; omega); have HB18 := Aa (hc7.keep _ _ HB1.out (fun e => HN2.out e)); have hb7 := HB18.out; have q0 := Ab hb7 0; have f0 := Ad hb7 0; have q1 := Ab hb7 1; have f1 := Ad hb7 1; have q2 := Ab hb7 2; have f2 := Ad hb7 2; have q3 := Ab hb7 3; have f3 := Ad hb7 3; have q4 := Ab hb7 4; have f4 := Ad hb7 4; have q5 := Ab hb7 5; have f5 := Ad hb7 5; have q6 := Ab hb7 6; have f6 := Ad hb7 6; have q7 := Ab hb7 7; have f7 := Ad hb7 7; have q8 := Ab hb7 8; have f8 := Ad hb7 8; have q9 := Ab hb7 9; have f9 := Ad hb7 9; have q10 := Ab hb7 10; have f10 := Ad hb7 10; have q11 := Ab hb7 11; have f11 := Ad hb7 11; obtain ⟨w19, hw8, hb8, hfc⟩ := Bj HB18.out (.int .i64 s.k) (.string s.x) (.string s.y) (.string s.z) (.string s.t) (.string s.f) (.slice none 0 0) (.int .i64 s.n) (.slice none 0 0) (.slice none 0 0) (.int .i64 s.l) (.int .i64 s.c); have ha8 := hfc.keep _ _ ha7 (Bm (by omega)); have HSc := Aa (cZ ha8); have HFB := Aa hb8; have HFC := Aa hfc; clear hT18 hc7 ha7 hb7 hb8 hfc ha8))
 all_goals (
  go_wp2_with fail
  have hfb := HFB.out
  have hfc := HFC.out
  try rw [hw8]
  obtain ⟨k0, k1, k2, k3, k4, k5, k6, k7, k8, k9, k10, k11⟩ := Ay hfb
  have HO := Aa (show B8 w0 w g L a b c d z (.returned (.tuple #[.agg #[.int .i64 s.k, .string s.x, .string s.y, .string s.z, .string s.t, .string s.f, .slice none 0 0, .int .i64 s.n, .slice none 0 0, .slice none 0 0, .int .i64 s.l, .int .i64 s.c], .int .i64 (-1 : Int)])) w19 from
   ⟨⟨s.k, s.x, s.y, s.z, s.t, s.f, s.n, s.l, s.c⟩, none, 0, [], (-1 : Int), rfl, Aq.nil _ _, (Nat.zero_le _), (fun x hx => by cases hx), (show Bb s.x s.y s.z s.t s.f from ⟨by omega, by omega, by omega, by omega, by omega⟩), c18, d18, HT18.out.new hfc (by omega) (fun e => HN2.out e.symm), Ao HC18.out hfc (by omega), .inl rfl⟩)
  refine bodyPost_ret (v := .tuple #[.agg #[.int .i64 s.k, .string s.x, .string s.y, .string s.z, .string s.t, .string s.f, .slice none 0 0, .int .i64 s.n, .slice none 0 0, .slice none 0 0, .int .i64 s.l, .int .i64 s.c], .int .i64 (-1 : Int)]) (by simp [results, Tryz.results131, go_sem, k0, k1, k2, k3, k4, k5, k6, k7, k8, k9, k10, k11]) rfl ?_
  exact HO.out)
end
theorem Ac4 {p : Prop} (h : p := by
 clear ha hb hfb
 go_wp2_with fail
 try rw [hwf]
 refine bodyPost_ret (v := .tuple #[.agg #[.int .i64 20, .string ⟨#[]⟩, .string n28.1, .string n31.1, .string ⟨#[]⟩, .string ⟨#[]⟩, .slice none 0 0, .int .i64 0, .slice ba34 t34.len bc34, .slice none 0 0, .int .i64 p.1, .int .i64 p.2], .int .i64 r34]) (by simp [results, Tryz.results99, go_sem, k0, k1, k2, k3, k4, k5, k6, k7, k8, k9, k10, k11]) rfl ?_
 exact HO.out
 ) : p := h
theorem U1 {deep : Int} (hI : Q4 (deep + 1)) (hd0 : 0 ≤ deep) (hd8 : deep ≤ 8) : Q5 deep := by
 intro w0 w g L a b c d h hL z hz0 hz9
 have hLL := hL.1
 have HL := Aa hL
 have HI := Aa hI
 have hgl := h.lt
 have h0w := h.ch.size
 have wd : IntKind.i64.wrap (deep + 1) = deep + 1 := by rw [IntKind.wrap_i64]; omega
 have wz : IntKind.i64.wrap (z + 1) = z + 1 := by rw [IntKind.wrap_i64]; omega
 obtain ⟨wb, hwb, hbb, hcb⟩ := A2 w (.cells O2 128)
 unfold O2 at hwb hbb
 have HTb := Aa (h.no hcb)
 have HBb := Aa hbb
 have HCb := Aa hcb
 have hsb := Ac hbb
 have ne1 : w.heap.size ≠ g := by omega
 obtain ⟨p, hp⟩ := Ax (Fx L a b z)
 have hpl := Ds HTb.out z
 rw [hp] at hpl
 clear hp h hL hbb hcb hI
 go_in
 go_wp2_with fail
 refine hpl.mono ?_
 rintro e w1 ⟨rfl, hc1⟩
 have HB1 := Aa (hc1.keep _ _ HBb.out (fun h => h))
 have HT1 := Aa (HTb.out.no hc1)
 have HC1 := Aa (HCb.out.trans hc1)
 have Jj := hc1.size
 have HN2 : Hid (w1.heap.size ≠ g) := Aa (by omega)
 clear hc1 hpl hwb
 go_upto_region 2 with fail
 obtain ⟨w2, hw2, hb2, hc2⟩ := A2 w1 (.cells #[.int .i64 0, .string ⟨#[]⟩, .string ⟨#[]⟩, .string ⟨#[]⟩, .string ⟨#[]⟩, .string ⟨#[]⟩, .slice none 0 0, .int .i64 0, .slice none 0 0, .slice none 0 0, .int .i64 p.1, .int .i64 p.2] 128)
 rw [hw2]
 obtain ⟨lo, hlo⟩ := Ax w2.heap.size
 have hl2 := Ac hb2
 have hglo : g < lo := by omega
 have hAlo : w1.heap.size < lo := by omega
 have hBlo : w.heap.size < lo := by omega
 have HA2 := Aa hb2
 have HB2 := Aa (hc2.keep _ _ HB1.out (fun h => h))
 have HT2 := Aa (HT1.out.no hc2)
 have HC2 := Aa (Ce (S := Tb g) (HC1.out.trans hc2))
 have HD2 := Aa (show lo ≤ w2.heap.size from by omega)
 have htw := A6 HT2.out z
 obtain ⟨W, hW⟩ := Ax (Ar L z)
 rw [hW] at htw
 have HW := Aa hW
 have kq : W ≠ ⟨#[]⟩ → z < L.length := fun h => (Be (L := L) (z := z) (by rw [HW.out]; exact h)).2
 clear hb2 hc2 hw2 hW hlo
 go_wp2_with fail
 refine htw.mono ?_
 rintro e wx ⟨rfl, rfl⟩
 clear htw
 by_cases h0 : W = ⟨#[116, 104, 114, 111, 119]⟩
 {have e0 := lit _ [116, 104, 114, 111, 119] h0
  have hlt := kq (by rw [h0]; decide)
  clear h0
  have p0 := Ab HA2.out 0
  have f0 := Ad HA2.out 0
  obtain ⟨w3, hw3, hb, hc⟩ := Ai HA2.out 0 (.int .i64 18)
  simp only [s4, s5, s6] at hb
  have HA3 := Aa hb
  have HT3 := Aa (HT2.out.new hc (by omega) (fun e => HN2.out e.symm))
  have HB3 := Aa (hc.keep _ _ HB2.out (Bm (by omega)))
  have HC3 := Aa (Ao HC2.out hc (by omega))
  have HD3 := Aa (Nat.le_trans HD2.out hc.size)
  clear hb hc
  have hk := Dz HT3.out HL.out (z := z + 1) (by omega)
  have hz4 := Bw HL.out (z + 1)
  obtain ⟨n4, hn⟩ : ∃ n, Gm L (z + 1) = n := ⟨_, rfl⟩
  rw [hn] at hk hz4
  clear hn
  go_wp2_with fail
  refine hk.mono ?_
  rintro e w4 ⟨rfl, c4, d4, hT4, hc, hq⟩
  have HA4 := Aa (hc.keep _ _ HA3.out (fun e => HN2.out e))
  have HB4 := Aa (hc.keep _ _ HB3.out (fun e => ne1 e))
  have HC4 := Aa (HC3.out.trans hc)
  have HD4 := Aa (Nat.le_trans HD3.out hc.size)
  have HT4 := Aa hT4
  have HQ4 := Aa (show n4.2 = -1 ∨ (0 ≤ z ∧ z < n4.2 ∧ n4.2 ≤ L.length ∧ c4 = c ∧ d4 = d) from by omega)
  have hb4 : -1 ≤ n4.2 ∧ n4.2 ≤ L.length := by have h1 := HQ4.out; omega
  clear hc hq hk hT4
  clear hw3 p0 f0
  have p1 := Ab HA4.out 1
  have f1 := Ad HA4.out 1
  obtain ⟨w5, hw5, hb, hc⟩ := Ai HA4.out 1 (.string n4.1)
  simp only [s4, s5, s6] at hb
  have HA5 := Aa hb
  have HT5 := Aa (HT4.out.new hc (by omega) (fun e => HN2.out e.symm))
  have HB5 := Aa (hc.keep _ _ HB4.out (Bm (by omega)))
  have HC5 := Aa (Ao HC4.out hc (by omega))
  have HD5 := Aa (Nat.le_trans HD4.out hc.size)
  have HQ5 := Aa (show n4.2 = -1 ∨ (0 ≤ z ∧ z < n4.2 ∧ n4.2 ≤ L.length ∧ c4 = c ∧ d4 = d) from HQ4.out)
  clear hb hc
  go_upto_region 6 with fail
  clear hw5 p1 f1
  have hk := Da (HT5.out.no ((Ch.refl No w5).drew)) (z := n4.2) (by omega) (by omega) ⟨#[59]⟩ (by decide)
  obtain ⟨r6, hn⟩ : ∃ n, Gs L (n4.2) ⟨#[59]⟩ = n := ⟨_, rfl⟩
  rw [hn] at hk
  clear hn
  have HSa := Aa (Ap HA5.out)
  have HSd := Aa (O5 HSa.out)
  go_region_held3 (fun w' => w'.cell? ⟨w1.heap.size, 0, none⟩ = some (.int .i64 18) ∧ w'.cell? ⟨w1.heap.size, 1, none⟩ = some (.string n4.1) ∧ w'.cell? ⟨w1.heap.size, 2, none⟩ = some (.string ⟨#[]⟩) ∧ w'.cell? ⟨w1.heap.size, 3, none⟩ = some (.string ⟨#[]⟩) ∧ w'.cell? ⟨w1.heap.size, 4, none⟩ = some (.string ⟨#[]⟩) ∧ w'.cell? ⟨w1.heap.size, 5, none⟩ = some (.string ⟨#[]⟩) ∧ w'.cell? ⟨w1.heap.size, 6, none⟩ = some (.slice none 0 0) ∧ w'.cell? ⟨w1.heap.size, 7, none⟩ = some (.int .i64 0) ∧ w'.cell? ⟨w1.heap.size, 8, none⟩ = some (.slice none 0 0) ∧ w'.cell? ⟨w1.heap.size, 9, none⟩ = some (.slice none 0 0) ∧ w'.cell? ⟨w1.heap.size, 10, none⟩ = some (.int .i64 p.1) ∧ w'.cell? ⟨w1.heap.size, 11, none⟩ = some (.int .i64 p.2)) (first | with_reducible exact HSa.out | with_reducible exact HSd.out | with_reducible exact HSb.out | with_reducible exact HSc.out | go_keep) (first | (go_at_call 29; refine hk.mono ?_; rintro e w6 ⟨rfl, c6, d6, hT6, hc7, hq⟩; have ha7 := hc7.keep _ _ HA5.out (fun e => HN2.out e); have HSb := Aa (Ap ha7); have HC6 := Aa ((HC5.out.drew).trans hc7); have HT6 := Aa hT6; have HQ6 := Aa (show r6 = -1 ∨ (0 ≤ z ∧ z < r6 ∧ r6 ≤ L.length ∧ c6 = c ∧ d6 = d) from by have h1 := HQ5.out; omega); have HB6 := Aa (hc7.keep _ _ HB5.out (fun e => ne1 e)); have hb7 := HB6.out; obtain ⟨q0, q1, q2, q3, q4, q5, q6, q7, q8, q9, q10, q11⟩ := Ap hb7; obtain ⟨f0, f1, f2, f3, f4, f5, f6, f7, f8, f9, f10, f11⟩ := E5 hb7; obtain ⟨w7, hw8, hb8, hfc⟩ := Bj HB6.out (.int .i64 18) (.string n4.1) (.string ⟨#[]⟩) (.string ⟨#[]⟩) (.string ⟨#[]⟩) (.string ⟨#[]⟩) (.slice none 0 0) (.int .i64 0) (.slice none 0 0) (.slice none 0 0) (.int .i64 p.1) (.int .i64 p.2); have ha8 := hfc.keep _ _ ha7 (Bm (by omega)); have HSc := Aa (Ap ha8); have HFB := Aa hb8; have HFC := Aa hfc; clear hT6 hc7 ha7 hb7 hb8 hfc ha8 hq))
  all_goals (
   go_wp2_with fail
   have hfc := HFC.out
   try rw [hw8]
   obtain ⟨k0, k1, k2, k3, k4, k5, k6, k7, k8, k9, k10, k11⟩ := Ap HFB.out
   have HO := Aa (show E6 w0 w g L a b c d z (.returned (.tuple #[.agg #[.int .i64 18, .string n4.1, .string ⟨#[]⟩, .string ⟨#[]⟩, .string ⟨#[]⟩, .string ⟨#[]⟩, .slice none 0 0, .int .i64 0, .slice none 0 0, .slice none 0 0, .int .i64 p.1, .int .i64 p.2], .int .i64 r6])) w7 from
    ⟨⟨⟨18, n4.1, ⟨#[]⟩, ⟨#[]⟩, ⟨#[]⟩, ⟨#[]⟩, 0, p.1, p.2⟩, none, [], 0, none, 0, none, 0⟩, .nil, .nil, r6, rfl, (Bo.one (lo := lo) (show Bb n4.1 ⟨#[]⟩ ⟨#[]⟩ ⟨#[]⟩ ⟨#[]⟩ from ⟨by omega, Nat.zero_le _, Nat.zero_le _, Nat.zero_le _, Nat.zero_le _⟩) (.nil _ _) (.nil _ _) (.nil _ _)).mono (fun k _ hk => Nat.le_trans (Nat.le_of_lt hBlo) hk), c6, d6, HT6.out.new hfc (by omega) (fun e => ne1 e.symm), Ao HC6.out hfc (by omega), HQ6.out⟩)
   refine bodyPost_ret (v := .tuple #[.agg #[.int .i64 18, .string n4.1, .string ⟨#[]⟩, .string ⟨#[]⟩, .string ⟨#[]⟩, .string ⟨#[]⟩, .slice none 0 0, .int .i64 0, .slice none 0 0, .slice none 0 0, .int .i64 p.1, .int .i64 p.2], .int .i64 r6]) (by simp [results, Tryz.results99, go_sem, k0, k1, k2, k3, k4, k5, k6, k7, k8, k9, k10, k11]) rfl ?_
   exact HO.out)}
 have e0 := Bf _ [116, 104, 114, 111, 119] h0
 clear h0
 by_cases h1 : W = ⟨#[114, 101, 116, 117, 114, 110]⟩
 {have e1 := lit _ [114, 101, 116, 117, 114, 110] h1
  have hlt := kq (by rw [h1]; decide)
  clear h1
  have p0 := Ab HA2.out 0
  have f0 := Ad HA2.out 0
  obtain ⟨w8, hw8, hb, hc⟩ := Ai HA2.out 0 (.int .i64 22)
  simp only [s4, s5, s6] at hb
  have HA8 := Aa hb
  have HT8 := Aa (HT2.out.new hc (by omega) (fun e => HN2.out e.symm))
  have HB8 := Aa (hc.keep _ _ HB2.out (Bm (by omega)))
  have HC8 := Aa (Ao HC2.out hc (by omega))
  have HD8 := Aa (Nat.le_trans HD2.out hc.size)
  clear hb hc
  go_upto_region 10 with fail
  clear hw8 p0 f0
  have hwv := A6 HT8.out (z + 1)
  obtain ⟨V, hV⟩ := Ax (Ar L (z + 1))
  rw [hV] at hwv
  clear hV
  by_cases hv : V = ⟨#[59]⟩
  {have ev := lit _ [59] hv
   have en : (V.toList != [59]) = false := by rw [bne, ev]; rfl
   clear hv
   go_wp2_with fail
   refine hwv.mono ?_
   rintro e wx ⟨rfl, rfl⟩
   clear hwv
   go_upto_region 12 with fail
   have hk := Da (HT8.out.no ((Ch.refl No w8).drew)) (z := z + 1) (by omega) (by omega) ⟨#[59]⟩ (by decide)
   obtain ⟨r9, hn⟩ : ∃ n, Gs L (z + 1) ⟨#[59]⟩ = n := ⟨_, rfl⟩
   rw [hn] at hk
   clear hn
   have HSa := Aa (Ap HA8.out)
   have HSd := Aa (O5 HSa.out)
   go_region_held3 (fun w' => w'.cell? ⟨w1.heap.size, 0, none⟩ = some (.int .i64 22) ∧ w'.cell? ⟨w1.heap.size, 1, none⟩ = some (.string ⟨#[]⟩) ∧ w'.cell? ⟨w1.heap.size, 2, none⟩ = some (.string ⟨#[]⟩) ∧ w'.cell? ⟨w1.heap.size, 3, none⟩ = some (.string ⟨#[]⟩) ∧ w'.cell? ⟨w1.heap.size, 4, none⟩ = some (.string ⟨#[]⟩) ∧ w'.cell? ⟨w1.heap.size, 5, none⟩ = some (.string ⟨#[]⟩) ∧ w'.cell? ⟨w1.heap.size, 6, none⟩ = some (.slice none 0 0) ∧ w'.cell? ⟨w1.heap.size, 7, none⟩ = some (.int .i64 0) ∧ w'.cell? ⟨w1.heap.size, 8, none⟩ = some (.slice none 0 0) ∧ w'.cell? ⟨w1.heap.size, 9, none⟩ = some (.slice none 0 0) ∧ w'.cell? ⟨w1.heap.size, 10, none⟩ = some (.int .i64 p.1) ∧ w'.cell? ⟨w1.heap.size, 11, none⟩ = some (.int .i64 p.2)) (first | with_reducible exact HSa.out | with_reducible exact HSd.out | with_reducible exact HSb.out | with_reducible exact HSc.out | go_keep) (first | (go_at_call 29; refine hk.mono ?_; rintro e w9 ⟨rfl, c9, d9, hT9, hc7, hq⟩; have ha7 := hc7.keep _ _ HA8.out (fun e => HN2.out e); have HSb := Aa (Ap ha7); have HC9 := Aa ((HC8.out.drew).trans hc7); have HT9 := Aa hT9; have HQ9 := Aa (show r9 = -1 ∨ (0 ≤ z ∧ z < r9 ∧ r9 ≤ L.length ∧ c9 = c ∧ d9 = d) from by omega); have HB9 := Aa (hc7.keep _ _ HB8.out (fun e => ne1 e)); have hb7 := HB9.out; obtain ⟨q0, q1, q2, q3, q4, q5, q6, q7, q8, q9, q10, q11⟩ := Ap hb7; obtain ⟨f0, f1, f2, f3, f4, f5, f6, f7, f8, f9, f10, f11⟩ := E5 hb7; obtain ⟨w10, hw8, hb8, hfc⟩ := Bj HB9.out (.int .i64 22) (.string ⟨#[]⟩) (.string ⟨#[]⟩) (.string ⟨#[]⟩) (.string ⟨#[]⟩) (.string ⟨#[]⟩) (.slice none 0 0) (.int .i64 0) (.slice none 0 0) (.slice none 0 0) (.int .i64 p.1) (.int .i64 p.2); have ha8 := hfc.keep _ _ ha7 (Bm (by omega)); have HSc := Aa (Ap ha8); have HFB := Aa hb8; have HFC := Aa hfc; clear hT9 hc7 ha7 hb7 hb8 hfc ha8 hq))
   all_goals (
    go_wp2_with fail
    have hfc := HFC.out
    try rw [hw8]
    obtain ⟨k0, k1, k2, k3, k4, k5, k6, k7, k8, k9, k10, k11⟩ := Ap HFB.out
    have HO := Aa (show E6 w0 w g L a b c d z (.returned (.tuple #[.agg #[.int .i64 22, .string ⟨#[]⟩, .string ⟨#[]⟩, .string ⟨#[]⟩, .string ⟨#[]⟩, .string ⟨#[]⟩, .slice none 0 0, .int .i64 0, .slice none 0 0, .slice none 0 0, .int .i64 p.1, .int .i64 p.2], .int .i64 r9])) w10 from
     ⟨⟨⟨22, ⟨#[]⟩, ⟨#[]⟩, ⟨#[]⟩, ⟨#[]⟩, ⟨#[]⟩, 0, p.1, p.2⟩, none, [], 0, none, 0, none, 0⟩, .nil, .nil, r9, rfl, (Bo.one (lo := lo) (show Bb ⟨#[]⟩ ⟨#[]⟩ ⟨#[]⟩ ⟨#[]⟩ ⟨#[]⟩ from ⟨Nat.zero_le _, Nat.zero_le _, Nat.zero_le _, Nat.zero_le _, Nat.zero_le _⟩) (.nil _ _) (.nil _ _) (.nil _ _)).mono (fun k _ hk => Nat.le_trans (Nat.le_of_lt hBlo) hk), c9, d9, HT9.out.new hfc (by omega) (fun e => ne1 e.symm), Ao HC9.out hfc (by omega), HQ9.out⟩)
    refine bodyPost_ret (v := .tuple #[.agg #[.int .i64 22, .string ⟨#[]⟩, .string ⟨#[]⟩, .string ⟨#[]⟩, .string ⟨#[]⟩, .string ⟨#[]⟩, .slice none 0 0, .int .i64 0, .slice none 0 0, .slice none 0 0, .int .i64 p.1, .int .i64 p.2], .int .i64 r9]) (by simp [results, Tryz.results99, go_sem, k0, k1, k2, k3, k4, k5, k6, k7, k8, k9, k10, k11]) rfl ?_
    exact HO.out)}
  {have ev := Bf _ [59] hv
   have en : (V.toList != [59]) = true := by rw [bne, ev]; rfl
   clear hv
   go_wp2_with fail
   refine hwv.mono ?_
   rintro e wx ⟨rfl, rfl⟩
   clear hwv
   have hk := Dz HT8.out HL.out (z := z + 1) (by omega)
   have hz11 := Bw HL.out (z + 1)
   obtain ⟨n11, hn⟩ : ∃ n, Gm L (z + 1) = n := ⟨_, rfl⟩
   rw [hn] at hk hz11
   clear hn
   go_wp2_with fail
   refine hk.mono ?_
   rintro e w11 ⟨rfl, c11, d11, hT11, hc, hq⟩
   have HA11 := Aa (hc.keep _ _ HA8.out (fun e => HN2.out e))
   have HB11 := Aa (hc.keep _ _ HB8.out (fun e => ne1 e))
   have HC11 := Aa (HC8.out.trans hc)
   have HD11 := Aa (Nat.le_trans HD8.out hc.size)
   have HT11 := Aa hT11
   have HQ11 := Aa (show n11.2 = -1 ∨ (0 ≤ z ∧ z < n11.2 ∧ n11.2 ≤ L.length ∧ c11 = c ∧ d11 = d) from by omega)
   have hb11 : -1 ≤ n11.2 ∧ n11.2 ≤ L.length := by have h1 := HQ11.out; omega
   clear hc hq hk hT11
   have p1 := Ab HA11.out 1
   have f1 := Ad HA11.out 1
   obtain ⟨w12, hw12, hb, hc⟩ := Ai HA11.out 1 (.string n11.1)
   simp only [s4, s5, s6] at hb
   have HA12 := Aa hb
   have HT12 := Aa (HT11.out.new hc (by omega) (fun e => HN2.out e.symm))
   have HB12 := Aa (hc.keep _ _ HB11.out (Bm (by omega)))
   have HC12 := Aa (Ao HC11.out hc (by omega))
   have HD12 := Aa (Nat.le_trans HD11.out hc.size)
   have HQ12 := Aa (show n11.2 = -1 ∨ (0 ≤ z ∧ z < n11.2 ∧ n11.2 ≤ L.length ∧ c11 = c ∧ d11 = d) from HQ11.out)
   clear hb hc
   go_upto_region 12 with fail
   clear hw12 p1 f1
   have hk := Da (HT12.out.no ((Ch.refl No w12).drew)) (z := n11.2) (by omega) (by omega) ⟨#[59]⟩ (by decide)
   obtain ⟨r13, hn⟩ : ∃ n, Gs L (n11.2) ⟨#[59]⟩ = n := ⟨_, rfl⟩
   rw [hn] at hk
   clear hn
   have HSa := Aa (Ap HA12.out)
   have HSd := Aa (O5 HSa.out)
   go_region_held3 (fun w' => w'.cell? ⟨w1.heap.size, 0, none⟩ = some (.int .i64 22) ∧ w'.cell? ⟨w1.heap.size, 1, none⟩ = some (.string n11.1) ∧ w'.cell? ⟨w1.heap.size, 2, none⟩ = some (.string ⟨#[]⟩) ∧ w'.cell? ⟨w1.heap.size, 3, none⟩ = some (.string ⟨#[]⟩) ∧ w'.cell? ⟨w1.heap.size, 4, none⟩ = some (.string ⟨#[]⟩) ∧ w'.cell? ⟨w1.heap.size, 5, none⟩ = some (.string ⟨#[]⟩) ∧ w'.cell? ⟨w1.heap.size, 6, none⟩ = some (.slice none 0 0) ∧ w'.cell? ⟨w1.heap.size, 7, none⟩ = some (.int .i64 0) ∧ w'.cell? ⟨w1.heap.size, 8, none⟩ = some (.slice none 0 0) ∧ w'.cell? ⟨w1.heap.size, 9, none⟩ = some (.slice none 0 0) ∧ w'.cell? ⟨w1.heap.size, 10, none⟩ = some (.int .i64 p.1) ∧ w'.cell? ⟨w1.heap.size, 11, none⟩ = some (.int .i64 p.2)) (first | with_reducible exact HSa.out | with_reducible exact HSd.out | with_reducible exact HSb.out | with_reducible exact HSc.out | go_keep) (first | (go_at_call 29; refine hk.mono ?_; rintro e w13 ⟨rfl, c13, d13, hT13, hc7, hq⟩; have ha7 := hc7.keep _ _ HA12.out (fun e => HN2.out e); have HSb := Aa (Ap ha7); have HC13 := Aa ((HC12.out.drew).trans hc7); have HT13 := Aa hT13; have HQ13 := Aa (show r13 = -1 ∨ (0 ≤ z ∧ z < r13 ∧ r13 ≤ L.length ∧ c13 = c ∧ d13 = d) from by have h1 := HQ12.out; omega); have HB13 := Aa (hc7.keep _ _ HB12.out (fun e => ne1 e)); have hb7 := HB13.out; obtain ⟨q0, q1, q2, q3, q4, q5, q6, q7, q8, q9, q10, q11⟩ := Ap hb7; obtain ⟨f0, f1, f2, f3, f4, f5, f6, f7, f8, f9, f10, f11⟩ := E5 hb7; obtain ⟨w14, hw8, hb8, hfc⟩ := Bj HB13.out (.int .i64 22) (.string n11.1) (.string ⟨#[]⟩) (.string ⟨#[]⟩) (.string ⟨#[]⟩) (.string ⟨#[]⟩) (.slice none 0 0) (.int .i64 0) (.slice none 0 0) (.slice none 0 0) (.int .i64 p.1) (.int .i64 p.2); have ha8 := hfc.keep _ _ ha7 (Bm (by omega)); have HSc := Aa (Ap ha8); have HFB := Aa hb8; have HFC := Aa hfc; clear hT13 hc7 ha7 hb7 hb8 hfc ha8 hq))
   all_goals (
    go_wp2_with fail
    have hfc := HFC.out
    try rw [hw8]
    obtain ⟨k0, k1, k2, k3, k4, k5, k6, k7, k8, k9, k10, k11⟩ := Ap HFB.out
    have HO := Aa (show E6 w0 w g L a b c d z (.returned (.tuple #[.agg #[.int .i64 22, .string n11.1, .string ⟨#[]⟩, .string ⟨#[]⟩, .string ⟨#[]⟩, .string ⟨#[]⟩, .slice none 0 0, .int .i64 0, .slice none 0 0, .slice none 0 0, .int .i64 p.1, .int .i64 p.2], .int .i64 r13])) w14 from
     ⟨⟨⟨22, n11.1, ⟨#[]⟩, ⟨#[]⟩, ⟨#[]⟩, ⟨#[]⟩, 0, p.1, p.2⟩, none, [], 0, none, 0, none, 0⟩, .nil, .nil, r13, rfl, (Bo.one (lo := lo) (show Bb n11.1 ⟨#[]⟩ ⟨#[]⟩ ⟨#[]⟩ ⟨#[]⟩ from ⟨by omega, Nat.zero_le _, Nat.zero_le _, Nat.zero_le _, Nat.zero_le _⟩) (.nil _ _) (.nil _ _) (.nil _ _)).mono (fun k _ hk => Nat.le_trans (Nat.le_of_lt hBlo) hk), c13, d13, HT13.out.new hfc (by omega) (fun e => ne1 e.symm), Ao HC13.out hfc (by omega), HQ13.out⟩)
    refine bodyPost_ret (v := .tuple #[.agg #[.int .i64 22, .string n11.1, .string ⟨#[]⟩, .string ⟨#[]⟩, .string ⟨#[]⟩, .string ⟨#[]⟩, .slice none 0 0, .int .i64 0, .slice none 0 0, .slice none 0 0, .int .i64 p.1, .int .i64 p.2], .int .i64 r13]) (by simp [results, Tryz.results99, go_sem, k0, k1, k2, k3, k4, k5, k6, k7, k8, k9, k10, k11]) rfl ?_
    exact HO.out)}}
 have e1 := Bf _ [114, 101, 116, 117, 114, 110] h1
 clear h1
 by_cases h2 : W = ⟨#[116, 114, 121]⟩
 {have e2 := lit _ [116, 114, 121] h2
  have hlt := kq (by rw [h2]; decide)
  clear h2
  have p0 := Ab HA2.out 0
  have f0 := Ad HA2.out 0
  obtain ⟨w15, hw15, hb, hc⟩ := Ai HA2.out 0 (.int .i64 19)
  simp only [s4, s5, s6] at hb
  have HA15 := Aa hb
  have HT15 := Aa (HT2.out.new hc (by omega) (fun e => HN2.out e.symm))
  have HB15 := Aa (hc.keep _ _ HB2.out (Bm (by omega)))
  have HC15 := Aa (Ao HC2.out hc (by omega))
  have HD15 := Aa (Nat.le_trans HD2.out hc.size)
  clear hb hc
  have hk := HI.out HT15.out HL.out (z := z + 1) (by omega) (by omega)
  go_wp2_with fail
  refine hk.mono ?_
  rintro e w16 ⟨t16, ba16, bc16, r16, rfl, hb, c16, d16, hT16, hc, hq⟩
  have HX16 := Aa (hb.up HD15.out)
  clear hb
  have HA16 := Aa (hc.keep _ _ HA15.out (fun e => HN2.out e))
  have HB16 := Aa (hc.keep _ _ HB15.out (fun e => ne1 e))
  have HC16 := Aa (HC15.out.trans hc)
  have HD16 := Aa (Nat.le_trans HD15.out hc.size)
  have HT16 := Aa hT16
  have HQ16 := Aa (show r16 = -1 ∨ (0 ≤ z ∧ z < r16 ∧ r16 ≤ L.length ∧ c16 = c ∧ d16 = d) from by omega)
  have hb16 : -1 ≤ r16 ∧ r16 ≤ L.length := by have h1 := HQ16.out; omega
  clear hc hq hk hT16
  clear hw15 p0 f0
  have HK16 := HX16
  have p8 := Ab HA16.out 8
  have f8 := Ad HA16.out 8
  obtain ⟨w17, hw17, hb, hc⟩ := Ai HA16.out 8 (.slice ba16 t16.len bc16)
  simp only [s4, s5, s6] at hb
  have HA17 := Aa hb
  have HT17 := Aa (HT16.out.new hc (by omega) (fun e => HN2.out e.symm))
  have HB17 := Aa (hc.keep _ _ HB16.out (Bm (by omega)))
  have HC17 := Aa (Ao HC16.out hc (by omega))
  have HD17 := Aa (Nat.le_trans HD16.out hc.size)
  have HK17 := Aa (HK16.out.tb hc hAlo)
  have HQ17 := Aa (show r16 = -1 ∨ (0 ≤ z ∧ z < r16 ∧ r16 ≤ L.length ∧ c16 = c ∧ d16 = d) from HQ16.out)
  clear hb hc
  have hk := Acu (HT17.out.no ((Ch.refl No _).alloc (.cells #[.string ⟨#[99, 97, 116, 99, 104]⟩, .string ⟨#[40]⟩] 9))) (z := r16) (by omega) (by omega) (Ah.one (w := w17) [⟨#[99, 97, 116, 99, 104]⟩, ⟨#[40]⟩] (lb rfl)) (by decide)
  obtain ⟨r18, hn⟩ : ∃ n, muN L (r16) ⟨#[99, 97, 116, 99, 104]⟩ ⟨#[40]⟩ = n := ⟨_, rfl⟩
  rw [hn] at hk
  clear hn
  go_wp2_with fail
  refine hk.mono ?_
  rintro e w18 ⟨rfl, c18, d18, hT18, hc, hq⟩
  replace hc := (Ce (S := Tb g) ((Ch.refl No _).alloc (.cells #[.string ⟨#[99, 97, 116, 99, 104]⟩, .string ⟨#[40]⟩] 9))).trans hc
  have HA18 := Aa (hc.keep _ _ HA17.out (fun e => HN2.out e))
  have HB18 := Aa (hc.keep _ _ HB17.out (fun e => ne1 e))
  have HC18 := Aa (HC17.out.trans hc)
  have HD18 := Aa (Nat.le_trans HD17.out hc.size)
  have HT18 := Aa hT18
  have HK18 := Aa (HK17.out.tb hc hglo)
  have HQ18 := Aa (show r18 = -1 ∨ (0 ≤ z ∧ z < r18 ∧ r18 ≤ L.length ∧ c18 = c ∧ d18 = d) from by have h1 := HQ17.out; omega)
  have hb18 : -1 ≤ r18 ∧ r18 ≤ L.length := by have h1 := HQ18.out; omega
  clear hc hq hk hT18
  clear hw17 p8 f8
  have hk := Dz HT18.out HL.out (z := r18) (by omega)
  have hz19 := Bw HL.out (r18)
  obtain ⟨n19, hn⟩ : ∃ n, Gm L (r18) = n := ⟨_, rfl⟩
  rw [hn] at hk hz19
  clear hn
  go_wp2_with fail
  refine hk.mono ?_
  rintro e w19 ⟨rfl, c19, d19, hT19, hc, hq⟩
  have HA19 := Aa (hc.keep _ _ HA18.out (fun e => HN2.out e))
  have HB19 := Aa (hc.keep _ _ HB18.out (fun e => ne1 e))
  have HC19 := Aa (HC18.out.trans hc)
  have HD19 := Aa (Nat.le_trans HD18.out hc.size)
  have HT19 := Aa hT19
  have HK19 := Aa (HK18.out.tb hc hglo)
  have HQ19 := Aa (show n19.2 = -1 ∨ (0 ≤ z ∧ z < n19.2 ∧ n19.2 ≤ L.length ∧ c19 = c ∧ d19 = d) from by have h1 := HQ18.out; omega)
  have hb19 : -1 ≤ n19.2 ∧ n19.2 ≤ L.length := by have h1 := HQ19.out; omega
  clear hc hq hk hT19
  have p4 := Ab HA19.out 4
  have f4 := Ad HA19.out 4
  obtain ⟨w20, hw20, hb, hc⟩ := Ai HA19.out 4 (.string n19.1)
  simp only [s4, s5, s6] at hb
  have HA20 := Aa hb
  have HT20 := Aa (HT19.out.new hc (by omega) (fun e => HN2.out e.symm))
  have HB20 := Aa (hc.keep _ _ HB19.out (Bm (by omega)))
  have HC20 := Aa (Ao HC19.out hc (by omega))
  have HD20 := Aa (Nat.le_trans HD19.out hc.size)
  have HK20 := Aa (HK19.out.tb hc hAlo)
  have HQ20 := Aa (show n19.2 = -1 ∨ (0 ≤ z ∧ z < n19.2 ∧ n19.2 ≤ L.length ∧ c19 = c ∧ d19 = d) from HQ19.out)
  clear hb hc
  have hk := Dz HT20.out HL.out (z := n19.2) (by omega)
  have hz21 := Bw HL.out (n19.2)
  obtain ⟨n21, hn⟩ : ∃ n, Gm L (n19.2) = n := ⟨_, rfl⟩
  rw [hn] at hk hz21
  clear hn
  go_wp2_with fail
  refine hk.mono ?_
  rintro e w21 ⟨rfl, c21, d21, hT21, hc, hq⟩
  have HA21 := Aa (hc.keep _ _ HA20.out (fun e => HN2.out e))
  have HB21 := Aa (hc.keep _ _ HB20.out (fun e => ne1 e))
  have HC21 := Aa (HC20.out.trans hc)
  have HD21 := Aa (Nat.le_trans HD20.out hc.size)
  have HT21 := Aa hT21
  have HK21 := Aa (HK20.out.tb hc hglo)
  have HQ21 := Aa (show n21.2 = -1 ∨ (0 ≤ z ∧ z < n21.2 ∧ n21.2 ≤ L.length ∧ c21 = c ∧ d21 = d) from by have h1 := HQ20.out; omega)
  have hb21 : -1 ≤ n21.2 ∧ n21.2 ≤ L.length := by have h1 := HQ21.out; omega
  clear hc hq hk hT21
  clear hw20 p4 f4
  have p1 := Ab HA21.out 1
  have f1 := Ad HA21.out 1
  obtain ⟨w22, hw22, hb, hc⟩ := Ai HA21.out 1 (.string n21.1)
  simp only [s4, s5, s6] at hb
  have HA22 := Aa hb
  have HT22 := Aa (HT21.out.new hc (by omega) (fun e => HN2.out e.symm))
  have HB22 := Aa (hc.keep _ _ HB21.out (Bm (by omega)))
  have HC22 := Aa (Ao HC21.out hc (by omega))
  have HD22 := Aa (Nat.le_trans HD21.out hc.size)
  have HK22 := Aa (HK21.out.tb hc hAlo)
  have HQ22 := Aa (show n21.2 = -1 ∨ (0 ≤ z ∧ z < n21.2 ∧ n21.2 ≤ L.length ∧ c21 = c ∧ d21 = d) from HQ21.out)
  clear hb hc
  have hk := Da HT22.out (z := n21.2) (by omega) (by omega) ⟨#[41]⟩ (by decide)
  obtain ⟨r23, hn⟩ : ∃ n, Gs L (n21.2) ⟨#[41]⟩ = n := ⟨_, rfl⟩
  rw [hn] at hk
  clear hn
  go_wp2_with fail
  refine hk.mono ?_
  rintro e w23 ⟨rfl, c23, d23, hT23, hc, hq⟩
  have HA23 := Aa (hc.keep _ _ HA22.out (fun e => HN2.out e))
  have HB23 := Aa (hc.keep _ _ HB22.out (fun e => ne1 e))
  have HC23 := Aa (HC22.out.trans hc)
  have HD23 := Aa (Nat.le_trans HD22.out hc.size)
  have HT23 := Aa hT23
  have HK23 := Aa (HK22.out.tb hc hglo)
  have HQ23 := Aa (show r23 = -1 ∨ (0 ≤ z ∧ z < r23 ∧ r23 ≤ L.length ∧ c23 = c ∧ d23 = d) from by have h1 := HQ22.out; omega)
  have hb23 : -1 ≤ r23 ∧ r23 ≤ L.length := by have h1 := HQ23.out; omega
  clear hc hq hk hT23
  clear hw22 p1 f1
  have hk := HI.out HT23.out HL.out (z := r23) (by omega) (by omega)
  go_wp2_with fail
  refine hk.mono ?_
  rintro e w24 ⟨t24, ba24, bc24, r24, rfl, hb, c24, d24, hT24, hc, hq⟩
  have HX24 := Aa (hb.up HD23.out)
  clear hb
  have HA24 := Aa (hc.keep _ _ HA23.out (fun e => HN2.out e))
  have HB24 := Aa (hc.keep _ _ HB23.out (fun e => ne1 e))
  have HC24 := Aa (HC23.out.trans hc)
  have HD24 := Aa (Nat.le_trans HD23.out hc.size)
  have HT24 := Aa hT24
  have HK24 := Aa (HK23.out.tb hc hglo)
  have HQ24 := Aa (show r24 = -1 ∨ (0 ≤ z ∧ z < r24 ∧ r24 ≤ L.length ∧ c24 = c ∧ d24 = d) from by have h1 := HQ23.out; omega)
  have hb24 : -1 ≤ r24 ∧ r24 ≤ L.length := by have h1 := HQ24.out; omega
  clear hc hq hk hT24
  have HO24 := HX24
  have p9 := Ab HA24.out 9
  have f9 := Ad HA24.out 9
  obtain ⟨w25, hw25, hb, hc⟩ := Ai HA24.out 9 (.slice ba24 t24.len bc24)
  simp only [s4, s5, s6] at hb
  have HA25 := Aa hb
  have HT25 := Aa (HT24.out.new hc (by omega) (fun e => HN2.out e.symm))
  have HB25 := Aa (hc.keep _ _ HB24.out (Bm (by omega)))
  have HC25 := Aa (Ao HC24.out hc (by omega))
  have HD25 := Aa (Nat.le_trans HD24.out hc.size)
  have HK25 := Aa (HK24.out.tb hc hAlo)
  have HO25 := Aa (HO24.out.tb hc hAlo)
  have HQ25 := Aa (show r24 = -1 ∨ (0 ≤ z ∧ z < r24 ∧ r24 ≤ L.length ∧ c24 = c ∧ d24 = d) from HQ24.out)
  clear hb hc
  go_upto_region 21 with fail
  clear hw25 p9 f9
  have ha := HA25.out
  have hb := HB25.out
  obtain ⟨p0, p1, p2, p3, p4, p5, p6, p7, p8, p9, p10, p11⟩ := Ap ha
  obtain ⟨f0, f1, f2, f3, f4, f5, f6, f7, f8, f9, f10, f11⟩ := E5 hb
  obtain ⟨q0, q1, q2, q3, q4, q5, q6, q7, q8, q9, q10, q11⟩ := Ap hb
  obtain ⟨w26, hwf, hfb, hfc⟩ := Bj hb (.int .i64 19) (.string n21.1) (.string ⟨#[]⟩) (.string ⟨#[]⟩) (.string n19.1) (.string ⟨#[]⟩) (.slice none 0 0) (.int .i64 0) (.slice ba16 t16.len bc16) (.slice ba24 t24.len bc24) (.int .i64 p.1) (.int .i64 p.2)
  obtain ⟨k0, k1, k2, k3, k4, k5, k6, k7, k8, k9, k10, k11⟩ := Ap hfb
  have HO := Aa (show E6 w0 w g L a b c d z (.returned (.tuple #[.agg #[.int .i64 19, .string n21.1, .string ⟨#[]⟩, .string ⟨#[]⟩, .string n19.1, .string ⟨#[]⟩, .slice none 0 0, .int .i64 0, .slice ba16 t16.len bc16, .slice ba24 t24.len bc24, .int .i64 p.1, .int .i64 p.2], .int .i64 r24])) w26 from
   ⟨⟨⟨19, n21.1, ⟨#[]⟩, ⟨#[]⟩, n19.1, ⟨#[]⟩, 0, p.1, p.2⟩, none, [], 0, ba16, bc16, ba24, bc24⟩, t16, t24, r24, rfl, (Bo.one (lo := lo) (show Bb n21.1 ⟨#[]⟩ ⟨#[]⟩ n19.1 ⟨#[]⟩ from ⟨by omega, Nat.zero_le _, Nat.zero_le _, by omega, Nat.zero_le _⟩) (.nil _ _) (HK25.out.tb hfc hBlo) (HO25.out.tb hfc hBlo)).mono (fun k _ hk => Nat.le_trans (Nat.le_of_lt hBlo) hk), c24, d24, HT25.out.new hfc (by omega) (fun e => ne1 e.symm), Ao HC25.out hfc (by omega), HQ25.out⟩)
  clear ha hb hfb
  go_wp2_with fail
  try rw [hwf]
  refine bodyPost_ret (v := .tuple #[.agg #[.int .i64 19, .string n21.1, .string ⟨#[]⟩, .string ⟨#[]⟩, .string n19.1, .string ⟨#[]⟩, .slice none 0 0, .int .i64 0, .slice ba16 t16.len bc16, .slice ba24 t24.len bc24, .int .i64 p.1, .int .i64 p.2], .int .i64 r24]) (by simp [results, Tryz.results99, go_sem, k0, k1, k2, k3, k4, k5, k6, k7, k8, k9, k10, k11]) rfl ?_
  exact HO.out}
 have e2 := Bf _ [116, 114, 121] h2
 clear h2
 by_cases h3 : W = ⟨#[105, 102]⟩
 {have e3 := lit _ [105, 102] h3
  have e4 := Bf W [119, 104, 105, 108, 101] (by rw [h3]; decide)
  have hlt := kq (by rw [h3]; decide)
  clear h3
  have hwv := A6 HT2.out z
  rw [HW.out] at hwv
  go_wp2_with fail
  refine hwv.mono ?_
  rintro e wx ⟨rfl, rfl⟩
  clear hwv
  have hk := Da HT2.out (z := z + 1) (by omega) (by omega) ⟨#[40]⟩ (by decide)
  obtain ⟨r27, hn⟩ : ∃ n, Gs L (z + 1) ⟨#[40]⟩ = n := ⟨_, rfl⟩
  rw [hn] at hk
  clear hn
  go_wp2_with fail
  refine hk.mono ?_
  rintro e w27 ⟨rfl, c27, d27, hT27, hc, hq⟩
  have HA27 := Aa (hc.keep _ _ HA2.out (fun e => HN2.out e))
  have HB27 := Aa (hc.keep _ _ HB2.out (fun e => ne1 e))
  have HC27 := Aa (HC2.out.trans hc)
  have HD27 := Aa (Nat.le_trans HD2.out hc.size)
  have HT27 := Aa hT27
  have HQ27 := Aa (show r27 = -1 ∨ (0 ≤ z ∧ z < r27 ∧ r27 ≤ L.length ∧ c27 = c ∧ d27 = d) from by omega)
  have hb27 : -1 ≤ r27 ∧ r27 ≤ L.length := by have h1 := HQ27.out; omega
  clear hc hq hk hT27
  have hk := Dz HT27.out HL.out (z := r27) (by omega)
  have hz28 := Bw HL.out (r27)
  obtain ⟨n28, hn⟩ : ∃ n, Gm L (r27) = n := ⟨_, rfl⟩
  rw [hn] at hk hz28
  clear hn
  go_wp2_with fail
  refine hk.mono ?_
  rintro e w28 ⟨rfl, c28, d28, hT28, hc, hq⟩
  have HA28 := Aa (hc.keep _ _ HA27.out (fun e => HN2.out e))
  have HB28 := Aa (hc.keep _ _ HB27.out (fun e => ne1 e))
  have HC28 := Aa (HC27.out.trans hc)
  have HD28 := Aa (Nat.le_trans HD27.out hc.size)
  have HT28 := Aa hT28
  have HQ28 := Aa (show n28.2 = -1 ∨ (0 ≤ z ∧ z < n28.2 ∧ n28.2 ≤ L.length ∧ c28 = c ∧ d28 = d) from by have h1 := HQ27.out; omega)
  have hb28 : -1 ≤ n28.2 ∧ n28.2 ≤ L.length := by have h1 := HQ28.out; omega
  clear hc hq hk hT28
  have p2 := Ab HA28.out 2
  have f2 := Ad HA28.out 2
  obtain ⟨w29, hw29, hb, hc⟩ := Ai HA28.out 2 (.string n28.1)
  simp only [s4, s5, s6] at hb
  have HA29 := Aa hb
  have HT29 := Aa (HT28.out.new hc (by omega) (fun e => HN2.out e.symm))
  have HB29 := Aa (hc.keep _ _ HB28.out (Bm (by omega)))
  have HC29 := Aa (Ao HC28.out hc (by omega))
  have HD29 := Aa (Nat.le_trans HD28.out hc.size)
  have HQ29 := Aa (show n28.2 = -1 ∨ (0 ≤ z ∧ z < n28.2 ∧ n28.2 ≤ L.length ∧ c28 = c ∧ d28 = d) from HQ28.out)
  clear hb hc
  have hk := Da HT29.out (z := n28.2) (by omega) (by omega) ⟨#[60]⟩ (by decide)
  obtain ⟨r30, hn⟩ : ∃ n, Gs L (n28.2) ⟨#[60]⟩ = n := ⟨_, rfl⟩
  rw [hn] at hk
  clear hn
  go_wp2_with fail
  refine hk.mono ?_
  rintro e w30 ⟨rfl, c30, d30, hT30, hc, hq⟩
  have HA30 := Aa (hc.keep _ _ HA29.out (fun e => HN2.out e))
  have HB30 := Aa (hc.keep _ _ HB29.out (fun e => ne1 e))
  have HC30 := Aa (HC29.out.trans hc)
  have HD30 := Aa (Nat.le_trans HD29.out hc.size)
  have HT30 := Aa hT30
  have HQ30 := Aa (show r30 = -1 ∨ (0 ≤ z ∧ z < r30 ∧ r30 ≤ L.length ∧ c30 = c ∧ d30 = d) from by have h1 := HQ29.out; omega)
  have hb30 : -1 ≤ r30 ∧ r30 ≤ L.length := by have h1 := HQ30.out; omega
  clear hc hq hk hT30
  clear hw29 p2 f2
  have hk := Dz HT30.out HL.out (z := r30) (by omega)
  have hz31 := Bw HL.out (r30)
  obtain ⟨n31, hn⟩ : ∃ n, Gm L (r30) = n := ⟨_, rfl⟩
  rw [hn] at hk hz31
  clear hn
  go_wp2_with fail
  refine hk.mono ?_
  rintro e w31 ⟨rfl, c31, d31, hT31, hc, hq⟩
  have HA31 := Aa (hc.keep _ _ HA30.out (fun e => HN2.out e))
  have HB31 := Aa (hc.keep _ _ HB30.out (fun e => ne1 e))
  have HC31 := Aa (HC30.out.trans hc)
  have HD31 := Aa (Nat.le_trans HD30.out hc.size)
  have HT31 := Aa hT31
  have HQ31 := Aa (show n31.2 = -1 ∨ (0 ≤ z ∧ z < n31.2 ∧ n31.2 ≤ L.length ∧ c31 = c ∧ d31 = d) from by have h1 := HQ30.out; omega)
  have hb31 : -1 ≤ n31.2 ∧ n31.2 ≤ L.length := by have h1 := HQ31.out; omega
  clear hc hq hk hT31
  have p3 := Ab HA31.out 3
  have f3 := Ad HA31.out 3
  obtain ⟨w32, hw32, hb, hc⟩ := Ai HA31.out 3 (.string n31.1)
  simp only [s4, s5, s6] at hb
  have HA32 := Aa hb
  have HT32 := Aa (HT31.out.new hc (by omega) (fun e => HN2.out e.symm))
  have HB32 := Aa (hc.keep _ _ HB31.out (Bm (by omega)))
  have HC32 := Aa (Ao HC31.out hc (by omega))
  have HD32 := Aa (Nat.le_trans HD31.out hc.size)
  have HQ32 := Aa (show n31.2 = -1 ∨ (0 ≤ z ∧ z < n31.2 ∧ n31.2 ≤ L.length ∧ c31 = c ∧ d31 = d) from HQ31.out)
  clear hb hc
  have hk := Da HT32.out (z := n31.2) (by omega) (by omega) ⟨#[41]⟩ (by decide)
  obtain ⟨r33, hn⟩ : ∃ n, Gs L (n31.2) ⟨#[41]⟩ = n := ⟨_, rfl⟩
  rw [hn] at hk
  clear hn
  go_wp2_with fail
  refine hk.mono ?_
  rintro e w33 ⟨rfl, c33, d33, hT33, hc, hq⟩
  have HA33 := Aa (hc.keep _ _ HA32.out (fun e => HN2.out e))
  have HB33 := Aa (hc.keep _ _ HB32.out (fun e => ne1 e))
  have HC33 := Aa (HC32.out.trans hc)
  have HD33 := Aa (Nat.le_trans HD32.out hc.size)
  have HT33 := Aa hT33
  have HQ33 := Aa (show r33 = -1 ∨ (0 ≤ z ∧ z < r33 ∧ r33 ≤ L.length ∧ c33 = c ∧ d33 = d) from by have h1 := HQ32.out; omega)
  have hb33 : -1 ≤ r33 ∧ r33 ≤ L.length := by have h1 := HQ33.out; omega
  clear hc hq hk hT33
  clear hw32 p3 f3
  have hk := HI.out HT33.out HL.out (z := r33) (by omega) (by omega)
  go_wp2_with fail
  refine hk.mono ?_
  rintro e w34 ⟨t34, ba34, bc34, r34, rfl, hb, c34, d34, hT34, hc, hq⟩
  have HX34 := Aa (hb.up HD33.out)
  clear hb
  have HA34 := Aa (hc.keep _ _ HA33.out (fun e => HN2.out e))
  have HB34 := Aa (hc.keep _ _ HB33.out (fun e => ne1 e))
  have HC34 := Aa (HC33.out.trans hc)
  have HD34 := Aa (Nat.le_trans HD33.out hc.size)
  have HT34 := Aa hT34
  have HQ34 := Aa (show r34 = -1 ∨ (0 ≤ z ∧ z < r34 ∧ r34 ≤ L.length ∧ c34 = c ∧ d34 = d) from by have h1 := HQ33.out; omega)
  have hb34 : -1 ≤ r34 ∧ r34 ≤ L.length := by have h1 := HQ34.out; omega
  clear hc hq hk hT34
  have HK34 := HX34
  have p8 := Ab HA34.out 8
  have f8 := Ad HA34.out 8
  have p0 := Ab HA34.out 0
  have f0 := Ad HA34.out 0
  obtain ⟨w35, hw35, hb, hc⟩ := Eq HA34.out 8 (.slice ba34 t34.len bc34) 0 (.int .i64 20)
  have HA35 : Hid (w35.heap[w1.heap.size]? = some (.cells #[.int .i64 20, .string ⟨#[]⟩, .string n28.1, .string n31.1, .string ⟨#[]⟩, .string ⟨#[]⟩, .slice none 0 0, .int .i64 0, .slice ba34 t34.len bc34, .slice none 0 0, .int .i64 p.1, .int .i64 p.2] 128 (0, 0))) := Aa hb
  have HT35 := Aa (HT34.out.new hc (by omega) (fun e => HN2.out e.symm))
  have HB35 := Aa (hc.keep _ _ HB34.out (Bm (by omega)))
  have HC35 := Aa (Ao HC34.out hc (by omega))
  have HD35 := Aa (Nat.le_trans HD34.out hc.size)
  have HK35 := Aa (HK34.out.tb hc hAlo)
  have HQ35 := Aa (show r34 = -1 ∨ (0 ≤ z ∧ z < r34 ∧ r34 ≤ L.length ∧ c34 = c ∧ d34 = d) from HQ34.out)
  clear hb hc
  go_upto_region 34 with fail
  clear hw35 p0 f0 p8 f8
  by_cases hq0 : 0 ≤ r34
  {have dq : decide (r34 ≥ 0) = true := decide_eq_true hq0
   have wz36 : IntKind.i64.wrap (r34 + 1) = r34 + 1 := by rw [IntKind.wrap_i64]; omega
   have hwv := A6 HT35.out r34
   obtain ⟨V, hV⟩ := Ax (Ar L r34)
   rw [hV] at hwv
   have kv : V ≠ ⟨#[]⟩ → r34 < L.length := fun h => (Be (L := L) (z := r34) (by rw [hV]; exact h)).2
   clear hV
   by_cases hv : V = ⟨#[101, 108, 115, 101]⟩
   {have ev := lit _ [101, 108, 115, 101] hv
    have hlt2 := kv (by rw [hv]; decide)
    clear hv kv
    go_wp2_with fail
    refine hwv.mono ?_
    rintro e wx ⟨rfl, rfl⟩
    clear hwv
    have hk := HI.out HT35.out HL.out (z := r34 + 1) (by omega) (by omega)
    go_wp2_with fail
    refine hk.mono ?_
    rintro e w37 ⟨t37, ba37, bc37, r37, rfl, hb, c37, d37, hT37, hc, hq⟩
    have HX37 := Aa (hb.up HD35.out)
    clear hb
    have HA37 := Aa (hc.keep _ _ HA35.out (fun e => HN2.out e))
    have HB37 := Aa (hc.keep _ _ HB35.out (fun e => ne1 e))
    have HC37 := Aa (HC35.out.trans hc)
    have HD37 := Aa (Nat.le_trans HD35.out hc.size)
    have HT37 := Aa hT37
    have HK37 := Aa (HK35.out.tb hc hglo)
    have HQ37 := Aa (show r37 = -1 ∨ (0 ≤ z ∧ z < r37 ∧ r37 ≤ L.length ∧ c37 = c ∧ d37 = d) from by have h1 := HQ35.out; omega)
    have hb37 : -1 ≤ r37 ∧ r37 ≤ L.length := by have h1 := HQ37.out; omega
    clear hc hq hk hT37
    have HO37 := HX37
    have p9 := Ab HA37.out 9
    have f9 := Ad HA37.out 9
    obtain ⟨w38, hw38, hb, hc⟩ := Ai HA37.out 9 (.slice ba37 t37.len bc37)
    simp only [s4, s5, s6] at hb
    have HA38 := Aa hb
    have HT38 := Aa (HT37.out.new hc (by omega) (fun e => HN2.out e.symm))
    have HB38 := Aa (hc.keep _ _ HB37.out (Bm (by omega)))
    have HC38 := Aa (Ao HC37.out hc (by omega))
    have HD38 := Aa (Nat.le_trans HD37.out hc.size)
    have HK38 := Aa (HK37.out.tb hc hAlo)
    have HO38 := Aa (HO37.out.tb hc hAlo)
    have HQ38 := Aa (show r37 = -1 ∨ (0 ≤ z ∧ z < r37 ∧ r37 ≤ L.length ∧ c37 = c ∧ d37 = d) from HQ37.out)
    clear hb hc
    go_upto_region 36 with fail
    clear hw38 p9 f9
    have ha := HA38.out
    have hb := HB38.out
    obtain ⟨p0, p1, p2, p3, p4, p5, p6, p7, p8, p9, p10, p11⟩ := Ap ha
    obtain ⟨f0, f1, f2, f3, f4, f5, f6, f7, f8, f9, f10, f11⟩ := E5 hb
    obtain ⟨q0, q1, q2, q3, q4, q5, q6, q7, q8, q9, q10, q11⟩ := Ap hb
    obtain ⟨w39, hwf, hfb, hfc⟩ := Bj hb (.int .i64 20) (.string ⟨#[]⟩) (.string n28.1) (.string n31.1) (.string ⟨#[]⟩) (.string ⟨#[]⟩) (.slice none 0 0) (.int .i64 0) (.slice ba34 t34.len bc34) (.slice ba37 t37.len bc37) (.int .i64 p.1) (.int .i64 p.2)
    obtain ⟨k0, k1, k2, k3, k4, k5, k6, k7, k8, k9, k10, k11⟩ := Ap hfb
    have HO := Aa (show E6 w0 w g L a b c d z (.returned (.tuple #[.agg #[.int .i64 20, .string ⟨#[]⟩, .string n28.1, .string n31.1, .string ⟨#[]⟩, .string ⟨#[]⟩, .slice none 0 0, .int .i64 0, .slice ba34 t34.len bc34, .slice ba37 t37.len bc37, .int .i64 p.1, .int .i64 p.2], .int .i64 r37])) w39 from
     ⟨⟨⟨20, ⟨#[]⟩, n28.1, n31.1, ⟨#[]⟩, ⟨#[]⟩, 0, p.1, p.2⟩, none, [], 0, ba34, bc34, ba37, bc37⟩, t34, t37, r37, rfl, (Bo.one (lo := lo) (show Bb ⟨#[]⟩ n28.1 n31.1 ⟨#[]⟩ ⟨#[]⟩ from ⟨Nat.zero_le _, by omega, by omega, Nat.zero_le _, Nat.zero_le _⟩) (.nil _ _) (HK38.out.tb hfc hBlo) (HO38.out.tb hfc hBlo)).mono (fun k _ hk => Nat.le_trans (Nat.le_of_lt hBlo) hk), c37, d37, HT38.out.new hfc (by omega) (fun e => ne1 e.symm), Ao HC38.out hfc (by omega), HQ38.out⟩)
    clear ha hb hfb
    go_wp2_with fail
    try rw [hwf]
    refine bodyPost_ret (v := .tuple #[.agg #[.int .i64 20, .string ⟨#[]⟩, .string n28.1, .string n31.1, .string ⟨#[]⟩, .string ⟨#[]⟩, .slice none 0 0, .int .i64 0, .slice ba34 t34.len bc34, .slice ba37 t37.len bc37, .int .i64 p.1, .int .i64 p.2], .int .i64 r37]) (by simp [results, Tryz.results99, go_sem, k0, k1, k2, k3, k4, k5, k6, k7, k8, k9, k10, k11]) rfl ?_
    exact HO.out}
   {have ev := Bf _ [101, 108, 115, 101] hv
    clear hv kv
    go_wp2_with fail
    refine hwv.mono ?_
    rintro e wx ⟨rfl, rfl⟩
    clear hwv
    have ha := HA35.out
    have hb := HB35.out
    obtain ⟨p0, p1, p2, p3, p4, p5, p6, p7, p8, p9, p10, p11⟩ := Ap ha
    obtain ⟨f0, f1, f2, f3, f4, f5, f6, f7, f8, f9, f10, f11⟩ := E5 hb
    obtain ⟨q0, q1, q2, q3, q4, q5, q6, q7, q8, q9, q10, q11⟩ := Ap hb
    obtain ⟨w40, hwf, hfb, hfc⟩ := Bj hb (.int .i64 20) (.string ⟨#[]⟩) (.string n28.1) (.string n31.1) (.string ⟨#[]⟩) (.string ⟨#[]⟩) (.slice none 0 0) (.int .i64 0) (.slice ba34 t34.len bc34) (.slice none 0 0) (.int .i64 p.1) (.int .i64 p.2)
    obtain ⟨k0, k1, k2, k3, k4, k5, k6, k7, k8, k9, k10, k11⟩ := Ap hfb
    have HO := Aa (show E6 w0 w g L a b c d z (.returned (.tuple #[.agg #[.int .i64 20, .string ⟨#[]⟩, .string n28.1, .string n31.1, .string ⟨#[]⟩, .string ⟨#[]⟩, .slice none 0 0, .int .i64 0, .slice ba34 t34.len bc34, .slice none 0 0, .int .i64 p.1, .int .i64 p.2], .int .i64 r34])) w40 from
     ⟨⟨⟨20, ⟨#[]⟩, n28.1, n31.1, ⟨#[]⟩, ⟨#[]⟩, 0, p.1, p.2⟩, none, [], 0, ba34, bc34, none, 0⟩, t34, .nil, r34, rfl, (Bo.one (lo := lo) (show Bb ⟨#[]⟩ n28.1 n31.1 ⟨#[]⟩ ⟨#[]⟩ from ⟨Nat.zero_le _, by omega, by omega, Nat.zero_le _, Nat.zero_le _⟩) (.nil _ _) (HK35.out.tb hfc hBlo) (.nil _ _)).mono (fun k _ hk => Nat.le_trans (Nat.le_of_lt hBlo) hk), c34, d34, HT35.out.new hfc (by omega) (fun e => ne1 e.symm), Ao HC35.out hfc (by omega), HQ35.out⟩)
    exact Ac4}}
  {have dq : decide (r34 ≥ 0) = false := decide_eq_false hq0
   have ha := HA35.out
   have hb := HB35.out
   obtain ⟨p0, p1, p2, p3, p4, p5, p6, p7, p8, p9, p10, p11⟩ := Ap ha
   obtain ⟨f0, f1, f2, f3, f4, f5, f6, f7, f8, f9, f10, f11⟩ := E5 hb
   obtain ⟨q0, q1, q2, q3, q4, q5, q6, q7, q8, q9, q10, q11⟩ := Ap hb
   obtain ⟨w41, hwf, hfb, hfc⟩ := Bj hb (.int .i64 20) (.string ⟨#[]⟩) (.string n28.1) (.string n31.1) (.string ⟨#[]⟩) (.string ⟨#[]⟩) (.slice none 0 0) (.int .i64 0) (.slice ba34 t34.len bc34) (.slice none 0 0) (.int .i64 p.1) (.int .i64 p.2)
   obtain ⟨k0, k1, k2, k3, k4, k5, k6, k7, k8, k9, k10, k11⟩ := Ap hfb
   have HO := Aa (show E6 w0 w g L a b c d z (.returned (.tuple #[.agg #[.int .i64 20, .string ⟨#[]⟩, .string n28.1, .string n31.1, .string ⟨#[]⟩, .string ⟨#[]⟩, .slice none 0 0, .int .i64 0, .slice ba34 t34.len bc34, .slice none 0 0, .int .i64 p.1, .int .i64 p.2], .int .i64 r34])) w41 from
    ⟨⟨⟨20, ⟨#[]⟩, n28.1, n31.1, ⟨#[]⟩, ⟨#[]⟩, 0, p.1, p.2⟩, none, [], 0, ba34, bc34, none, 0⟩, t34, .nil, r34, rfl, (Bo.one (lo := lo) (show Bb ⟨#[]⟩ n28.1 n31.1 ⟨#[]⟩ ⟨#[]⟩ from ⟨Nat.zero_le _, by omega, by omega, Nat.zero_le _, Nat.zero_le _⟩) (.nil _ _) (HK35.out.tb hfc hBlo) (.nil _ _)).mono (fun k _ hk => Nat.le_trans (Nat.le_of_lt hBlo) hk), c34, d34, HT35.out.new hfc (by omega) (fun e => ne1 e.symm), Ao HC35.out hfc (by omega), HQ35.out⟩)
   exact Ac4}}
 have e3 := Bf _ [105, 102] h3
 clear h3
 by_cases h4 : W = ⟨#[119, 104, 105, 108, 101]⟩
 {have e4 := lit _ [119, 104, 105, 108, 101] h4
  have hlt := kq (by rw [h4]; decide)
  clear h4
  have hwv := A6 HT2.out z
  rw [HW.out] at hwv
  go_wp2_with fail
  refine hwv.mono ?_
  rintro e wx ⟨rfl, rfl⟩
  clear hwv
  have hk := Da HT2.out (z := z + 1) (by omega) (by omega) ⟨#[40]⟩ (by decide)
  obtain ⟨r42, hn⟩ : ∃ n, Gs L (z + 1) ⟨#[40]⟩ = n := ⟨_, rfl⟩
  rw [hn] at hk
  clear hn
  go_wp2_with fail
  refine hk.mono ?_
  rintro e w42 ⟨rfl, c42, d42, hT42, hc, hq⟩
  have HA42 := Aa (hc.keep _ _ HA2.out (fun e => HN2.out e))
  have HB42 := Aa (hc.keep _ _ HB2.out (fun e => ne1 e))
  have HC42 := Aa (HC2.out.trans hc)
  have HD42 := Aa (Nat.le_trans HD2.out hc.size)
  have HT42 := Aa hT42
  have HQ42 := Aa (show r42 = -1 ∨ (0 ≤ z ∧ z < r42 ∧ r42 ≤ L.length ∧ c42 = c ∧ d42 = d) from by omega)
  have hb42 : -1 ≤ r42 ∧ r42 ≤ L.length := by have h1 := HQ42.out; omega
  clear hc hq hk hT42
  have hk := Dz HT42.out HL.out (z := r42) (by omega)
  have hz43 := Bw HL.out (r42)
  obtain ⟨n43, hn⟩ : ∃ n, Gm L (r42) = n := ⟨_, rfl⟩
  rw [hn] at hk hz43
  clear hn
  go_wp2_with fail
  refine hk.mono ?_
  rintro e w43 ⟨rfl, c43, d43, hT43, hc, hq⟩
  have HA43 := Aa (hc.keep _ _ HA42.out (fun e => HN2.out e))
  have HB43 := Aa (hc.keep _ _ HB42.out (fun e => ne1 e))
  have HC43 := Aa (HC42.out.trans hc)
  have HD43 := Aa (Nat.le_trans HD42.out hc.size)
  have HT43 := Aa hT43
  have HQ43 := Aa (show n43.2 = -1 ∨ (0 ≤ z ∧ z < n43.2 ∧ n43.2 ≤ L.length ∧ c43 = c ∧ d43 = d) from by have h1 := HQ42.out; omega)
  have hb43 : -1 ≤ n43.2 ∧ n43.2 ≤ L.length := by have h1 := HQ43.out; omega
  clear hc hq hk hT43
  have p2 := Ab HA43.out 2
  have f2 := Ad HA43.out 2
  obtain ⟨w44, hw44, hb, hc⟩ := Ai HA43.out 2 (.string n43.1)
  simp only [s4, s5, s6] at hb
  have HA44 := Aa hb
  have HT44 := Aa (HT43.out.new hc (by omega) (fun e => HN2.out e.symm))
  have HB44 := Aa (hc.keep _ _ HB43.out (Bm (by omega)))
  have HC44 := Aa (Ao HC43.out hc (by omega))
  have HD44 := Aa (Nat.le_trans HD43.out hc.size)
  have HQ44 := Aa (show n43.2 = -1 ∨ (0 ≤ z ∧ z < n43.2 ∧ n43.2 ≤ L.length ∧ c43 = c ∧ d43 = d) from HQ43.out)
  clear hb hc
  have hk := Da HT44.out (z := n43.2) (by omega) (by omega) ⟨#[60]⟩ (by decide)
  obtain ⟨r45, hn⟩ : ∃ n, Gs L (n43.2) ⟨#[60]⟩ = n := ⟨_, rfl⟩
  rw [hn] at hk
  clear hn
  go_wp2_with fail
  refine hk.mono ?_
  rintro e w45 ⟨rfl, c45, d45, hT45, hc, hq⟩
  have HA45 := Aa (hc.keep _ _ HA44.out (fun e => HN2.out e))
  have HB45 := Aa (hc.keep _ _ HB44.out (fun e => ne1 e))
  have HC45 := Aa (HC44.out.trans hc)
  have HD45 := Aa (Nat.le_trans HD44.out hc.size)
  have HT45 := Aa hT45
  have HQ45 := Aa (show r45 = -1 ∨ (0 ≤ z ∧ z < r45 ∧ r45 ≤ L.length ∧ c45 = c ∧ d45 = d) from by have h1 := HQ44.out; omega)
  have hb45 : -1 ≤ r45 ∧ r45 ≤ L.length := by have h1 := HQ45.out; omega
  clear hc hq hk hT45
  clear hw44 p2 f2
  have hk := Dz HT45.out HL.out (z := r45) (by omega)
  have hz46 := Bw HL.out (r45)
  obtain ⟨n46, hn⟩ : ∃ n, Gm L (r45) = n := ⟨_, rfl⟩
  rw [hn] at hk hz46
  clear hn
  go_wp2_with fail
  refine hk.mono ?_
  rintro e w46 ⟨rfl, c46, d46, hT46, hc, hq⟩
  have HA46 := Aa (hc.keep _ _ HA45.out (fun e => HN2.out e))
  have HB46 := Aa (hc.keep _ _ HB45.out (fun e => ne1 e))
  have HC46 := Aa (HC45.out.trans hc)
  have HD46 := Aa (Nat.le_trans HD45.out hc.size)
  have HT46 := Aa hT46
  have HQ46 := Aa (show n46.2 = -1 ∨ (0 ≤ z ∧ z < n46.2 ∧ n46.2 ≤ L.length ∧ c46 = c ∧ d46 = d) from by have h1 := HQ45.out; omega)
  have hb46 : -1 ≤ n46.2 ∧ n46.2 ≤ L.length := by have h1 := HQ46.out; omega
  clear hc hq hk hT46
  have p3 := Ab HA46.out 3
  have f3 := Ad HA46.out 3
  obtain ⟨w47, hw47, hb, hc⟩ := Ai HA46.out 3 (.string n46.1)
  simp only [s4, s5, s6] at hb
  have HA47 := Aa hb
  have HT47 := Aa (HT46.out.new hc (by omega) (fun e => HN2.out e.symm))
  have HB47 := Aa (hc.keep _ _ HB46.out (Bm (by omega)))
  have HC47 := Aa (Ao HC46.out hc (by omega))
  have HD47 := Aa (Nat.le_trans HD46.out hc.size)
  have HQ47 := Aa (show n46.2 = -1 ∨ (0 ≤ z ∧ z < n46.2 ∧ n46.2 ≤ L.length ∧ c46 = c ∧ d46 = d) from HQ46.out)
  clear hb hc
  have hk := Da HT47.out (z := n46.2) (by omega) (by omega) ⟨#[41]⟩ (by decide)
  obtain ⟨r48, hn⟩ : ∃ n, Gs L (n46.2) ⟨#[41]⟩ = n := ⟨_, rfl⟩
  rw [hn] at hk
  clear hn
  go_wp2_with fail
  refine hk.mono ?_
  rintro e w48 ⟨rfl, c48, d48, hT48, hc, hq⟩
  have HA48 := Aa (hc.keep _ _ HA47.out (fun e => HN2.out e))
  have HB48 := Aa (hc.keep _ _ HB47.out (fun e => ne1 e))
  have HC48 := Aa (HC47.out.trans hc)
  have HD48 := Aa (Nat.le_trans HD47.out hc.size)
  have HT48 := Aa hT48
  have HQ48 := Aa (show r48 = -1 ∨ (0 ≤ z ∧ z < r48 ∧ r48 ≤ L.length ∧ c48 = c ∧ d48 = d) from by have h1 := HQ47.out; omega)
  have hb48 : -1 ≤ r48 ∧ r48 ≤ L.length := by have h1 := HQ48.out; omega
  clear hc hq hk hT48
  clear hw47 p3 f3
  have hk := HI.out HT48.out HL.out (z := r48) (by omega) (by omega)
  go_wp2_with fail
  refine hk.mono ?_
  rintro e w49 ⟨t49, ba49, bc49, r49, rfl, hb, c49, d49, hT49, hc, hq⟩
  have HX49 := Aa (hb.up HD48.out)
  clear hb
  have HA49 := Aa (hc.keep _ _ HA48.out (fun e => HN2.out e))
  have HB49 := Aa (hc.keep _ _ HB48.out (fun e => ne1 e))
  have HC49 := Aa (HC48.out.trans hc)
  have HD49 := Aa (Nat.le_trans HD48.out hc.size)
  have HT49 := Aa hT49
  have HQ49 := Aa (show r49 = -1 ∨ (0 ≤ z ∧ z < r49 ∧ r49 ≤ L.length ∧ c49 = c ∧ d49 = d) from by have h1 := HQ48.out; omega)
  have hb49 : -1 ≤ r49 ∧ r49 ≤ L.length := by have h1 := HQ49.out; omega
  clear hc hq hk hT49
  have HK49 := HX49
  have p8 := Ab HA49.out 8
  have f8 := Ad HA49.out 8
  have p0 := Ab HA49.out 0
  have f0 := Ad HA49.out 0
  obtain ⟨w50, hw50, hb, hc⟩ := Pr HA49.out 8 (.slice ba49 t49.len bc49) 0 (.int .i64 20) 0 (.int .i64 21)
  have HA50 : Hid (w50.heap[w1.heap.size]? = some (.cells #[.int .i64 21, .string ⟨#[]⟩, .string n43.1, .string n46.1, .string ⟨#[]⟩, .string ⟨#[]⟩, .slice none 0 0, .int .i64 0, .slice ba49 t49.len bc49, .slice none 0 0, .int .i64 p.1, .int .i64 p.2] 128 (0, 0))) := Aa hb
  have HT50 := Aa (HT49.out.new hc (by omega) (fun e => HN2.out e.symm))
  have HB50 := Aa (hc.keep _ _ HB49.out (Bm (by omega)))
  have HC50 := Aa (Ao HC49.out hc (by omega))
  have HD50 := Aa (Nat.le_trans HD49.out hc.size)
  have HK50 := Aa (HK49.out.tb hc hAlo)
  have HQ50 := Aa (show r49 = -1 ∨ (0 ≤ z ∧ z < r49 ∧ r49 ≤ L.length ∧ c49 = c ∧ d49 = d) from HQ49.out)
  clear hb hc
  go_upto_region 36 with fail
  clear hw50 p0 f0 p8 f8
  have ha := HA50.out
  have hb := HB50.out
  obtain ⟨p0, p1, p2, p3, p4, p5, p6, p7, p8, p9, p10, p11⟩ := Ap ha
  obtain ⟨f0, f1, f2, f3, f4, f5, f6, f7, f8, f9, f10, f11⟩ := E5 hb
  obtain ⟨q0, q1, q2, q3, q4, q5, q6, q7, q8, q9, q10, q11⟩ := Ap hb
  obtain ⟨w51, hwf, hfb, hfc⟩ := Bj hb (.int .i64 21) (.string ⟨#[]⟩) (.string n43.1) (.string n46.1) (.string ⟨#[]⟩) (.string ⟨#[]⟩) (.slice none 0 0) (.int .i64 0) (.slice ba49 t49.len bc49) (.slice none 0 0) (.int .i64 p.1) (.int .i64 p.2)
  obtain ⟨k0, k1, k2, k3, k4, k5, k6, k7, k8, k9, k10, k11⟩ := Ap hfb
  have HO := Aa (show E6 w0 w g L a b c d z (.returned (.tuple #[.agg #[.int .i64 21, .string ⟨#[]⟩, .string n43.1, .string n46.1, .string ⟨#[]⟩, .string ⟨#[]⟩, .slice none 0 0, .int .i64 0, .slice ba49 t49.len bc49, .slice none 0 0, .int .i64 p.1, .int .i64 p.2], .int .i64 r49])) w51 from
   ⟨⟨⟨21, ⟨#[]⟩, n43.1, n46.1, ⟨#[]⟩, ⟨#[]⟩, 0, p.1, p.2⟩, none, [], 0, ba49, bc49, none, 0⟩, t49, .nil, r49, rfl, (Bo.one (lo := lo) (show Bb ⟨#[]⟩ n43.1 n46.1 ⟨#[]⟩ ⟨#[]⟩ from ⟨Nat.zero_le _, by omega, by omega, Nat.zero_le _, Nat.zero_le _⟩) (.nil _ _) (HK50.out.tb hfc hBlo) (.nil _ _)).mono (fun k _ hk => Nat.le_trans (Nat.le_of_lt hBlo) hk), c49, d49, HT50.out.new hfc (by omega) (fun e => ne1 e.symm), Ao HC50.out hfc (by omega), HQ50.out⟩)
  clear ha hb hfb
  go_wp2_with fail
  try rw [hwf]
  refine bodyPost_ret (v := .tuple #[.agg #[.int .i64 21, .string ⟨#[]⟩, .string n43.1, .string n46.1, .string ⟨#[]⟩, .string ⟨#[]⟩, .slice none 0 0, .int .i64 0, .slice ba49 t49.len bc49, .slice none 0 0, .int .i64 p.1, .int .i64 p.2], .int .i64 r49]) (by simp [results, Tryz.results99, go_sem, k0, k1, k2, k3, k4, k5, k6, k7, k8, k9, k10, k11]) rfl ?_
  exact HO.out}
 have e4 := Bf _ [119, 104, 105, 108, 101] h4
 clear h4
 have hk := Xl HT2.out HL.out (z := z) (by omega) (by omega) ⟨0, ⟨#[]⟩, ⟨#[]⟩, ⟨#[]⟩, ⟨#[]⟩, ⟨#[]⟩, 0, p.1, p.2⟩ ⟨Nat.zero_le _, Nat.zero_le _, Nat.zero_le _, Nat.zero_le _, Nat.zero_le _⟩
 obtain ⟨u0, u1, u2, u3, u4, u5, u6, u7, u8, u9, u10, u11⟩ := Ap HA2.out
 go_wp2_with fail
 refine hk.mono ?_
 rintro e w52 ⟨s2, ga52, gc52, gs52, r52, rfl, ho, hl, hs, hz, c52, d52, hT52, hc, hq⟩
 obtain ⟨y1, y2, y3, y4, y5⟩ := hz
 clear u0 u1 u2 u3 u4 u5 u6 u7 u8 u9 u10 u11 hk
 have HA52 := Aa (hc.keep _ _ HA2.out (fun e => HN2.out e))
 have HB52 := Aa (hc.keep _ _ HB2.out (fun e => ne1 e))
 have HC52 := Aa (HC2.out.trans hc)
 have HD52 := Aa (Nat.le_trans HD2.out hc.size)
 have HT52 := Aa hT52
 have HQ52 := Aa (show r52 = -1 ∨ (0 ≤ z ∧ z < r52 ∧ r52 ≤ L.length ∧ c52 = c ∧ d52 = d) from by omega)
 have hb52 : -1 ≤ r52 ∧ r52 ≤ L.length := by have h1 := HQ52.out; omega
 have HG52 := Aa ((F2.own ho hl hs).up HD2.out)
 clear ho hl hs hc hq hT52
 obtain ⟨p0, p1, p2, p3, p4, p5, p6, p7, p8, p9, p10, p11⟩ := Ap HA52.out
 obtain ⟨f0, f1, f2, f3, f4, f5, f6, f7, f8, f9, f10, f11⟩ := E5 HA52.out
 obtain ⟨w53, hw53, hb, hc⟩ := Bj HA52.out (.int .i64 s2.k) (.string s2.x) (.string s2.y) (.string s2.z) (.string s2.t) (.string s2.f) (.slice ga52 gs52.length gc52) (.int .i64 s2.n) (.slice none 0 0) (.slice none 0 0) (.int .i64 s2.l) (.int .i64 s2.c)
 have HA53 := Aa hb
 have HT53 := Aa (HT52.out.new hc (by omega) (fun e => HN2.out e.symm))
 have HB53 := Aa (hc.keep _ _ HB52.out (Bm (by omega)))
 have HC53 := Aa (Ao HC52.out hc (by omega))
 have HQ53 := HQ52
 have HG53 := Aa (HG52.out.tb hc hAlo)
 clear hb hc
 go_upto_region 38 with fail
 clear hw53 p0 p1 p2 p3 p4 p5 p6 p7 p8 p9 p10 p11 f0 f1 f2 f3 f4 f5 f6 f7 f8 f9 f10 f11
 have hk := Da (HT53.out.no ((Ch.refl No w53).drew)) (z := r52) (by omega) (by omega) ⟨#[59]⟩ (by decide)
 obtain ⟨r54, hn⟩ : ∃ n, Gs L (r52) ⟨#[59]⟩ = n := ⟨_, rfl⟩
 rw [hn] at hk
 clear hn
 have HSa := Aa (Ap HA53.out)
 have HSd := Aa (O5 HSa.out)
 go_region_held3 (fun w' => w'.cell? ⟨w1.heap.size, 0, none⟩ = some (.int .i64 s2.k) ∧ w'.cell? ⟨w1.heap.size, 1, none⟩ = some (.string s2.x) ∧ w'.cell? ⟨w1.heap.size, 2, none⟩ = some (.string s2.y) ∧ w'.cell? ⟨w1.heap.size, 3, none⟩ = some (.string s2.z) ∧ w'.cell? ⟨w1.heap.size, 4, none⟩ = some (.string s2.t) ∧ w'.cell? ⟨w1.heap.size, 5, none⟩ = some (.string s2.f) ∧ w'.cell? ⟨w1.heap.size, 6, none⟩ = some (.slice ga52 gs52.length gc52) ∧ w'.cell? ⟨w1.heap.size, 7, none⟩ = some (.int .i64 s2.n) ∧ w'.cell? ⟨w1.heap.size, 8, none⟩ = some (.slice none 0 0) ∧ w'.cell? ⟨w1.heap.size, 9, none⟩ = some (.slice none 0 0) ∧ w'.cell? ⟨w1.heap.size, 10, none⟩ = some (.int .i64 s2.l) ∧ w'.cell? ⟨w1.heap.size, 11, none⟩ = some (.int .i64 s2.c)) (first | with_reducible exact HSa.out | with_reducible exact HSd.out | with_reducible exact HSb.out | with_reducible exact HSc.out | go_keep) (first | (go_at_call 29; refine hk.mono ?_; rintro e w54 ⟨rfl, c54, d54, hT54, hc7, hq⟩; have ha7 := hc7.keep _ _ HA53.out (fun e => HN2.out e); have HSb := Aa (Ap ha7); have HC54 := Aa ((HC53.out.drew).trans hc7); have HT54 := Aa hT54; have HG54 := Aa (HG53.out.tb ((Ch.refl (Tb g) _).drew.trans hc7) hglo); have HQ54 := Aa (show r54 = -1 ∨ (0 ≤ z ∧ z < r54 ∧ r54 ≤ L.length ∧ c54 = c ∧ d54 = d) from by have h1 := HQ53.out; omega); have HB54 := Aa (hc7.keep _ _ HB53.out (fun e => ne1 e)); have hb7 := HB54.out; obtain ⟨q0, q1, q2, q3, q4, q5, q6, q7, q8, q9, q10, q11⟩ := Ap hb7; obtain ⟨f0, f1, f2, f3, f4, f5, f6, f7, f8, f9, f10, f11⟩ := E5 hb7; obtain ⟨w55, hw8, hb8, hfc⟩ := Bj HB54.out (.int .i64 s2.k) (.string s2.x) (.string s2.y) (.string s2.z) (.string s2.t) (.string s2.f) (.slice ga52 gs52.length gc52) (.int .i64 s2.n) (.slice none 0 0) (.slice none 0 0) (.int .i64 s2.l) (.int .i64 s2.c); have ha8 := hfc.keep _ _ ha7 (Bm (by omega)); have HSc := Aa (Ap ha8); have HFB := Aa hb8; have HFC := Aa hfc; clear hT54 hc7 ha7 hb7 hb8 hfc ha8 hq))
 all_goals (
  go_wp2_with fail
  have hfc := HFC.out
  try rw [hw8]
  obtain ⟨k0, k1, k2, k3, k4, k5, k6, k7, k8, k9, k10, k11⟩ := Ap HFB.out
  have HO := Aa (show E6 w0 w g L a b c d z (.returned (.tuple #[.agg #[.int .i64 s2.k, .string s2.x, .string s2.y, .string s2.z, .string s2.t, .string s2.f, .slice ga52 gs52.length gc52, .int .i64 s2.n, .slice none 0 0, .slice none 0 0, .int .i64 s2.l, .int .i64 s2.c], .int .i64 r54])) w55 from
   ⟨⟨⟨s2.k, s2.x, s2.y, s2.z, s2.t, s2.f, s2.n, s2.l, s2.c⟩, ga52, gs52, gc52, none, 0, none, 0⟩, .nil, .nil, r54, rfl, (Bo.one (lo := lo) (show Bb s2.x s2.y s2.z s2.t s2.f from ⟨by omega, by omega, by omega, by omega, by omega⟩) (HG54.out.tb hfc hBlo) (.nil _ _) (.nil _ _)).mono (fun k _ hk => Nat.le_trans (Nat.le_of_lt hBlo) hk), c54, d54, HT54.out.new hfc (by omega) (fun e => ne1 e.symm), Ao HC54.out hfc (by omega), HQ54.out⟩)
  refine bodyPost_ret (v := .tuple #[.agg #[.int .i64 s2.k, .string s2.x, .string s2.y, .string s2.z, .string s2.t, .string s2.f, .slice ga52 gs52.length gc52, .int .i64 s2.n, .slice none 0 0, .slice none 0 0, .int .i64 s2.l, .int .i64 s2.c], .int .i64 r54]) (by simp [results, Tryz.results99, go_sem, k0, k1, k2, k3, k4, k5, k6, k7, k8, k9, k10, k11]) rfl ?_
  exact HO.out)
end Go.Proofs.YtgjpgfedlgdjhaaGreatDoor
end
