/- Part 26. -/
import Derived.Test.YtgjpgfedlgdjhaaGreatDoorYay
set_option linter.unusedVariables false
set_option linter.unusedSimpArgs false
set_option maxHeartbeats 64000000
set_option maxRecDepth 8192
section
namespace Go.Proofs.YtgjpgfedlgdjhaaGreatDoor
open Go.RowKit Go.W
theorem Adq {p : Prop} (h : p := by
 have hk := Aaf HT11.out hce
 clear hce
 go_wp2_with fail
 refine hk.mono ?_
 rintro e w12 ⟨er, l12, c12, her, rfl, hc12⟩
 have HE := Aa her
 have HP12 := Aa (hc12.keep _ _ HP11.out (fun h => h))
 have HF12 := Aa (hc12.keep _ _ HF11.out (fun h => h))
 have HC12 := Aa (HC11.out.trans hc12)
 clear her hc12 hk
 have hP := HP12.out
 have hF := HF12.out
 unfold Hy at hP
 obtain ⟨r0, r1, r2, r3, r4, r5, r6, r7, r8, r9⟩ := Au hP
 obtain ⟨f0, f1, f2, f3, f4, f5, f6, f7, f8, f9⟩ := Ef hP
 obtain ⟨t0, t1, t2⟩ := Dy hF
 obtain ⟨v0, v1, v2⟩ := I5 hF
 clear hP hF
 go_wp2_with fail
 have hP := HP12.out
 unfold Hy at hP
 obtain ⟨wf, hwf, hfb, hfc⟩ := F3 hP (.slice none 0 0) (.string ⟨#[]⟩) (.string ⟨#[]⟩) (.bool false) (.bool false) (.slice none 0 0) (.slice none 0 0) (.slice none 0 0) (.int .i64 0) (.int .i64 0)
 try rw [hwf]
 have hff := hfc.keep _ _ HF12.out (fun e => by have e' : FB = PB := e; exact HC.out.PF e'.symm)
 obtain ⟨wv, hwv, hvb, hvc⟩ := Ev hff (.int .i64 er) (.int .i64 l12) (.int .i64 c12)
 try rw [hwv]
 have hvp := hvc.keep _ _ hfb (fun e => by have e' : PB = FB := e; exact HC.out.PF e')
 obtain ⟨k0, k1, k2, k3, k4, k5, k6, k7, k8, k9⟩ := Au hvp
 obtain ⟨j0, j1, j2⟩ := Dy hvb
 refine bodyPost_ret (v := .tuple #[.agg Hy, .agg #[.int .i64 er, .int .i64 l12, .int .i64 c12]]) (by simp [results, Tryz.results9, go_sem, Hy, k0, k1, k2, k3, k4, k5, k6, k7, k8, k9, j0, j1, j2]) rfl ?_
 exact ⟨Ch.newOnly (Ch.newOnly HC12.out hfc (fun q _ _ e => by have e' : q = PB := e; have := HC.out.wP; omega)) hvc (fun q _ _ e => by have e' : q = FB := e; have := HC.out.wF; omega), .inr ⟨er, l12, c12, HE.out, rfl⟩⟩
 ) : p := h
theorem Adr {p : Prop} (h : p := by
 have HCE := Aa hce
 have hb := HQ11.out
 have hP := HP11.out
 have hF := HF11.out
 unfold Hy at hP
 clear hce
 obtain ⟨q0, q1, q2, q3, q4, q5, q6, q7, q8, q9⟩ := Au hb
 obtain ⟨r0, r1, r2, r3, r4, r5, r6, r7, r8, r9⟩ := Au hP
 obtain ⟨f0, f1, f2, f3, f4, f5, f6, f7, f8, f9⟩ := Ef hP
 obtain ⟨t0, t1, t2⟩ := Dy hF
 obtain ⟨v0, v1, v2⟩ := I5 hF
 clear hb hP hF
 go_wp2_with fail
 have hP := HP11.out
 unfold Hy at hP
 obtain ⟨wf, hwf, hfb, hfc⟩ := F3 hP (.slice ca k cc) (.string ⟨#[118, 111, 105, 100]⟩) (.string ⟨#[109, 97, 105, 110]⟩) (.bool true) (.bool false) (.slice none 0 0) (.slice la ls.length lc) (.slice sa t.len sc) (.int .i64 p.1) (.int .i64 p.2)
 try rw [hwf]
 have hff := hfc.keep _ _ HF11.out (fun e => by have e' : FB = PB := e; exact HC.out.PF e'.symm)
 obtain ⟨wv, hwv, hvb, hvc⟩ := Ev hff (.int .i64 0) (.int .i64 0) (.int .i64 0)
 try rw [hwv]
 have hvp := hvc.keep _ _ hfb (fun e => by have e' : PB = FB := e; exact HC.out.PF e')
 obtain ⟨k0, k1, k2, k3, k4, k5, k6, k7, k8, k9⟩ := Au hvp
 obtain ⟨j0, j1, j2⟩ := Dy hvb
 refine bodyPost_ret (v := .tuple #[.agg #[.slice ca k cc, .string ⟨#[118, 111, 105, 100]⟩, .string ⟨#[109, 97, 105, 110]⟩, .bool true, .bool false, .slice none 0 0, .slice la ls.length lc, .slice sa t.len sc, .int .i64 p.1, .int .i64 p.2], .agg #[.int .i64 0, .int .i64 0, .int .i64 0]]) (by simp [results, Tryz.results9, go_sem, k0, k1, k2, k3, k4, k5, k6, k7, k8, k9, j0, j1, j2]) rfl ?_
 exact HFIN.out _ _ hfc hvc
 ) : p := h
theorem Ads {p : Prop} (h : p := by
 intro wf wv hfc hvc
 obtain rfl := HLN.out
 have hP := HC.out.Plo
 have hF := HC.out.Flo
 have hV := (HV11.out.tb hfc hP).tb hvc hF
 have hB := (HB11.out.tb hfc hP).tb hvc hF
 have hk : ∀ K ∈ Ks, I0 Tru wv K := fun K hK => (((HO11.out.2 K hK).ch hfc (fun q o _ _ hp e => by have e' : q = PB := e; have := hp.1; omega)).ch hvc (fun q o _ _ hp e => by have e' : q = FB := e; have := hp.1; omega)).mono (fun _ _ _ => trivial)
 have ho := Bd (Bd HO11.out.1 hfc HP11.out (by decide)) hvc (hfc.keep _ _ HF11.out (fun e => by have e' : FB = PB := e; exact HC.out.PF e'.symm)) (by decide)
 refine ⟨Ch.newOnly (Ch.newOnly HC11.out hfc (fun q _ _ e => by have e' : q = PB := e; have := HC.out.wP; omega)) hvc (fun q _ _ e => by have e' : q = FB := e; have := HC.out.wF; omega), .inl ⟨ca, cc, Ks, la, ls, lc, sa, t, sc, p.1, p.2, rfl, A5.own ho (fun _ _ => trivial), hk, hk60, ?_⟩⟩
 exact ⟨rfl, rfl, ⟨lb rfl, lb rfl⟩, ⟨Nat.zero_le _, fun v hv => by cases hv⟩, hV.1, hB.1, .nil _ _ _, hV.2.mono (fun _ _ _ => trivial), hB.2.1.mono (fun _ _ _ => trivial), hB.2.2.mono (fun _ _ _ => trivial)⟩
 ) : p := h
theorem Xo {p : Prop} (h : p := by
 have HT11 := HT10
 have HP11 := HP10
 have HF11 := HF10
 have HQ11 := HQ10
 have HC11 := HC10
 have HO11 := HO10
 have HV11 := HV10
 have HB11 := HB10
 go_upto_region 17 with fail
 clear g0
 have hfin : ∀ (wf wv : World), Ch (Tb PB) w10 wf → Ch (Tb FB) wf wv → Pu w (.returned (.tuple #[.agg #[.slice ca k cc, .string ⟨#[118, 111, 105, 100]⟩, .string ⟨#[109, 97, 105, 110]⟩, .bool true, .bool false, .slice none 0 0, .slice la ls.length lc, .slice sa t.len sc, .int .i64 p.1, .int .i64 p.2], .agg #[.int .i64 0, .int .i64 0, .int .i64 0]])) wv := by
  exact Ads
 have HFIN := Aa hfin
 clear hfin HO11 HV11 HB11 HO10 HV10 HB10 HLN
 obtain ⟨⟨A0, c0, hgb, _⟩, _, _⟩ := HT11.out
 have g3 := Ab hgb 3
 clear hgb
 by_cases hce : c9 = 0
 {have dc : (c9 != 0) = false := by rw [hce]; rfl
  exact Adr}
 {have dc : (c9 != 0) = true := by simpa using hce
  exact Adq}
 ) : p := h
theorem Adt {p : Prop} (h : p := by
 have dy : decide (r9 < (n : Int)) = true := decide_eq_true z1
 go_wp2_with fail
 refine (B9 HT10.out r9 10).mono ?_
 rintro e w11 ⟨rfl, c11, d11, hT11, hc11⟩
 have HT11 := Aa hT11
 have HP11 := Aa (hc11.keep _ _ HP10.out (fun e => HC.out.Pg e))
 have HF11 := Aa (hc11.keep _ _ HF10.out (fun e => HC.out.Fg e))
 have HQ11 := Aa (hc11.keep _ _ HQ10.out (fun e => HC.out.pg e))
 have HC11 := Aa (Ch.newOnly HC10.out hc11 (fun q _ _ e => by have e' : q = g := e; have := HC.out.ww; have := HC.out.g0; omega))
 have HO11 := Aa (show w11.ownsRow lo 50 10 (.slice ca k cc) k (Ks.flatMap KD.cells) ∧ ∀ K ∈ Ks, I0 (Ex lo (.slice ca k cc)) w11 K from ⟨Cn HT10.out HO10.out.1 hc11 (by decide), fun K hK => (HO10.out.2 K hK).ch hc11 (fun q o _ _ hp e => by have e' : q = g := e; have := hp.1; have := HC.out.glo; omega)⟩)
 have HV11 := Aa (HV10.out.tb hc11 HC.out.glo)
 have HB11 := Aa (HB10.out.tb hc11 HC.out.glo)
 clear hT11 hc11 g0
 go_upto_region 17 with fail
 have hfin : ∀ (wf wv : World), Ch (Tb PB) w11 wf → Ch (Tb FB) wf wv → Pu w (.returned (.tuple #[.agg #[.slice ca k cc, .string ⟨#[118, 111, 105, 100]⟩, .string ⟨#[109, 97, 105, 110]⟩, .bool true, .bool false, .slice none 0 0, .slice la ls.length lc, .slice sa t.len sc, .int .i64 p.1, .int .i64 p.2], .agg #[.int .i64 0, .int .i64 0, .int .i64 0]])) wv := by
  exact Ads
 have HFIN := Aa hfin
 clear hfin HO11 HV11 HB11 HO10 HV10 HB10 HLN
 obtain ⟨⟨A0, c0, hgb, _⟩, _, _⟩ := HT11.out
 have g3 := Ab hgb 3
 clear hgb
 by_cases hce : c11 = 0
 {have dc : (c11 != 0) = false := by rw [hce]; rfl
  exact Adr}
 {have dc : (c11 != 0) = true := by simpa using hce
  exact Adq}
 ) : p := h
theorem Adu {p : Prop} (h : p := by
 rw [hr8] at hon
 clear hw7 hb7 hc7 HS6 hr8
 go_wp2_with fail
 refine hon.mono ?_
 rintro e w8 ⟨rfl, c8, d8, hT8, hc8, hq8⟩
 have HS8 := Aa (HS7.out.step HC.out (r := r8) hT8 hc8 (by omega))
 have HB8 := Aa (hc8.keep _ _ HB7.out (fun e => y7 e))
 have hp8 := HS8.out.pl
 have hbk := Ht HS8.out.tx HL.out (z := r8) (by omega) (by omega) ⟨#[118, 111, 105, 100]⟩ ⟨#[109, 97, 105, 110]⟩ true false none 0 0 p.1 p.2
 obtain ⟨q0, q1, q2, q3, q4, q5, q6, q7, q8⟩ := B4 HB8.out
 clear hT8 hc8 hq8 hon HS7
 go_wp2_with fail
 refine hbk.mono ?_
 rintro e w9 ⟨la, ls, lc, sa, t, sc, r9, rfl, hv9, hb9, c9, d9, hT9, hc9, hq9⟩
 have HS9 := Aa (HS8.out.step HC.out (r := r9) hT9 hc9 (by omega))
 have HV9 := Aa (hv9.up HS8.out.sze)
 have HB9 := Aa (hb9.up HS8.out.sze)
 clear hT9 hc9 hq9 hv9 hb9 hbk HS8
 clear q0 q1 q2 q3 q4 q5 q6 q7 q8
 have hbp := HS9.out.bp
 unfold Hd at hbp
 obtain ⟨q0, q1, q2, q3, q4, q5, q6, q7, q8, q9⟩ := Au hbp
 obtain ⟨f0, f1, f2, f3, f4, f5, f6, f7, f8, f9⟩ := Ef hbp
 obtain ⟨w10, hw10, hb10, hc10⟩ := U7 hbp (.string ⟨#[118, 111, 105, 100]⟩) (.string ⟨#[109, 97, 105, 110]⟩) (.bool true) (.bool false) (.slice none 0 0) (.slice la ls.length lc) (.slice sa t.len sc) (.int .i64 p.1) (.int .i64 p.2)
 have HT10 := Aa (HS9.out.tx.new hc10 HC.out.p0 (fun e => HC.out.pg e.symm))
 have HP10 := Aa (hc10.keep _ _ HS9.out.bP (fun e => HC.out.Pp e))
 have HF10 := Aa (hc10.keep _ _ HS9.out.bF (fun e => HC.out.Fp e))
 have HC10 := Aa (Ch.newOnly HS9.out.ch hc10 (fun q _ _ e => by have e' : q = pb := e; have := HC.out.ww; have := HC.out.p0; omega))
 have HQ10 := Aa hb10
 have HO10 := Aa (show w10.ownsRow lo 50 10 (.slice ca k cc) k (Ks.flatMap KD.cells) ∧ ∀ K ∈ Ks, I0 (Ex lo (.slice ca k cc)) w10 K from ⟨Bd HS9.out.own hc10 hbp (by decide), fun K hK => (HS9.out.ks K hK).ch hc10 (fun q o _ _ hp e => by have e' : q = pb := e; have := hp.1; have := HC.out.plo; omega)⟩)
 have HV10 := Aa (HV9.out.tb hc10 HC.out.plo)
 have HB10 := Aa (HB9.out.tb hc10 HC.out.plo)
 have hp9 := HS9.out.pl
 have HLN := Aa HS9.out.len
 clear hbp hb10 hc10 HS9 HV9 HB9
 go_upto_region 15 with fail
 clear hw10 q0 q1 q2 q3 q4 q5 q6 q7 q8 q9 f0 f1 f2 f3 f4 f5 f6 f7 f8 f9
 obtain ⟨⟨A0, c0, hgb, _⟩, _, _⟩ := HT10.out
 have g0 := Ab hgb 0
 clear hgb
 obtain ⟨n, hn⟩ := Ax L.length
 rw [hn] at g0 hp9
 clear hn
 rcases (show (0 ≤ r9 ∧ r9 < (n : Int)) ∨ (0 ≤ r9 ∧ ¬ r9 < (n : Int)) ∨ r9 = -1 from by omega) with ⟨z0, z1⟩ | ⟨z0, z1⟩ | z1
 {have dz : decide (r9 ≥ 0) = true := decide_eq_true z0
  exact Adt}
 {have dz : decide (r9 ≥ 0) = true := decide_eq_true z0
  have dy : decide (r9 < (n : Int)) = false := decide_eq_false z1
  obtain ⟨w11, hw11⟩ := Ax w10
  subst hw11
  exact Xo}
 {have dz : decide (r9 ≥ 0) = false := decide_eq_false (by omega)
  exact Xo}
 ) : p := h
theorem Rd (w : World) (s : ByteArray) (hs : s.size ≤ maxLen) : Calls Tryz.prog 9 #[.string s] w (Pu w) := by
 obtain ⟨wa, hwa, hba, hca⟩ := A2 w (.cells Hy 31)
 obtain ⟨wb, hwb, hbb, hcb⟩ := A2 wa (.cells #[.int .i64 0, .int .i64 0, .int .i64 0] 34)
 have hbP := hcb.keep _ _ hba (fun h => h)
 have y1 := Ac hba
 have y2 := Ac hbb
 obtain ⟨FB, hFB⟩ : ∃ B, wa.heap.size = B := ⟨_, rfl⟩
 obtain ⟨PB, hPB⟩ : ∃ A, w.heap.size = A := ⟨_, rfl⟩
 rw [hPB] at hbP
 rw [hFB] at hbb
 have HPb := Aa hbP
 have HFb := Aa hbb
 have HCb := Aa (hca.trans hcb)
 have hof := Adk wb s hs
 unfold Hy at hwa
 clear hba hca hbb hcb hbP hs
 go_in
 go_wp2_with fail
 try rw [hPB]
 try rw [hFB]
 refine hof.mono ?_
 rintro e w1 ⟨g, er, l, c, rfl, hor⟩
 clear hwa hwb hof
 rcases hor with ⟨rfl, rfl, rfl, w0, L, a, b, hL, htk, hT1, hc0⟩ | ⟨her, hc1, _⟩
 {have HL := Aa hL
  have hLL := hL.1
  have HT1 := Aa hT1
  have HC0 := Aa hc0
  have HP1 := Aa (hT1.ch.keep _ _ (hc0.keep _ _ HPb.out (fun h => h)) (fun h => h))
  have HF1 := Aa (hT1.ch.keep _ _ (hc0.keep _ _ HFb.out (fun h => h)) (fun h => h))
  have hgl := hT1.lt
  have hgg := hT1.ge
  have h0w := hc0.size
  have hbw := HCb.out.size
  have h01 := hT1.ch.size
  clear hL hT1 hc0 htk
  go_upto_region 5 with fail
  obtain ⟨w3, hw3⟩ := Ax ((w1.alloc (.cells #[.int .i64 0, .int .i64 0, .int .i64 0] 34)).alloc (.cells (Hd none 0 0) 31))
  have hb3 := heap_alloc_new (w1.alloc (.cells #[.int .i64 0, .int .i64 0, .int .i64 0] 34)) (.cells (Hd none 0 0) 31)
  have hc3 := ((Ch.refl No w1).alloc (.cells #[.int .i64 0, .int .i64 0, .int .i64 0] 34)).alloc (.cells (Hd none 0 0) 31)
  have es : (w1.alloc (.cells #[.int .i64 0, .int .i64 0, .int .i64 0] 34)).heap.size = w1.heap.size + 1 := by simp
  rw [hw3, es] at hb3
  rw [hw3] at hc3
  unfold Hd at hw3
  try rw [hw3]
  obtain ⟨pb, hpb⟩ := Ax (w1.heap.size + 1)
  rw [hpb] at hb3
  try rw [hpb]
  have y3 := Ac hb3
  obtain ⟨lo, hlo⟩ := Ax w3.heap.size
  have HC : Hid (PrC w0 w g PB FB pb lo) := Aa ⟨by omega, by omega, by omega, by omega, by omega, by omega, by omega, by omega, by omega, by omega, by omega, by omega, by omega, by omega, by omega⟩
  have HS3 := Aa (show Mm w0 w g L a b PB FB pb lo none 0 0 [] 0 0 0 w3 from ⟨HT1.out.no hc3, ((HCb.out.trans HC0.out).trans HT1.out.ch).trans hc3, by omega, hc3.keep _ _ HP1.out (fun h => h), hc3.keep _ _ HF1.out (fun h => h), hb3, World.ownsRow_nil _ _ _ _, (fun K hK => by cases hK), rfl, by omega⟩)
  clear hb3 hc3 hw3 HT1 HP1 HF1 HC0 es
  go_wp2
  go_loopg [7, 8, 9] 40000 (fun gg s7 s8 s9 wr => ∃ (N : Nat) (zc c' d' : Int) (ca : Option Addr) (k cc : Nat) (Ks : List KD), N ≤ gg ∧ (zc = -1 ∨ 30001 - zc ≤ (N : Int)) ∧ (-1 ≤ zc ∧ zc ≤ L.length) ∧ s7 = .int .i64 zc ∧ k ≤ 60 ∧ Hid (Mm w0 w g L a b PB FB pb lo ca k cc Ks zc c' d' wr))
  case atStart => exact ⟨40000, 0, 0, 0, none, 0, 0, [], by omega, by omega, by omega, rfl, by omega, HS3⟩
  case round =>
   clear HS3
   obtain ⟨N, zc, c', d', ca, k, cc, Ks, zN, z3, zp, rfl, hk60, HS⟩ := hrel
   have hks : Ks.length ≤ 60 := by have := HS.out.len; omega
   have htw := A6 HS.out.tx zc
   obtain ⟨W, hW⟩ := Ax (Ar L zc)
   rw [hW] at htw
   have hWn : W ≠ ⟨#[]⟩ → zc < L.length := fun h => (Be (L := L) (z := zc) (by rw [hW]; exact h)).2
   clear hW
   have wz : IntKind.i64.wrap (zc + 1) = zc + 1 := by rw [IntKind.wrap_i64]; omega
   rcases (show (0 ≤ zc ∧ (W = ⟨#[99, 108, 97, 115, 115]⟩ ∨ W = ⟨#[105, 110, 116, 101, 114, 102, 97, 99, 101]⟩)) ∨ (0 ≤ zc ∧ W ≠ ⟨#[99, 108, 97, 115, 115]⟩ ∧ W ≠ ⟨#[105, 110, 116, 101, 114, 102, 97, 99, 101]⟩) ∨ zc = -1 from by
    by_cases h0 : 0 ≤ zc
    {by_cases h1 : W = ⟨#[99, 108, 97, 115, 115]⟩
     {exact .inl ⟨h0, .inl h1⟩}
     {by_cases h2 : W = ⟨#[105, 110, 116, 101, 114, 102, 97, 99, 101]⟩
      {exact .inl ⟨h0, .inr h2⟩}
      {exact .inr (.inl ⟨h0, h1, h2⟩)}}}
    · exact .inr (.inr (by omega))) with ⟨z0, hv⟩ | ⟨z0, hv, hv2⟩ | hv
   {have dz : decide (zc ≥ 0) = true := decide_eq_true z0
    have hbp := HS.out.bp
    unfold Hd at hbp
    have q0 := Ab hbp 0
    clear hbp
    by_cases h60 : k = 60
    {have d60 : ((k : Int) == 60) = true := by simpa using (show (k : Int) = 60 by omega)
     have d61 : decide ((k : Int) = 60) = true := decide_eq_true (by omega)
     have HK := Aa h60
     clear h60
     rcases hv with hv | hv
     have e1 := lit _ [99, 108, 97, 115, 115] hv
     have hlt := hWn (by rw [hv]; decide)
     clear hv hWn
     go_wp2_with fail
     refine htw.mono ?_
     rintro e wx ⟨rfl, rfl⟩
     clear htw
     go_wp2_with fail
     rotate_left
     have e1 := Bf W [99, 108, 97, 115, 115] (by rw [hv]; decide)
     have e2 := lit _ [105, 110, 116, 101, 114, 102, 97, 99, 101] hv
     have hlt := hWn (by rw [hv]; decide)
     clear hv hWn
     go_wp2_with fail
     refine htw.mono ?_
     rintro e wx ⟨rfl, rfl⟩
     go_wp2_with fail
     refine htw.mono ?_
     rintro e wx ⟨rfl, rfl⟩
     clear htw
     go_wp2_with fail
     all_goals (
      refine (B9 HS.out.tx zc 13).mono ?_
      rintro e w4 ⟨rfl, c4, d4, hT4, hc4⟩
      have HS4 := Aa (HS.out.step HC.out (r := -1) hT4 hc4 (by omega))
      clear hT4 hc4 HS q0
      have HS := HS4
      have hpl := Ds HS.out.tx (-1)
      obtain ⟨p, hp⟩ := Ax (Fx L a b (-1))
      rw [hp] at hpl
      clear hp
      go_wp2_with fail
      refine hpl.mono ?_
      rintro e w6 ⟨rfl, hc6⟩
      have HS6 := Aa (HS.out.no hc6)
      clear hc6 hpl HS
      go_upto_region 13 with fail
      obtain ⟨w7, hw7, hb7, hc7⟩ := A2 w6 (.cells #[.string ⟨#[118, 111, 105, 100]⟩, .string ⟨#[109, 97, 105, 110]⟩, .bool true, .bool false, .slice none 0 0, .slice none 0 0, .slice none 0 0, .int .i64 p.1, .int .i64 p.2] 29)
      try rw [hw7]
      have HS7 := Aa (HS6.out.no hc7)
      have HB7 := Aa hb7
      have y7 : ¬ w6.heap.size = g := by have h1 := HC.out.glo; have h2 := HS6.out.sze; omega
      have hp7 := HS7.out.pl
      have hon := Da HS7.out.tx (z := (-1)) (by omega) (by omega) ⟨#[109, 97, 105, 110]⟩ (by decide)
      obtain ⟨r8, hr8⟩ : ∃ r, Gs L (-1) ⟨#[109, 97, 105, 110]⟩ = r := ⟨_, rfl⟩
      rw [hr8] at hon
      clear hw7 hb7 hc7 HS6 hr8
      go_wp2_with fail
      refine hon.mono ?_
      rintro e w8 ⟨rfl, c8, d8, hT8, hc8, hq8⟩
      have HS8 := Aa (HS7.out.step HC.out (r := r8) hT8 hc8 (by omega))
      have HB8 := Aa (hc8.keep _ _ HB7.out (fun e => y7 e))
      have hp8 := HS8.out.pl
      have hbk := Ht HS8.out.tx HL.out (z := r8) (by omega) (by omega) ⟨#[118, 111, 105, 100]⟩ ⟨#[109, 97, 105, 110]⟩ true false none 0 0 p.1 p.2
      obtain ⟨q0, q1, q2, q3, q4, q5, q6, q7, q8⟩ := B4 HB8.out
      clear hT8 hc8 hq8 hon HS7
      go_wp2_with fail
      refine hbk.mono ?_
      rintro e w9 ⟨la, ls, lc, sa, t, sc, r9, rfl, hv9, hb9, c9, d9, hT9, hc9, hq9⟩
      have HS9 := Aa (HS8.out.step HC.out (r := r9) hT9 hc9 (by omega))
      have HV9 := Aa (hv9.up HS8.out.sze)
      have HB9 := Aa (hb9.up HS8.out.sze)
      clear hT9 hc9 hq9 hv9 hb9 hbk HS8
      clear q0 q1 q2 q3 q4 q5 q6 q7 q8
      have hbp := HS9.out.bp
      unfold Hd at hbp
      obtain ⟨q0, q1, q2, q3, q4, q5, q6, q7, q8, q9⟩ := Au hbp
      obtain ⟨f0, f1, f2, f3, f4, f5, f6, f7, f8, f9⟩ := Ef hbp
      obtain ⟨w10, hw10, hb10, hc10⟩ := U7 hbp (.string ⟨#[118, 111, 105, 100]⟩) (.string ⟨#[109, 97, 105, 110]⟩) (.bool true) (.bool false) (.slice none 0 0) (.slice la ls.length lc) (.slice sa t.len sc) (.int .i64 p.1) (.int .i64 p.2)
      have HT10 := Aa (HS9.out.tx.new hc10 HC.out.p0 (fun e => HC.out.pg e.symm))
      have HP10 := Aa (hc10.keep _ _ HS9.out.bP (fun e => HC.out.Pp e))
      have HF10 := Aa (hc10.keep _ _ HS9.out.bF (fun e => HC.out.Fp e))
      have HC10 := Aa (Ch.newOnly HS9.out.ch hc10 (fun q _ _ e => by have e' : q = pb := e; have := HC.out.ww; have := HC.out.p0; omega))
      have HQ10 := Aa hb10
      have HO10 := Aa (show w10.ownsRow lo 50 10 (.slice ca k cc) k (Ks.flatMap KD.cells) ∧ ∀ K ∈ Ks, I0 (Ex lo (.slice ca k cc)) w10 K from ⟨Bd HS9.out.own hc10 hbp (by decide), fun K hK => (HS9.out.ks K hK).ch hc10 (fun q o _ _ hp e => by have e' : q = pb := e; have := hp.1; have := HC.out.plo; omega)⟩)
      have HV10 := Aa (HV9.out.tb hc10 HC.out.plo)
      have HB10 := Aa (HB9.out.tb hc10 HC.out.plo)
      have hp9 := HS9.out.pl
      have HLN := Aa HS9.out.len
      clear hbp hb10 hc10 HS9 HV9 HB9
      go_upto_region 15 with fail
      clear hw10 q0 q1 q2 q3 q4 q5 q6 q7 q8 q9 f0 f1 f2 f3 f4 f5 f6 f7 f8 f9
      obtain ⟨⟨A0, c0, hgb, _⟩, _, _⟩ := HT10.out
      have g0 := Ab hgb 0
      clear hgb
      obtain ⟨n, hn⟩ := Ax L.length
      rw [hn] at g0 hp9
      clear hn
      rcases (show (0 ≤ r9 ∧ r9 < (n : Int)) ∨ (0 ≤ r9 ∧ ¬ r9 < (n : Int)) ∨ r9 = -1 from by omega) with ⟨z0, z1⟩ | ⟨z0, z1⟩ | z1
      {have dz : decide (r9 ≥ 0) = true := decide_eq_true z0
       exact Adt}
      {have dz : decide (r9 ≥ 0) = true := decide_eq_true z0
       have dy : decide (r9 < (n : Int)) = false := decide_eq_false z1
       obtain ⟨w11, hw11⟩ := Ax w10
       subst hw11
       exact Xo}
      {have dz : decide (r9 ≥ 0) = false := decide_eq_false (by omega)
       exact Xo}
      done)}
    {have d60 : ((k : Int) == 60) = false := by simpa using (show ¬ (k : Int) = 60 by omega)
     have d61 : decide ((k : Int) = 60) = false := decide_eq_false (by omega)
     rcases hv with hv | hv
     have e1 := lit _ [99, 108, 97, 115, 115] hv
     have hlt := hWn (by rw [hv]; decide)
     clear hv hWn
     go_wp2_with fail
     refine htw.mono ?_
     rintro e wx ⟨rfl, rfl⟩
     clear htw
     go_wp2_with fail
     rotate_left
     have e1 := Bf W [99, 108, 97, 115, 115] (by rw [hv]; decide)
     have e2 := lit _ [105, 110, 116, 101, 114, 102, 97, 99, 101] hv
     have hlt := hWn (by rw [hv]; decide)
     clear hv hWn
     go_wp2_with fail
     refine htw.mono ?_
     rintro e wx ⟨rfl, rfl⟩
     go_wp2_with fail
     refine htw.mono ?_
     rintro e wx ⟨rfl, rfl⟩
     clear htw
     go_wp2_with fail
     all_goals (
      have hcl := Xm HS.out.tx HL.out (z := zc) z0 hlt
      refine hcl.mono ?_
      rintro e w4 ⟨K, r4, rfl, hK, hc4, c4, d4, hT4, hq4⟩
      have hc4' : Ch (Tb g) wr w4 := hc4.mono (fun q o ho e => e.elim id (fun h => absurd (Ac ho) h))
      have HS4 := Aa (HS.out.step HC.out (r := r4) hT4 hc4' (by omega))
      have HKR := Aa (I0.fresh (lo := lo) HS.out.own HS.out.sze (hK.rd.mono (P' := Mk wr.heap.size) (fun q _ hq => Nat.le_of_not_lt hq)))
      have hr4 : r4 = -1 ∨ (zc < r4 ∧ r4 ≤ L.length) := by omega
      clear hK hc4 hc4' hT4 hq4 hcl q0 HS
      go_upto_region 10 with fail
      obtain ⟨w6, hw6, hb6, hc6⟩ := A2 w4 (.cells K.cells.toArray 50)
      unfold KD.cells at hw6 hb6
      have HC6A := Aa ((Ch.refl No w6).alloc (.cells K.cells.toArray 50))
      have HSA := Aa ((HS4.out.no hc6).no HC6A.out)
      have HKA := Aa ((HKR.out.no hc6).no HC6A.out)
      have hbp := (HS4.out.no hc6).bp
      unfold Hd at hbp
      have q0 := Ab hbp 0
      have yp6 := Ac hbp
      obtain ⟨x0, x1, x2, x3, x4, x5, x6, x7, x8, x9⟩ := Au hb6
      clear hb6 hc6 hbp
      go_wp2_with (at_builtin; go_must (refine Cb rfl _ _ rfl Tryz.sliceCls2 Tryz.infoCls2 (lb rfl) (lb rfl) lo (.slice ca k cc) k (Ks.flatMap KD.cells) rfl HSA.out.own w6.heap.size 1 K.cells rfl rfl (heap_alloc_new w6 _) (Aag _) (by omega) HSA.out.sze ?_))
      intro v7 w7 hr7 hc7 hv7
      obtain ⟨a7, p7, e7, hp7, hp8⟩ := Dh hr7
      subst e7
      have hv8 : (Value.slice a7 (k + 1) p7).ownBlock = (Value.slice ca k cc).ownBlock ∨ (Value.slice a7 (k + 1) p7).ownBlock = some (w6.alloc (.cells K.cells.toArray 50)).heap.size := by rw [show (w6.alloc (.cells K.cells.toArray 50)).heap.size = w6.heap.size + 1 from by simp]; exact hv7
      clear hw6 x0 x1 x2 x3 x4 x5 x6 x7 x8 x9 q0
      have hk7 : ∀ K' ∈ Ks ++ [K], I0 (Ex lo (.slice a7 (k + 1) p7)) w7 K' := by
       intro K' hK'
       rcases List.mem_append.1 hK' with h | h
       {exact (HSA.out.ks K' h).grow hc7 hv8}
       {simp at h; rw [h]; exact HKA.out.grow hc7 hv8}
      have hT7 := HSA.out.tx.app HSA.out.own hc7 (by decide) (by have := HC.out.p0; have := HC.out.plo; omega)
      have hbP7 := hc7.keep _ _ HSA.out.bP (Bu HSA.out.own HSA.out.bP (by decide))
      have hbF7 := hc7.keep _ _ HSA.out.bF (Bu HSA.out.own HSA.out.bF (by decide))
      have hbp7 := hc7.keep _ _ HSA.out.bp (Bu HSA.out.own HSA.out.bp (by decide))
      unfold Hd at hbp7
      have q0 := Ab hbp7 0
      have f0 := Ad hbp7 0
      obtain ⟨w8, hw8, hb8, hc8⟩ := Ai hbp7 0 (.slice a7 (k + 1) p7)
      have HS8 := Aa (show Mm w0 w g L a b PB FB pb lo a7 (k + 1) p7 (Ks ++ [K]) r4 c4 d4 w8 from by
       refine ⟨hT7.new hc8 HC.out.p0 (fun e => HC.out.pg e.symm), Ch.newOnly (Ch.newOnly HSA.out.ch hc7 (fun q o _ e => by have h1 := (Aw HSA.out.own q e).1; have h2 := HC.out.plo; have h3 := HC.out.p0; have h4 := HC.out.ww; omega)) hc8 (fun q _ _ e => by have e' : q = pb := e; have := HC.out.ww; have := HC.out.p0; omega), by omega, hc8.keep _ _ hbP7 (fun e => HC.out.Pp e), hc8.keep _ _ hbF7 (fun e => HC.out.Fp e), hb8, ?_, fun K' hK' => (hk7 K' hK').ch hc8 (fun q o _ _ hp e => by have e' : q = pb := e; have := hp.1; have := HC.out.plo; omega), ?_, Nat.le_trans HSA.out.sze (Nat.le_trans hc7.size hc8.size)⟩
       {rw [List.flatMap_append, List.flatMap_singleton]
        exact Bd hr7 hc8 hbp7 (by decide)}
       {rw [List.length_append, HSA.out.len]; rfl})
      clear hr7 hc7 hv7 hv8 hk7 hT7 hbP7 hbF7 hbp7 hb8 hc8 HSA HKA HS4 HKR HC6A
      go_upto_region 11 with fail
      clear hw8 q0 f0
      go_wp2
      go_roundg (N - 1)
      case rel => exact ⟨N - 1, r4, c4, d4, a7, k + 1, p7, Ks ++ [K], by omega, by omega, by omega, rfl, by omega, HS8⟩
      case measure => omega)}}
   {have dz : decide (zc ≥ 0) = true := decide_eq_true z0
    have e1 := Bf _ [99, 108, 97, 115, 115] hv
    have e2 := Bf _ [105, 110, 116, 101, 114, 102, 97, 99, 101] hv2
    clear hv hv2 hWn
    go_wp2_with fail
    refine htw.mono ?_
    rintro e wx ⟨rfl, rfl⟩
    go_wp2_with fail
    refine htw.mono ?_
    rintro e wx ⟨rfl, rfl⟩
    clear htw
    have hpl := Ds HS.out.tx zc
    obtain ⟨p, hp⟩ := Ax (Fx L a b zc)
    rw [hp] at hpl
    clear hp
    go_wp2_with fail
    refine hpl.mono ?_
    rintro e w6 ⟨rfl, hc6⟩
    have HS6 := Aa (HS.out.no hc6)
    clear hc6 hpl HS
    go_upto_region 13 with fail
    obtain ⟨w7, hw7, hb7, hc7⟩ := A2 w6 (.cells #[.string ⟨#[118, 111, 105, 100]⟩, .string ⟨#[109, 97, 105, 110]⟩, .bool true, .bool false, .slice none 0 0, .slice none 0 0, .slice none 0 0, .int .i64 p.1, .int .i64 p.2] 29)
    try rw [hw7]
    have HS7 := Aa (HS6.out.no hc7)
    have HB7 := Aa hb7
    have y7 : ¬ w6.heap.size = g := by have h1 := HC.out.glo; have h2 := HS6.out.sze; omega
    have hp7 := HS7.out.pl
    have hon := Da HS7.out.tx (z := zc) (by omega) (by omega) ⟨#[109, 97, 105, 110]⟩ (by decide)
    obtain ⟨r8, hr8⟩ : ∃ r, Gs L zc ⟨#[109, 97, 105, 110]⟩ = r := ⟨_, rfl⟩
    exact Adu}
   {subst hv
    clear htw hWn
    have hpl := Ds HS.out.tx (-1)
    obtain ⟨p, hp⟩ := Ax (Fx L a b (-1))
    rw [hp] at hpl
    clear hp
    go_wp2_with fail
    refine hpl.mono ?_
    rintro e w6 ⟨rfl, hc6⟩
    have HS6 := Aa (HS.out.no hc6)
    clear hc6 hpl HS
    go_upto_region 13 with fail
    obtain ⟨w7, hw7, hb7, hc7⟩ := A2 w6 (.cells #[.string ⟨#[118, 111, 105, 100]⟩, .string ⟨#[109, 97, 105, 110]⟩, .bool true, .bool false, .slice none 0 0, .slice none 0 0, .slice none 0 0, .int .i64 p.1, .int .i64 p.2] 29)
    try rw [hw7]
    have HS7 := Aa (HS6.out.no hc7)
    have HB7 := Aa hb7
    have y7 : ¬ w6.heap.size = g := by have h1 := HC.out.glo; have h2 := HS6.out.sze; omega
    have hp7 := HS7.out.pl
    have hon := Da HS7.out.tx (z := (-1)) (by omega) (by omega) ⟨#[109, 97, 105, 110]⟩ (by decide)
    obtain ⟨r8, hr8⟩ : ∃ r, Gs L (-1) ⟨#[109, 97, 105, 110]⟩ = r := ⟨_, rfl⟩
    exact Adu}}
 {have HE := Aa her
  have HP1 := Aa (hc1.keep _ _ HPb.out (fun h => h))
  have HF1 := Aa (hc1.keep _ _ HFb.out (fun h => h))
  have HC1 := Aa (HCb.out.trans hc1)
  have dne : (er != 0) = true := by simpa using her
  clear her hc1
  go_upto_region 3 with fail
  obtain ⟨w3, hw3, hb3, hc3⟩ := A2 w1 (.cells #[.int .i64 er, .int .i64 l, .int .i64 c] 34)
  try rw [hw3]
  have HP3 := Aa (hc3.keep _ _ HP1.out (fun h => h))
  have HF3 := Aa (hc3.keep _ _ HF1.out (fun h => h))
  have HC3 := Aa (HC1.out.trans hc3)
  have hP := HP3.out
  have hF := HF3.out
  unfold Hy at hP
  obtain ⟨r0, r1, r2, r3, r4, r5, r6, r7, r8, r9⟩ := Au hP
  obtain ⟨f0, f1, f2, f3, f4, f5, f6, f7, f8, f9⟩ := Ef hP
  obtain ⟨t0, t1, t2⟩ := Dy hF
  obtain ⟨v0, v1, v2⟩ := I5 hF
  obtain ⟨m0, m1, m2⟩ := Dy hb3
  have hPF : Hid (PB ≠ FB) := Aa (by omega)
  have hwP : w.heap.size ≤ PB := by omega
  have hwF : w.heap.size ≤ FB := by omega
  have s1 := HC1.out.size
  have s2 := Ac HF1.out
  have s3 := Ac HP1.out
  obtain ⟨fb, hfb⟩ := Ax w1.heap.size
  rw [hfb] at m0 m1 m2 s2 s3
  try rw [hfb]
  clear hb3 hc3 hw3 hP hF hfb s1
  go_region
  all_goals (
   go_wp2_with fail
   have hP := HP3.out
   unfold Hy at hP
   obtain ⟨wf, hwf, hfb, hfc⟩ := F3 hP (.slice none 0 0) (.string ⟨#[]⟩) (.string ⟨#[]⟩) (.bool false) (.bool false) (.slice none 0 0) (.slice none 0 0) (.slice none 0 0) (.int .i64 0) (.int .i64 0)
   try rw [hwf]
   have hff := hfc.keep _ _ HF3.out (fun e => by have e' : FB = PB := e; exact hPF.out e'.symm)
   obtain ⟨wv, hwv, hvb, hvc⟩ := Ev hff (.int .i64 er) (.int .i64 l) (.int .i64 c)
   try rw [hwv]
   have hvp := hvc.keep _ _ hfb (fun e => by have e' : PB = FB := e; exact hPF.out e')
   obtain ⟨k0, k1, k2, k3, k4, k5, k6, k7, k8, k9⟩ := Au hvp
   obtain ⟨j0, j1, j2⟩ := Dy hvb
   refine bodyPost_ret (v := .tuple #[.agg Hy, .agg #[.int .i64 er, .int .i64 l, .int .i64 c]]) (by simp [results, Tryz.results9, go_sem, Hy, k0, k1, k2, k3, k4, k5, k6, k7, k8, k9, j0, j1, j2]) rfl ?_
   exact ⟨Ch.newOnly (Ch.newOnly HC3.out (by first | exact hfc | exact hfc.drew) (Eb (by omega))) (by first | exact hvc | exact hvc.drew) (Eb (by omega)), .inr ⟨er, l, c, HE.out, rfl⟩⟩)}
end Go.Proofs.YtgjpgfedlgdjhaaGreatDoor
end
