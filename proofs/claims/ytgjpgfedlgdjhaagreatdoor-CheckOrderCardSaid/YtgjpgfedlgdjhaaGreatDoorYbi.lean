/- Part 35. -/
import Derived.Test.YtgjpgfedlgdjhaaGreatDoorYay
set_option linter.unusedVariables false
set_option linter.unusedSimpArgs false
set_option maxHeartbeats 64000000
set_option maxRecDepth 8192
section
namespace Go.Proofs.YtgjpgfedlgdjhaaGreatDoor
open Go.RowKit Go.W
theorem Mq {w : World} {b : Nat} {x0 x1 x2 x3 x4 x5 : Value} {t : TypeId} {fz : Nat × Nat} (h : w.heap[b]? = some (.cells #[x0, x1, x2, x3, x4, x5] t fz)) :
 w.cell? ⟨b, 0, none⟩ = some x0 ∧ w.cell? ⟨b, 1, none⟩ = some x1 ∧ w.cell? ⟨b, 2, none⟩ = some x2 ∧ w.cell? ⟨b, 3, none⟩ = some x3 ∧ w.cell? ⟨b, 4, none⟩ = some x4 ∧ w.cell? ⟨b, 5, none⟩ = some x5 :=
 ⟨Ab h 0, Ab h 1, Ab h 2, Ab h 3, Ab h 4, Ab h 5⟩
theorem Rg {w : World} {b : Nat} {cs : Array Value} {t : TypeId} (h : w.heap[b]? = some (.cells cs t (0, 0))) :
 w.frozen? ⟨b, 0, none⟩ = false ∧ w.frozen? ⟨b, 1, none⟩ = false ∧ w.frozen? ⟨b, 2, none⟩ = false ∧ w.frozen? ⟨b, 3, none⟩ = false ∧ w.frozen? ⟨b, 4, none⟩ = false ∧ w.frozen? ⟨b, 5, none⟩ = false :=
 ⟨Ad h 0, Ad h 1, Ad h 2, Ad h 3, Ad h 4, Ad h 5⟩
def Rh (F : Nat) (mayB : Cy → Bool) : Prop := (∀ (args : Array Value) (w : World), (callFunc F args).run Tryz.prog w = .ok (.enter F args) w) ∧ ∀ (w : World) (y : Cy) (sa : Option Addr) (sn sc : Nat), Calls Tryz.prog F #[.agg #[.int .i64 y.cls, .string y.nm, .string y.ty, .slice sa sn sc, .bool y.st, .bool y.ba]] w fun e w' => e = .returned (.bool (mayB y)) ∧ Ch No w w'
theorem Aaq {p : Prop} (h : p := by
 intro w y sa sn sc
 obtain ⟨cls, nm, ty, ps, st, ba⟩ := y
 obtain ⟨w1, hw1, hb1, hc1⟩ := A2 w (.cells #[.int .i64 cls, .string nm, .string ty, .slice sa sn sc, .bool st, .bool ba] 54)
 have HC := Aa hc1
 have c4 := Ab hb1 4
 have c5 := Ab hb1 5
 clear hb1 hc1
 cases st <;> cases ba <;> (
  go_in
  go_wp2
  go_ret
  exact ⟨rfl, HC.out⟩)
 ) : p := h
theorem Adx : Rh 163 (fun y => !y.st) := by
 refine ⟨fun args w => by
  simp [callFunc, go_sem, Tryz.func163]
  rw [if_neg (by decide +kernel)]
  exact if_neg (fun h => Option.some_ne_none _ h), ?_⟩
 exact Aaq
theorem Ady : Rh 164 (fun y => !y.st && !y.ba) := by
 refine ⟨fun args w => by
  simp [callFunc, go_sem, Tryz.func164]
  rw [if_neg (by decide +kernel)]
  exact if_neg (fun h => Option.some_ne_none _ h), ?_⟩
 exact Aaq
theorem Ys : Rh 165 (fun y => y.st) := by
 refine ⟨fun args w => by
  simp [callFunc, go_sem, Tryz.func165]
  rw [if_neg (by decide +kernel)]
  exact if_neg (fun h => Option.some_ne_none _ h), ?_⟩
 exact Aaq
section
variable {w0 w : World} {b : Nat} {cs : List Aj} {ms : List Ba} {xv : Value} {mb vb n : Nat} {vs : ByteArray → Option ByteArray} {ret : ByteArray} {l c : Int}
def D7 (P : Prop) (w : World) (e : Ending) (w' : World) : Prop := Am P e ∧ Ch No w w'
theorem Jo (E : Dc cs ms) (h : Bl w0 w b cs ms xv mb vb n vs ret l c) (hv : F6 vs) {F : Nat} {mayB : Cy → Bool} (hm : Rh F mayB) {t : ByteArray} (ht : t.size ≤ maxLen) (s : St) (hs : Bb s.x s.y s.z s.t s.f) {ga : Option Addr} {gs : List ByteArray} {gc : Nat} (hga : Ah w (.slice ga gs.length gc) gs) (hgz : gs.length ≤ 41 ∧ ∀ x ∈ gs, x.size ≤ 20000) (ba oa : Option Addr) (bn bc on oc : Nat) :
 Calls Tryz.prog 162 #[.pointer (some ⟨b, 0, none⟩), .string t, .agg #[.int .i64 s.k, .string s.x, .string s.y, .string s.z, .string s.t, .string s.f, .slice ga gs.length gc, .int .i64 s.n, .slice ba bn bc, .slice oa on oc, .int .i64 s.l, .int .i64 s.c], .func (.func F) #[] #[]] w (D7 (Dw cs ms vs t s.f s.x gs (fun y => mayB y = true)) w) := by
 obtain ⟨hsx, _, _, _, hsf⟩ := hs
 have hsx' := Ak hsx
 have hsf' := Ak hsf
 obtain ⟨wa, hwa, hba, hca⟩ := A2 w (.cells #[.int .i64 s.k, .string s.x, .string s.y, .string s.z, .string s.t, .string s.f, .slice ga gs.length gc, .int .i64 s.n, .slice ba bn bc, .slice oa on oc, .int .i64 s.l, .int .i64 s.c] 128)
 obtain ⟨B, hB⟩ := Ax w.heap.size
 rw [hB] at hba
 obtain ⟨NG, hNG⟩ : ∃ N, gs.length = N := ⟨_, rfl⟩
 have HNG := Aa hNG
 rw [hNG] at hba hwa ⊢
 have HBA := Aa hba
 have HCA := Aa hca
 have HG := Aa (Ah.no hga hca)
 have H := Aa (h.no hca)
 have c0 := Ab H.out.blk 0
 have hcl := Fr H.out.typ ht
 have HME := Aa H.out.mem
 have HE := Aa E
 have HV := Aa hv
 have HM := Aa hm
 have HCF := Aa hm.1
 have HGZ := Aa hgz.2
 have hg41 : NG ≤ 41 := by rw [← hNG]; exact hgz.1
 have hb0 : B < wa.heap.size := Ac hba
 have hb1 : b < wa.heap.size := Ac H.out.blk
 obtain ⟨xb, tb, abv, ss, hxe, hx⟩ := H.out.typ
 have HTY := Aa (show Bv wa xv cs from ⟨xb, tb, abv, ss, hxe, hx⟩)
 subst hxe
 clear h hx hba hca hga hv hm E hNG hgz
 cases hf : As cs t with
 | none =>
  have HF := Aa (show ¬ Dw cs ms vs t s.f s.x gs (fun y => mayB y = true) from fun ⟨i, y, h1, _⟩ => by rw [hf] at h1; cases h1)
  rw [Ii hf, show Cd (As cs) t = false from by unfold Cd; rw [hf]; rfl] at hcl
  clear hf
  go_in
  go_wp2_with fail
  try rw [hB]
  refine hcl.mono ?_
  rintro e w1 ⟨rfl, rfl⟩
  go_wp2
  go_ret
  exact ⟨.f HF.out, HCA.out⟩
 | some i =>
  rw [Ei hf, show Cd (As cs) t = true from by unfold Cd; rw [hf]; rfl] at hcl
  have HF := Aa hf
  have HI := Aa (Ja.some (Ey hf))
  clear hf
  obtain ⟨wm, hwm⟩ := Ax ((wa.alloc (.cells #[.int .i64 0, .string ⟨#[]⟩, .string ⟨#[]⟩, .slice none 0 0, .bool false, .bool false] 54)).drew)
  have hbm : wm.heap[wa.heap.size]? = some (.cells #[.int .i64 0, .string ⟨#[]⟩, .string ⟨#[]⟩, .slice none 0 0, .bool false, .bool false] 54 (0, 0)) := by rw [← hwm]; exact heap_alloc_new wa _
  have hcm : Ch No wa wm := by rw [← hwm]; exact ((Ch.refl No wa).alloc _).drew
  obtain ⟨M, hM⟩ := Ax wa.heap.size
  rw [hM] at hbm hb0 hb1
  have HMZ := Aa hbm
  have hMm := Ac hbm
  have HCM := Aa hcm
  have HMN := Aa hM
  clear hbm hcm
  have hmm := Ui HE.out.S HE.out.no HE.out.sm HE.out.ln HE.out.fw hsf' (Eo cs i) (i : Int) (some i) (HME.out.no HCM.out) HI.out (fun j e => by cases e; exact Nat.le_refl _)
  have hmn := Ui HE.out.S HE.out.no HE.out.sm HE.out.ln HE.out.fw hsf' (Eo cs i) (i : Int) (some i) (HME.out.no ((Ch.refl No wa).drew)) HI.out (fun j e => by cases e; exact Nat.le_refl _)
  have HSx := Aa (show wa.cell? ⟨b, 1, none⟩ = some (.pointer (some ⟨mb, 0, none⟩)) ∧ wa.cell? ⟨B, 5, none⟩ = some (.string s.f) from ⟨Ab H.out.blk 1, Ab HBA.out 5⟩)
  cases ho : C9 cs ms s.f (some i) with
  | none =>
   rw [ho] at hmm hmn
   have HO := Aa (show ¬ Dw cs ms vs t s.f s.x gs (fun y => mayB y = true) from fun ⟨j, y, h1, h2, _⟩ => by rw [HF.out] at h1; cases h1; rw [ho] at h2; cases h2)
   clear ho
   go_in
   go_wp2_with fail
   try rw [hB]
   refine hcl.mono ?_
   rintro e w1 ⟨rfl, rfl⟩
   clear hcl
   go_upto_region 4 with fail
   clear c0
   have HSd := Aa (dr2 HSx.out)
   have HSm := Aa (S1 HSx.out HCM.out)
   go_region_held3 (fun w' => w'.cell? ⟨b, 1, none⟩ = some (.pointer (some ⟨mb, 0, none⟩)) ∧ w'.cell? ⟨B, 5, none⟩ = some (.string s.f)) (first | with_reducible exact HSx.out | with_reducible exact HSd.out | with_reducible exact HSm.out | with_reducible exact HS4.out | with_reducible exact HSc.out | with_reducible exact HSn.out | exact ⟨cellOld HSx.out.1 _, cellOld HSx.out.2 _⟩ | exact ⟨cellOld HS4.out.1 _, cellOld HS4.out.2 _⟩ | go_keep) (first | (go_at_call 18; (try rw [hwm]); refine hmm.mono ?_; rintro e w4 ⟨rfl, hc4⟩; have K4 := Aa (HCM.out.trans hc4); have HS4 := Aa (S1 HSx.out K4.out); have hz4 := hc4.keep _ _ HMZ.out (fun h => h); obtain ⟨z0, z1, z2, z3, z4, z5⟩ := Mq hz4; obtain ⟨f0, f1, f2, f3, f4, f5⟩ := Rg hz4; obtain ⟨w5, hw5, hb5, hc5⟩ := Ew hz4 (.int .i64 0) (.string ⟨#[]⟩) (.string ⟨#[]⟩) (.slice none 0 0) (.bool false) (.bool false); have HSc := Aa (show w5.cell? ⟨b, 1, none⟩ = some (.pointer (some ⟨mb, 0, none⟩)) ∧ w5.cell? ⟨B, 5, none⟩ = some (.string s.f) from ⟨Ae HS4.out.1 hc5 (fun o _ e => by have e' : b = M := e; omega), Ae HS4.out.2 hc5 (fun o _ e => by have e' : B = M := e; omega)⟩); have HMB := Aa hb5; have HC5 := Aa (Ch.newOnly K4.out hc5 (fun q _ _ e => by have e' : q = M := e; have := HMN.out; omega)); obtain ⟨MB, hMB⟩ : ∃ MB, MB = M := ⟨_, rfl⟩; subst hMB; have hMB := HMN.out; clear hc4 hmm hmn hz4 hb5 hc5) | (go_at_call 18; refine hmn.mono ?_; rintro e w4 ⟨rfl, hc4⟩; have K4 := Aa (((Ch.refl No wa).drew).trans hc4); have HS4 := Aa (S1 HSx.out K4.out); obtain ⟨wn, hwn⟩ := Ax (w4.alloc (.cells #[.int .i64 0, .string ⟨#[]⟩, .string ⟨#[]⟩, .slice none 0 0, .bool false, .bool false] 54)); have hbn := heap_alloc_new w4 (.cells #[.int .i64 0, .string ⟨#[]⟩, .string ⟨#[]⟩, .slice none 0 0, .bool false, .bool false] 54); have hcn := (Ch.refl No w4).alloc (.cells #[.int .i64 0, .string ⟨#[]⟩, .string ⟨#[]⟩, .slice none 0 0, .bool false, .bool false] 54); rw [hwn] at hbn hcn; have Kn := Aa hcn; have HSn := Aa (S1 HS4.out Kn.out); have hn1 := Ac hbn; have hk4 := K4.out.size; obtain ⟨MB, hMB⟩ := Ax w4.heap.size; rw [hMB] at hbn hn1; obtain ⟨z0, z1, z2, z3, z4, z5⟩ := Mq hbn; obtain ⟨f0, f1, f2, f3, f4, f5⟩ := Rg hbn; obtain ⟨w5, hw5, hb5, hc5⟩ := Ew hbn (.int .i64 0) (.string ⟨#[]⟩) (.string ⟨#[]⟩) (.slice none 0 0) (.bool false) (.bool false); have HC5 := Aa (Ch.newOnly (K4.out.trans hcn) hc5 (Eb (by omega))); have HSc := Aa (show w5.cell? ⟨b, 1, none⟩ = some (.pointer (some ⟨mb, 0, none⟩)) ∧ w5.cell? ⟨B, 5, none⟩ = some (.string s.f) from ⟨Ae HSn.out.1 hc5 (fun o _ e => by have e' : b = MB := e; omega), Ae HSn.out.2 hc5 (fun o _ e => by have e' : B = MB := e; omega)⟩); have HMB := Aa hb5; clear hc4 hmm hmn hbn hcn hb5 hc5))
   all_goals (
    go_wp2
    go_ret
    exact ⟨.f HO.out, HCA.out.trans HC5.out⟩)
  | some y =>
   rw [ho] at hmm hmn
   have HO := Aa ho
   have hty := Aah HE.out.zm ho
   have HTY2 := Aa hty.2
   have hty1 := hty.1
   clear ho hty
   go_in
   go_wp2_with fail
   try rw [hB]
   refine hcl.mono ?_
   rintro e w1 ⟨rfl, rfl⟩
   clear hcl
   go_upto_region 4 with fail
   clear c0
   have HSd := Aa (dr2 HSx.out)
   have HSm := Aa (S1 HSx.out HCM.out)
   go_region_held3 (fun w' => w'.cell? ⟨b, 1, none⟩ = some (.pointer (some ⟨mb, 0, none⟩)) ∧ w'.cell? ⟨B, 5, none⟩ = some (.string s.f)) (first | with_reducible exact HSx.out | with_reducible exact HSd.out | with_reducible exact HSm.out | with_reducible exact HS4.out | with_reducible exact HSc.out | with_reducible exact HSn.out | exact ⟨cellOld HSx.out.1 _, cellOld HSx.out.2 _⟩ | exact ⟨cellOld HS4.out.1 _, cellOld HS4.out.2 _⟩ | go_keep) (first | (go_at_call 18; (try rw [hwm]); refine hmm.mono ?_; rintro e w4 ⟨⟨sa, sn, sc, rfl, hst⟩, hc4⟩; have K4 := Aa (HCM.out.trans hc4); have HS4 := Aa (S1 HSx.out K4.out); have hz4 := hc4.keep _ _ HMZ.out (fun h => h); obtain ⟨z0, z1, z2, z3, z4, z5⟩ := Mq hz4; obtain ⟨f0, f1, f2, f3, f4, f5⟩ := Rg hz4; obtain ⟨w5, hw5, hb5, hc5⟩ := Ew hz4 (.int .i64 y.cls) (.string y.nm) (.string y.ty) (.slice sa sn sc) (.bool y.st) (.bool y.ba); have HSc := Aa (show w5.cell? ⟨b, 1, none⟩ = some (.pointer (some ⟨mb, 0, none⟩)) ∧ w5.cell? ⟨B, 5, none⟩ = some (.string s.f) from ⟨Ae HS4.out.1 hc5 (fun o _ e => by have e' : b = M := e; omega), Ae HS4.out.2 hc5 (fun o _ e => by have e' : B = M := e; omega)⟩); have HMB := Aa hb5; have HC5 := Aa (Ch.newOnly K4.out hc5 (fun q _ _ e => by have e' : q = M := e; have := HMN.out; omega)); have HST := Aa (hst.ch hc5 (fun q cur _ hq e => by have e' : q = M := e; omega)).at_; clear hst; obtain ⟨MB, hMB⟩ : ∃ MB, MB = M := ⟨_, rfl⟩; subst hMB; have hMB := HMN.out; clear hc4 hmm hmn hz4 hb5 hc5) | (go_at_call 18; refine hmn.mono ?_; rintro e w4 ⟨⟨sa, sn, sc, rfl, hst⟩, hc4⟩; have K4 := Aa (((Ch.refl No wa).drew).trans hc4); have HS4 := Aa (S1 HSx.out K4.out); obtain ⟨wn, hwn⟩ := Ax (w4.alloc (.cells #[.int .i64 0, .string ⟨#[]⟩, .string ⟨#[]⟩, .slice none 0 0, .bool false, .bool false] 54)); have hbn := heap_alloc_new w4 (.cells #[.int .i64 0, .string ⟨#[]⟩, .string ⟨#[]⟩, .slice none 0 0, .bool false, .bool false] 54); have hcn := (Ch.refl No w4).alloc (.cells #[.int .i64 0, .string ⟨#[]⟩, .string ⟨#[]⟩, .slice none 0 0, .bool false, .bool false] 54); rw [hwn] at hbn hcn; have Kn := Aa hcn; have HSn := Aa (S1 HS4.out Kn.out); have hn1 := Ac hbn; have hk4 := K4.out.size; obtain ⟨MB, hMB⟩ := Ax w4.heap.size; rw [hMB] at hbn hn1; obtain ⟨z0, z1, z2, z3, z4, z5⟩ := Mq hbn; obtain ⟨f0, f1, f2, f3, f4, f5⟩ := Rg hbn; obtain ⟨w5, hw5, hb5, hc5⟩ := Ew hbn (.int .i64 y.cls) (.string y.nm) (.string y.ty) (.slice sa sn sc) (.bool y.st) (.bool y.ba); have HC5 := Aa (Ch.newOnly (K4.out.trans hcn) hc5 (Eb (by omega))); have HSc := Aa (show w5.cell? ⟨b, 1, none⟩ = some (.pointer (some ⟨mb, 0, none⟩)) ∧ w5.cell? ⟨B, 5, none⟩ = some (.string s.f) from ⟨Ae HSn.out.1 hc5 (fun o _ e => by have e' : b = MB := e; omega), Ae HSn.out.2 hc5 (fun o _ e => by have e' : B = MB := e; omega)⟩); have HMB := Aa hb5; have HST := Aa (hst.ch (hcn.mono (S' := fun q _ => q = MB) (fun _ _ _ h => h.elim) |>.trans' hc5 (fun _ _ _ e => e)) (fun q cur hq hbq e => by have e' : q = MB := e; subst e'; have h1 := Aw hst _ hq; obtain ⟨_, cu, h2⟩ := h1; have := Ac h2; omega)).at_; clear hst; clear hc4 hmm hmn hbn hcn hb5 hc5))
   all_goals (
    go_upto_region 5 with fail
    try rw [hMB]
    clear hw5 hMB
    have HPS := HST
    have hps := HPS.out
    obtain ⟨pa, pcap, ep, hpc, hpm, _⟩ := hps
    cases ep
    obtain ⟨NP, hNP⟩ : ∃ N, y.ps.length = N := ⟨_, rfl⟩
    have HNP := Aa hNP
    rw [hNP] at hpc HMB HPS
    try rw [hNP]
    unfold maxLen at hpm
    have hmb9 := HMB.out
    obtain ⟨m0, m1, m2, m3, m4, m5⟩ : w5.cell? ⟨MB, 0, none⟩ = some (.int .i64 y.cls) ∧ w5.cell? ⟨MB, 1, none⟩ = some (.string y.nm) ∧ w5.cell? ⟨MB, 2, none⟩ = some (.string y.ty) ∧ w5.cell? ⟨MB, 3, none⟩ = some (.slice sa NP sc) ∧ w5.cell? ⟨MB, 4, none⟩ = some (.bool y.st) ∧ w5.cell? ⟨MB, 5, none⟩ = some (.bool y.ba) := ⟨Ab hmb9 0, Ab hmb9 1, Ab hmb9 2, Ab hmb9 3, Ab hmb9 4, Ab hmb9 5⟩
    have HB5 := Aa (HC5.out.keep _ _ HBA.out (fun h => h))
    have d6 := Ab HB5.out 6
    have hmay := HM.out.2 w5 y sa NP sc
    clear hmb9 HST HSx HS4 HSc HSd hNP
    cases hmb : mayB y with
    | false =>
     have HMB2 := Aa hmb
     rw [hmb] at hmay
     clear hmb
     go_wp2_with fail
     rw [HCF.out, Oper.upon_enter]
     refine hmay.mono ?_
     rintro e w6 ⟨rfl, hc6⟩
     have HC6 := Aa (HCA.out.trans (HC5.out.trans hc6))
     clear hc6
     go_wp2
     go_ret
     exact ⟨.f (fun ⟨j, u, h1, h2, h3, _⟩ => by rw [HF.out] at h1; cases h1; rw [HO.out] at h2; cases h2; rw [HMB2.out] at h3; cases h3), HC6.out⟩
    | true =>
     have HMB2 := Aa hmb
     rw [hmb] at hmay
     clear hmb
     by_cases hl : NP = NG
     {have en : ((NP : Int) != (NG : Int)) = false := by simp [hl]
      subst hl
      have dn : ((NP : Int) != (NP : Int)) = false := by simp
      go_wp2_with fail
      rw [HCF.out, Oper.upon_enter]
      refine hmay.mono ?_
      rintro e w6 ⟨rfl, hc6⟩
      have HC6 := Aa (HC5.out.trans hc6)
      have HB6 := Aa (hc6.keep _ _ HB5.out (fun h => h))
      have HMB6 := Aa (hc6.keep _ _ HMB.out (fun h => h))
      have HPS6 := Aa (HPS.out.no hc6)
      clear m0 m1 m2 m3 m4 m5 d6 hc6 hmay HPS HB5 HMB
      have d6 := Ab HB6.out 6
      have m3 := Ab HMB6.out 3
      go_upto_region 7 with fail
      clear m3
      go_wp2_with fail
      clear d6
      go_loopg [8, 12, 13, 56] NP (fun gg s8 s12 s13 s56 wr => ∃ k : Nat, k ≤ NP ∧ NP - k ≤ gg ∧ s56 = .int .i64 k ∧ Hid (∀ (j : Nat) (a p : ByteArray), j < k → gs[j]? = some a → y.ps[j]? = some p → Eh cs (Di vs a) p) ∧ Hid (Ch No w6 wr))
      case atStart => exact ⟨0, Nat.zero_le _, by omega, rfl, Aa (fun j a p h => absurd h (Nat.not_lt_zero _)), Aa (Ch.refl _ _)⟩
      case round =>
       obtain ⟨k, hk, hg, rfl, HA, HCR⟩ := hrel
       cases hd : decide (k < NP) with
       | true =>
        have hkN : k < NP := by simpa using hd
        obtain ⟨a, ha⟩ := gE (l := gs) (i := k) (by have := HNG.out; omega)
        obtain ⟨p, hp⟩ := gE (l := y.ps) (i := k) (by have := HNP.out; omega)
        obtain ⟨ga', gcap, eg, hgc, _, hgcell⟩ := Ah.no HG.out (HC6.out.trans HCR.out)
        rw [HNG.out] at eg hgcell hgc
        cases eg
        obtain ⟨gb, goff, rfl, hgcell2⟩ := hgcell (by omega)
        have q0 := hgcell2 k a ha
        obtain ⟨pa', pcap', ep', _, _, hpcell⟩ := Ah.no HPS6.out HCR.out
        rw [HNP.out] at ep' hpcell
        cases ep'
        obtain ⟨pb, poff, rfl, hpcell2⟩ := hpcell (by omega)
        have p0 := hpcell2 k p hp
        have hmr := HCR.out.keep _ _ HMB6.out (fun h => h)
        have HCK := Aa (H.out.no (HC6.out.trans HCR.out))
        have HAX := Aa ha
        have HPX := Aa hp
        have hpz := HTY2.out p (mG hp)
        have haz := Iu (HGZ.out a (mG ha))
        have HSx := Aa (show wr.cell? ⟨b, 0, none⟩ = some (.pointer (some ⟨xb, 0, none⟩)) ∧ wr.cell? ⟨MB, 3, none⟩ = some (.slice (some ⟨pb, poff, none⟩) NP sc) ∧ wr.cell? ⟨pb, poff + k, none⟩ = some (.string p) from ⟨Ab HCK.out.blk 0, Ab hmr 3, p0⟩)
        clear ha hp hgcell hgcell2 hpcell hpcell2 p0 hmr
        go_upto_region 10 with fail
        clear q0
        have HSd := Aa (dr3 HSx.out)
        go_region_held3 (fun w' => w'.cell? ⟨b, 0, none⟩ = some (.pointer (some ⟨xb, 0, none⟩)) ∧ w'.cell? ⟨MB, 3, none⟩ = some (.slice (some ⟨pb, poff, none⟩) NP sc) ∧ w'.cell? ⟨pb, poff + k, none⟩ = some (.string p)) (first | with_reducible exact HSx.out | with_reducible exact HSd.out | with_reducible exact HS7.out | with_reducible exact HS8.out | go_keep) (first | (go_at_call 136; refine (Hc (HCK.out.no ((Ch.refl No wr).drew)) haz).mono ?_; rintro e w7 ⟨rfl, hc7⟩; have K7 := Aa (((Ch.refl No wr).drew).trans hc7); have HS7 := Aa (ch3 HSx.out K7.out); clear hc7) | (go_at_call 139; refine (Gg ((HTY.out.no (HC6.out.trans HCR.out)).no K7.out) (HV.out.of a) hpz).mono ?_; rintro e w8 ⟨⟨r, hr0, hr⟩, hc8⟩; have K8 := Aa (K7.out.trans hc8); have HS8 := Aa (ch3 HSx.out K8.out); clear hc8; subst hr0; have HR := Aa hr; clear hr))
        all_goals (
         clear HSx HS7 HS8
         cases r with
         | true =>
          have HRR := Aa (HR.out.1 rfl)
          go_wp2
          go_roundg (NP - k - 1)
          case rel => exact ⟨k + 1, by omega, by omega, by go_num, Aa (fun j a' p' hj h1 h2 => by
           by_cases h3 : j < k
           {exact HA.out j a' p' h3 h1 h2}
           · obtain rfl : j = k := by omega
             rw [HAX.out] at h1; cases h1
             rw [HPX.out] at h2; cases h2
             exact HRR.out), Aa (HCR.out.trans K8.out)⟩
          case measure => omega
         | false =>
          have HRR := Aa (show ¬ Eh cs (Di vs a) p from fun h => by have := HR.out.2 h; cases this)
          go_wp2
          go_ret
          exact ⟨.f (fun ⟨j, u, h1, h2, h3, h4, h5, _⟩ => by rw [HF.out] at h1; cases h1; rw [HO.out] at h2; cases h2; exact HRR.out (h5 k a p HAX.out HPX.out)), HCA.out.trans (HC6.out.trans (HCR.out.trans K8.out))⟩)
       | false =>
        have hkN : ¬ k < NP := by simpa using hd
        have HALL := Aa (show ∀ (j : Nat) (a p : ByteArray), gs[j]? = some a → y.ps[j]? = some p → Eh cs (Di vs a) p from fun j a p h1 h2 => HA.out j a p (by have h3 := (gL h1); have h4 := HNG.out; omega) h1 h2)
        have HCW := Aa (HC6.out.trans HCR.out)
        have HMR := Aa (HCR.out.keep _ _ HMB6.out (fun h => h))
        have HBR := Aa (HCR.out.keep _ _ HB6.out (fun h => h))
        have hmr := HMR.out
        have hbr := HBR.out
        have m2 := Ab hmr 2
        have d1 := Ab hbr 1
        clear hmr hbr
        have HEQ := Aa (show y.ps.length = gs.length from HNP.out.trans HNG.out.symm)
        by_cases hx0 : s.x = ⟨#[]⟩
        {have e1 := lit s.x [] hx0
         have HX0 := Aa hx0
         clear hx0
         go_wp2
         go_ret
         exact ⟨.t ⟨i, y, HF.out, HO.out, HMB2.out, HEQ.out, HALL.out, .inl HX0.out⟩, HCA.out.trans HCW.out⟩}
        {have e1 := Bf s.x [] hx0
         have HX0 := Aa hx0
         clear hx0
         by_cases hvd : y.ty = Gf
         {have e2 := lit y.ty [118, 111, 105, 100] hvd
          have en2 : (y.ty.toList != [118, 111, 105, 100]) = false := by rw [bne, e2]; rfl
          have HVD := Aa hvd
          clear hvd
          go_wp2
          go_ret
          exact ⟨.f (fun ⟨j, u, h1, h2, _, _, _, h6⟩ => by rw [HF.out] at h1; cases h1; rw [HO.out] at h2; cases h2; exact h6.elim HX0.out (fun h => h.1 HVD.out)), HCA.out.trans HCW.out⟩}
         {have e2 := Bf y.ty [118, 111, 105, 100] hvd
          have en2 : (y.ty.toList != [118, 111, 105, 100]) = true := by rw [bne, e2]; rfl
          have HVD := Aa hvd
          have hgo := Gn (H.out.no HCW.out) HV.out hty1 hsx'
          clear hvd
          go_wp2_with fail
          refine hgo.mono ?_
          rintro e w9 ⟨⟨r, rfl, hr⟩, hc9⟩
          have HR := Aa hr
          have HC9 := Aa (HCA.out.trans (HCW.out.trans hc9))
          clear hr hc9 hgo
          go_wp2
          go_ret
          exact ⟨B6 _ ⟨fun h => ⟨i, y, HF.out, HO.out, HMB2.out, HEQ.out, HALL.out, .inr ⟨HVD.out, HR.out.1 (by simpa using h)⟩⟩, fun ⟨j, u, h1, h2, _, _, _, h6⟩ => by rw [HF.out] at h1; cases h1; rw [HO.out] at h2; cases h2; exact h6.elim (fun h => absurd h HX0.out) (fun h => by simpa using HR.out.2 h.2)⟩, HC9.out⟩}}}
     {have en : ((NP : Int) != (NG : Int)) = true := by simp; omega
      have HLN := Aa hl
      clear hl
      go_wp2_with fail
      rw [HCF.out, Oper.upon_enter]
      refine hmay.mono ?_
      rintro e w6 ⟨rfl, hc6⟩
      have HC6 := Aa (HCA.out.trans (HC5.out.trans hc6))
      have hb6 := hc6.keep _ _ HB5.out (fun h => h)
      have hm6 := hc6.keep _ _ HMB.out (fun h => h)
      clear d6 m0 m1 m2 m3 m4 m5 hc6
      have d6 := Ab hb6 6
      have m3 := Ab hm6 3
      clear hb6 hm6
      go_wp2
      go_ret
      exact ⟨.f (fun ⟨j, u, h1, h2, _, h4, _⟩ => by rw [HF.out] at h1; cases h1; rw [HO.out] at h2; cases h2; exact HLN.out (HNP.out.symm.trans (h4.trans HNG.out))), HC6.out⟩})
end
section
variable {w0 w : World} {b : Nat} {cs : List Aj} {ms : List Ba} {xv : Value} {mb vb nn : Nat} {vs : ByteArray → Option ByteArray} {ret : ByteArray} {l c : Int}
theorem Adz {p : Prop} (h : p := by
 go_in
 go_wp2_with fail
 try rw [hB]
 refine hk.mono ?_
 rintro e w2 ⟨⟨r, rfl, hr⟩, hc2⟩
 have HRR := Aa hr
 have HC2 := Aa hc2
 clear hr hc2 hk
 go_wp2
 go_ret
 exact ⟨B6 _ ⟨fun h => HRR.out.1 (by simpa using h), fun h => by simpa using HRR.out.2 h⟩, HCA.out.trans HC2.out⟩
 ) : p := h
theorem Ad0 (E : Dc cs ms) (h : Bl w0 w b cs ms xv mb vb nn vs ret l c) (hv : F6 vs) (hr : ret.size ≤ maxLen) {x y z t f : ByteArray} (hs : Bb x y z t f) {ga : Option Addr} {gs : List ByteArray} {gc : Nat} (hga : Ah w (.slice ga gs.length gc) gs) (hgz : gs.length ≤ 41 ∧ ∀ x ∈ gs, x.size ≤ 20000) (ba oa : Option Addr) (n l2 c2 : Int) (bn bc on oc : Nat) :
 Calls Tryz.prog 101 #[.pointer (some ⟨b, 0, none⟩), .agg #[.int .i64 1, .string x, .string y, .string z, .string t, .string f, .slice ga gs.length gc, .int .i64 n, .slice ba bn bc, .slice oa on oc, .int .i64 l2, .int .i64 c2]] w (D7 (Cx cs vs (t ++ Wx) x) w) := by
 obtain ⟨hx, hy, hz, ht, hf⟩ := hs
 have hadd : ¬ 9223372036854775807 < t.size + 2 := by omega
 have hta := Jg (t := t) (by unfold maxLen; omega)
 have hx' := Ak hx
 have hy' := Ak hy
 have hz' := Ak hz
 have ht' := Ak ht
 have hf' := Ak hf
 have hmf := @G3 Tryz.prog
 obtain ⟨wa, hwa, hba, hca⟩ := A2 w (.cells #[.int .i64 1, .string x, .string y, .string z, .string t, .string f, .slice ga gs.length gc, .int .i64 n, .slice ba bn bc, .slice oa on oc, .int .i64 l2, .int .i64 c2] 128)
 obtain ⟨B, hB⟩ := Ax w.heap.size
 rw [hB] at hba
 have H := Aa (h.no hca)
 have HCA := Aa hca
 have HBA := Aa hba
 have HV := Aa hv
 have HR := Aa hr
 have HE := Aa E
 have HG := Aa (Ah.no hga hca)
 have HGZ := Aa hgz
 have HT := Aa H.out.typ
 obtain ⟨p0, p1, p2, p3, p4, p5, p6, p7, p8, p9, p10, p11⟩ := Ap hba
 obtain ⟨k0, k1⟩ := Co H.out.blk
 have k3 := Ab H.out.blk 3
 clear h hv hr E hga hgz hba hca
 have hk := Gn H.out HV.out hta hx'
 exact Adz
theorem Ad1 (E : Dc cs ms) (h : Bl w0 w b cs ms xv mb vb nn vs ret l c) (hv : F6 vs) (hr : ret.size ≤ maxLen) {x y z t f : ByteArray} (hs : Bb x y z t f) {ga : Option Addr} {gs : List ByteArray} {gc : Nat} (hga : Ah w (.slice ga gs.length gc) gs) (hgz : gs.length ≤ 41 ∧ ∀ x ∈ gs, x.size ≤ 20000) (ba oa : Option Addr) (n l2 c2 : Int) (bn bc on oc : Nat) :
 Calls Tryz.prog 101 #[.pointer (some ⟨b, 0, none⟩), .agg #[.int .i64 2, .string x, .string y, .string z, .string t, .string f, .slice ga gs.length gc, .int .i64 n, .slice ba bn bc, .slice oa on oc, .int .i64 l2, .int .i64 c2]] w (D7 (Cx cs vs D9 x) w) := by
 obtain ⟨hx, hy, hz, ht, hf⟩ := hs
 have hadd : ¬ 9223372036854775807 < t.size + 2 := by omega
 have hta := Jg (t := t) (by unfold maxLen; omega)
 have hx' := Ak hx
 have hy' := Ak hy
 have hz' := Ak hz
 have ht' := Ak ht
 have hf' := Ak hf
 have hmf := @G3 Tryz.prog
 obtain ⟨wa, hwa, hba, hca⟩ := A2 w (.cells #[.int .i64 2, .string x, .string y, .string z, .string t, .string f, .slice ga gs.length gc, .int .i64 n, .slice ba bn bc, .slice oa on oc, .int .i64 l2, .int .i64 c2] 128)
 obtain ⟨B, hB⟩ := Ax w.heap.size
 rw [hB] at hba
 have H := Aa (h.no hca)
 have HCA := Aa hca
 have HBA := Aa hba
 have HV := Aa hv
 have HR := Aa hr
 have HE := Aa E
 have HG := Aa (Ah.no hga hca)
 have HGZ := Aa hgz
 have HT := Aa H.out.typ
 obtain ⟨p0, p1, p2, p3, p4, p5, p6, p7, p8, p9, p10, p11⟩ := Ap hba
 obtain ⟨k0, k1⟩ := Co H.out.blk
 have k3 := Ab H.out.blk 3
 clear h hv hr E hga hgz hba hca
 have hk := Gn (t := ⟨#[110, 117, 108, 108]⟩) H.out HV.out (lb rfl) hx'
 exact Adz
theorem Ad2 (E : Dc cs ms) (h : Bl w0 w b cs ms xv mb vb nn vs ret l c) (hv : F6 vs) (hr : ret.size ≤ maxLen) {x y z t f : ByteArray} (hs : Bb x y z t f) {ga : Option Addr} {gs : List ByteArray} {gc : Nat} (hga : Ah w (.slice ga gs.length gc) gs) (hgz : gs.length ≤ 41 ∧ ∀ x ∈ gs, x.size ≤ 20000) (ba oa : Option Addr) (n l2 c2 : Int) (bn bc on oc : Nat) :
 Calls Tryz.prog 101 #[.pointer (some ⟨b, 0, none⟩), .agg #[.int .i64 3, .string x, .string y, .string z, .string t, .string f, .slice ga gs.length gc, .int .i64 n, .slice ba bn bc, .slice oa on oc, .int .i64 l2, .int .i64 c2]] w (D7 (Cx cs vs (Di vs y) x) w) := by
 obtain ⟨hx, hy, hz, ht, hf⟩ := hs
 have hadd : ¬ 9223372036854775807 < t.size + 2 := by omega
 have hta := Jg (t := t) (by unfold maxLen; omega)
 have hx' := Ak hx
 have hy' := Ak hy
 have hz' := Ak hz
 have ht' := Ak ht
 have hf' := Ak hf
 have hmf := @G3 Tryz.prog
 obtain ⟨wa, hwa, hba, hca⟩ := A2 w (.cells #[.int .i64 3, .string x, .string y, .string z, .string t, .string f, .slice ga gs.length gc, .int .i64 n, .slice ba bn bc, .slice oa on oc, .int .i64 l2, .int .i64 c2] 128)
 obtain ⟨B, hB⟩ := Ax w.heap.size
 rw [hB] at hba
 have H := Aa (h.no hca)
 have HCA := Aa hca
 have HBA := Aa hba
 have HV := Aa hv
 have HR := Aa hr
 have HE := Aa E
 have HG := Aa (Ah.no hga hca)
 have HGZ := Aa hgz
 have HT := Aa H.out.typ
 obtain ⟨p0, p1, p2, p3, p4, p5, p6, p7, p8, p9, p10, p11⟩ := Ap hba
 obtain ⟨k0, k1⟩ := Co H.out.blk
 have k3 := Ab H.out.blk 3
 clear h hv hr E hga hgz hba hca
 have ho1 := Hc (H.out.no ((Ch.refl No wa).drew)) hy'
 have HSx := Aa (show wa.cell? ⟨b, 0, none⟩ = some xv ∧ wa.cell? ⟨b, 1, none⟩ = some (.pointer (some ⟨mb, 0, none⟩)) ∧ wa.cell? ⟨b, 3, none⟩ = some (.string ret) ∧ wa.cell? ⟨B, 1, none⟩ = some (.string x) ∧ wa.cell? ⟨B, 2, none⟩ = some (.string y) ∧ wa.cell? ⟨B, 3, none⟩ = some (.string z) ∧ wa.cell? ⟨B, 4, none⟩ = some (.string t) ∧ wa.cell? ⟨B, 5, none⟩ = some (.string f) from ⟨k0, k1, k3, p1, p2, p3, p4, p5⟩)
 go_in
 go_upto_region 9 with fail
 try rw [hB]
 clear hwa p0 p1 p2 p3 p4 p5 p6 p7 p8 p9 p10 p11 k0 k1 k3
 have HSd := Aa (dr8 HSx.out)
 go_region_held3 (fun w' => w'.cell? ⟨b, 0, none⟩ = some xv ∧ w'.cell? ⟨b, 1, none⟩ = some (.pointer (some ⟨mb, 0, none⟩)) ∧ w'.cell? ⟨b, 3, none⟩ = some (.string ret) ∧ w'.cell? ⟨B, 1, none⟩ = some (.string x) ∧ w'.cell? ⟨B, 2, none⟩ = some (.string y) ∧ w'.cell? ⟨B, 3, none⟩ = some (.string z) ∧ w'.cell? ⟨B, 4, none⟩ = some (.string t) ∧ w'.cell? ⟨B, 5, none⟩ = some (.string f)) (first | with_reducible exact HSx.out | with_reducible exact HSd.out | with_reducible exact HS1.out | with_reducible exact HS2.out | go_keep) (first | (go_at_call 136; refine (ho1).mono ?_; rintro e w1 ⟨rfl, hc1⟩; have K1 := Aa (((Ch.refl No wa).drew).trans hc1); have HS1 := Aa (F7 HSx.out K1.out); clear hc1; clear ho1) | (go_at_call 135; refine (Gn (H.out.no K1.out) HV.out (HV.out.of y) hx').mono ?_; rintro e w2 ⟨⟨r, hr0, hr⟩, hc2⟩; have K2 := Aa (K1.out.trans hc2); have HS2 := Aa (F7 HSx.out K2.out); clear hc2; subst hr0; have HRR := Aa hr; clear hr))
 all_goals (
  go_wp2
  go_ret
  exact ⟨B6 _ ⟨fun h => HRR.out.1 (by simpa using h), fun h => by simpa using HRR.out.2 h⟩, HCA.out.trans K2.out⟩)
theorem Aar {p : Prop} (h : p := by
 all_goals (
  go_wp2
  go_ret
  exact ⟨B6 _ ⟨fun h => HRR.out.1 (by simpa using h), fun h => by simpa using HRR.out.2 h⟩, HCA.out.trans K3.out⟩)
 ) : p := h
theorem Ad3 (E : Dc cs ms) (h : Bl w0 w b cs ms xv mb vb nn vs ret l c) (hv : F6 vs) (hr : ret.size ≤ maxLen) {x y z t f : ByteArray} (hs : Bb x y z t f) {ga : Option Addr} {gs : List ByteArray} {gc : Nat} (hga : Ah w (.slice ga gs.length gc) gs) (hgz : gs.length ≤ 41 ∧ ∀ x ∈ gs, x.size ≤ 20000) (ba oa : Option Addr) (n l2 c2 : Int) (bn bc on oc : Nat) :
 Calls Tryz.prog 101 #[.pointer (some ⟨b, 0, none⟩), .agg #[.int .i64 5, .string x, .string y, .string z, .string t, .string f, .slice ga gs.length gc, .int .i64 n, .slice ba bn bc, .slice oa on oc, .int .i64 l2, .int .i64 c2]] w (D7 (Cx cs vs (Dk cs ms false (Di vs y) f) x) w) := by
 obtain ⟨hx, hy, hz, ht, hf⟩ := hs
 have hadd : ¬ 9223372036854775807 < t.size + 2 := by omega
 have hta := Jg (t := t) (by unfold maxLen; omega)
 have hx' := Ak hx
 have hy' := Ak hy
 have hz' := Ak hz
 have ht' := Ak ht
 have hf' := Ak hf
 have hmf := @G3 Tryz.prog
 obtain ⟨wa, hwa, hba, hca⟩ := A2 w (.cells #[.int .i64 5, .string x, .string y, .string z, .string t, .string f, .slice ga gs.length gc, .int .i64 n, .slice ba bn bc, .slice oa on oc, .int .i64 l2, .int .i64 c2] 128)
 obtain ⟨B, hB⟩ := Ax w.heap.size
 rw [hB] at hba
 have H := Aa (h.no hca)
 have HCA := Aa hca
 have HBA := Aa hba
 have HV := Aa hv
 have HR := Aa hr
 have HE := Aa E
 have HG := Aa (Ah.no hga hca)
 have HGZ := Aa hgz
 have HT := Aa H.out.typ
 obtain ⟨p0, p1, p2, p3, p4, p5, p6, p7, p8, p9, p10, p11⟩ := Ap hba
 obtain ⟨k0, k1⟩ := Co H.out.blk
 have k3 := Ab H.out.blk 3
 clear h hv hr E hga hgz hba hca
 have ho1 := Hc (H.out.no ((Ch.refl No wa).drew)) hy'
 have HSx := Aa (show wa.cell? ⟨b, 0, none⟩ = some xv ∧ wa.cell? ⟨b, 1, none⟩ = some (.pointer (some ⟨mb, 0, none⟩)) ∧ wa.cell? ⟨b, 3, none⟩ = some (.string ret) ∧ wa.cell? ⟨B, 1, none⟩ = some (.string x) ∧ wa.cell? ⟨B, 2, none⟩ = some (.string y) ∧ wa.cell? ⟨B, 3, none⟩ = some (.string z) ∧ wa.cell? ⟨B, 4, none⟩ = some (.string t) ∧ wa.cell? ⟨B, 5, none⟩ = some (.string f) from ⟨k0, k1, k3, p1, p2, p3, p4, p5⟩)
 go_in
 go_upto_region 13 with fail
 try rw [hB]
 clear hwa p0 p1 p2 p3 p4 p5 p6 p7 p8 p9 p10 p11 k0 k1 k3
 have HSd := Aa (dr8 HSx.out)
 go_region_held3 (fun w' => w'.cell? ⟨b, 0, none⟩ = some xv ∧ w'.cell? ⟨b, 1, none⟩ = some (.pointer (some ⟨mb, 0, none⟩)) ∧ w'.cell? ⟨b, 3, none⟩ = some (.string ret) ∧ w'.cell? ⟨B, 1, none⟩ = some (.string x) ∧ w'.cell? ⟨B, 2, none⟩ = some (.string y) ∧ w'.cell? ⟨B, 3, none⟩ = some (.string z) ∧ w'.cell? ⟨B, 4, none⟩ = some (.string t) ∧ w'.cell? ⟨B, 5, none⟩ = some (.string f)) (first | with_reducible exact HSx.out | with_reducible exact HSd.out | with_reducible exact HS1.out | with_reducible exact HS2.out | with_reducible exact HS3.out | go_keep) (first | (go_at_call 136; refine (ho1).mono ?_; rintro e w1 ⟨rfl, hc1⟩; have K1 := Aa (((Ch.refl No wa).drew).trans hc1); have HS1 := Aa (F7 HSx.out K1.out); clear hc1; clear ho1) | (go_at_call 138; refine (Vb HE.out (H.out.no K1.out) (HV.out.of y) hf').mono ?_; rintro e w2 ⟨rfl, hc2⟩; have K2 := Aa (K1.out.trans hc2); have HS2 := Aa (F7 HSx.out K2.out); clear hc2) | (go_at_call 135; refine (Gn (H.out.no K2.out) HV.out (Mn HE.out.zm false _ _) hx').mono ?_; rintro e w3 ⟨⟨r, hr0, hr⟩, hc3⟩; have K3 := Aa (K2.out.trans hc3); have HS3 := Aa (F7 HSx.out K3.out); clear hc3; subst hr0; have HRR := Aa hr; clear hr))
 all_goals exact Aar
theorem Ad4 (E : Dc cs ms) (h : Bl w0 w b cs ms xv mb vb nn vs ret l c) (hv : F6 vs) (hr : ret.size ≤ maxLen) {x y z t f : ByteArray} (hs : Bb x y z t f) {ga : Option Addr} {gs : List ByteArray} {gc : Nat} (hga : Ah w (.slice ga gs.length gc) gs) (hgz : gs.length ≤ 41 ∧ ∀ x ∈ gs, x.size ≤ 20000) (ba oa : Option Addr) (n l2 c2 : Int) (bn bc on oc : Nat) :
 Calls Tryz.prog 101 #[.pointer (some ⟨b, 0, none⟩), .agg #[.int .i64 6, .string x, .string y, .string z, .string t, .string f, .slice ga gs.length gc, .int .i64 n, .slice ba bn bc, .slice oa on oc, .int .i64 l2, .int .i64 c2]] w (D7 (Eh cs (Di vs y) (Dk cs ms false (Di vs x) f)) w) := by
 obtain ⟨hx, hy, hz, ht, hf⟩ := hs
 have hadd : ¬ 9223372036854775807 < t.size + 2 := by omega
 have hta := Jg (t := t) (by unfold maxLen; omega)
 have hx' := Ak hx
 have hy' := Ak hy
 have hz' := Ak hz
 have ht' := Ak ht
 have hf' := Ak hf
 have hmf := @G3 Tryz.prog
 obtain ⟨wa, hwa, hba, hca⟩ := A2 w (.cells #[.int .i64 6, .string x, .string y, .string z, .string t, .string f, .slice ga gs.length gc, .int .i64 n, .slice ba bn bc, .slice oa on oc, .int .i64 l2, .int .i64 c2] 128)
 obtain ⟨B, hB⟩ := Ax w.heap.size
 rw [hB] at hba
 have H := Aa (h.no hca)
 have HCA := Aa hca
 have HBA := Aa hba
 have HV := Aa hv
 have HR := Aa hr
 have HE := Aa E
 have HG := Aa (Ah.no hga hca)
 have HGZ := Aa hgz
 have HT := Aa H.out.typ
 obtain ⟨p0, p1, p2, p3, p4, p5, p6, p7, p8, p9, p10, p11⟩ := Ap hba
 obtain ⟨k0, k1⟩ := Co H.out.blk
 have k3 := Ab H.out.blk 3
 clear h hv hr E hga hgz hba hca
 have ho1 := Hc (H.out.no ((Ch.refl No wa).drew)) hy'
 have HSx := Aa (show wa.cell? ⟨b, 0, none⟩ = some xv ∧ wa.cell? ⟨b, 1, none⟩ = some (.pointer (some ⟨mb, 0, none⟩)) ∧ wa.cell? ⟨b, 3, none⟩ = some (.string ret) ∧ wa.cell? ⟨B, 1, none⟩ = some (.string x) ∧ wa.cell? ⟨B, 2, none⟩ = some (.string y) ∧ wa.cell? ⟨B, 3, none⟩ = some (.string z) ∧ wa.cell? ⟨B, 4, none⟩ = some (.string t) ∧ wa.cell? ⟨B, 5, none⟩ = some (.string f) from ⟨k0, k1, k3, p1, p2, p3, p4, p5⟩)
 go_in
 go_upto_region 15 with fail
 try rw [hB]
 clear hwa p0 p1 p2 p3 p4 p5 p6 p7 p8 p9 p10 p11 k0 k1 k3
 have HSd := Aa (dr8 HSx.out)
 go_region_held3 (fun w' => w'.cell? ⟨b, 0, none⟩ = some xv ∧ w'.cell? ⟨b, 1, none⟩ = some (.pointer (some ⟨mb, 0, none⟩)) ∧ w'.cell? ⟨b, 3, none⟩ = some (.string ret) ∧ w'.cell? ⟨B, 1, none⟩ = some (.string x) ∧ w'.cell? ⟨B, 2, none⟩ = some (.string y) ∧ w'.cell? ⟨B, 3, none⟩ = some (.string z) ∧ w'.cell? ⟨B, 4, none⟩ = some (.string t) ∧ w'.cell? ⟨B, 5, none⟩ = some (.string f)) (first | with_reducible exact HSx.out | with_reducible exact HSd.out | with_reducible exact HS1.out | with_reducible exact HS2.out | with_reducible exact HS3.out | with_reducible exact HS4.out | go_keep) (first | (go_at_call 136; refine (ho1).mono ?_; rintro e w1 ⟨rfl, hc1⟩; have K1 := Aa (((Ch.refl No wa).drew).trans hc1); have HS1 := Aa (F7 HSx.out K1.out); clear hc1; clear ho1) | (go_at_call 136; refine (Hc (H.out.no K1.out) hx').mono ?_; rintro e w2 ⟨rfl, hc2⟩; have K2 := Aa (K1.out.trans hc2); have HS2 := Aa (F7 HSx.out K2.out); clear hc2) | (go_at_call 138; refine (Vb HE.out (H.out.no K2.out) (HV.out.of x) hf').mono ?_; rintro e w3 ⟨rfl, hc3⟩; have K3 := Aa (K2.out.trans hc3); have HS3 := Aa (F7 HSx.out K3.out); clear hc3) | (go_at_call 139; refine (Gg (HT.out.no K3.out) (HV.out.of y) (Mn HE.out.zm false _ _)).mono ?_; rintro e w4 ⟨⟨r, hr0, hr⟩, hc4⟩; have K4 := Aa (K3.out.trans hc4); have HS4 := Aa (F7 HSx.out K4.out); clear hc4; subst hr0; have HRR := Aa hr; clear hr))
 all_goals (
  go_wp2
  go_ret
  exact ⟨B6 _ ⟨fun h => HRR.out.1 (by simpa using h), fun h => by simpa using HRR.out.2 h⟩, HCA.out.trans K4.out⟩)
theorem Ad5 (E : Dc cs ms) (h : Bl w0 w b cs ms xv mb vb nn vs ret l c) (hv : F6 vs) (hr : ret.size ≤ maxLen) {x y z t f : ByteArray} (hs : Bb x y z t f) {ga : Option Addr} {gs : List ByteArray} {gc : Nat} (hga : Ah w (.slice ga gs.length gc) gs) (hgz : gs.length ≤ 41 ∧ ∀ x ∈ gs, x.size ≤ 20000) (ba oa : Option Addr) (n l2 c2 : Int) (bn bc on oc : Nat) :
 Calls Tryz.prog 101 #[.pointer (some ⟨b, 0, none⟩), .agg #[.int .i64 7, .string x, .string y, .string z, .string t, .string f, .slice ga gs.length gc, .int .i64 n, .slice ba bn bc, .slice oa on oc, .int .i64 l2, .int .i64 c2]] w (D7 (Cx cs vs (Dk cs ms true t f) x) w) := by
 obtain ⟨hx, hy, hz, ht, hf⟩ := hs
 have hadd : ¬ 9223372036854775807 < t.size + 2 := by omega
 have hta := Jg (t := t) (by unfold maxLen; omega)
 have hx' := Ak hx
 have hy' := Ak hy
 have hz' := Ak hz
 have ht' := Ak ht
 have hf' := Ak hf
 have hmf := @G3 Tryz.prog
 obtain ⟨wa, hwa, hba, hca⟩ := A2 w (.cells #[.int .i64 7, .string x, .string y, .string z, .string t, .string f, .slice ga gs.length gc, .int .i64 n, .slice ba bn bc, .slice oa on oc, .int .i64 l2, .int .i64 c2] 128)
 obtain ⟨B, hB⟩ := Ax w.heap.size
 rw [hB] at hba
 have H := Aa (h.no hca)
 have HCA := Aa hca
 have HBA := Aa hba
 have HV := Aa hv
 have HR := Aa hr
 have HE := Aa E
 have HG := Aa (Ah.no hga hca)
 have HGZ := Aa hgz
 have HT := Aa H.out.typ
 obtain ⟨p0, p1, p2, p3, p4, p5, p6, p7, p8, p9, p10, p11⟩ := Ap hba
 obtain ⟨k0, k1⟩ := Co H.out.blk
 have k3 := Ab H.out.blk 3
 clear h hv hr E hga hgz hba hca
 have HSx := Aa (show wa.cell? ⟨b, 0, none⟩ = some xv ∧ wa.cell? ⟨b, 1, none⟩ = some (.pointer (some ⟨mb, 0, none⟩)) ∧ wa.cell? ⟨b, 3, none⟩ = some (.string ret) ∧ wa.cell? ⟨B, 1, none⟩ = some (.string x) ∧ wa.cell? ⟨B, 2, none⟩ = some (.string y) ∧ wa.cell? ⟨B, 3, none⟩ = some (.string z) ∧ wa.cell? ⟨B, 4, none⟩ = some (.string t) ∧ wa.cell? ⟨B, 5, none⟩ = some (.string f) from ⟨k0, k1, k3, p1, p2, p3, p4, p5⟩)
 go_in
 go_upto_region 17 with fail
 try rw [hB]
 clear hwa p0 p1 p2 p3 p4 p5 p6 p7 p8 p9 p10 p11 k0 k1 k3
 have HSd := Aa (dr8 HSx.out)
 go_region_held3 (fun w' => w'.cell? ⟨b, 0, none⟩ = some xv ∧ w'.cell? ⟨b, 1, none⟩ = some (.pointer (some ⟨mb, 0, none⟩)) ∧ w'.cell? ⟨b, 3, none⟩ = some (.string ret) ∧ w'.cell? ⟨B, 1, none⟩ = some (.string x) ∧ w'.cell? ⟨B, 2, none⟩ = some (.string y) ∧ w'.cell? ⟨B, 3, none⟩ = some (.string z) ∧ w'.cell? ⟨B, 4, none⟩ = some (.string t) ∧ w'.cell? ⟨B, 5, none⟩ = some (.string f)) (first | with_reducible exact HSx.out | with_reducible exact HSd.out | with_reducible exact HS2.out | with_reducible exact HS3.out | go_keep) (first | (go_at_call 138; refine (Rc HE.out (H.out.no ((Ch.refl No wa).drew)) ht' hf').mono ?_; rintro e w2 ⟨rfl, hc2⟩; have K2 := Aa (((Ch.refl No wa).drew).trans hc2); have HS2 := Aa (F7 HSx.out K2.out); clear hc2) | (go_at_call 135; refine (Gn (H.out.no K2.out) HV.out (Mn HE.out.zm true _ _) hx').mono ?_; rintro e w3 ⟨⟨r, hr0, hr⟩, hc3⟩; have K3 := Aa (K2.out.trans hc3); have HS3 := Aa (F7 HSx.out K3.out); clear hc3; subst hr0; have HRR := Aa hr; clear hr))
 all_goals exact Aar
theorem Ad6 (E : Dc cs ms) (h : Bl w0 w b cs ms xv mb vb nn vs ret l c) (hv : F6 vs) (hr : ret.size ≤ maxLen) {x y z t f : ByteArray} (hs : Bb x y z t f) {ga : Option Addr} {gs : List ByteArray} {gc : Nat} (hga : Ah w (.slice ga gs.length gc) gs) (hgz : gs.length ≤ 41 ∧ ∀ x ∈ gs, x.size ≤ 20000) (ba oa : Option Addr) (n l2 c2 : Int) (bn bc on oc : Nat) :
 Calls Tryz.prog 101 #[.pointer (some ⟨b, 0, none⟩), .agg #[.int .i64 8, .string x, .string y, .string z, .string t, .string f, .slice ga gs.length gc, .int .i64 n, .slice ba bn bc, .slice oa on oc, .int .i64 l2, .int .i64 c2]] w (D7 (Eh cs (Di vs y) (Dk cs ms true t f)) w) := by
 obtain ⟨hx, hy, hz, ht, hf⟩ := hs
 have hadd : ¬ 9223372036854775807 < t.size + 2 := by omega
 have hta := Jg (t := t) (by unfold maxLen; omega)
 have hx' := Ak hx
 have hy' := Ak hy
 have hz' := Ak hz
 have ht' := Ak ht
 have hf' := Ak hf
 have hmf := @G3 Tryz.prog
 obtain ⟨wa, hwa, hba, hca⟩ := A2 w (.cells #[.int .i64 8, .string x, .string y, .string z, .string t, .string f, .slice ga gs.length gc, .int .i64 n, .slice ba bn bc, .slice oa on oc, .int .i64 l2, .int .i64 c2] 128)
 obtain ⟨B, hB⟩ := Ax w.heap.size
 rw [hB] at hba
 have H := Aa (h.no hca)
 have HCA := Aa hca
 have HBA := Aa hba
 have HV := Aa hv
 have HR := Aa hr
 have HE := Aa E
 have HG := Aa (Ah.no hga hca)
 have HGZ := Aa hgz
 have HT := Aa H.out.typ
 obtain ⟨p0, p1, p2, p3, p4, p5, p6, p7, p8, p9, p10, p11⟩ := Ap hba
 obtain ⟨k0, k1⟩ := Co H.out.blk
 have k3 := Ab H.out.blk 3
 clear h hv hr E hga hgz hba hca
 have ho1 := Hc (H.out.no ((Ch.refl No wa).drew)) hy'
 have HSx := Aa (show wa.cell? ⟨b, 0, none⟩ = some xv ∧ wa.cell? ⟨b, 1, none⟩ = some (.pointer (some ⟨mb, 0, none⟩)) ∧ wa.cell? ⟨b, 3, none⟩ = some (.string ret) ∧ wa.cell? ⟨B, 1, none⟩ = some (.string x) ∧ wa.cell? ⟨B, 2, none⟩ = some (.string y) ∧ wa.cell? ⟨B, 3, none⟩ = some (.string z) ∧ wa.cell? ⟨B, 4, none⟩ = some (.string t) ∧ wa.cell? ⟨B, 5, none⟩ = some (.string f) from ⟨k0, k1, k3, p1, p2, p3, p4, p5⟩)
 go_in
 go_upto_region 19 with fail
 try rw [hB]
 clear hwa p0 p1 p2 p3 p4 p5 p6 p7 p8 p9 p10 p11 k0 k1 k3
 have HSd := Aa (dr8 HSx.out)
 go_region_held3 (fun w' => w'.cell? ⟨b, 0, none⟩ = some xv ∧ w'.cell? ⟨b, 1, none⟩ = some (.pointer (some ⟨mb, 0, none⟩)) ∧ w'.cell? ⟨b, 3, none⟩ = some (.string ret) ∧ w'.cell? ⟨B, 1, none⟩ = some (.string x) ∧ w'.cell? ⟨B, 2, none⟩ = some (.string y) ∧ w'.cell? ⟨B, 3, none⟩ = some (.string z) ∧ w'.cell? ⟨B, 4, none⟩ = some (.string t) ∧ w'.cell? ⟨B, 5, none⟩ = some (.string f)) (first | with_reducible exact HSx.out | with_reducible exact HSd.out | with_reducible exact HS1.out | with_reducible exact HS2.out | with_reducible exact HS3.out | go_keep) (first | (go_at_call 136; refine (ho1).mono ?_; rintro e w1 ⟨rfl, hc1⟩; have K1 := Aa (((Ch.refl No wa).drew).trans hc1); have HS1 := Aa (F7 HSx.out K1.out); clear hc1; clear ho1) | (go_at_call 138; refine (Rc HE.out (H.out.no K1.out) ht' hf').mono ?_; rintro e w2 ⟨rfl, hc2⟩; have K2 := Aa (K1.out.trans hc2); have HS2 := Aa (F7 HSx.out K2.out); clear hc2) | (go_at_call 139; refine (Gg (HT.out.no K2.out) (HV.out.of y) (Mn HE.out.zm true _ _)).mono ?_; rintro e w3 ⟨⟨r, hr0, hr⟩, hc3⟩; have K3 := Aa (K2.out.trans hc3); have HS3 := Aa (F7 HSx.out K3.out); clear hc3; subst hr0; have HRR := Aa hr; clear hr))
 all_goals exact Aar
end
theorem Ri {w : World} {xv : Value} {cs : List Aj} (h : Bv w xv cs) {t : ByteArray} (ht : t.size ≤ maxLen) :
 Calls Tryz.prog 137 #[xv, .string t] w fun e w' => Am (t ≠ Cl ∧ Lj cs t) e ∧ Ch No w w' :=
 (Abi h ht).mono (by rintro e w' ⟨h1, rfl⟩; exact ⟨h1, Ch.refl _ _⟩)
theorem Iw {w0 w : World} {b : Nat} {cs : List Aj} {ms : List Ba} {xv : Value} {mb vb n : Nat} {vs : ByteArray → Option ByteArray} {ret : ByteArray} {l c : Int} (h : Bl w0 w b cs ms xv mb vb n vs ret l c) {t : ByteArray} (ht : t.size ≤ maxLen) :
 Calls Tryz.prog 134 #[.pointer (some ⟨b, 0, none⟩), .string t] w fun e w' => Am (Dv cs t) e ∧ Ch No w w' :=
 (Yo h ht).mono (by rintro e w' ⟨h1, rfl⟩; exact ⟨h1, Ch.refl _ _⟩)
section
variable {w0 w : World} {b : Nat} {cs : List Aj} {ms : List Ba} {xv : Value} {mb vb nn : Nat} {vs : ByteArray → Option ByteArray} {ret : ByteArray} {l c : Int}
theorem Ad7 (E : Dc cs ms) (h : Bl w0 w b cs ms xv mb vb nn vs ret l c) (hv : F6 vs) (hr : ret.size ≤ maxLen) {x y z t f : ByteArray} (hs : Bb x y z t f) {ga : Option Addr} {gs : List ByteArray} {gc : Nat} (hga : Ah w (.slice ga gs.length gc) gs) (hgz : gs.length ≤ 41 ∧ ∀ x ∈ gs, x.size ≤ 20000) (ba oa : Option Addr) (n l2 c2 : Int) (bn bc on oc : Nat) :
 Calls Tryz.prog 101 #[.pointer (some ⟨b, 0, none⟩), .agg #[.int .i64 4, .string x, .string y, .string z, .string t, .string f, .slice ga gs.length gc, .int .i64 n, .slice ba bn bc, .slice oa on oc, .int .i64 l2, .int .i64 c2]] w (D7 (t ≠ D9 ∧ (t ≠ Cl ∧ Lj cs t) ∧ Cx cs vs t x ∧ (Di vs y ≠ Cl ∧ Lj cs (Di vs y))) w) := by
 obtain ⟨hx, hy, hz, ht, hf⟩ := hs
 have hadd : ¬ 9223372036854775807 < t.size + 2 := by omega
 have hta := Jg (t := t) (by unfold maxLen; omega)
 have hx' := Ak hx
 have hy' := Ak hy
 have hz' := Ak hz
 have ht' := Ak ht
 have hf' := Ak hf
 have hmf := @G3 Tryz.prog
 obtain ⟨wa, hwa, hba, hca⟩ := A2 w (.cells #[.int .i64 4, .string x, .string y, .string z, .string t, .string f, .slice ga gs.length gc, .int .i64 n, .slice ba bn bc, .slice oa on oc, .int .i64 l2, .int .i64 c2] 128)
 obtain ⟨B, hB⟩ := Ax w.heap.size
 rw [hB] at hba
 have H := Aa (h.no hca)
 have HCA := Aa hca
 have HBA := Aa hba
 have HV := Aa hv
 have HR := Aa hr
 have HE := Aa E
 have HG := Aa (Ah.no hga hca)
 have HGZ := Aa hgz
 have HT := Aa H.out.typ
 obtain ⟨p0, p1, p2, p3, p4, p5, p6, p7, p8, p9, p10, p11⟩ := Ap hba
 obtain ⟨k0, k1⟩ := Co H.out.blk
 have k3 := Ab H.out.blk 3
 clear h hv hr E hga hgz hba hca
 have HSx := Aa (show wa.cell? ⟨b, 0, none⟩ = some xv ∧ wa.cell? ⟨b, 1, none⟩ = some (.pointer (some ⟨mb, 0, none⟩)) ∧ wa.cell? ⟨b, 3, none⟩ = some (.string ret) ∧ wa.cell? ⟨B, 1, none⟩ = some (.string x) ∧ wa.cell? ⟨B, 2, none⟩ = some (.string y) ∧ wa.cell? ⟨B, 3, none⟩ = some (.string z) ∧ wa.cell? ⟨B, 4, none⟩ = some (.string t) ∧ wa.cell? ⟨B, 5, none⟩ = some (.string f) from ⟨k0, k1, k3, p1, p2, p3, p4, p5⟩)
 by_cases hn : t = D9
 {have e1 := lit t [110, 117, 108, 108] hn
  have en : (t.toList != [110, 117, 108, 108]) = false := by rw [bne, e1]; rfl
  have HN := Aa hn
  clear hn
  go_in
  go_upto_region 11 with fail
  try rw [hB]
  clear hwa p0 p1 p2 p3 p4 p5 p6 p7 p8 p9 p10 p11 k0 k1 k3
  refine wp_region_held_drew (S := fun w' => w'.cell? ⟨b, 0, none⟩ = some xv ∧ w'.cell? ⟨b, 1, none⟩ = some (.pointer (some ⟨mb, 0, none⟩)) ∧ w'.cell? ⟨b, 3, none⟩ = some (.string ret) ∧ w'.cell? ⟨B, 1, none⟩ = some (.string x) ∧ w'.cell? ⟨B, 2, none⟩ = some (.string y) ∧ w'.cell? ⟨B, 3, none⟩ = some (.string z) ∧ w'.cell? ⟨B, 4, none⟩ = some (.string t) ∧ w'.cell? ⟨B, 5, none⟩ = some (.string f)) (by kernel_rfl) HSx.out (fun hHeld => ?_)
  refine tk 0 rfl ?_
  refine tk 1 rfl ?_
  refine tk 2 rfl ?_
  refine tk 3 rfl ?_
  refine tn 4 rfl ?_
  refine tn 5 rfl ?_
  refine tn 6 rfl ?_
  refine tn 7 rfl ?_
  refine tn 8 rfl ?_
  refine tn 9 rfl ?_
  refine tn 10 rfl ?_
  refine tk 11 rfl ?_
  refine tk 12 rfl ?_
  refine tn 13 rfl ?_
  refine tn 14 rfl ?_
  refine tn 15 rfl ?_
  refine tn 16 rfl ?_
  refine tn 17 rfl ?_
  refine tn 18 rfl ?_
  refine tk 19 rfl ?_
  refine tk 20 rfl ?_
  refine tn 21 rfl ?_
  refine tn 22 rfl ?_
  refine tn 23 rfl ?_
  refine tn 24 rfl ?_
  refine tn 25 rfl ?_
  refine tn 26 rfl ?_
  refine tn 27 rfl ?_
  refine tn 28 rfl ?_
  refine tn 29 rfl ?_
  refine tk 30 rfl ?_
  refine tk 31 rfl ?_
  refine wpAnyH_done (by kernel_rfl) ?_ _
  go_wp2
  go_ret
  exact ⟨.f (fun h => h.1 HN.out), HCA.out.trans ((Ch.refl No wa).drew)⟩}
 {have e1 := Bf t [110, 117, 108, 108] hn
  have en : (t.toList != [110, 117, 108, 108]) = true := by rw [bne, e1]; rfl
  have HN := Aa hn
  clear hn
  by_cases hrt : t ≠ Cl ∧ Lj cs t
  {have HRT := Aa hrt
   clear hrt
   by_cases hgo : Cx cs vs t x
   {have HGO := Aa hgo
    clear hgo
    go_in
    go_upto_region 11 with fail
    try rw [hB]
    clear hwa p0 p1 p2 p3 p4 p5 p6 p7 p8 p9 p10 p11 k0 k1 k3
    refine wp_region_held_drew (S := fun w' => w'.cell? ⟨b, 0, none⟩ = some xv ∧ w'.cell? ⟨b, 1, none⟩ = some (.pointer (some ⟨mb, 0, none⟩)) ∧ w'.cell? ⟨b, 3, none⟩ = some (.string ret) ∧ w'.cell? ⟨B, 1, none⟩ = some (.string x) ∧ w'.cell? ⟨B, 2, none⟩ = some (.string y) ∧ w'.cell? ⟨B, 3, none⟩ = some (.string z) ∧ w'.cell? ⟨B, 4, none⟩ = some (.string t) ∧ w'.cell? ⟨B, 5, none⟩ = some (.string f)) (by kernel_rfl) HSx.out (fun hHeld => ?_)
    refine tk 0 rfl ?_
    refine tk 1 rfl ?_
    refine tk 2 rfl ?_
    refine tk 3 rfl ?_
    refine tk 4 rfl ?_
    refine tk 5 rfl ?_
    refine tk 6 rfl ?_
    refine tk 7 rfl ?_
    refine tk 8 rfl ?_
    refine tk 9 rfl ?_
    refine wpAnyH_ready (rs := [10]) (by kernel_rfl) (by simp) (AllReadyH.cons rfl (fun K hK => ?_) AllReadyH.nil)
    go_simp
    go_at_call 137
    refine (Ri (HT.out.no ((Ch.refl No wa).drew)) ht').mono ?_
    rintro e w1 ⟨hr, hc1⟩
    have K1 := Aa (((Ch.refl No wa).drew).trans hc1)
    obtain rfl := hr.yes HRT.out
    clear hc1
    go_simp
    have HS1 := Aa (F7 HSx.out K1.out)
    refine hK.out _ _ HS1.out (fun hHeld1 => ?_)
    clear hK
    refine tk 11 rfl ?_
    refine tk 12 rfl ?_
    refine tk 13 rfl ?_
    refine tk 14 rfl ?_
    refine tk 15 rfl ?_
    refine tk 16 rfl ?_
    refine tk 17 rfl ?_
    refine wpAnyH_ready (rs := [18]) (by kernel_rfl) (by simp) (AllReadyH.cons rfl (fun K hK => ?_) AllReadyH.nil)
    go_simp
    go_at_call 135
    refine (Gn (H.out.no K1.out) HV.out ht' hx').mono ?_
    rintro e w2 ⟨hr, hc2⟩
    have K2 := Aa (K1.out.trans hc2)
    obtain rfl := hr.yes HGO.out
    clear hc2
    go_simp
    have HS2 := Aa (F7 HSx.out K2.out)
    refine hK.out _ _ HS2.out (fun hHeld2 => ?_)
    clear hK
    refine tk 19 rfl ?_
    refine tk 20 rfl ?_
    refine tk 21 rfl ?_
    refine tk 22 rfl ?_
    refine tk 23 rfl ?_
    refine tk 24 rfl ?_
    refine tk 25 rfl ?_
    refine tk 26 rfl ?_
    refine tk 27 rfl ?_
    refine wpAnyH_ready (rs := [28]) (by kernel_rfl) (by simp) (AllReadyH.cons rfl (fun K hK => ?_) AllReadyH.nil)
    go_simp
    go_at_call 136
    refine (Hc (H.out.no K2.out) hy').mono ?_
    rintro e w3 ⟨rfl, hc3⟩
    have K3 := Aa (K2.out.trans hc3)
    clear hc3
    go_simp
    have HS3 := Aa (F7 HSx.out K3.out)
    refine hK.out _ _ HS3.out (fun hHeld3 => ?_)
    clear hK
    refine wpAnyH_ready (rs := [29]) (by kernel_rfl) (by simp) (AllReadyH.cons rfl (fun K hK => ?_) AllReadyH.nil)
    go_simp
    go_at_call 137
    refine (Ri (HT.out.no K3.out) (HV.out.of y)).mono ?_
    rintro e w4 ⟨⟨r, hr0, hr⟩, hc4⟩
    have K4 := Aa (K3.out.trans hc4)
    subst hr0
    have HRR := Aa hr
    clear hr
    clear hc4
    go_simp
    have HS4 := Aa (F7 HSx.out K4.out)
    refine hK.out _ _ HS4.out (fun hHeld4 => ?_)
    clear hK
    refine tk 30 rfl ?_
    refine tk 31 rfl ?_
    refine wpAnyH_done (by kernel_rfl) ?_ _
    go_wp2
    go_ret
    exact ⟨B6 _ ⟨fun h => ⟨HN.out, HRT.out, HGO.out, HRR.out.1 (by simpa using h)⟩, fun h => by simpa using HRR.out.2 h.2.2.2⟩, HCA.out.trans K4.out⟩}
   {have HGO := Aa hgo
    clear hgo
    go_in
    go_upto_region 11 with fail
    try rw [hB]
    clear hwa p0 p1 p2 p3 p4 p5 p6 p7 p8 p9 p10 p11 k0 k1 k3
    refine wp_region_held_drew (S := fun w' => w'.cell? ⟨b, 0, none⟩ = some xv ∧ w'.cell? ⟨b, 1, none⟩ = some (.pointer (some ⟨mb, 0, none⟩)) ∧ w'.cell? ⟨b, 3, none⟩ = some (.string ret) ∧ w'.cell? ⟨B, 1, none⟩ = some (.string x) ∧ w'.cell? ⟨B, 2, none⟩ = some (.string y) ∧ w'.cell? ⟨B, 3, none⟩ = some (.string z) ∧ w'.cell? ⟨B, 4, none⟩ = some (.string t) ∧ w'.cell? ⟨B, 5, none⟩ = some (.string f)) (by kernel_rfl) HSx.out (fun hHeld => ?_)
    refine tk 0 rfl ?_
    refine tk 1 rfl ?_
    refine tk 2 rfl ?_
    refine tk 3 rfl ?_
    refine tk 4 rfl ?_
    refine tk 5 rfl ?_
    refine tk 6 rfl ?_
    refine tk 7 rfl ?_
    refine tk 8 rfl ?_
    refine tk 9 rfl ?_
    refine wpAnyH_ready (rs := [10]) (by kernel_rfl) (by simp) (AllReadyH.cons rfl (fun K hK => ?_) AllReadyH.nil)
    go_simp
    go_at_call 137
    refine (Ri (HT.out.no ((Ch.refl No wa).drew)) ht').mono ?_
    rintro e w1 ⟨hr, hc1⟩
    have K1 := Aa (((Ch.refl No wa).drew).trans hc1)
    obtain rfl := hr.yes HRT.out
    clear hc1
    go_simp
    have HS1 := Aa (F7 HSx.out K1.out)
    refine hK.out _ _ HS1.out (fun hHeld1 => ?_)
    clear hK
    refine tk 11 rfl ?_
    refine tk 12 rfl ?_
    refine tk 13 rfl ?_
    refine tk 14 rfl ?_
    refine tk 15 rfl ?_
    refine tk 16 rfl ?_
    refine tk 17 rfl ?_
    refine wpAnyH_ready (rs := [18]) (by kernel_rfl) (by simp) (AllReadyH.cons rfl (fun K hK => ?_) AllReadyH.nil)
    go_simp
    go_at_call 135
    refine (Gn (H.out.no K1.out) HV.out ht' hx').mono ?_
    rintro e w2 ⟨hr, hc2⟩
    have K2 := Aa (K1.out.trans hc2)
    obtain rfl := hr.no HGO.out
    clear hc2
    go_simp
    have HS2 := Aa (F7 HSx.out K2.out)
    refine hK.out _ _ HS2.out (fun hHeld2 => ?_)
    clear hK
    refine tk 19 rfl ?_
    refine tk 20 rfl ?_
    refine tn 21 rfl ?_
    refine tn 22 rfl ?_
    refine tn 23 rfl ?_
    refine tn 24 rfl ?_
    refine tn 25 rfl ?_
    refine tn 26 rfl ?_
    refine tn 27 rfl ?_
    refine tn 28 rfl ?_
    refine tn 29 rfl ?_
    refine tk 30 rfl ?_
    refine tk 31 rfl ?_
    refine wpAnyH_done (by kernel_rfl) ?_ _
    go_wp2
    go_ret
    exact ⟨.f (fun h => HGO.out h.2.2.1), HCA.out.trans K2.out⟩}}
  {have HRT := Aa hrt
   clear hrt
   go_in
   go_upto_region 11 with fail
   try rw [hB]
   clear hwa p0 p1 p2 p3 p4 p5 p6 p7 p8 p9 p10 p11 k0 k1 k3
   refine wp_region_held_drew (S := fun w' => w'.cell? ⟨b, 0, none⟩ = some xv ∧ w'.cell? ⟨b, 1, none⟩ = some (.pointer (some ⟨mb, 0, none⟩)) ∧ w'.cell? ⟨b, 3, none⟩ = some (.string ret) ∧ w'.cell? ⟨B, 1, none⟩ = some (.string x) ∧ w'.cell? ⟨B, 2, none⟩ = some (.string y) ∧ w'.cell? ⟨B, 3, none⟩ = some (.string z) ∧ w'.cell? ⟨B, 4, none⟩ = some (.string t) ∧ w'.cell? ⟨B, 5, none⟩ = some (.string f)) (by kernel_rfl) HSx.out (fun hHeld => ?_)
   refine tk 0 rfl ?_
   refine tk 1 rfl ?_
   refine tk 2 rfl ?_
   refine tk 3 rfl ?_
   refine tk 4 rfl ?_
   refine tk 5 rfl ?_
   refine tk 6 rfl ?_
   refine tk 7 rfl ?_
   refine tk 8 rfl ?_
   refine tk 9 rfl ?_
   refine wpAnyH_ready (rs := [10]) (by kernel_rfl) (by simp) (AllReadyH.cons rfl (fun K hK => ?_) AllReadyH.nil)
   go_simp
   go_at_call 137
   refine (Ri (HT.out.no ((Ch.refl No wa).drew)) ht').mono ?_
   rintro e w1 ⟨hr, hc1⟩
   have K1 := Aa (((Ch.refl No wa).drew).trans hc1)
   obtain rfl := hr.no HRT.out
   clear hc1
   go_simp
   have HS1 := Aa (F7 HSx.out K1.out)
   refine hK.out _ _ HS1.out (fun hHeld1 => ?_)
   clear hK
   refine tk 11 rfl ?_
   refine tk 12 rfl ?_
   refine tn 13 rfl ?_
   refine tn 14 rfl ?_
   refine tn 15 rfl ?_
   refine tn 16 rfl ?_
   refine tn 17 rfl ?_
   refine tn 18 rfl ?_
   refine tk 19 rfl ?_
   refine tk 20 rfl ?_
   refine tn 21 rfl ?_
   refine tn 22 rfl ?_
   refine tn 23 rfl ?_
   refine tn 24 rfl ?_
   refine tn 25 rfl ?_
   refine tn 26 rfl ?_
   refine tn 27 rfl ?_
   refine tn 28 rfl ?_
   refine tn 29 rfl ?_
   refine tk 30 rfl ?_
   refine tk 31 rfl ?_
   refine wpAnyH_done (by kernel_rfl) ?_ _
   go_wp2
   go_ret
   exact ⟨.f (fun h => HRT.out h.2.1), HCA.out.trans K1.out⟩}}
theorem Ad8 (E : Dc cs ms) (h : Bl w0 w b cs ms xv mb vb nn vs ret l c) (hv : F6 vs) (hr : ret.size ≤ maxLen) {x y z t f : ByteArray} (hs : Bb x y z t f) {ga : Option Addr} {gs : List ByteArray} {gc : Nat} (hga : Ah w (.slice ga gs.length gc) gs) (hgz : gs.length ≤ 41 ∧ ∀ x ∈ gs, x.size ≤ 20000) (ba oa : Option Addr) (n l2 c2 : Int) (bn bc on oc : Nat) :
 Calls Tryz.prog 101 #[.pointer (some ⟨b, 0, none⟩), .agg #[.int .i64 9, .string x, .string y, .string z, .string t, .string f, .slice ga gs.length gc, .int .i64 n, .slice ba bn bc, .slice oa on oc, .int .i64 l2, .int .i64 c2]] w (D7 (Di vs z = Cl ∧ Cx cs vs (Ff cs (Di vs y)) x) w) := by
 obtain ⟨hx, hy, hz, ht, hf⟩ := hs
 have hadd : ¬ 9223372036854775807 < t.size + 2 := by omega
 have hta := Jg (t := t) (by unfold maxLen; omega)
 have hx' := Ak hx
 have hy' := Ak hy
 have hz' := Ak hz
 have ht' := Ak ht
 have hf' := Ak hf
 have hmf := @G3 Tryz.prog
 obtain ⟨wa, hwa, hba, hca⟩ := A2 w (.cells #[.int .i64 9, .string x, .string y, .string z, .string t, .string f, .slice ga gs.length gc, .int .i64 n, .slice ba bn bc, .slice oa on oc, .int .i64 l2, .int .i64 c2] 128)
 obtain ⟨B, hB⟩ := Ax w.heap.size
 rw [hB] at hba
 have H := Aa (h.no hca)
 have HCA := Aa hca
 have HBA := Aa hba
 have HV := Aa hv
 have HR := Aa hr
 have HE := Aa E
 have HG := Aa (Ah.no hga hca)
 have HGZ := Aa hgz
 have HT := Aa H.out.typ
 obtain ⟨p0, p1, p2, p3, p4, p5, p6, p7, p8, p9, p10, p11⟩ := Ap hba
 obtain ⟨k0, k1⟩ := Co H.out.blk
 have k3 := Ab H.out.blk 3
 clear h hv hr E hga hgz hba hca
 have HSx := Aa (show wa.cell? ⟨b, 0, none⟩ = some xv ∧ wa.cell? ⟨b, 1, none⟩ = some (.pointer (some ⟨mb, 0, none⟩)) ∧ wa.cell? ⟨b, 3, none⟩ = some (.string ret) ∧ wa.cell? ⟨B, 1, none⟩ = some (.string x) ∧ wa.cell? ⟨B, 2, none⟩ = some (.string y) ∧ wa.cell? ⟨B, 3, none⟩ = some (.string z) ∧ wa.cell? ⟨B, 4, none⟩ = some (.string t) ∧ wa.cell? ⟨B, 5, none⟩ = some (.string f) from ⟨k0, k1, k3, p1, p2, p3, p4, p5⟩)
 by_cases hzi : Di vs z = Cl
 {have HZI := Aa hzi
  clear hzi
  go_in
  go_upto_region 21 with fail
  try rw [hB]
  clear hwa p0 p1 p2 p3 p4 p5 p6 p7 p8 p9 p10 p11 k0 k1 k3
  refine wp_region_held_drew (S := fun w' => w'.cell? ⟨b, 0, none⟩ = some xv ∧ w'.cell? ⟨b, 1, none⟩ = some (.pointer (some ⟨mb, 0, none⟩)) ∧ w'.cell? ⟨b, 3, none⟩ = some (.string ret) ∧ w'.cell? ⟨B, 1, none⟩ = some (.string x) ∧ w'.cell? ⟨B, 2, none⟩ = some (.string y) ∧ w'.cell? ⟨B, 3, none⟩ = some (.string z) ∧ w'.cell? ⟨B, 4, none⟩ = some (.string t) ∧ w'.cell? ⟨B, 5, none⟩ = some (.string f)) (by kernel_rfl) HSx.out (fun hHeld => ?_)
  refine tk 0 rfl ?_
  refine tk 1 rfl ?_
  refine tk 2 rfl ?_
  obtain ⟨w1, hw1⟩ : ∃ w', (wa.drew).alloc (.cells #[.string z] 9) = w' := ⟨_, rfl⟩
  have hc1 : Ch No (wa.drew) w1 := by rw [← hw1]; exact (Ch.refl No _).alloc _
  have K1 := Aa (((Ch.refl No wa).drew).trans hc1)
  have HS1 := Aa (F7 HSx.out K1.out)
  have HW1 := Aa hw1
  refine wpAnyH_ready (rs := [3]) (by kernel_rfl) (by simp) (AllReadyH.cons rfl (fun K hK => ?_) AllReadyH.nil)
  go_simp
  try rw [hw1]
  refine hK.out _ _ HS1.out (fun hHeld1 => ?_)
  clear hK hw1 hc1
  refine wpAnyH_ready (rs := [4]) (by kernel_rfl) (by simp) (AllReadyH.cons rfl (fun K hK => ?_) AllReadyH.nil)
  go_simp
  go_at_call 140
  refine (Kk (H.out.no K1.out) (v := .slice (some ⟨(wa.drew).heap.size, 0, none⟩) 1 1) (ts := [z]) (by rw [← HW1.out]; exact Ah.one (w := wa.drew) [z] (lb rfl)) (by simp [hz']) (lb rfl)).mono ?_
  rintro e w2 ⟨hr, hc2⟩
  have K2 := Aa (K1.out.trans hc2)
  obtain rfl := hr.yes (by simpa using HZI.out)
  clear hc2
  go_simp
  have HS2 := Aa (F7 HSx.out K2.out)
  refine hK.out _ _ HS2.out (fun hHeld2 => ?_)
  clear hK
  refine tk 5 rfl ?_
  refine tk 6 rfl ?_
  refine tk 7 rfl ?_
  refine tk 8 rfl ?_
  refine tk 9 rfl ?_
  refine tk 11 rfl ?_
  refine tk 12 rfl ?_
  refine wpAnyH_ready (rs := [10]) (by kernel_rfl) (by simp) (AllReadyH.cons rfl (fun K hK => ?_) AllReadyH.nil)
  go_simp
  go_at_call 141
  refine (Yq (H.out.no K2.out) HV.out hy').mono ?_
  rintro e w3 ⟨rfl, hc3⟩
  have K3 := Aa (K2.out.trans hc3)
  clear hc3
  go_simp
  have HS3 := Aa (F7 HSx.out K3.out)
  refine hK.out _ _ HS3.out (fun hHeld3 => ?_)
  clear hK
  refine wpAnyH_ready (rs := [13]) (by kernel_rfl) (by simp) (AllReadyH.cons rfl (fun K hK => ?_) AllReadyH.nil)
  go_simp
  go_at_call 135
  refine (Gn (H.out.no K3.out) HV.out (Rb (HV.out.of y)) hx').mono ?_
  rintro e w4 ⟨⟨r, hr0, hr⟩, hc4⟩
  have K4 := Aa (K3.out.trans hc4)
  subst hr0
  have HRR := Aa hr
  clear hr
  clear hc4
  go_simp
  have HS4 := Aa (F7 HSx.out K4.out)
  refine hK.out _ _ HS4.out (fun hHeld4 => ?_)
  clear hK
  refine tk 14 rfl ?_
  refine tk 15 rfl ?_
  refine wpAnyH_done (by kernel_rfl) ?_ _
  go_wp2
  go_ret
  exact ⟨B6 _ ⟨fun h => ⟨HZI.out, HRR.out.1 (by simpa using h)⟩, fun h => by simpa using HRR.out.2 h.2⟩, HCA.out.trans K4.out⟩}
 {have HZI := Aa hzi
  clear hzi
  go_in
  go_upto_region 21 with fail
  try rw [hB]
  clear hwa p0 p1 p2 p3 p4 p5 p6 p7 p8 p9 p10 p11 k0 k1 k3
  refine wp_region_held_drew (S := fun w' => w'.cell? ⟨b, 0, none⟩ = some xv ∧ w'.cell? ⟨b, 1, none⟩ = some (.pointer (some ⟨mb, 0, none⟩)) ∧ w'.cell? ⟨b, 3, none⟩ = some (.string ret) ∧ w'.cell? ⟨B, 1, none⟩ = some (.string x) ∧ w'.cell? ⟨B, 2, none⟩ = some (.string y) ∧ w'.cell? ⟨B, 3, none⟩ = some (.string z) ∧ w'.cell? ⟨B, 4, none⟩ = some (.string t) ∧ w'.cell? ⟨B, 5, none⟩ = some (.string f)) (by kernel_rfl) HSx.out (fun hHeld => ?_)
  refine tk 0 rfl ?_
  refine tk 1 rfl ?_
  refine tk 2 rfl ?_
  obtain ⟨w1, hw1⟩ : ∃ w', (wa.drew).alloc (.cells #[.string z] 9) = w' := ⟨_, rfl⟩
  have hc1 : Ch No (wa.drew) w1 := by rw [← hw1]; exact (Ch.refl No _).alloc _
  have K1 := Aa (((Ch.refl No wa).drew).trans hc1)
  have HS1 := Aa (F7 HSx.out K1.out)
  have HW1 := Aa hw1
  refine wpAnyH_ready (rs := [3]) (by kernel_rfl) (by simp) (AllReadyH.cons rfl (fun K hK => ?_) AllReadyH.nil)
  go_simp
  try rw [hw1]
  refine hK.out _ _ HS1.out (fun hHeld1 => ?_)
  clear hK hw1 hc1
  refine wpAnyH_ready (rs := [4]) (by kernel_rfl) (by simp) (AllReadyH.cons rfl (fun K hK => ?_) AllReadyH.nil)
  go_simp
  go_at_call 140
  refine (Kk (H.out.no K1.out) (v := .slice (some ⟨(wa.drew).heap.size, 0, none⟩) 1 1) (ts := [z]) (by rw [← HW1.out]; exact Ah.one (w := wa.drew) [z] (lb rfl)) (by simp [hz']) (lb rfl)).mono ?_
  rintro e w2 ⟨hr, hc2⟩
  have K2 := Aa (K1.out.trans hc2)
  obtain rfl := hr.no (by simpa using HZI.out)
  clear hc2
  go_simp
  have HS2 := Aa (F7 HSx.out K2.out)
  refine hK.out _ _ HS2.out (fun hHeld2 => ?_)
  clear hK
  refine tk 5 rfl ?_
  refine tn 6 rfl ?_
  refine tn 7 rfl ?_
  refine tn 8 rfl ?_
  refine tn 9 rfl ?_
  refine tn 10 rfl ?_
  refine tn 11 rfl ?_
  refine tn 12 rfl ?_
  refine tn 13 rfl ?_
  refine tk 14 rfl ?_
  refine tk 15 rfl ?_
  refine wpAnyH_done (by kernel_rfl) ?_ _
  go_wp2
  go_ret
  exact ⟨.f (fun h => HZI.out h.1), HCA.out.trans K2.out⟩}
theorem Ad9 (E : Dc cs ms) (h : Bl w0 w b cs ms xv mb vb nn vs ret l c) (hv : F6 vs) (hr : ret.size ≤ maxLen) {x y z t f : ByteArray} (hs : Bb x y z t f) {ga : Option Addr} {gs : List ByteArray} {gc : Nat} (hga : Ah w (.slice ga gs.length gc) gs) (hgz : gs.length ≤ 41 ∧ ∀ x ∈ gs, x.size ≤ 20000) (ba oa : Option Addr) (n l2 c2 : Int) (bn bc on oc : Nat) :
 Calls Tryz.prog 101 #[.pointer (some ⟨b, 0, none⟩), .agg #[.int .i64 10, .string x, .string y, .string z, .string t, .string f, .slice ga gs.length gc, .int .i64 n, .slice ba bn bc, .slice oa on oc, .int .i64 l2, .int .i64 c2]] w (D7 (Di vs z = Cl ∧ Eh cs (Di vs y) (Ff cs (Di vs x))) w) := by
 obtain ⟨hx, hy, hz, ht, hf⟩ := hs
 have hadd : ¬ 9223372036854775807 < t.size + 2 := by omega
 have hta := Jg (t := t) (by unfold maxLen; omega)
 have hx' := Ak hx
 have hy' := Ak hy
 have hz' := Ak hz
 have ht' := Ak ht
 have hf' := Ak hf
 have hmf := @G3 Tryz.prog
 obtain ⟨wa, hwa, hba, hca⟩ := A2 w (.cells #[.int .i64 10, .string x, .string y, .string z, .string t, .string f, .slice ga gs.length gc, .int .i64 n, .slice ba bn bc, .slice oa on oc, .int .i64 l2, .int .i64 c2] 128)
 obtain ⟨B, hB⟩ := Ax w.heap.size
 rw [hB] at hba
 have H := Aa (h.no hca)
 have HCA := Aa hca
 have HBA := Aa hba
 have HV := Aa hv
 have HR := Aa hr
 have HE := Aa E
 have HG := Aa (Ah.no hga hca)
 have HGZ := Aa hgz
 have HT := Aa H.out.typ
 obtain ⟨p0, p1, p2, p3, p4, p5, p6, p7, p8, p9, p10, p11⟩ := Ap hba
 obtain ⟨k0, k1⟩ := Co H.out.blk
 have k3 := Ab H.out.blk 3
 clear h hv hr E hga hgz hba hca
 have HSx := Aa (show wa.cell? ⟨b, 0, none⟩ = some xv ∧ wa.cell? ⟨b, 1, none⟩ = some (.pointer (some ⟨mb, 0, none⟩)) ∧ wa.cell? ⟨b, 3, none⟩ = some (.string ret) ∧ wa.cell? ⟨B, 1, none⟩ = some (.string x) ∧ wa.cell? ⟨B, 2, none⟩ = some (.string y) ∧ wa.cell? ⟨B, 3, none⟩ = some (.string z) ∧ wa.cell? ⟨B, 4, none⟩ = some (.string t) ∧ wa.cell? ⟨B, 5, none⟩ = some (.string f) from ⟨k0, k1, k3, p1, p2, p3, p4, p5⟩)
 by_cases hzi : Di vs z = Cl
 {have HZI := Aa hzi
  clear hzi
  go_in
  go_upto_region 23 with fail
  try rw [hB]
  clear hwa p0 p1 p2 p3 p4 p5 p6 p7 p8 p9 p10 p11 k0 k1 k3
  refine wp_region_held_drew (S := fun w' => w'.cell? ⟨b, 0, none⟩ = some xv ∧ w'.cell? ⟨b, 1, none⟩ = some (.pointer (some ⟨mb, 0, none⟩)) ∧ w'.cell? ⟨b, 3, none⟩ = some (.string ret) ∧ w'.cell? ⟨B, 1, none⟩ = some (.string x) ∧ w'.cell? ⟨B, 2, none⟩ = some (.string y) ∧ w'.cell? ⟨B, 3, none⟩ = some (.string z) ∧ w'.cell? ⟨B, 4, none⟩ = some (.string t) ∧ w'.cell? ⟨B, 5, none⟩ = some (.string f)) (by kernel_rfl) HSx.out (fun hHeld => ?_)
  refine tk 0 rfl ?_
  refine tk 1 rfl ?_
  refine tk 2 rfl ?_
  obtain ⟨w1, hw1⟩ : ∃ w', (wa.drew).alloc (.cells #[.string z] 9) = w' := ⟨_, rfl⟩
  have hc1 : Ch No (wa.drew) w1 := by rw [← hw1]; exact (Ch.refl No _).alloc _
  have K1 := Aa (((Ch.refl No wa).drew).trans hc1)
  have HS1 := Aa (F7 HSx.out K1.out)
  have HW1 := Aa hw1
  refine wpAnyH_ready (rs := [3]) (by kernel_rfl) (by simp) (AllReadyH.cons rfl (fun K hK => ?_) AllReadyH.nil)
  go_simp
  try rw [hw1]
  refine hK.out _ _ HS1.out (fun hHeld1 => ?_)
  clear hK hw1 hc1
  refine wpAnyH_ready (rs := [4]) (by kernel_rfl) (by simp) (AllReadyH.cons rfl (fun K hK => ?_) AllReadyH.nil)
  go_simp
  go_at_call 140
  refine (Kk (H.out.no K1.out) (v := .slice (some ⟨(wa.drew).heap.size, 0, none⟩) 1 1) (ts := [z]) (by rw [← HW1.out]; exact Ah.one (w := wa.drew) [z] (lb rfl)) (by simp [hz']) (lb rfl)).mono ?_
  rintro e w2 ⟨hr, hc2⟩
  have K2 := Aa (K1.out.trans hc2)
  obtain rfl := hr.yes (by simpa using HZI.out)
  clear hc2
  go_simp
  have HS2 := Aa (F7 HSx.out K2.out)
  refine hK.out _ _ HS2.out (fun hHeld2 => ?_)
  clear hK
  refine tk 5 rfl ?_
  refine tk 6 rfl ?_
  refine tk 7 rfl ?_
  refine tk 8 rfl ?_
  refine tk 9 rfl ?_
  refine tk 10 rfl ?_
  refine tk 11 rfl ?_
  refine tk 12 rfl ?_
  refine tk 14 rfl ?_
  refine tk 15 rfl ?_
  refine tk 16 rfl ?_
  refine wpAnyH_ready (rs := [13]) (by kernel_rfl) (by simp) (AllReadyH.cons rfl (fun K hK => ?_) AllReadyH.nil)
  go_simp
  go_at_call 136
  refine (Hc (H.out.no K2.out) hy').mono ?_
  rintro e w3 ⟨rfl, hc3⟩
  have K3 := Aa (K2.out.trans hc3)
  clear hc3
  go_simp
  have HS3 := Aa (F7 HSx.out K3.out)
  refine hK.out _ _ HS3.out (fun hHeld3 => ?_)
  clear hK
  refine wpAnyH_ready (rs := [17]) (by kernel_rfl) (by simp) (AllReadyH.cons rfl (fun K hK => ?_) AllReadyH.nil)
  go_simp
  go_at_call 141
  refine (Yq (H.out.no K3.out) HV.out hx').mono ?_
  rintro e w4 ⟨rfl, hc4⟩
  have K4 := Aa (K3.out.trans hc4)
  clear hc4
  go_simp
  have HS4 := Aa (F7 HSx.out K4.out)
  refine hK.out _ _ HS4.out (fun hHeld4 => ?_)
  clear hK
  refine wpAnyH_ready (rs := [18]) (by kernel_rfl) (by simp) (AllReadyH.cons rfl (fun K hK => ?_) AllReadyH.nil)
  go_simp
  go_at_call 139
  refine (Gg (HT.out.no K4.out) (HV.out.of y) (Rb (HV.out.of x))).mono ?_
  rintro e w5 ⟨⟨r, hr0, hr⟩, hc5⟩
  have K5 := Aa (K4.out.trans hc5)
  subst hr0
  have HRR := Aa hr
  clear hr
  clear hc5
  go_simp
  have HS5 := Aa (F7 HSx.out K5.out)
  refine hK.out _ _ HS5.out (fun hHeld5 => ?_)
  clear hK
  refine tk 19 rfl ?_
  refine tk 20 rfl ?_
  refine wpAnyH_done (by kernel_rfl) ?_ _
  go_wp2
  go_ret
  exact ⟨B6 _ ⟨fun h => ⟨HZI.out, HRR.out.1 (by simpa using h)⟩, fun h => by simpa using HRR.out.2 h.2⟩, HCA.out.trans K5.out⟩}
 {have HZI := Aa hzi
  clear hzi
  go_in
  go_upto_region 23 with fail
  try rw [hB]
  clear hwa p0 p1 p2 p3 p4 p5 p6 p7 p8 p9 p10 p11 k0 k1 k3
  refine wp_region_held_drew (S := fun w' => w'.cell? ⟨b, 0, none⟩ = some xv ∧ w'.cell? ⟨b, 1, none⟩ = some (.pointer (some ⟨mb, 0, none⟩)) ∧ w'.cell? ⟨b, 3, none⟩ = some (.string ret) ∧ w'.cell? ⟨B, 1, none⟩ = some (.string x) ∧ w'.cell? ⟨B, 2, none⟩ = some (.string y) ∧ w'.cell? ⟨B, 3, none⟩ = some (.string z) ∧ w'.cell? ⟨B, 4, none⟩ = some (.string t) ∧ w'.cell? ⟨B, 5, none⟩ = some (.string f)) (by kernel_rfl) HSx.out (fun hHeld => ?_)
  refine tk 0 rfl ?_
  refine tk 1 rfl ?_
  refine tk 2 rfl ?_
  obtain ⟨w1, hw1⟩ : ∃ w', (wa.drew).alloc (.cells #[.string z] 9) = w' := ⟨_, rfl⟩
  have hc1 : Ch No (wa.drew) w1 := by rw [← hw1]; exact (Ch.refl No _).alloc _
  have K1 := Aa (((Ch.refl No wa).drew).trans hc1)
  have HS1 := Aa (F7 HSx.out K1.out)
  have HW1 := Aa hw1
  refine wpAnyH_ready (rs := [3]) (by kernel_rfl) (by simp) (AllReadyH.cons rfl (fun K hK => ?_) AllReadyH.nil)
  go_simp
  try rw [hw1]
  refine hK.out _ _ HS1.out (fun hHeld1 => ?_)
  clear hK hw1 hc1
  refine wpAnyH_ready (rs := [4]) (by kernel_rfl) (by simp) (AllReadyH.cons rfl (fun K hK => ?_) AllReadyH.nil)
  go_simp
  go_at_call 140
  refine (Kk (H.out.no K1.out) (v := .slice (some ⟨(wa.drew).heap.size, 0, none⟩) 1 1) (ts := [z]) (by rw [← HW1.out]; exact Ah.one (w := wa.drew) [z] (lb rfl)) (by simp [hz']) (lb rfl)).mono ?_
  rintro e w2 ⟨hr, hc2⟩
  have K2 := Aa (K1.out.trans hc2)
  obtain rfl := hr.no (by simpa using HZI.out)
  clear hc2
  go_simp
  have HS2 := Aa (F7 HSx.out K2.out)
  refine hK.out _ _ HS2.out (fun hHeld2 => ?_)
  clear hK
  refine tk 5 rfl ?_
  refine tn 6 rfl ?_
  refine tn 7 rfl ?_
  refine tn 8 rfl ?_
  refine tn 9 rfl ?_
  refine tn 10 rfl ?_
  refine tn 11 rfl ?_
  refine tn 12 rfl ?_
  refine tn 13 rfl ?_
  refine tn 14 rfl ?_
  refine tn 15 rfl ?_
  refine tn 16 rfl ?_
  refine tn 17 rfl ?_
  refine tn 18 rfl ?_
  refine tk 19 rfl ?_
  refine tk 20 rfl ?_
  refine wpAnyH_done (by kernel_rfl) ?_ _
  go_wp2
  go_ret
  exact ⟨.f (fun h => HZI.out h.1), HCA.out.trans K2.out⟩}
end
end Go.Proofs.YtgjpgfedlgdjhaaGreatDoor
end
