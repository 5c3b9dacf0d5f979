/- Part 37. -/
import Derived.Test.YtgjpgfedlgdjhaaGreatDoorYbi
set_option linter.unusedVariables false
set_option linter.unusedSimpArgs false
set_option maxHeartbeats 64000000
set_option maxRecDepth 8192
section
namespace Go.Proofs.YtgjpgfedlgdjhaaGreatDoor
open Go.RowKit Go.W
theorem Oc {cs : List Aj} {ms : List Ba} {vs : ByteArray → Option ByteArray} {t f x : ByteArray} {gs : List ByteArray} {A B : Cy → Prop} (h : ∀ m, A m ↔ B m) : Dw cs ms vs t f x gs A ↔ Dw cs ms vs t f x gs B := by
 have e : A = B := funext (fun m => propext (h m))
 rw [e]
section
variable {w0 w : World} {b : Nat} {cs : List Aj} {ms : List Ba} {xv : Value} {mb vb nn : Nat} {vs : ByteArray → Option ByteArray} {ret : ByteArray} {l c : Int}
theorem Aeb (E : Dc cs ms) (h : Bl w0 w b cs ms xv mb vb nn vs ret l c) (hv : F6 vs) (hr : ret.size ≤ maxLen) {x y z t f : ByteArray} (hs : Bb x y z t f) {ga : Option Addr} {gs : List ByteArray} {gc : Nat} (hga : Ah w (.slice ga gs.length gc) gs) (hgz : gs.length ≤ 41 ∧ ∀ x ∈ gs, x.size ≤ 20000) (ba oa : Option Addr) (n l2 c2 : Int) (bn bc on oc : Nat) :
 Calls Tryz.prog 142 #[.pointer (some ⟨b, 0, none⟩), .agg #[.int .i64 12, .string x, .string y, .string z, .string t, .string f, .slice ga gs.length gc, .int .i64 n, .slice ba bn bc, .slice oa on oc, .int .i64 l2, .int .i64 c2]] w (D7 (Dv cs t ∧ Eh cs (Di vs y) t ∧ Dw cs ms vs t f x gs (fun m => m.st = false ∧ m.ba = false)) w) := by
 obtain ⟨hx, hy, hz, ht, hf⟩ := hs
 have hadd : ¬ 9223372036854775807 < t.size + 2 := by omega
 have hta := Jg (t := t) (by unfold maxLen; omega)
 have hx' := Ak hx
 have hy' := Ak hy
 have hz' := Ak hz
 have ht' := Ak ht
 have hf' := Ak hf
 have hmf := @G3 Tryz.prog
 obtain ⟨wa, hwa, hba, hca⟩ := A2 w (.cells #[.int .i64 12, .string x, .string y, .string z, .string t, .string f, .slice ga gs.length gc, .int .i64 n, .slice ba bn bc, .slice oa on oc, .int .i64 l2, .int .i64 c2] 128)
 obtain ⟨B, hB⟩ := Ax w.heap.size
 rw [hB] at hba
 have H := Aa (h.no hca)
 have HCA := Aa hca
 have HBA := Aa hba
 have HV := Aa hv
 have HR := Aa hr
 have HE := Aa E
 have HG := Aa (Ah.no hga hca)
 have HGZ := Aa hgz
 have HT := Aa H.out.typ
 obtain ⟨p0, p1, p2, p3, p4, p5, p6, p7, p8, p9, p10, p11⟩ := Ap hba
 obtain ⟨k0, k1⟩ := Co H.out.blk
 have k3 := Ab H.out.blk 3
 clear h hv hr E hga hgz hba hca
 have HSZ := Aa (show Bb x y z t f from ⟨hx, hy, hz, ht, hf⟩)
 have HSx := Aa (show wa.cell? ⟨b, 0, none⟩ = some xv ∧ wa.cell? ⟨b, 1, none⟩ = some (.pointer (some ⟨mb, 0, none⟩)) ∧ wa.cell? ⟨b, 3, none⟩ = some (.string ret) ∧ wa.cell? ⟨B, 0, none⟩ = some (.int .i64 12) ∧ wa.cell? ⟨B, 1, none⟩ = some (.string x) ∧ wa.cell? ⟨B, 2, none⟩ = some (.string y) ∧ wa.cell? ⟨B, 3, none⟩ = some (.string z) ∧ wa.cell? ⟨B, 4, none⟩ = some (.string t) ∧ wa.cell? ⟨B, 5, none⟩ = some (.string f) ∧ wa.cell? ⟨B, 6, none⟩ = some (.slice ga gs.length gc) ∧ wa.cell? ⟨B, 7, none⟩ = some (.int .i64 n) ∧ wa.cell? ⟨B, 8, none⟩ = some (.slice ba bn bc) ∧ wa.cell? ⟨B, 9, none⟩ = some (.slice oa on oc) ∧ wa.cell? ⟨B, 10, none⟩ = some (.int .i64 l2) ∧ wa.cell? ⟨B, 11, none⟩ = some (.int .i64 c2) from ⟨k0, k1, k3, p0, p1, p2, p3, p4, p5, p6, p7, p8, p9, p10, p11⟩)
 by_cases hre : Dv cs t
 {have HRE := Aa hre
  clear hre
  by_cases hbe : Eh cs (Di vs y) t
  {have HBE := Aa hbe
   clear hbe
   go_in
   go_upto_region 5 with fail
   try rw [hB]
   clear hwa p0 p1 p2 p3 p4 p5 p6 p7 p8 p9 p10 p11 k0 k1 k3
   refine wp_region_held_drew (S := fun w' => w'.cell? ⟨b, 0, none⟩ = some xv ∧ w'.cell? ⟨b, 1, none⟩ = some (.pointer (some ⟨mb, 0, none⟩)) ∧ w'.cell? ⟨b, 3, none⟩ = some (.string ret) ∧ w'.cell? ⟨B, 0, none⟩ = some (.int .i64 12) ∧ w'.cell? ⟨B, 1, none⟩ = some (.string x) ∧ w'.cell? ⟨B, 2, none⟩ = some (.string y) ∧ w'.cell? ⟨B, 3, none⟩ = some (.string z) ∧ w'.cell? ⟨B, 4, none⟩ = some (.string t) ∧ w'.cell? ⟨B, 5, none⟩ = some (.string f) ∧ w'.cell? ⟨B, 6, none⟩ = some (.slice ga gs.length gc) ∧ w'.cell? ⟨B, 7, none⟩ = some (.int .i64 n) ∧ w'.cell? ⟨B, 8, none⟩ = some (.slice ba bn bc) ∧ w'.cell? ⟨B, 9, none⟩ = some (.slice oa on oc) ∧ w'.cell? ⟨B, 10, none⟩ = some (.int .i64 l2) ∧ w'.cell? ⟨B, 11, none⟩ = some (.int .i64 c2)) (by kernel_rfl) HSx.out (fun hHeld => ?_)
   refine tk 0 rfl ?_
   refine tk 1 rfl ?_
   refine tk 2 rfl ?_
   refine wpAnyH_ready (rs := [3]) (by kernel_rfl) (by simp) (AllReadyH.cons rfl (fun K hK => ?_) AllReadyH.nil)
   go_simp
   go_at_call 134
   refine (Iw (H.out.no ((Ch.refl No wa).drew)) ht').mono ?_
   rintro e w1 ⟨hr, hc1⟩
   have K1 := Aa (((Ch.refl No wa).drew).trans hc1)
   obtain rfl := hr.yes HRE.out
   clear hc1
   go_simp
   have HS1 := Aa (Kr HSx.out K1.out)
   refine hK.out _ _ HS1.out (fun hHeld1 => ?_)
   clear hK
   refine tk 4 rfl ?_
   refine tk 5 rfl ?_
   refine tk 6 rfl ?_
   refine tk 7 rfl ?_
   refine tk 8 rfl ?_
   refine tk 9 rfl ?_
   refine tk 10 rfl ?_
   refine tk 11 rfl ?_
   refine tk 13 rfl ?_
   refine tk 14 rfl ?_
   refine wpAnyH_ready (rs := [12]) (by kernel_rfl) (by simp) (AllReadyH.cons rfl (fun K hK => ?_) AllReadyH.nil)
   go_simp
   go_at_call 136
   refine (Hc (H.out.no K1.out) hy').mono ?_
   rintro e w2 ⟨rfl, hc2⟩
   have K2 := Aa (K1.out.trans hc2)
   clear hc2
   go_simp
   have HS2 := Aa (Kr HSx.out K2.out)
   refine hK.out _ _ HS2.out (fun hHeld2 => ?_)
   clear hK
   refine wpAnyH_ready (rs := [15]) (by kernel_rfl) (by simp) (AllReadyH.cons rfl (fun K hK => ?_) AllReadyH.nil)
   go_simp
   go_at_call 139
   refine (Gg (HT.out.no K2.out) (HV.out.of y) ht').mono ?_
   rintro e w3 ⟨hr, hc3⟩
   have K3 := Aa (K2.out.trans hc3)
   obtain rfl := hr.yes HBE.out
   clear hc3
   go_simp
   have HS3 := Aa (Kr HSx.out K3.out)
   refine hK.out _ _ HS3.out (fun hHeld3 => ?_)
   clear hK
   refine tk 16 rfl ?_
   refine tk 17 rfl ?_
   refine tk 18 rfl ?_
   refine tk 19 rfl ?_
   refine tk 20 rfl ?_
   refine tk 21 rfl ?_
   refine wpAnyH_ready (rs := [22]) (by kernel_rfl) (by simp) (AllReadyH.cons rfl (fun K hK => ?_) AllReadyH.nil)
   go_simp
   go_at_call 162
   refine (Jo HE.out (H.out.no K3.out) HV.out Ady ht' ⟨12, x, y, z, t, f, n, l2, c2⟩ HSZ.out (Ah.no HG.out K3.out) HGZ.out ba oa bn bc on oc).mono ?_
   rintro e w4 ⟨⟨r, hr0, hr⟩, hc4⟩
   have K4 := Aa (K3.out.trans hc4)
   subst hr0
   have HRR := Aa hr
   clear hr
   clear hc4
   go_simp
   have HS4 := Aa (Kr HSx.out K4.out)
   refine hK.out _ _ HS4.out (fun hHeld4 => ?_)
   clear hK
   refine tk 23 rfl ?_
   refine tk 24 rfl ?_
   refine wpAnyH_done (by kernel_rfl) ?_ _
   go_wp2
   go_ret
   exact ⟨B6 _ ⟨fun h => ⟨HRE.out, HBE.out, (Oc (cs := cs) (ms := ms) (vs := vs) (t := t) (f := f) (x := x) (gs := gs) (fun m => by simp)).1 (HRR.out.1 (by simpa using h))⟩, fun h => by simpa using HRR.out.2 ((Oc (cs := cs) (ms := ms) (vs := vs) (t := t) (f := f) (x := x) (gs := gs) (fun m => by simp)).2 h.2.2)⟩, HCA.out.trans K4.out⟩}
  {have HBE := Aa hbe
   clear hbe
   go_in
   go_upto_region 5 with fail
   try rw [hB]
   clear hwa p0 p1 p2 p3 p4 p5 p6 p7 p8 p9 p10 p11 k0 k1 k3
   refine wp_region_held_drew (S := fun w' => w'.cell? ⟨b, 0, none⟩ = some xv ∧ w'.cell? ⟨b, 1, none⟩ = some (.pointer (some ⟨mb, 0, none⟩)) ∧ w'.cell? ⟨b, 3, none⟩ = some (.string ret) ∧ w'.cell? ⟨B, 0, none⟩ = some (.int .i64 12) ∧ w'.cell? ⟨B, 1, none⟩ = some (.string x) ∧ w'.cell? ⟨B, 2, none⟩ = some (.string y) ∧ w'.cell? ⟨B, 3, none⟩ = some (.string z) ∧ w'.cell? ⟨B, 4, none⟩ = some (.string t) ∧ w'.cell? ⟨B, 5, none⟩ = some (.string f) ∧ w'.cell? ⟨B, 6, none⟩ = some (.slice ga gs.length gc) ∧ w'.cell? ⟨B, 7, none⟩ = some (.int .i64 n) ∧ w'.cell? ⟨B, 8, none⟩ = some (.slice ba bn bc) ∧ w'.cell? ⟨B, 9, none⟩ = some (.slice oa on oc) ∧ w'.cell? ⟨B, 10, none⟩ = some (.int .i64 l2) ∧ w'.cell? ⟨B, 11, none⟩ = some (.int .i64 c2)) (by kernel_rfl) HSx.out (fun hHeld => ?_)
   refine tk 0 rfl ?_
   refine tk 1 rfl ?_
   refine tk 2 rfl ?_
   refine wpAnyH_ready (rs := [3]) (by kernel_rfl) (by simp) (AllReadyH.cons rfl (fun K hK => ?_) AllReadyH.nil)
   go_simp
   go_at_call 134
   refine (Iw (H.out.no ((Ch.refl No wa).drew)) ht').mono ?_
   rintro e w1 ⟨hr, hc1⟩
   have K1 := Aa (((Ch.refl No wa).drew).trans hc1)
   obtain rfl := hr.yes HRE.out
   clear hc1
   go_simp
   have HS1 := Aa (Kr HSx.out K1.out)
   refine hK.out _ _ HS1.out (fun hHeld1 => ?_)
   clear hK
   refine tk 4 rfl ?_
   refine tk 5 rfl ?_
   refine tk 6 rfl ?_
   refine tk 7 rfl ?_
   refine tk 8 rfl ?_
   refine tk 9 rfl ?_
   refine tk 10 rfl ?_
   refine tk 11 rfl ?_
   refine tk 13 rfl ?_
   refine tk 14 rfl ?_
   refine wpAnyH_ready (rs := [12]) (by kernel_rfl) (by simp) (AllReadyH.cons rfl (fun K hK => ?_) AllReadyH.nil)
   go_simp
   go_at_call 136
   refine (Hc (H.out.no K1.out) hy').mono ?_
   rintro e w2 ⟨rfl, hc2⟩
   have K2 := Aa (K1.out.trans hc2)
   clear hc2
   go_simp
   have HS2 := Aa (Kr HSx.out K2.out)
   refine hK.out _ _ HS2.out (fun hHeld2 => ?_)
   clear hK
   refine wpAnyH_ready (rs := [15]) (by kernel_rfl) (by simp) (AllReadyH.cons rfl (fun K hK => ?_) AllReadyH.nil)
   go_simp
   go_at_call 139
   refine (Gg (HT.out.no K2.out) (HV.out.of y) ht').mono ?_
   rintro e w3 ⟨hr, hc3⟩
   have K3 := Aa (K2.out.trans hc3)
   obtain rfl := hr.no HBE.out
   clear hc3
   go_simp
   have HS3 := Aa (Kr HSx.out K3.out)
   refine hK.out _ _ HS3.out (fun hHeld3 => ?_)
   clear hK
   refine tk 16 rfl ?_
   refine tk 17 rfl ?_
   refine tn 18 rfl ?_
   refine tn 19 rfl ?_
   refine tn 20 rfl ?_
   refine tn 21 rfl ?_
   refine tn 22 rfl ?_
   refine tk 23 rfl ?_
   refine tk 24 rfl ?_
   refine wpAnyH_done (by kernel_rfl) ?_ _
   go_wp2
   go_ret
   exact ⟨.f (fun h => HBE.out h.2.1), HCA.out.trans K3.out⟩}}
 {have HRE := Aa hre
  clear hre
  go_in
  go_upto_region 5 with fail
  try rw [hB]
  clear hwa p0 p1 p2 p3 p4 p5 p6 p7 p8 p9 p10 p11 k0 k1 k3
  refine wp_region_held_drew (S := fun w' => w'.cell? ⟨b, 0, none⟩ = some xv ∧ w'.cell? ⟨b, 1, none⟩ = some (.pointer (some ⟨mb, 0, none⟩)) ∧ w'.cell? ⟨b, 3, none⟩ = some (.string ret) ∧ w'.cell? ⟨B, 0, none⟩ = some (.int .i64 12) ∧ w'.cell? ⟨B, 1, none⟩ = some (.string x) ∧ w'.cell? ⟨B, 2, none⟩ = some (.string y) ∧ w'.cell? ⟨B, 3, none⟩ = some (.string z) ∧ w'.cell? ⟨B, 4, none⟩ = some (.string t) ∧ w'.cell? ⟨B, 5, none⟩ = some (.string f) ∧ w'.cell? ⟨B, 6, none⟩ = some (.slice ga gs.length gc) ∧ w'.cell? ⟨B, 7, none⟩ = some (.int .i64 n) ∧ w'.cell? ⟨B, 8, none⟩ = some (.slice ba bn bc) ∧ w'.cell? ⟨B, 9, none⟩ = some (.slice oa on oc) ∧ w'.cell? ⟨B, 10, none⟩ = some (.int .i64 l2) ∧ w'.cell? ⟨B, 11, none⟩ = some (.int .i64 c2)) (by kernel_rfl) HSx.out (fun hHeld => ?_)
  refine tk 0 rfl ?_
  refine tk 1 rfl ?_
  refine tk 2 rfl ?_
  refine wpAnyH_ready (rs := [3]) (by kernel_rfl) (by simp) (AllReadyH.cons rfl (fun K hK => ?_) AllReadyH.nil)
  go_simp
  go_at_call 134
  refine (Iw (H.out.no ((Ch.refl No wa).drew)) ht').mono ?_
  rintro e w1 ⟨hr, hc1⟩
  have K1 := Aa (((Ch.refl No wa).drew).trans hc1)
  obtain rfl := hr.no HRE.out
  clear hc1
  go_simp
  have HS1 := Aa (Kr HSx.out K1.out)
  refine hK.out _ _ HS1.out (fun hHeld1 => ?_)
  clear hK
  refine tk 4 rfl ?_
  refine tn 5 rfl ?_
  refine tn 6 rfl ?_
  refine tn 7 rfl ?_
  refine tn 8 rfl ?_
  refine tn 9 rfl ?_
  refine tn 10 rfl ?_
  refine tn 11 rfl ?_
  refine tn 12 rfl ?_
  refine tn 13 rfl ?_
  refine tn 14 rfl ?_
  refine tn 15 rfl ?_
  refine tk 16 rfl ?_
  refine tk 17 rfl ?_
  refine tn 18 rfl ?_
  refine tn 19 rfl ?_
  refine tn 20 rfl ?_
  refine tn 21 rfl ?_
  refine tn 22 rfl ?_
  refine tk 23 rfl ?_
  refine tk 24 rfl ?_
  refine wpAnyH_done (by kernel_rfl) ?_ _
  go_wp2
  go_ret
  exact ⟨.f (fun h => HRE.out h.1), HCA.out.trans K1.out⟩}
end
end Go.Proofs.YtgjpgfedlgdjhaaGreatDoor
end
