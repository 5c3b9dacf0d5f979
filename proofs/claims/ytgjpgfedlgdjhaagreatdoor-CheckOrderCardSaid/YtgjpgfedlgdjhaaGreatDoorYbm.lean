/- Part 39. -/
import Derived.Test.YtgjpgfedlgdjhaaGreatDoorYbi
set_option linter.unusedVariables false
set_option linter.unusedSimpArgs false
set_option maxHeartbeats 64000000
set_option maxRecDepth 8192
section
namespace Go.Proofs.YtgjpgfedlgdjhaaGreatDoor
open Go.RowKit Go.W
section
variable {w0 w : World} {b : Nat} {cs : List Aj} {ms : List Ba} {xv : Value} {mb vb nn : Nat} {vs : ByteArray → Option ByteArray} {ret : ByteArray} {l c : Int}
theorem Aei (E : Dc cs ms) (h : Bl w0 w b cs ms xv mb vb nn vs ret l c) (hv : F6 vs) (hr : ret.size ≤ maxLen) {x y z t f : ByteArray} (hs : Bb x y z t f) {ga : Option Addr} {gs : List ByteArray} {gc : Nat} (hga : Ah w (.slice ga gs.length gc) gs) (hgz : gs.length ≤ 41 ∧ ∀ x ∈ gs, x.size ≤ 20000) (ba oa : Option Addr) (n l2 c2 : Int) (bn bc on oc : Nat) :
 Calls Tryz.prog 142 #[.pointer (some ⟨b, 0, none⟩), .agg #[.int .i64 22, .string x, .string y, .string z, .string t, .string f, .slice ga gs.length gc, .int .i64 n, .slice ba bn bc, .slice oa on oc, .int .i64 l2, .int .i64 c2]] w (D7 ((x = ⟨#[]⟩ ∧ ret = Gf ∨ x ≠ ⟨#[]⟩ ∧ Eh cs (Di vs x) ret)) w) := by
 obtain ⟨hx, hy, hz, ht, hf⟩ := hs
 have hadd : ¬ 9223372036854775807 < t.size + 2 := by omega
 have hta := Jg (t := t) (by unfold maxLen; omega)
 have hx' := Ak hx
 have hy' := Ak hy
 have hz' := Ak hz
 have ht' := Ak ht
 have hf' := Ak hf
 have hmf := @G3 Tryz.prog
 obtain ⟨wa, hwa, hba, hca⟩ := A2 w (.cells #[.int .i64 22, .string x, .string y, .string z, .string t, .string f, .slice ga gs.length gc, .int .i64 n, .slice ba bn bc, .slice oa on oc, .int .i64 l2, .int .i64 c2] 128)
 obtain ⟨B, hB⟩ := Ax w.heap.size
 rw [hB] at hba
 have H := Aa (h.no hca)
 have HCA := Aa hca
 have HBA := Aa hba
 have HV := Aa hv
 have HR := Aa hr
 have HE := Aa E
 have HG := Aa (Ah.no hga hca)
 have HGZ := Aa hgz
 have HT := Aa H.out.typ
 obtain ⟨p0, p1, p2, p3, p4, p5, p6, p7, p8, p9, p10, p11⟩ := Ap hba
 obtain ⟨k0, k1⟩ := Co H.out.blk
 have k3 := Ab H.out.blk 3
 clear h hv hr E hga hgz hba hca
 by_cases hxe : x = ⟨#[]⟩
 {have e1 := lit x [] hxe
  have HXE := Aa hxe
  clear hxe
  by_cases hre : ret = Gf
  {have e2 := lit ret [118, 111, 105, 100] hre
   have HRE := Aa hre
   clear hre
   go_in
   go_wp2
   go_ret
   exact ⟨.t (.inl ⟨HXE.out, HRE.out⟩), HCA.out⟩}
  {have e2 := Bf ret [118, 111, 105, 100] hre
   have HRE := Aa hre
   clear hre
   go_in
   go_wp2
   go_ret
   exact ⟨.f (fun h => h.elim (fun h => HRE.out h.2) (fun h => h.1 HXE.out)), HCA.out⟩}}
 {have e1 := Bf x [] hxe
  have HXE := Aa hxe
  clear hxe
  have ho1 := Hc (H.out.no ((Ch.refl No wa).drew)) hx'
  have HSx := Aa (show wa.cell? ⟨b, 0, none⟩ = some xv ∧ wa.cell? ⟨b, 1, none⟩ = some (.pointer (some ⟨mb, 0, none⟩)) ∧ wa.cell? ⟨b, 3, none⟩ = some (.string ret) ∧ wa.cell? ⟨B, 1, none⟩ = some (.string x) ∧ wa.cell? ⟨B, 2, none⟩ = some (.string y) ∧ wa.cell? ⟨B, 3, none⟩ = some (.string z) ∧ wa.cell? ⟨B, 4, none⟩ = some (.string t) ∧ wa.cell? ⟨B, 5, none⟩ = some (.string f) from ⟨k0, k1, k3, p1, p2, p3, p4, p5⟩)
  go_in
  go_upto_region 24 with fail
  try rw [hB]
  clear hwa p0 p1 p2 p3 p4 p5 p6 p7 p8 p9 p10 p11 k0 k1 k3
  have HSd := Aa (dr8 HSx.out)
  go_region_held3 (fun w' => w'.cell? ⟨b, 0, none⟩ = some xv ∧ w'.cell? ⟨b, 1, none⟩ = some (.pointer (some ⟨mb, 0, none⟩)) ∧ w'.cell? ⟨b, 3, none⟩ = some (.string ret) ∧ w'.cell? ⟨B, 1, none⟩ = some (.string x) ∧ w'.cell? ⟨B, 2, none⟩ = some (.string y) ∧ w'.cell? ⟨B, 3, none⟩ = some (.string z) ∧ w'.cell? ⟨B, 4, none⟩ = some (.string t) ∧ w'.cell? ⟨B, 5, none⟩ = some (.string f)) (first | with_reducible exact HSx.out | with_reducible exact HSd.out | with_reducible exact HS1.out | with_reducible exact HS2.out | go_keep) (first | (go_at_call 136; refine (ho1).mono ?_; rintro e w1 ⟨rfl, hc1⟩; have K1 := Aa (((Ch.refl No wa).drew).trans hc1); have HS1 := Aa (F7 HSx.out K1.out); clear hc1; clear ho1) | (go_at_call 139; refine (Gg (HT.out.no K1.out) (HV.out.of x) HR.out).mono ?_; rintro e w2 ⟨⟨r, hr0, hr⟩, hc2⟩; have K2 := Aa (K1.out.trans hc2); have HS2 := Aa (F7 HSx.out K2.out); clear hc2; subst hr0; have HRR := Aa hr; clear hr))
  all_goals (
   go_wp2
   go_ret
   exact ⟨B6 _ ⟨fun h => .inr ⟨HXE.out, HRR.out.1 (by simpa using h)⟩, fun h => by simpa using HRR.out.2 (h.elim (fun h => absurd h.1 HXE.out) (fun h => h.2))⟩, HCA.out.trans K2.out⟩)}
theorem Aej (E : Dc cs ms) (h : Bl w0 w b cs ms xv mb vb nn vs ret l c) (hv : F6 vs) (hr : ret.size ≤ maxLen) {x y z t f : ByteArray} (hs : Bb x y z t f) {ga : Option Addr} {gs : List ByteArray} {gc : Nat} (hga : Ah w (.slice ga gs.length gc) gs) (hgz : gs.length ≤ 41 ∧ ∀ x ∈ gs, x.size ≤ 20000) (ba oa : Option Addr) (n l2 c2 : Int) (bn bc on oc : Nat) {k : Int} (n11 : ¬ k = 11) (n12 : ¬ k = 12) (n13 : ¬ k = 13) (n14 : ¬ k = 14) (n15 : ¬ k = 15) (n16 : ¬ k = 16) (n17 : ¬ k = 17) (n18 : ¬ k = 18) (n19 : ¬ k = 19) (n20 : ¬ k = 20) (n21 : ¬ k = 21) (n22 : ¬ k = 22) :
 Calls Tryz.prog 142 #[.pointer (some ⟨b, 0, none⟩), .agg #[.int .i64 k, .string x, .string y, .string z, .string t, .string f, .slice ga gs.length gc, .int .i64 n, .slice ba bn bc, .slice oa on oc, .int .i64 l2, .int .i64 c2]] w (D7 (False) w) := by
 obtain ⟨hx, hy, hz, ht, hf⟩ := hs
 have hadd : ¬ 9223372036854775807 < t.size + 2 := by omega
 have hta := Jg (t := t) (by unfold maxLen; omega)
 have hx' := Ak hx
 have hy' := Ak hy
 have hz' := Ak hz
 have ht' := Ak ht
 have hf' := Ak hf
 have hmf := @G3 Tryz.prog
 obtain ⟨wa, hwa, hba, hca⟩ := A2 w (.cells #[.int .i64 k, .string x, .string y, .string z, .string t, .string f, .slice ga gs.length gc, .int .i64 n, .slice ba bn bc, .slice oa on oc, .int .i64 l2, .int .i64 c2] 128)
 obtain ⟨B, hB⟩ := Ax w.heap.size
 rw [hB] at hba
 have H := Aa (h.no hca)
 have HCA := Aa hca
 have HBA := Aa hba
 have HV := Aa hv
 have HR := Aa hr
 have HE := Aa E
 have HG := Aa (Ah.no hga hca)
 have HGZ := Aa hgz
 have HT := Aa H.out.typ
 obtain ⟨p0, p1, p2, p3, p4, p5, p6, p7, p8, p9, p10, p11⟩ := Ap hba
 obtain ⟨k0, k1⟩ := Co H.out.blk
 have k3 := Ab H.out.blk 3
 clear h hv hr E hga hgz hba hca
 have e11 : (k == 11) = false := by simpa using n11
 have e12 : (k == 12) = false := by simpa using n12
 have e13 : (k == 13) = false := by simpa using n13
 have e14 : (k == 14) = false := by simpa using n14
 have e15 : (k == 15) = false := by simpa using n15
 have e16 : (k == 16) = false := by simpa using n16
 have e17 : (k == 17) = false := by simpa using n17
 have e18 : (k == 18) = false := by simpa using n18
 have e19 : (k == 19) = false := by simpa using n19
 have e20 : (k == 20) = false := by simpa using n20
 have e21 : (k == 21) = false := by simpa using n21
 have e22 : (k == 22) = false := by simpa using n22
 clear n11 n12 n13 n14 n15 n16 n17 n18 n19 n20 n21 n22
 go_in
 go_wp2
 go_ret
 exact ⟨.f (fun h => h), HCA.out⟩
end
end Go.Proofs.YtgjpgfedlgdjhaaGreatDoor
end
