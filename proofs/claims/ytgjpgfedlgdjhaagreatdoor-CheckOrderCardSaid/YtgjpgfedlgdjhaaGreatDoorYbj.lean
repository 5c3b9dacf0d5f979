/- Part 36. -/
import Derived.Test.YtgjpgfedlgdjhaaGreatDoorYbi
set_option linter.unusedVariables false
set_option linter.unusedSimpArgs false
set_option maxHeartbeats 64000000
set_option maxRecDepth 8192
section
namespace Go.Proofs.YtgjpgfedlgdjhaaGreatDoor
open Go.RowKit Go.W
theorem Ob {cs : List Aj} {ms : List Ba} {vs : ByteArray → Option ByteArray} {t f x : ByteArray} {gs : List ByteArray} {A B : Cy → Prop} (h : ∀ m, A m ↔ B m) : Dw cs ms vs t f x gs A ↔ Dw cs ms vs t f x gs B := by
 have e : A = B := funext (fun m => propext (h m))
 rw [e]
section
variable {w0 w : World} {b : Nat} {cs : List Aj} {ms : List Ba} {xv : Value} {mb vb nn : Nat} {vs : ByteArray → Option ByteArray} {ret : ByteArray} {l c : Int}
theorem Aea (E : Dc cs ms) (h : Bl w0 w b cs ms xv mb vb nn vs ret l c) (hv : F6 vs) (hr : ret.size ≤ maxLen) {x y z t f : ByteArray} (hs : Bb x y z t f) {ga : Option Addr} {gs : List ByteArray} {gc : Nat} (hga : Ah w (.slice ga gs.length gc) gs) (hgz : gs.length ≤ 41 ∧ ∀ x ∈ gs, x.size ≤ 20000) (ba oa : Option Addr) (n l2 c2 : Int) (bn bc on oc : Nat) :
 Calls Tryz.prog 142 #[.pointer (some ⟨b, 0, none⟩), .agg #[.int .i64 11, .string x, .string y, .string z, .string t, .string f, .slice ga gs.length gc, .int .i64 n, .slice ba bn bc, .slice oa on oc, .int .i64 l2, .int .i64 c2]] w (D7 (Dw cs ms vs (Di vs y) f x gs (fun m => m.st = false)) w) := by
 obtain ⟨hx, hy, hz, ht, hf⟩ := hs
 have hadd : ¬ 9223372036854775807 < t.size + 2 := by omega
 have hta := Jg (t := t) (by unfold maxLen; omega)
 have hx' := Ak hx
 have hy' := Ak hy
 have hz' := Ak hz
 have ht' := Ak ht
 have hf' := Ak hf
 have hmf := @G3 Tryz.prog
 obtain ⟨wa, hwa, hba, hca⟩ := A2 w (.cells #[.int .i64 11, .string x, .string y, .string z, .string t, .string f, .slice ga gs.length gc, .int .i64 n, .slice ba bn bc, .slice oa on oc, .int .i64 l2, .int .i64 c2] 128)
 obtain ⟨B, hB⟩ := Ax w.heap.size
 rw [hB] at hba
 have H := Aa (h.no hca)
 have HCA := Aa hca
 have HBA := Aa hba
 have HV := Aa hv
 have HR := Aa hr
 have HE := Aa E
 have HG := Aa (Ah.no hga hca)
 have HGZ := Aa hgz
 have HT := Aa H.out.typ
 obtain ⟨p0, p1, p2, p3, p4, p5, p6, p7, p8, p9, p10, p11⟩ := Ap hba
 obtain ⟨k0, k1⟩ := Co H.out.blk
 have k3 := Ab H.out.blk 3
 clear h hv hr E hga hgz hba hca
 have HSZ := Aa (show Bb x y z t f from ⟨hx, hy, hz, ht, hf⟩)
 have HSx := Aa (show wa.cell? ⟨b, 0, none⟩ = some xv ∧ wa.cell? ⟨b, 1, none⟩ = some (.pointer (some ⟨mb, 0, none⟩)) ∧ wa.cell? ⟨b, 3, none⟩ = some (.string ret) ∧ wa.cell? ⟨B, 0, none⟩ = some (.int .i64 11) ∧ wa.cell? ⟨B, 1, none⟩ = some (.string x) ∧ wa.cell? ⟨B, 2, none⟩ = some (.string y) ∧ wa.cell? ⟨B, 3, none⟩ = some (.string z) ∧ wa.cell? ⟨B, 4, none⟩ = some (.string t) ∧ wa.cell? ⟨B, 5, none⟩ = some (.string f) ∧ wa.cell? ⟨B, 6, none⟩ = some (.slice ga gs.length gc) ∧ wa.cell? ⟨B, 7, none⟩ = some (.int .i64 n) ∧ wa.cell? ⟨B, 8, none⟩ = some (.slice ba bn bc) ∧ wa.cell? ⟨B, 9, none⟩ = some (.slice oa on oc) ∧ wa.cell? ⟨B, 10, none⟩ = some (.int .i64 l2) ∧ wa.cell? ⟨B, 11, none⟩ = some (.int .i64 c2) from ⟨k0, k1, k3, p0, p1, p2, p3, p4, p5, p6, p7, p8, p9, p10, p11⟩)
 have ho1 := Hc (H.out.no ((Ch.refl No wa).drew)) hy'
 go_in
 go_upto_region 3 with fail
 try rw [hB]
 clear hwa p0 p1 p2 p3 p4 p5 p6 p7 p8 p9 p10 p11 k0 k1 k3
 have HSd := Aa (show wa.drew.cell? ⟨b, 0, none⟩ = some xv ∧ wa.drew.cell? ⟨b, 1, none⟩ = some (.pointer (some ⟨mb, 0, none⟩)) ∧ wa.drew.cell? ⟨b, 3, none⟩ = some (.string ret) ∧ wa.drew.cell? ⟨B, 0, none⟩ = some (.int .i64 11) ∧ wa.drew.cell? ⟨B, 1, none⟩ = some (.string x) ∧ wa.drew.cell? ⟨B, 2, none⟩ = some (.string y) ∧ wa.drew.cell? ⟨B, 3, none⟩ = some (.string z) ∧ wa.drew.cell? ⟨B, 4, none⟩ = some (.string t) ∧ wa.drew.cell? ⟨B, 5, none⟩ = some (.string f) ∧ wa.drew.cell? ⟨B, 6, none⟩ = some (.slice ga gs.length gc) ∧ wa.drew.cell? ⟨B, 7, none⟩ = some (.int .i64 n) ∧ wa.drew.cell? ⟨B, 8, none⟩ = some (.slice ba bn bc) ∧ wa.drew.cell? ⟨B, 9, none⟩ = some (.slice oa on oc) ∧ wa.drew.cell? ⟨B, 10, none⟩ = some (.int .i64 l2) ∧ wa.drew.cell? ⟨B, 11, none⟩ = some (.int .i64 c2) from HSx.out)
 go_region_held3 (fun w' => w'.cell? ⟨b, 0, none⟩ = some xv ∧ w'.cell? ⟨b, 1, none⟩ = some (.pointer (some ⟨mb, 0, none⟩)) ∧ w'.cell? ⟨b, 3, none⟩ = some (.string ret) ∧ w'.cell? ⟨B, 0, none⟩ = some (.int .i64 11) ∧ w'.cell? ⟨B, 1, none⟩ = some (.string x) ∧ w'.cell? ⟨B, 2, none⟩ = some (.string y) ∧ w'.cell? ⟨B, 3, none⟩ = some (.string z) ∧ w'.cell? ⟨B, 4, none⟩ = some (.string t) ∧ w'.cell? ⟨B, 5, none⟩ = some (.string f) ∧ w'.cell? ⟨B, 6, none⟩ = some (.slice ga gs.length gc) ∧ w'.cell? ⟨B, 7, none⟩ = some (.int .i64 n) ∧ w'.cell? ⟨B, 8, none⟩ = some (.slice ba bn bc) ∧ w'.cell? ⟨B, 9, none⟩ = some (.slice oa on oc) ∧ w'.cell? ⟨B, 10, none⟩ = some (.int .i64 l2) ∧ w'.cell? ⟨B, 11, none⟩ = some (.int .i64 c2)) (first | with_reducible exact HSx.out | with_reducible exact HSd.out | with_reducible exact HS1.out | with_reducible exact HS2.out | go_keep) (first | (go_at_call 136; refine (ho1).mono ?_; rintro e w1 ⟨rfl, hc1⟩; have K1 := Aa (((Ch.refl No wa).drew).trans hc1); have HS1 := Aa (Kr HSx.out K1.out); clear hc1; clear ho1) | (go_at_call 162; refine (Jo HE.out (H.out.no K1.out) HV.out Adx (HV.out.of y) ⟨11, x, y, z, t, f, n, l2, c2⟩ HSZ.out (Ah.no HG.out K1.out) HGZ.out ba oa bn bc on oc).mono ?_; rintro e w2 ⟨⟨r, hr0, hr⟩, hc2⟩; have K2 := Aa (K1.out.trans hc2); have HS2 := Aa (Kr HSx.out K2.out); clear hc2; subst hr0; have HRR := Aa hr; clear hr))
 all_goals (
  go_wp2
  go_ret
  exact ⟨B6 _ ⟨fun h => (Ob (cs := cs) (ms := ms) (vs := vs) (t := Di vs y) (f := f) (x := x) (gs := gs) (fun m => by simp)).1 (HRR.out.1 (by simpa using h)), fun h => by simpa using HRR.out.2 ((Ob (cs := cs) (ms := ms) (vs := vs) (t := Di vs y) (f := f) (x := x) (gs := gs) (fun m => by simp)).2 h)⟩, HCA.out.trans K2.out⟩)
end
end Go.Proofs.YtgjpgfedlgdjhaaGreatDoor
end
