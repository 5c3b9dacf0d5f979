/- Part 38. -/
import Derived.Test.YtgjpgfedlgdjhaaGreatDoorYbi
set_option linter.unusedVariables false
set_option linter.unusedSimpArgs false
set_option maxHeartbeats 64000000
set_option maxRecDepth 8192
section
namespace Go.Proofs.YtgjpgfedlgdjhaaGreatDoor
open Go.RowKit Go.W
theorem Od {cs : List Aj} {ms : List Ba} {vs : ByteArray → Option ByteArray} {t f x : ByteArray} {gs : List ByteArray} {A B : Cy → Prop} (h : ∀ m, A m ↔ B m) : Dw cs ms vs t f x gs A ↔ Dw cs ms vs t f x gs B := by
 have e : A = B := funext (fun m => propext (h m))
 rw [e]
section
variable {w0 w : World} {b : Nat} {cs : List Aj} {ms : List Ba} {xv : Value} {mb vb nn : Nat} {vs : ByteArray → Option ByteArray} {ret : ByteArray} {l c : Int}
theorem Aec (E : Dc cs ms) (h : Bl w0 w b cs ms xv mb vb nn vs ret l c) (hv : F6 vs) (hr : ret.size ≤ maxLen) {x y z t f : ByteArray} (hs : Bb x y z t f) {ga : Option Addr} {gs : List ByteArray} {gc : Nat} (hga : Ah w (.slice ga gs.length gc) gs) (hgz : gs.length ≤ 41 ∧ ∀ x ∈ gs, x.size ≤ 20000) (ba oa : Option Addr) (n l2 c2 : Int) (bn bc on oc : Nat) :
 Calls Tryz.prog 142 #[.pointer (some ⟨b, 0, none⟩), .agg #[.int .i64 13, .string x, .string y, .string z, .string t, .string f, .slice ga gs.length gc, .int .i64 n, .slice ba bn bc, .slice oa on oc, .int .i64 l2, .int .i64 c2]] w (D7 (Dv cs t ∧ Dw cs ms vs t f x gs (fun m => m.st = true)) w) := by
 obtain ⟨hx, hy, hz, ht, hf⟩ := hs
 have hadd : ¬ 9223372036854775807 < t.size + 2 := by omega
 have hta := Jg (t := t) (by unfold maxLen; omega)
 have hx' := Ak hx
 have hy' := Ak hy
 have hz' := Ak hz
 have ht' := Ak ht
 have hf' := Ak hf
 have hmf := @G3 Tryz.prog
 obtain ⟨wa, hwa, hba, hca⟩ := A2 w (.cells #[.int .i64 13, .string x, .string y, .string z, .string t, .string f, .slice ga gs.length gc, .int .i64 n, .slice ba bn bc, .slice oa on oc, .int .i64 l2, .int .i64 c2] 128)
 obtain ⟨B, hB⟩ := Ax w.heap.size
 rw [hB] at hba
 have H := Aa (h.no hca)
 have HCA := Aa hca
 have HBA := Aa hba
 have HV := Aa hv
 have HR := Aa hr
 have HE := Aa E
 have HG := Aa (Ah.no hga hca)
 have HGZ := Aa hgz
 have HT := Aa H.out.typ
 obtain ⟨p0, p1, p2, p3, p4, p5, p6, p7, p8, p9, p10, p11⟩ := Ap hba
 obtain ⟨k0, k1⟩ := Co H.out.blk
 have k3 := Ab H.out.blk 3
 clear h hv hr E hga hgz hba hca
 have HSZ := Aa (show Bb x y z t f from ⟨hx, hy, hz, ht, hf⟩)
 have hre0 := Iw H.out ht'
 have hca0 := Jo HE.out H.out HV.out Ys ht' ⟨13, x, y, z, t, f, n, l2, c2⟩ HSZ.out HG.out HGZ.out ba oa bn bc on oc
 by_cases hre : Dv cs t
 {have HRE := Aa hre
  clear hre
  go_in
  go_wp2_with fail
  try rw [hB]
  refine hre0.mono ?_
  rintro e w1 ⟨hr, hc1⟩
  obtain rfl := hr.yes HRE.out
  have HC1 := Aa hc1
  have hb1 := hc1.keep _ _ HBA.out (fun h => h)
  clear hwa p0 p1 p2 p3 p4 p5 p6 p7 p8 p9 p10 p11 k0 k1 k3
  obtain ⟨p0, p1, p2, p3, p4, p5, p6, p7, p8, p9, p10, p11⟩ := Ap hb1
  have hca1 := Jo HE.out (H.out.no HC1.out) HV.out Ys ht' ⟨13, x, y, z, t, f, n, l2, c2⟩ HSZ.out (Ah.no HG.out HC1.out) HGZ.out ba oa bn bc on oc
  clear hr hc1 hb1 hre0 hca0
  go_wp2_with fail
  refine hca1.mono ?_
  rintro e w2 ⟨⟨r, rfl, hr⟩, hc2⟩
  have HRR := Aa hr
  have HC2 := Aa (HC1.out.trans hc2)
  clear hr hc2 hca1
  go_wp2
  go_ret
  exact ⟨B6 _ ⟨fun h => ⟨HRE.out, (Od (cs := cs) (ms := ms) (vs := vs) (t := t) (f := f) (x := x) (gs := gs) (fun m => Iff.rfl)).1 (HRR.out.1 (by simpa using h))⟩, fun h => by simpa using HRR.out.2 ((Od (cs := cs) (ms := ms) (vs := vs) (t := t) (f := f) (x := x) (gs := gs) (fun m => Iff.rfl)).2 h.2)⟩, HCA.out.trans HC2.out⟩}
 {have HRE := Aa hre
  clear hre
  go_in
  go_wp2_with fail
  try rw [hB]
  refine hre0.mono ?_
  rintro e w1 ⟨hr, hc1⟩
  obtain rfl := hr.no HRE.out
  have HC1 := Aa hc1
  clear hr hc1 hre0 hca0
  go_wp2
  go_ret
  exact ⟨.f (fun h => HRE.out h.1), HCA.out.trans HC1.out⟩}
theorem Aas {p : Prop} (h : p := by
 have HC1 := Aa hc1
 clear hc1
 go_in
 go_wp2_with fail
 try rw [hB]
 refine hk.mono ?_
 rintro e w2 ⟨⟨r, rfl, hr⟩, hc2⟩
 have HRR := Aa hr
 have HC2 := Aa (HC1.out.trans hc2)
 clear hr hc2 hk
 go_wp2
 go_ret
 exact ⟨B6 _ ⟨fun h => by have h1 := HRR.out.1 (by simpa using h); simpa using h1, fun h => by simpa using HRR.out.2 (by simpa using h)⟩, HCA.out.trans HC2.out⟩
 ) : p := h
theorem Aed {p : Prop} (h : p := by
 obtain ⟨B, hB⟩ := Ax w.heap.size
 rw [hB] at hba
 have H := Aa (h.no hca)
 have HCA := Aa hca
 have HBA := Aa hba
 have HV := Aa hv
 have HR := Aa hr
 have HE := Aa E
 have HG := Aa (Ah.no hga hca)
 have HGZ := Aa hgz
 have HT := Aa H.out.typ
 obtain ⟨p0, p1, p2, p3, p4, p5, p6, p7, p8, p9, p10, p11⟩ := Ap hba
 obtain ⟨k0, k1⟩ := Co H.out.blk
 have k3 := Ab H.out.blk 3
 clear h hv hr E hga hgz hba hca
 have hc1 : Ch No wa (wa.alloc (.cells #[.string x] 9)) := (Ch.refl No wa).alloc _
 have hk := Kk (H.out.no hc1) (v := .slice (some ⟨wa.heap.size, 0, none⟩) 1 1) (ts := [x]) (Ah.one (w := wa) [x] (lb rfl)) (by simp [hx']) (lb rfl)
 exact Aas
 ) : p := h
theorem Aat (E : Dc cs ms) (h : Bl w0 w b cs ms xv mb vb nn vs ret l c) (hv : F6 vs) (hr : ret.size ≤ maxLen) {x y z t f : ByteArray} (hs : Bb x y z t f) {ga : Option Addr} {gs : List ByteArray} {gc : Nat} (hga : Ah w (.slice ga gs.length gc) gs) (hgz : gs.length ≤ 41 ∧ ∀ x ∈ gs, x.size ≤ 20000) (ba oa : Option Addr) (n l2 c2 : Int) (bn bc on oc : Nat) :
 Calls Tryz.prog 142 #[.pointer (some ⟨b, 0, none⟩), .agg #[.int .i64 14, .string x, .string y, .string z, .string t, .string f, .slice ga gs.length gc, .int .i64 n, .slice ba bn bc, .slice oa on oc, .int .i64 l2, .int .i64 c2]] w (D7 (Di vs x = Cl) w) := by
 obtain ⟨hx, hy, hz, ht, hf⟩ := hs
 have hadd : ¬ 9223372036854775807 < t.size + 2 := by omega
 have hta := Jg (t := t) (by unfold maxLen; omega)
 have hx' := Ak hx
 have hy' := Ak hy
 have hz' := Ak hz
 have ht' := Ak ht
 have hf' := Ak hf
 have hmf := @G3 Tryz.prog
 obtain ⟨wa, hwa, hba, hca⟩ := A2 w (.cells #[.int .i64 14, .string x, .string y, .string z, .string t, .string f, .slice ga gs.length gc, .int .i64 n, .slice ba bn bc, .slice oa on oc, .int .i64 l2, .int .i64 c2] 128)
 exact Aed
theorem Aau (E : Dc cs ms) (h : Bl w0 w b cs ms xv mb vb nn vs ret l c) (hv : F6 vs) (hr : ret.size ≤ maxLen) {x y z t f : ByteArray} (hs : Bb x y z t f) {ga : Option Addr} {gs : List ByteArray} {gc : Nat} (hga : Ah w (.slice ga gs.length gc) gs) (hgz : gs.length ≤ 41 ∧ ∀ x ∈ gs, x.size ≤ 20000) (ba oa : Option Addr) (n l2 c2 : Int) (bn bc on oc : Nat) :
 Calls Tryz.prog 142 #[.pointer (some ⟨b, 0, none⟩), .agg #[.int .i64 17, .string x, .string y, .string z, .string t, .string f, .slice ga gs.length gc, .int .i64 n, .slice ba bn bc, .slice oa on oc, .int .i64 l2, .int .i64 c2]] w (D7 (Di vs x = Cl) w) := by
 obtain ⟨hx, hy, hz, ht, hf⟩ := hs
 have hadd : ¬ 9223372036854775807 < t.size + 2 := by omega
 have hta := Jg (t := t) (by unfold maxLen; omega)
 have hx' := Ak hx
 have hy' := Ak hy
 have hz' := Ak hz
 have ht' := Ak ht
 have hf' := Ak hf
 have hmf := @G3 Tryz.prog
 obtain ⟨wa, hwa, hba, hca⟩ := A2 w (.cells #[.int .i64 17, .string x, .string y, .string z, .string t, .string f, .slice ga gs.length gc, .int .i64 n, .slice ba bn bc, .slice oa on oc, .int .i64 l2, .int .i64 c2] 128)
 exact Aed
theorem Aee {p : Prop} (h : p := by
 obtain ⟨B, hB⟩ := Ax w.heap.size
 rw [hB] at hba
 have H := Aa (h.no hca)
 have HCA := Aa hca
 have HBA := Aa hba
 have HV := Aa hv
 have HR := Aa hr
 have HE := Aa E
 have HG := Aa (Ah.no hga hca)
 have HGZ := Aa hgz
 have HT := Aa H.out.typ
 obtain ⟨p0, p1, p2, p3, p4, p5, p6, p7, p8, p9, p10, p11⟩ := Ap hba
 obtain ⟨k0, k1⟩ := Co H.out.blk
 have k3 := Ab H.out.blk 3
 clear h hv hr E hga hgz hba hca
 have hc1 : Ch No wa (wa.alloc (.cells #[.string x, .string y, .string z] 9)) := (Ch.refl No wa).alloc _
 have hk := Kk (H.out.no hc1) (v := .slice (some ⟨wa.heap.size, 0, none⟩) 3 3) (ts := [x, y, z]) (Ah.one (w := wa) [x, y, z] (lb rfl)) (by simp [hx', hy', hz']) (lb rfl)
 exact Aas
 ) : p := h
theorem Aav (E : Dc cs ms) (h : Bl w0 w b cs ms xv mb vb nn vs ret l c) (hv : F6 vs) (hr : ret.size ≤ maxLen) {x y z t f : ByteArray} (hs : Bb x y z t f) {ga : Option Addr} {gs : List ByteArray} {gc : Nat} (hga : Ah w (.slice ga gs.length gc) gs) (hgz : gs.length ≤ 41 ∧ ∀ x ∈ gs, x.size ≤ 20000) (ba oa : Option Addr) (n l2 c2 : Int) (bn bc on oc : Nat) :
 Calls Tryz.prog 142 #[.pointer (some ⟨b, 0, none⟩), .agg #[.int .i64 15, .string x, .string y, .string z, .string t, .string f, .slice ga gs.length gc, .int .i64 n, .slice ba bn bc, .slice oa on oc, .int .i64 l2, .int .i64 c2]] w (D7 (Di vs x = Cl ∧ Di vs y = Cl ∧ Di vs z = Cl) w) := by
 obtain ⟨hx, hy, hz, ht, hf⟩ := hs
 have hadd : ¬ 9223372036854775807 < t.size + 2 := by omega
 have hta := Jg (t := t) (by unfold maxLen; omega)
 have hx' := Ak hx
 have hy' := Ak hy
 have hz' := Ak hz
 have ht' := Ak ht
 have hf' := Ak hf
 have hmf := @G3 Tryz.prog
 obtain ⟨wa, hwa, hba, hca⟩ := A2 w (.cells #[.int .i64 15, .string x, .string y, .string z, .string t, .string f, .slice ga gs.length gc, .int .i64 n, .slice ba bn bc, .slice oa on oc, .int .i64 l2, .int .i64 c2] 128)
 exact Aee
theorem Aaw (E : Dc cs ms) (h : Bl w0 w b cs ms xv mb vb nn vs ret l c) (hv : F6 vs) (hr : ret.size ≤ maxLen) {x y z t f : ByteArray} (hs : Bb x y z t f) {ga : Option Addr} {gs : List ByteArray} {gc : Nat} (hga : Ah w (.slice ga gs.length gc) gs) (hgz : gs.length ≤ 41 ∧ ∀ x ∈ gs, x.size ≤ 20000) (ba oa : Option Addr) (n l2 c2 : Int) (bn bc on oc : Nat) :
 Calls Tryz.prog 142 #[.pointer (some ⟨b, 0, none⟩), .agg #[.int .i64 16, .string x, .string y, .string z, .string t, .string f, .slice ga gs.length gc, .int .i64 n, .slice ba bn bc, .slice oa on oc, .int .i64 l2, .int .i64 c2]] w (D7 (Di vs x = Cl ∧ Di vs y = Cl ∧ Di vs z = Cl) w) := by
 obtain ⟨hx, hy, hz, ht, hf⟩ := hs
 have hadd : ¬ 9223372036854775807 < t.size + 2 := by omega
 have hta := Jg (t := t) (by unfold maxLen; omega)
 have hx' := Ak hx
 have hy' := Ak hy
 have hz' := Ak hz
 have ht' := Ak ht
 have hf' := Ak hf
 have hmf := @G3 Tryz.prog
 obtain ⟨wa, hwa, hba, hca⟩ := A2 w (.cells #[.int .i64 16, .string x, .string y, .string z, .string t, .string f, .slice ga gs.length gc, .int .i64 n, .slice ba bn bc, .slice oa on oc, .int .i64 l2, .int .i64 c2] 128)
 exact Aee
theorem Aef {p : Prop} (h : p := by
 obtain ⟨B, hB⟩ := Ax w.heap.size
 rw [hB] at hba
 have H := Aa (h.no hca)
 have HCA := Aa hca
 have HBA := Aa hba
 have HV := Aa hv
 have HR := Aa hr
 have HE := Aa E
 have HG := Aa (Ah.no hga hca)
 have HGZ := Aa hgz
 have HT := Aa H.out.typ
 obtain ⟨p0, p1, p2, p3, p4, p5, p6, p7, p8, p9, p10, p11⟩ := Ap hba
 obtain ⟨k0, k1⟩ := Co H.out.blk
 have k3 := Ab H.out.blk 3
 clear h hv hr E hga hgz hba hca
 have hc1 : Ch No wa (wa.alloc (.cells #[.string y, .string z] 9)) := (Ch.refl No wa).alloc _
 have hk := Kk (H.out.no hc1) (v := .slice (some ⟨wa.heap.size, 0, none⟩) 2 2) (ts := [y, z]) (Ah.one (w := wa) [y, z] (lb rfl)) (by simp [hy', hz']) (lb rfl)
 exact Aas
 ) : p := h
theorem Aax (E : Dc cs ms) (h : Bl w0 w b cs ms xv mb vb nn vs ret l c) (hv : F6 vs) (hr : ret.size ≤ maxLen) {x y z t f : ByteArray} (hs : Bb x y z t f) {ga : Option Addr} {gs : List ByteArray} {gc : Nat} (hga : Ah w (.slice ga gs.length gc) gs) (hgz : gs.length ≤ 41 ∧ ∀ x ∈ gs, x.size ≤ 20000) (ba oa : Option Addr) (n l2 c2 : Int) (bn bc on oc : Nat) :
 Calls Tryz.prog 142 #[.pointer (some ⟨b, 0, none⟩), .agg #[.int .i64 20, .string x, .string y, .string z, .string t, .string f, .slice ga gs.length gc, .int .i64 n, .slice ba bn bc, .slice oa on oc, .int .i64 l2, .int .i64 c2]] w (D7 (Di vs y = Cl ∧ Di vs z = Cl) w) := by
 obtain ⟨hx, hy, hz, ht, hf⟩ := hs
 have hadd : ¬ 9223372036854775807 < t.size + 2 := by omega
 have hta := Jg (t := t) (by unfold maxLen; omega)
 have hx' := Ak hx
 have hy' := Ak hy
 have hz' := Ak hz
 have ht' := Ak ht
 have hf' := Ak hf
 have hmf := @G3 Tryz.prog
 obtain ⟨wa, hwa, hba, hca⟩ := A2 w (.cells #[.int .i64 20, .string x, .string y, .string z, .string t, .string f, .slice ga gs.length gc, .int .i64 n, .slice ba bn bc, .slice oa on oc, .int .i64 l2, .int .i64 c2] 128)
 exact Aef
theorem Aay (E : Dc cs ms) (h : Bl w0 w b cs ms xv mb vb nn vs ret l c) (hv : F6 vs) (hr : ret.size ≤ maxLen) {x y z t f : ByteArray} (hs : Bb x y z t f) {ga : Option Addr} {gs : List ByteArray} {gc : Nat} (hga : Ah w (.slice ga gs.length gc) gs) (hgz : gs.length ≤ 41 ∧ ∀ x ∈ gs, x.size ≤ 20000) (ba oa : Option Addr) (n l2 c2 : Int) (bn bc on oc : Nat) :
 Calls Tryz.prog 142 #[.pointer (some ⟨b, 0, none⟩), .agg #[.int .i64 21, .string x, .string y, .string z, .string t, .string f, .slice ga gs.length gc, .int .i64 n, .slice ba bn bc, .slice oa on oc, .int .i64 l2, .int .i64 c2]] w (D7 (Di vs y = Cl ∧ Di vs z = Cl) w) := by
 obtain ⟨hx, hy, hz, ht, hf⟩ := hs
 have hadd : ¬ 9223372036854775807 < t.size + 2 := by omega
 have hta := Jg (t := t) (by unfold maxLen; omega)
 have hx' := Ak hx
 have hy' := Ak hy
 have hz' := Ak hz
 have ht' := Ak ht
 have hf' := Ak hf
 have hmf := @G3 Tryz.prog
 obtain ⟨wa, hwa, hba, hca⟩ := A2 w (.cells #[.int .i64 21, .string x, .string y, .string z, .string t, .string f, .slice ga gs.length gc, .int .i64 n, .slice ba bn bc, .slice oa on oc, .int .i64 l2, .int .i64 c2] 128)
 exact Aef
theorem Aeg (E : Dc cs ms) (h : Bl w0 w b cs ms xv mb vb nn vs ret l c) (hv : F6 vs) (hr : ret.size ≤ maxLen) {x y z t f : ByteArray} (hs : Bb x y z t f) {ga : Option Addr} {gs : List ByteArray} {gc : Nat} (hga : Ah w (.slice ga gs.length gc) gs) (hgz : gs.length ≤ 41 ∧ ∀ x ∈ gs, x.size ≤ 20000) (ba oa : Option Addr) (n l2 c2 : Int) (bn bc on oc : Nat) :
 Calls Tryz.prog 142 #[.pointer (some ⟨b, 0, none⟩), .agg #[.int .i64 18, .string x, .string y, .string z, .string t, .string f, .slice ga gs.length gc, .int .i64 n, .slice ba bn bc, .slice oa on oc, .int .i64 l2, .int .i64 c2]] w (D7 (Dv cs (Di vs x)) w) := by
 obtain ⟨hx, hy, hz, ht, hf⟩ := hs
 have hadd : ¬ 9223372036854775807 < t.size + 2 := by omega
 have hta := Jg (t := t) (by unfold maxLen; omega)
 have hx' := Ak hx
 have hy' := Ak hy
 have hz' := Ak hz
 have ht' := Ak ht
 have hf' := Ak hf
 have hmf := @G3 Tryz.prog
 obtain ⟨wa, hwa, hba, hca⟩ := A2 w (.cells #[.int .i64 18, .string x, .string y, .string z, .string t, .string f, .slice ga gs.length gc, .int .i64 n, .slice ba bn bc, .slice oa on oc, .int .i64 l2, .int .i64 c2] 128)
 obtain ⟨B, hB⟩ := Ax w.heap.size
 rw [hB] at hba
 have H := Aa (h.no hca)
 have HCA := Aa hca
 have HBA := Aa hba
 have HV := Aa hv
 have HR := Aa hr
 have HE := Aa E
 have HG := Aa (Ah.no hga hca)
 have HGZ := Aa hgz
 have HT := Aa H.out.typ
 obtain ⟨p0, p1, p2, p3, p4, p5, p6, p7, p8, p9, p10, p11⟩ := Ap hba
 obtain ⟨k0, k1⟩ := Co H.out.blk
 have k3 := Ab H.out.blk 3
 clear h hv hr E hga hgz hba hca
 have hk := Hc H.out hx'
 go_in
 go_wp2_with fail
 try rw [hB]
 refine hk.mono ?_
 rintro e w1 ⟨rfl, hc1⟩
 have HC1 := Aa hc1
 have hk2 := Iw (H.out.no HC1.out) (HV.out.of x)
 clear hwa p0 p1 p2 p3 p4 p5 p6 p7 p8 p9 p10 p11 k0 k1 k3
 clear hc1 hk
 go_wp2_with fail
 refine hk2.mono ?_
 rintro e w2 ⟨⟨r, rfl, hr⟩, hc2⟩
 have HRR := Aa hr
 have HC2 := Aa (HC1.out.trans hc2)
 clear hr hc2 hk2
 go_wp2
 go_ret
 exact ⟨B6 _ ⟨fun h => HRR.out.1 (by simpa using h), fun h => by simpa using HRR.out.2 h⟩, HCA.out.trans HC2.out⟩
theorem Aeh (E : Dc cs ms) (h : Bl w0 w b cs ms xv mb vb nn vs ret l c) (hv : F6 vs) (hr : ret.size ≤ maxLen) {x y z t f : ByteArray} (hs : Bb x y z t f) {ga : Option Addr} {gs : List ByteArray} {gc : Nat} (hga : Ah w (.slice ga gs.length gc) gs) (hgz : gs.length ≤ 41 ∧ ∀ x ∈ gs, x.size ≤ 20000) (ba oa : Option Addr) (n l2 c2 : Int) (bn bc on oc : Nat) :
 Calls Tryz.prog 142 #[.pointer (some ⟨b, 0, none⟩), .agg #[.int .i64 19, .string x, .string y, .string z, .string t, .string f, .slice ga gs.length gc, .int .i64 n, .slice ba bn bc, .slice oa on oc, .int .i64 l2, .int .i64 c2]] w (D7 (Dv cs t ∧ Cx cs vs t x) w) := by
 obtain ⟨hx, hy, hz, ht, hf⟩ := hs
 have hadd : ¬ 9223372036854775807 < t.size + 2 := by omega
 have hta := Jg (t := t) (by unfold maxLen; omega)
 have hx' := Ak hx
 have hy' := Ak hy
 have hz' := Ak hz
 have ht' := Ak ht
 have hf' := Ak hf
 have hmf := @G3 Tryz.prog
 obtain ⟨wa, hwa, hba, hca⟩ := A2 w (.cells #[.int .i64 19, .string x, .string y, .string z, .string t, .string f, .slice ga gs.length gc, .int .i64 n, .slice ba bn bc, .slice oa on oc, .int .i64 l2, .int .i64 c2] 128)
 obtain ⟨B, hB⟩ := Ax w.heap.size
 rw [hB] at hba
 have H := Aa (h.no hca)
 have HCA := Aa hca
 have HBA := Aa hba
 have HV := Aa hv
 have HR := Aa hr
 have HE := Aa E
 have HG := Aa (Ah.no hga hca)
 have HGZ := Aa hgz
 have HT := Aa H.out.typ
 obtain ⟨p0, p1, p2, p3, p4, p5, p6, p7, p8, p9, p10, p11⟩ := Ap hba
 obtain ⟨k0, k1⟩ := Co H.out.blk
 have k3 := Ab H.out.blk 3
 clear h hv hr E hga hgz hba hca
 have hre0 := Iw H.out ht'
 by_cases hre : Dv cs t
 {have HRE := Aa hre
  clear hre
  go_in
  go_wp2_with fail
  try rw [hB]
  refine hre0.mono ?_
  rintro e w1 ⟨hr, hc1⟩
  obtain rfl := hr.yes HRE.out
  have HC1 := Aa hc1
  have hb1 := hc1.keep _ _ HBA.out (fun h => h)
  clear hwa p0 p1 p2 p3 p4 p5 p6 p7 p8 p9 p10 p11 k0 k1 k3
  obtain ⟨p0, p1, p2, p3, p4, p5, p6, p7, p8, p9, p10, p11⟩ := Ap hb1
  have hgo := Gn (H.out.no HC1.out) HV.out ht' hx'
  clear hr hc1 hb1 hre0
  go_wp2_with fail
  refine hgo.mono ?_
  rintro e w2 ⟨⟨r, rfl, hr⟩, hc2⟩
  have HRR := Aa hr
  have HC2 := Aa (HC1.out.trans hc2)
  clear hr hc2 hgo
  go_wp2
  go_ret
  exact ⟨B6 _ ⟨fun h => ⟨HRE.out, HRR.out.1 (by simpa using h)⟩, fun h => by simpa using HRR.out.2 h.2⟩, HCA.out.trans HC2.out⟩}
 {have HRE := Aa hre
  clear hre
  go_in
  go_wp2_with fail
  try rw [hB]
  refine hre0.mono ?_
  rintro e w1 ⟨hr, hc1⟩
  obtain rfl := hr.no HRE.out
  have HC1 := Aa hc1
  clear hr hc1 hre0
  go_wp2
  go_ret
  exact ⟨.f (fun h => HRE.out h.1), HCA.out.trans HC1.out⟩}
end
end Go.Proofs.YtgjpgfedlgdjhaaGreatDoor
end
