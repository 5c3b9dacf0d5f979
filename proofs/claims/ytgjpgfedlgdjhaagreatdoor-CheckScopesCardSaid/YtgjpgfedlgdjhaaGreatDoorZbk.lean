/- What the claim uses: part 37. -/
import Derived.Test.YtgjpgfedlgdjhaaGreatDoorZbj
section
set_option linter.unusedVariables false
set_option linter.unusedSimpArgs false
set_option maxRecDepth 8192
namespace Go.Proofs.YtgjpgfedlgdjhaaGreatDoor
open Go.RowKit Go.W
structure MbsAt (w : World) (v : Value) (l : List MbR) : Prop where
 ex : ∃ css, RowAt w v 6 css ∧ css.length = l.length ∧ ∀ (k : Nat) (x : MbR), l[k]? = some x → ∃ sa sn sc, css[k]? = some [.int .i64 x.cls, .string x.nm, .string x.ty, .slice sa sn sc, .bool x.st, .bool x.ba] ∧ StrsAt w (.slice sa sn sc) x.ps
theorem MbsAt.no {w w' : World} {v : Value} {l : List MbR} (h : MbsAt w v l) (hc : Ch No w w') : MbsAt w' v l := by
 obtain ⟨css, h1, h2, h3⟩ := h.ex
 exact ⟨css, h1.no hc, h2, fun k x hx => by
   obtain ⟨sa, sn, sc, h4, h5⟩ := h3 k x hx
   exact ⟨sa, sn, sc, h4, h5.no hc⟩⟩
theorem MbsAt.shape {w : World} {ao : Option Addr} {n cap : Nat} {l : List MbR} (h : MbsAt w (.slice ao n cap) l) : n = l.length ∧ l.length ≤ cap ∧ cap ≤ maxLen := by
 obtain ⟨css, ⟨ao', cap', e, h1, h2, _⟩, hl, _⟩ := h.ex
 cases e
 rw [hl] at h1
 exact ⟨hl, h1, h2⟩
theorem MbsAt.cell {w : World} {ao : Option Addr} {n cap : Nat} {l : List MbR} (h : MbsAt w (.slice ao n cap) l) {k : Nat} {x : MbR} (hk : l[k]? = some x) :
   ∃ b off sa sn sc, ao = some ⟨b, off, none⟩ ∧ w.cell? ⟨b, off + k * 6, none⟩ = some (.int .i64 x.cls) ∧ w.cell? ⟨b, off + k * 6 + 1, none⟩ = some (.string x.nm) ∧ w.cell? ⟨b, off + k * 6 + 2, none⟩ = some (.string x.ty) ∧ w.cell? ⟨b, off + k * 6 + 3, none⟩ = some (.slice sa sn sc) ∧ w.cell? ⟨b, off + k * 6 + 4, none⟩ = some (.bool x.st) ∧ w.cell? ⟨b, off + k * 6 + 5, none⟩ = some (.bool x.ba) ∧ StrsAt w (.slice sa sn sc) x.ps := by
 obtain ⟨css, ⟨ao', cap', e, h1, h2, h3, h4⟩, hl, h5⟩ := h.ex
 obtain ⟨sa, sn, sc, h6, h7⟩ := h5 k x hk
 cases e
 obtain ⟨b, off, rfl, h8⟩ := h4 (by have := (List.getElem?_eq_some_iff.1 h6).1; omega)
 have h9 := fun j hj => h8 k _ h6 j hj
 exact ⟨b, off, sa, sn, sc, rfl, h9 0 (by omega), h9 1 (by omega), h9 2 (by omega), h9 3 (by omega), h9 4 (by omega), h9 5 (by omega), h7⟩
theorem StrsAt.shape {w : World} {ao : Option Addr} {n cap : Nat} {l : List ByteArray} (h : StrsAt w (.slice ao n cap) l) : n = l.length ∧ l.length ≤ cap ∧ cap ≤ maxLen := by
 obtain ⟨ao', cap', e, h1, h2, _⟩ := h
 cases e
 exact ⟨rfl, h1, h2⟩
def IdxOut (Q : Prop) (e : Ending) : Prop := ∃ i : Int, e = .returned (.int .i64 i) ∧ (0 ≤ i ↔ Q)
set_option maxHeartbeats 4000000 in
theorem idxV {w : World} {va : Option Addr} {vn vc : Nat} {l : List Vr} {bx : Nat} (hv : VarsAt w (.slice va vn vc) l) (P : Vr → Prop) (hclo : ∀ (wz : World) (x : Vr), Ch No w wz → x ∈ l → Calls Tryz.prog 115 #[.agg #[.string x.ty, .string x.nm, .int .i64 x.line, .int .i64 x.col], .pointer (some ⟨bx, 0, none⟩)] wz fun e w' => BoolIs (P x) e ∧ Ch No wz w') :
   Calls Tryz.prog 151 #[.slice va vn vc, .func (.func 115) #[] #[.pointer (some ⟨bx, 0, none⟩)]] w fun e w' => IdxOut (∃ x ∈ l, P x) e ∧ Ch No w w' := by
 have HV := hid hv
 obtain ⟨hvn, hvc, hvm⟩ := hv.shape
 unfold maxLen at hvm
 have hvx : vn ≤ vc := by have h1 : vn = l.length := hvn; have h2 : l.length ≤ vc := hvc; omega
 have HVN := hid (show vn = l.length from hvn)
 clear hv hvn hvc
 go_enter Tryz.func151, Tryz.ntmps151
 go_wp2_with fail
 go_loopg [8, 5] vn (fun g s8 s5 wr => ∃ k : Nat, k ≤ vn ∧ vn - k ≤ g ∧ s8 = .int .i64 k ∧ Hid (∀ x ∈ l.take k, ¬ P x) ∧ Ch No w wr)
 case atStart => exact ⟨0, Nat.zero_le _, by omega, rfl, hid (by simp), Ch.refl _ _⟩
 case round =>
   obtain ⟨k, hk, hg, rfl, HN, hcr⟩ := hrel
   have HCR := hid hcr
   clear hcr
   cases hd : decide (k < vn) with
   | false =>
     have hkl : ¬ k < vn := by simpa using hd
     go_wp2_with fail
     go_ret
     have hn := HN.out
     rw [List.take_of_length_le (by have := HVN.out; omega)] at hn
     refine ⟨⟨-1, rfl, ?_⟩, HCR.out⟩
     constructor
     · intro h; omega
     · rintro ⟨x, hx, hp⟩; exact absurd hp (hn x hx)
   | true =>
     have hkl : k < vn := by simpa using hd
     obtain ⟨x, hx⟩ : ∃ x, l[k]? = some x := ⟨_, List.getElem?_eq_getElem (by have := HVN.out; omega)⟩
     obtain ⟨b, off, hva, q0, q1, q2, q3⟩ := (HV.out.no HCR.out).cell hx
     have hcl := hclo wr x HCR.out (List.mem_of_getElem? hx)
     subst hva
     have HX := hid hx
     clear hx hclo
     go_wp2_with fail
     refine hcl.mono ?_
     rintro e w5 ⟨⟨r, rfl, hr⟩, hc5⟩
     have HC5 := hid (HCR.out.trans hc5)
     have HR := hid hr
     clear hcl hc5 hr
     cases r with
     | true =>
       go_wp2_with fail
       go_ret
       exact ⟨⟨(k : Int), rfl, fun _ => ⟨x, List.mem_of_getElem? HX.out, HR.out.1 (by first | rfl | trivial)⟩, fun _ => by omega⟩, HC5.out⟩
     | false =>
       go_wp2_with fail
       go_roundg (vn - k - 1)
       case rel =>
         refine ⟨k + 1, by omega, by omega, by go_num, hid fun y hy => ?_, HC5.out⟩
         rw [List.take_add_one, HX.out] at hy
         rcases List.mem_append.1 hy with hy | hy
         · exact HN.out y hy
         · simp at hy; subst hy
           exact fun hp => by have h0 := HR.out.2 hp; first | cases h0 | exact h0
       case measure => omega
set_option maxHeartbeats 4000000 in
theorem idxMt {w : World} {va : Option Addr} {vn vc : Nat} {l : List Mt} {bx : Nat} (hv : MtsAt w (.slice va vn vc) l) (P : Mt → Prop) (hclo : ∀ (wz : World) (x : Mt), Ch No w wz → x ∈ l → Calls Tryz.prog 85 #[.agg #[.string x.ret, .string x.nm, .bool x.st, .bool x.ba, .slice x.pa x.ps.length x.pc, .slice x.s5.1 x.s5.2.1 x.s5.2.2, .slice x.s6.1 x.s6.2.1 x.s6.2.2, .int .i64 x.line, .int .i64 x.col], .pointer (some ⟨bx, 0, none⟩)] wz fun e w' => BoolIs (P x) e ∧ Ch No wz w') :
   Calls Tryz.prog 118 #[.slice va vn vc, .func (.func 85) #[] #[.pointer (some ⟨bx, 0, none⟩)]] w fun e w' => IdxOut (∃ x ∈ l, P x) e ∧ Ch No w w' := by
 have HV := hid hv
 obtain ⟨hvn, hvc, hvm⟩ := hv.shape
 unfold maxLen at hvm
 have hvx : vn ≤ vc := by have h1 : vn = l.length := hvn; have h2 : l.length ≤ vc := hvc; omega
 have HVN := hid (show vn = l.length from hvn)
 clear hv hvn hvc
 go_enter Tryz.func118, Tryz.ntmps118
 go_wp2_with fail
 go_loopg [8, 5] vn (fun g s8 s5 wr => ∃ k : Nat, k ≤ vn ∧ vn - k ≤ g ∧ s8 = .int .i64 k ∧ Hid (∀ x ∈ l.take k, ¬ P x) ∧ Ch No w wr)
 case atStart => exact ⟨0, Nat.zero_le _, by omega, rfl, hid (by simp), Ch.refl _ _⟩
 case round =>
   obtain ⟨k, hk, hg, rfl, HN, hcr⟩ := hrel
   have HCR := hid hcr
   clear hcr
   cases hd : decide (k < vn) with
   | false =>
     have hkl : ¬ k < vn := by simpa using hd
     go_wp2_with fail
     go_ret
     have hn := HN.out
     rw [List.take_of_length_le (by have := HVN.out; omega)] at hn
     refine ⟨⟨-1, rfl, ?_⟩, HCR.out⟩
     constructor
     · intro h; omega
     · rintro ⟨x, hx, hp⟩; exact absurd hp (hn x hx)
   | true =>
     have hkl : k < vn := by simpa using hd
     obtain ⟨x, hx⟩ : ∃ x, l[k]? = some x := ⟨_, List.getElem?_eq_getElem (by have := HVN.out; omega)⟩
     obtain ⟨b, off, hva, q0, q1, q2, q3, q4, q5, q6, q7, q8⟩ := (HV.out.no HCR.out).cell hx
     have hcl := hclo wr x HCR.out (List.mem_of_getElem? hx)
     subst hva
     have HX := hid hx
     clear hx hclo
     go_wp2_with fail
     refine hcl.mono ?_
     rintro e w5 ⟨⟨r, rfl, hr⟩, hc5⟩
     have HC5 := hid (HCR.out.trans hc5)
     have HR := hid hr
     clear hcl hc5 hr
     cases r with
     | true =>
       go_wp2_with fail
       go_ret
       exact ⟨⟨(k : Int), rfl, fun _ => ⟨x, List.mem_of_getElem? HX.out, HR.out.1 (by first | rfl | trivial)⟩, fun _ => by omega⟩, HC5.out⟩
     | false =>
       go_wp2_with fail
       go_roundg (vn - k - 1)
       case rel =>
         refine ⟨k + 1, by omega, by omega, by go_num, hid fun y hy => ?_, HC5.out⟩
         rw [List.take_add_one, HX.out] at hy
         rcases List.mem_append.1 hy with hy | hy
         · exact HN.out y hy
         · simp at hy; subst hy
           exact fun hp => by have h0 := HR.out.2 hp; first | cases h0 | exact h0
       case measure => omega
set_option maxHeartbeats 4000000 in
theorem idxS {w : World} {va : Option Addr} {vn vc : Nat} {l : List ByteArray} {bx : Nat} (hv : StrsAt w (.slice va vn vc) l) (P : ByteArray → Prop) (hclo : ∀ (wz : World) (x : ByteArray), Ch No w wz → x ∈ l → Calls Tryz.prog 120 #[.string x, .pointer (some ⟨bx, 0, none⟩)] wz fun e w' => BoolIs (P x) e ∧ Ch No wz w') :
   Calls Tryz.prog 152 #[.slice va vn vc, .func (.func 120) #[] #[.pointer (some ⟨bx, 0, none⟩)]] w fun e w' => IdxOut (∃ x ∈ l, P x) e ∧ Ch No w w' := by
 have HV := hid hv
 obtain ⟨hvn, hvc, hvm⟩ := hv.shape
 unfold maxLen at hvm
 have hvx : vn ≤ vc := by have h1 : vn = l.length := hvn; have h2 : l.length ≤ vc := hvc; omega
 have HVN := hid (show vn = l.length from hvn)
 clear hv hvn hvc
 go_enter Tryz.func152, Tryz.ntmps152
 go_wp2_with fail
 go_loopg [8, 5] vn (fun g s8 s5 wr => ∃ k : Nat, k ≤ vn ∧ vn - k ≤ g ∧ s8 = .int .i64 k ∧ Hid (∀ x ∈ l.take k, ¬ P x) ∧ Ch No w wr)
 case atStart => exact ⟨0, Nat.zero_le _, by omega, rfl, hid (by simp), Ch.refl _ _⟩
 case round =>
   obtain ⟨k, hk, hg, rfl, HN, hcr⟩ := hrel
   have HCR := hid hcr
   clear hcr
   cases hd : decide (k < vn) with
   | false =>
     have hkl : ¬ k < vn := by simpa using hd
     go_wp2_with fail
     go_ret
     have hn := HN.out
     rw [List.take_of_length_le (by have := HVN.out; omega)] at hn
     refine ⟨⟨-1, rfl, ?_⟩, HCR.out⟩
     constructor
     · intro h; omega
     · rintro ⟨x, hx, hp⟩; exact absurd hp (hn x hx)
   | true =>
     have hkl : k < vn := by simpa using hd
     obtain ⟨x, hx⟩ : ∃ x, l[k]? = some x := ⟨_, List.getElem?_eq_getElem (by have := HVN.out; omega)⟩
     obtain ⟨-, b, off, hva, q0⟩ := (HV.out.no HCR.out).cell hx
     have hcl := hclo wr x HCR.out (List.mem_of_getElem? hx)
     subst hva
     have HX := hid hx
     clear hx hclo
     go_wp2_with fail
     refine hcl.mono ?_
     rintro e w5 ⟨⟨r, rfl, hr⟩, hc5⟩
     have HC5 := hid (HCR.out.trans hc5)
     have HR := hid hr
     clear hcl hc5 hr
     cases r with
     | true =>
       go_wp2_with fail
       go_ret
       exact ⟨⟨(k : Int), rfl, fun _ => ⟨x, List.mem_of_getElem? HX.out, HR.out.1 (by first | rfl | trivial)⟩, fun _ => by omega⟩, HC5.out⟩
     | false =>
       go_wp2_with fail
       go_roundg (vn - k - 1)
       case rel =>
         refine ⟨k + 1, by omega, by omega, by go_num, hid fun y hy => ?_, HC5.out⟩
         rw [List.take_add_one, HX.out] at hy
         rcases List.mem_append.1 hy with hy | hy
         · exact HN.out y hy
         · simp at hy; subst hy
           exact fun hp => by have h0 := HR.out.2 hp; first | cases h0 | exact h0
       case measure => omega
set_option maxHeartbeats 4000000 in
theorem idxMb {w : World} {va : Option Addr} {vn vc : Nat} {l : List MbR} {bx : Nat} (hv : MbsAt w (.slice va vn vc) l) (P : MbR → Prop) (hclo : ∀ (wz : World) (x : MbR) (sa : Option Addr) (sn sc : Nat), Ch No w wz → x ∈ l → StrsAt wz (.slice sa sn sc) x.ps → Calls Tryz.prog 123 #[.agg #[.int .i64 x.cls, .string x.nm, .string x.ty, .slice sa sn sc, .bool x.st, .bool x.ba], .pointer (some ⟨bx, 0, none⟩)] wz fun e w' => BoolIs (P x) e ∧ Ch No wz w') :
   Calls Tryz.prog 153 #[.slice va vn vc, .func (.func 123) #[] #[.pointer (some ⟨bx, 0, none⟩)]] w fun e w' => IdxOut (∃ x ∈ l, P x) e ∧ Ch No w w' := by
 have HV := hid hv
 obtain ⟨hvn, hvc, hvm⟩ := hv.shape
 unfold maxLen at hvm
 have hvx : vn ≤ vc := by have h1 : vn = l.length := hvn; have h2 : l.length ≤ vc := hvc; omega
 have HVN := hid (show vn = l.length from hvn)
 clear hv hvn hvc
 go_enter Tryz.func153, Tryz.ntmps153
 go_wp2_with fail
 go_loopg [8, 5] vn (fun g s8 s5 wr => ∃ k : Nat, k ≤ vn ∧ vn - k ≤ g ∧ s8 = .int .i64 k ∧ Hid (∀ x ∈ l.take k, ¬ P x) ∧ Ch No w wr)
 case atStart => exact ⟨0, Nat.zero_le _, by omega, rfl, hid (by simp), Ch.refl _ _⟩
 case round =>
   obtain ⟨k, hk, hg, rfl, HN, hcr⟩ := hrel
   have HCR := hid hcr
   clear hcr
   cases hd : decide (k < vn) with
   | false =>
     have hkl : ¬ k < vn := by simpa using hd
     go_wp2_with fail
     go_ret
     have hn := HN.out
     rw [List.take_of_length_le (by have := HVN.out; omega)] at hn
     refine ⟨⟨-1, rfl, ?_⟩, HCR.out⟩
     constructor
     · intro h; omega
     · rintro ⟨x, hx, hp⟩; exact absurd hp (hn x hx)
   | true =>
     have hkl : k < vn := by simpa using hd
     obtain ⟨x, hx⟩ : ∃ x, l[k]? = some x := ⟨_, List.getElem?_eq_getElem (by have := HVN.out; omega)⟩
     obtain ⟨b, off, sa, sn, sc, hva, q0, q1, q2, q3, q4, q5, hst⟩ := (HV.out.no HCR.out).cell hx
     have hcl := hclo wr x sa sn sc HCR.out (List.mem_of_getElem? hx) hst
     subst hva
     have HX := hid hx
     clear hx hclo
     go_wp2_with fail
     refine hcl.mono ?_
     rintro e w5 ⟨⟨r, rfl, hr⟩, hc5⟩
     have HC5 := hid (HCR.out.trans hc5)
     have HR := hid hr
     clear hcl hc5 hr
     cases r with
     | true =>
       go_wp2_with fail
       go_ret
       exact ⟨⟨(k : Int), rfl, fun _ => ⟨x, List.mem_of_getElem? HX.out, HR.out.1 (by first | rfl | trivial)⟩, fun _ => by omega⟩, HC5.out⟩
     | false =>
       go_wp2_with fail
       go_roundg (vn - k - 1)
       case rel =>
         refine ⟨k + 1, by omega, by omega, by go_num, hid fun y hy => ?_, HC5.out⟩
         rw [List.take_add_one, HX.out] at hy
         rcases List.mem_append.1 hy with hy | hy
         · exact HN.out y hy
         · simp at hy; subst hy
           exact fun hp => by have h0 := HR.out.2 hp; first | cases h0 | exact h0
       case measure => omega
set_option maxHeartbeats 4000000 in
theorem contV {w : World} {va : Option Addr} {vn vc : Nat} {bx : Nat} {Q : Prop} (hi : Calls Tryz.prog 151 #[.slice va vn vc, .func (.func 115) #[] #[.pointer (some ⟨bx, 0, none⟩)]] w fun e w' => IdxOut Q e ∧ Ch No w w') :
   Calls Tryz.prog 114 #[.slice va vn vc, .func (.func 115) #[] #[.pointer (some ⟨bx, 0, none⟩)]] w fun e w' => BoolIs Q e ∧ Ch No w w' := by
 go_enter Tryz.func114, Tryz.ntmps114
 go_wp2_with fail
 refine hi.mono ?_
 rintro e w' ⟨⟨i, rfl, hv⟩, hc⟩
 have HV := hid hv
 have HC := hid hc
 clear hv hc hi
 go_wp2_with fail
 go_ret
 exact ⟨⟨_, rfl, by rw [decide_eq_true_iff]; exact HV.out⟩, HC.out⟩
set_option maxHeartbeats 4000000 in
theorem contMt {w : World} {va : Option Addr} {vn vc : Nat} {bx : Nat} {Q : Prop} (hi : Calls Tryz.prog 118 #[.slice va vn vc, .func (.func 85) #[] #[.pointer (some ⟨bx, 0, none⟩)]] w fun e w' => IdxOut Q e ∧ Ch No w w') :
   Calls Tryz.prog 84 #[.slice va vn vc, .func (.func 85) #[] #[.pointer (some ⟨bx, 0, none⟩)]] w fun e w' => BoolIs Q e ∧ Ch No w w' := by
 go_enter Tryz.func84, Tryz.ntmps84
 go_wp2_with fail
 refine hi.mono ?_
 rintro e w' ⟨⟨i, rfl, hv⟩, hc⟩
 have HV := hid hv
 have HC := hid hc
 clear hv hc hi
 go_wp2_with fail
 go_ret
 exact ⟨⟨_, rfl, by rw [decide_eq_true_iff]; exact HV.out⟩, HC.out⟩
set_option maxHeartbeats 4000000 in
theorem contS {w : World} {va : Option Addr} {vn vc : Nat} {bx : Nat} {Q : Prop} (hi : Calls Tryz.prog 152 #[.slice va vn vc, .func (.func 120) #[] #[.pointer (some ⟨bx, 0, none⟩)]] w fun e w' => IdxOut Q e ∧ Ch No w w') :
   Calls Tryz.prog 119 #[.slice va vn vc, .func (.func 120) #[] #[.pointer (some ⟨bx, 0, none⟩)]] w fun e w' => BoolIs Q e ∧ Ch No w w' := by
 go_enter Tryz.func119, Tryz.ntmps119
 go_wp2_with fail
 refine hi.mono ?_
 rintro e w' ⟨⟨i, rfl, hv⟩, hc⟩
 have HV := hid hv
 have HC := hid hc
 clear hv hc hi
 go_wp2_with fail
 go_ret
 exact ⟨⟨_, rfl, by rw [decide_eq_true_iff]; exact HV.out⟩, HC.out⟩
set_option maxHeartbeats 4000000 in
theorem contMb {w : World} {va : Option Addr} {vn vc : Nat} {bx : Nat} {Q : Prop} (hi : Calls Tryz.prog 153 #[.slice va vn vc, .func (.func 123) #[] #[.pointer (some ⟨bx, 0, none⟩)]] w fun e w' => IdxOut Q e ∧ Ch No w w') :
   Calls Tryz.prog 121 #[.slice va vn vc, .func (.func 123) #[] #[.pointer (some ⟨bx, 0, none⟩)]] w fun e w' => BoolIs Q e ∧ Ch No w w' := by
 go_enter Tryz.func121, Tryz.ntmps121
 go_wp2_with fail
 refine hi.mono ?_
 rintro e w' ⟨⟨i, rfl, hv⟩, hc⟩
 have HV := hid hv
 have HC := hid hc
 clear hv hc hi
 go_wp2_with fail
 go_ret
 exact ⟨⟨_, rfl, by rw [decide_eq_true_iff]; exact HV.out⟩, HC.out⟩
end Go.Proofs.YtgjpgfedlgdjhaaGreatDoor
end
