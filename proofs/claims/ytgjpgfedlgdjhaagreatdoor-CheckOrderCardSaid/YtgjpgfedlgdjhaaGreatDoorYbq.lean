/- Part 43. -/
import Derived.Test.YtgjpgfedlgdjhaaGreatDoorYbp
set_option linter.unusedVariables false
set_option linter.unusedSimpArgs false
set_option maxHeartbeats 64000000
set_option maxRecDepth 8192
section
namespace Go.Proofs.YtgjpgfedlgdjhaaGreatDoor
open Go.RowKit Go.W
theorem Vi {w0 w : World} {b : Nat} {cs : List Aj} {ms : List Ba} {xv : Value} {mb : Nat} {mv : Option Nat} {ret : ByteArray} {l c : Int} (h : M6 w0 w b cs ms xv mb mv ret l c) :
 Calls Tryz.prog 34 #[.pointer (some ⟨b, 0, none⟩)] w fun e w' => e = .returned (.agg #[.int .i64 11, .int .i64 l, .int .i64 c]) ∧ Ch No w w' := by
 obtain ⟨wa, hwa, hba, hca⟩ := A2 w (.cells #[.int .i64 0, .int .i64 0, .int .i64 0] 34)
 have hbk := (h.no hca).blk
 have b4 := Ab hbk 4
 have b5 := Ab hbk 5
 have HBA := Aa hba
 have HCA := Aa hca
 obtain ⟨a0, a1, a2⟩ := Dy hba
 obtain ⟨f0, f1, f2⟩ := I5 hba
 have y1 := Ac h.blk
 clear h hbk hba hca
 go_in
 go_wp2_with fail
 clear hwa
 go_region
 all_goals (
  go_wp2_with fail
  obtain ⟨wf, hwf, hfb, hfc⟩ := Ev HBA.out (.int .i64 11) (.int .i64 l) (.int .i64 c)
  rw [hwf]
  obtain ⟨k0, k1, k2⟩ := Dy hfb
  refine bodyPost_ret (v := .agg #[.int .i64 11, .int .i64 l, .int .i64 c]) (by simp [results, Tryz.results34, go_sem, k0, k1, k2]) rfl ?_
  exact ⟨rfl, Ch.newOnly HCA.out (by first | exact hfc | exact hfc.drew) (Eb (by omega))⟩)
def Vj (Q P : Prop) (A : Int → Int → Prop) (w : World) (e : Ending) (w' : World) : Prop :=
 Ch No w w' ∧ (((Q ∧ P) ∧ ∃ mb, e = .returned (.tuple #[.pointer (some mb), .agg #[.int .i64 0, .int .i64 0, .int .i64 0]])) ∨ (¬ (Q ∧ P) ∧ ∃ l c, (Q → A l c) ∧ e = .returned (.tuple #[.pointer none, .agg #[.int .i64 11, .int .i64 l, .int .i64 c]])))
set_option maxRecDepth 100000 in
set_option maxHeartbeats 16000000 in
theorem Xv {w : World} {cv : Value} {cs : List Aj} {ms : List Ba} {m : Mt} {ls : List Vr} (h : Ek w cv cs) (hm : En w cs ms) (hT : Ia w) (hsz : Sv cs) (hszm : W5 ms) (hsm : Df cs) (hfm : ∀ m ∈ ms, T9 m) (hok : Fw cs ms)
 (hin : ∀ c ∈ cs, c.p7 = none) (hnm : ∀ x ∈ ms, x.ms = []) (hps : Bc w (.slice m.pa m.ps.length m.pc) m.ps) (hls : Bc w (.slice m.s5.1 m.s5.2.1 m.s5.2.2) ls) (hp9 : m.ps.length ≤ 40000) (hl9 : ls.length ≤ 40000)
 (hszv : ∀ v ∈ Ck cs (-1) m ls, v.nm.size ≤ maxLen ∧ v.ty.size ≤ maxLen) {P : Prop} {A : Int → Int → Prop} (hst : ∀ (w0 : World) (b : Nat) (xv : Value) (mb : Nat), Ch No w w0 → Rj P A w0 b cs ms xv mb (Dx (Ck cs (-1) m ls)) m.ret (.slice m.s6.1 m.s6.2.1 m.s6.2.2)) :
 Calls Tryz.prog 11 #[.agg #[cv, .string m.ret, .string m.nm, .bool m.st, .bool m.ba, .slice m.pa m.ps.length m.pc, .slice m.s5.1 m.s5.2.1 m.s5.2.2, .slice m.s6.1 m.s6.2.1 m.s6.2.2, .int .i64 m.line, .int .i64 m.col]] w (Vj (Hu cs (Ck cs (-1) m ls) (C4 cs (-1) m).length) P A w) := by
 have HP0 : Hid (Cz w (.agg #[cv, .string m.ret, .string m.nm, .bool m.st, .bool m.ba, .slice m.pa m.ps.length m.pc, .slice m.s5.1 m.s5.2.1 m.s5.2.2, .slice m.s6.1 m.s6.2.1 m.s6.2.2, .int .i64 m.line, .int .i64 m.col]) cs) := Aa ⟨_, _, _, _, _, _, _, _, _, _, rfl, h⟩
 have HCLS0 := Aa h
 have HM0 := Aa hm
 have HT0 := Aa hT
 have HSZ := Aa hsz
 have HSZM := Aa hszm
 have HSM := Aa hsm
 have HFM := Aa hfm
 have HOK := Aa hok
 have HIN := Aa hin
 have HNM := Aa hnm
 have HPS := Aa hps
 have HLS := Aa hls
 have HP9 := Aa hp9
 have HL9 := Aa hl9
 have HSZV := Aa hszv
 have HST := Aa hst
 obtain ⟨ao, cap, rfl, hcap, hmax, _, _⟩ := h.row
 obtain ⟨len, Av⟩ := Ax cs.length
 have e0 : (cs.map Aj.cells).length = len := by rw [List.length_map, Av]
 have hp0 := HP0.out
 have hc0 := HCLS0.out
 rw [e0] at hcap hp0 hc0 ⊢
 have HP := Aa hp0
 have HC := Aa hc0
 have HL := Aa Av
 have hl20 : len ≤ 20 := by have := hsm.1; omega
 clear hp0 hc0 HP0 HCLS0 h hm hT hsz hszm hsm hfm hok hin hnm hps hls hp9 hl9 hszv hst Av e0
 unfold maxLen at hmax
 obtain ⟨wa, hwa, hba, hca⟩ := A2 w (.cells #[.slice ao len cap, .string m.ret, .string m.nm, .bool m.st, .bool m.ba, .slice m.pa m.ps.length m.pc, .slice m.s5.1 m.s5.2.1 m.s5.2.2, .slice m.s6.1 m.s6.2.1 m.s6.2.2, .int .i64 m.line, .int .i64 m.col] 31)
 obtain ⟨wb, hwb, hbb, hcb⟩ := A2 wa (.cells #[.int .i64 0, .int .i64 0, .int .i64 0] 34)
 have HPB := Aa (hcb.keep _ _ hba (fun h => h))
 have HFB := Aa hbb
 have HCB := Aa (hca.trans hcb)
 have y1 := Ac hba
 have y2 := Ac hbb
 have hpb := HPB.out
 obtain ⟨p0, p1, p2, p3, p4, p5, p6, p7, p8, p9⟩ := Cp hpb
 have hnw := Acb (HP.out.no HCB.out) (HM0.out.no HCB.out) (HT0.out.no HCB.out) HSZ.out HSZM.out HSM.out HFM.out
 clear hba hbb hca hcb hpb
 go_in
 go_wp2_with fail
 refine hnw.mono ?_
 rintro e w3 ⟨hc3, ⟨mb, rfl, hmb, hok⟩ | ⟨l, c, rfl, hno⟩⟩
 {have HC3 := Aa (HCB.out.trans hc3)
  have HMB := Aa hmb
  have HP3 := Aa (hc3.keep _ _ HPB.out (fun h => h))
  have HF3 := Aa (hc3.keep _ _ HFB.out (fun h => h))
  clear hwa hwb hnw hc3 hmb hok p0 p1 p2 p3 p4 p5 p6 p7 p8 p9
  go_upto_region 4 with fail
  obtain ⟨w4, hw4⟩ := Ax (w3.alloc (.cells #[.int .i64 0, .int .i64 0, .int .i64 0] 34))
  rw [hw4]
  have hc4 : Ch No w3 w4 := by rw [← hw4]; exact (Ch.refl _ _).alloc _
  have HC4 := Aa (HC3.out.trans hc4)
  have HMB4 := Aa (HMB.out.no hc4)
  have HP4 := Aa (hc4.keep _ _ HP3.out (fun h => h))
  have HF4 := Aa (hc4.keep _ _ HF3.out (fun h => h))
  clear hw4 hc4
  go_wp2_with fail
  refine (U5 HMB4.out).mono ?_
  rintro e w5 ⟨⟨xv, rfl, hxv⟩, rfl⟩
  obtain ⟨xb, tb, abv, ss, hxe, hxt⟩ := hxv
  have HXV : Hid (Bv w4 xv cs) := Aa ⟨xb, tb, abv, ss, hxe, hxt⟩
  subst hxe
  clear hxt
  obtain ⟨w5, hw5, hb5, hc5⟩ := A2 w4 (.cells #[.pointer (some ⟨xb, 0, none⟩), .pointer (some ⟨mb, 0, none⟩), .map none, .string ⟨#[]⟩, .int .i64 0, .int .i64 0] 85)
  obtain ⟨b, hb⟩ := Ax w4.heap.size
  rw [hb] at hb5
  have HCK5 := Aa (show M6 w4 w5 b cs ms (.pointer (some ⟨xb, 0, none⟩)) mb none ⟨#[]⟩ 0 0 from ⟨hb5, HXV.out, HMB4.out, hc5, by omega⟩)
  have HC5 := Aa (HC4.out.trans hc5)
  have HP5 := Aa (hc5.keep _ _ HP4.out (fun h => h))
  have HF5 := Aa (hc5.keep _ _ HF4.out (fun h => h))
  have ywb : w.heap.size < b := by rw [← hb]; exact Ac HP4.out
  have yab : wa.heap.size < b := by rw [← hb]; exact Ac HF4.out
  have hp5 := HP5.out
  obtain ⟨p0, p1, p2, p3, p4, p5, p6, p7, p8, p9⟩ := Cp hp5
  have HBE := Aa hb
  clear hb5 hc5 hp5 hb
  go_wp2_with fail
  rw [HBE.out]
  clear hw5 p0 p1 p2 p3 p4 p5 p6 p7 p8 p9
  go_loopg [2, 7, 8, 10, 28, 52] len (fun gg s2 s7 s8 s10 s28 s52 wr => ∃ k : Nat, k ≤ len ∧ len - k ≤ gg ∧ s28 = .int .i64 k ∧ Hid (Ch No w5 wr))
  case atStart => exact ⟨0, Nat.zero_le _, by omega, rfl, Aa (Ch.refl _ _)⟩
  case round =>
   obtain ⟨k, hk, hg, rfl, HCR⟩ := hrel
   cases hd : decide (k < len) with
   | true =>
    have hkl : k < len := by simpa using hd
    obtain ⟨c, hcs⟩ := gE (l := cs) (i := k) (by have := HL.out; omega)
    obtain ⟨x, hx, hmx⟩ := HM0.out.get hcs
    have hs6 : c.s6.2.1 = 0 := by rw [hmx.ms.shape.1, HNM.out x (mG hx)]; rfl
    obtain ⟨cb, co, cc, ecs, hcell, _, _⟩ := (HC.out.no (HC5.out.trans HCR.out)).cell hcs
    rw [HL.out] at ecs
    cases ecs
    obtain ⟨q0, q1, q2, q3, q4, q5, q6, q7, q8, q9⟩ := hcell
    rw [HIN.out c (mG hcs)] at q7
    rw [hs6] at q6
    obtain ⟨wx, hwx, hbx, hcx⟩ := A2 wr (.cells #[.string c.name, .string c.sup, .bool c.face, .slice c.fa c.faces.length c.fc, .slice c.s4.1 c.s4.2.1 c.s4.2.2, .slice c.s5.1 c.s5.2.1 c.s5.2.2, .slice c.s6.1 0 c.s6.2.2, .pointer none, .int .i64 c.line, .int .i64 c.col] 50)
    have HBX := Aa hbx
    have HCX := Aa (HCR.out.trans hcx)
    obtain ⟨d0, d1, d2, d3, d4, d5, d6, d7, d8, d9⟩ := Cp hbx
    have HSx := Aa (show wx.cell? ⟨wr.heap.size, 7, none⟩ = some (.pointer none) from d7)
    clear hs6 hx hmx hcs hbx hcx
    go_upto_region 8 with fail
    clear hwx q0 q1 q2 q3 q4 q5 q6 q7 q8 q9 d0 d1 d2 d3 d4 d5 d7 d8 d9
    refine wp_region_held_drew (S := fun w' => w'.cell? ⟨wr.heap.size, 7, none⟩ = some (.pointer none)) (by kernel_rfl) HSx.out (fun hHeld => ?_)
    refine tk 0 rfl ?_
    refine tk 1 rfl ?_
    refine tk 2 rfl ?_
    refine tk 3 rfl ?_
    refine tn 4 rfl ?_
    refine tn 5 rfl ?_
    refine tn 6 rfl ?_
    refine tn 7 rfl ?_
    refine tn 8 rfl ?_
    refine tn 9 rfl ?_
    refine tn 10 rfl ?_
    refine tn 11 rfl ?_
    refine tn 12 rfl ?_
    refine tk 13 rfl ?_
    refine wpAnyH_done (by kernel_rfl) ?_ _
    clear HSx
    go_wp2
    go_loopg [2, 10, 52] 0 (fun gg s2 s10 s52 wq => s52 = .int .i64 0 ∧ Hid (Ch No w5 wq))
    case atStart => exact ⟨rfl, Aa HCX.out.drew⟩
    case round =>
     obtain ⟨rfl, HCQ⟩ := hrel
     go_wp2
     go_roundg (len - k - 1)
     case rel => exact ⟨k + 1, by omega, by omega, by go_num, HCQ⟩
     case measure => omega
   | false =>
    have hkl : ¬ k < len := by simpa using hd
    have hpr := HCR.out.keep _ _ HP5.out (fun h => h)
    obtain ⟨p0, p1, p2, p3, p4, p5, p6, p7, p8, p9⟩ := Cp hpr
    have HFR := Aa (HCR.out.keep _ _ HF5.out (fun h => h))
    have hcm := Rk (HCK5.out.no HCR.out) (HP.out.no HC4.out) (-1) m ls (Bc.no HPS.out HC4.out) (Bc.no HLS.out HC4.out) HP9.out HL9.out HSZV.out (HST.out w4 b (.pointer (some ⟨xb, 0, none⟩)) mb HC4.out)
    clear hpr
    go_wp2_with fail
    refine hcm.mono ?_
    rintro e w6 ⟨r, rfl, hr, hc6, vb, n, vs, ret, l, c, hck, hA⟩
    have HR := Aa hr
    have HA := Aa hA
    have HCK6 := Aa hck
    have HC6 := Aa (Ch.newOnly (HC5.out.trans HCR.out) hc6 (fun q o _ e => by have e' : q = b := e; omega))
    have HF6 := Aa (hc6.keep _ _ HFR.out (Bm (by omega)))
    clear hr hA hck hc6 hcm p0 p1 p2 p3 p4 p5 p6 p7 p8 p9
    cases r with
    | true =>
     obtain ⟨a0, a1, a2⟩ := Dy HF6.out
     obtain ⟨f0, f1, f2⟩ := I5 HF6.out
     go_wp2_with fail
     obtain ⟨wf, hwf, hfb, hfc⟩ := Ev HF6.out (.int .i64 0) (.int .i64 0) (.int .i64 0)
     rw [hwf]
     obtain ⟨k0, k1, k2⟩ := Dy hfb
     refine bodyPost_ret (v := .tuple #[.pointer (some ⟨mb, 0, none⟩), .agg #[.int .i64 0, .int .i64 0, .int .i64 0]]) (by simp [results, Tryz.results11, go_sem, k0, k1, k2]) rfl ?_
     exact ⟨Ch.newOnly HC6.out hfc (Eb (by omega)), .inl ⟨HR.out.1 (by first | rfl | trivial), _, rfl⟩⟩
    | false =>
     have HNO := Aa (show ¬ (Hu cs (Ck cs (-1) m ls) (C4 cs (-1) m).length ∧ P) from fun h => by have := HR.out.2 h; cases this)
     go_wp2_with fail
     refine (Vi HCK6.out.z).mono ?_
     rintro e w7 ⟨rfl, hc7⟩
     have HF7 := Aa (hc7.keep _ _ HF6.out (fun h => h))
     have HC7 := Aa (HC6.out.trans hc7)
     have hf7 := HF7.out
     obtain ⟨a0, a1, a2⟩ := Dy hf7
     obtain ⟨f0, f1, f2⟩ := I5 hf7
     clear hf7 hc7
     go_wp2_with fail
     obtain ⟨wf, hwf, hfb, hfc⟩ := Ev HF7.out (.int .i64 11) (.int .i64 l) (.int .i64 c)
     rw [hwf]
     obtain ⟨k0, k1, k2⟩ := Dy hfb
     refine bodyPost_ret (v := .tuple #[.pointer none, .agg #[.int .i64 11, .int .i64 l, .int .i64 c]]) (by simp [results, Tryz.results11, go_sem, k0, k1, k2]) rfl ?_
     exact ⟨Ch.newOnly HC7.out hfc (Eb (by omega)), .inr ⟨(by first | exact HNO.out | exact fun h => HNO.out h | exact fun h => HNO.out h.1 h.2), l, c, (by first | exact HA.out rfl | exact HA.out trivial | exact HA.out), rfl⟩⟩}
 {exact absurd HOK.out hno}
end Go.Proofs.YtgjpgfedlgdjhaaGreatDoor
end
