/- What the claim uses: part 50. -/
import Derived.Test.YtgjpgfedlgdjhaaGreatDoorZbw
section
set_option linter.unusedVariables false
set_option linter.unusedSimpArgs false
set_option maxRecDepth 8192
namespace Go.Proofs.YtgjpgfedlgdjhaaGreatDoor
open Go.RowKit Go.W
set_option maxHeartbeats 4000000 in
theorem cfault {w0 w : World} {b : Nat} {cs : List Cls} {ms : List Mem} {xv : Value} {mb : Nat} {mv : Option Nat} {ret : ByteArray} {l c : Int} (h : CkZ w0 w b cs ms xv mb mv ret l c) :
   Calls Tryz.prog 34 #[.pointer (some ⟨b, 0, none⟩)] w fun e w' => e = .returned (.agg #[.int .i64 11, .int .i64 l, .int .i64 c]) ∧ Ch No w w' := by
 obtain ⟨wa, hwa⟩ : ∃ wa, w.alloc (.cells #[.int .i64 0, .int .i64 0, .int .i64 0] 34) = wa := ⟨_, rfl⟩
 have hba := heap_alloc_new w (.cells #[.int .i64 0, .int .i64 0, .int .i64 0] 34)
 have hca := (Ch.refl No w).alloc (.cells #[.int .i64 0, .int .i64 0, .int .i64 0] 34)
 rw [hwa] at hba hca
 have hbk := (h.no hca).blk
 have b4 := cellAt hbk 4
 have b5 := cellAt hbk 5
 have HBA := hid hba
 have HCA := hid hca
 have a0 := cellAt hba 0
 have a1 := cellAt hba 1
 have a2 := cellAt hba 2
 have f0 := freeAt hba 0
 have f1 := freeAt hba 1
 have f2 := freeAt hba 2
 have y1 := lt_size h.blk
 clear h hbk hba hca
 go_enter Tryz.func34, Tryz.ntmps34
 go_wp2_with fail
 clear hwa
 go_region
 all_goals (
   go_wp2_with fail
   obtain ⟨wf, hwf, hfb, hfc⟩ := put3 HBA.out (.int .i64 11) (.int .i64 l) (.int .i64 c)
   rw [hwf]
   have k0 := cellAt hfb 0
   have k1 := cellAt hfb 1
   have k2 := cellAt hfb 2
   refine bodyPost_ret (v := .agg #[.int .i64 11, .int .i64 l, .int .i64 c]) (by simp [results, Tryz.results34, go_sem, k0, k1, k2]) rfl ?_
   exact ⟨rfl, Ch.newOnly HCA.out (by first | exact hfc | exact hfc.drew) (fun k _ _ e => by have e' : k = w.heap.size := e; omega)⟩)
def ChkOut (Q P : Prop) (A : Int → Int → Prop) (w : World) (e : Ending) (w' : World) : Prop :=
 Ch No w w' ∧ (((Q ∧ P) ∧ ∃ mb, e = .returned (.tuple #[.pointer (some mb), .agg #[.int .i64 0, .int .i64 0, .int .i64 0]])) ∨ (¬ (Q ∧ P) ∧ ∃ l c, (Q → A l c) ∧ e = .returned (.tuple #[.pointer none, .agg #[.int .i64 11, .int .i64 l, .int .i64 c]])))
set_option maxRecDepth 100000 in
set_option maxHeartbeats 16000000 in
theorem ccheck0 {w : World} {cv : Value} {cs : List Cls} {ms : List Mem} {m : Mt} {ls : List Vr} (h : ClssAt w cv cs) (hm : MemsAt w cs ms) (hT : Tab w) (hsz : SzP cs) (hszm : SzM ms) (hsm : SmallP cs) (hfm : ∀ m ∈ ms, FewM m) (hok : MembsOk cs ms)
   (hin : ∀ c ∈ cs, c.p7 = none) (hnm : ∀ x ∈ ms, x.ms = []) (hps : VarsAt w (.slice m.pa m.ps.length m.pc) m.ps) (hls : VarsAt w (.slice m.s5.1 m.s5.2.1 m.s5.2.2) ls) (hp9 : m.ps.length ≤ 40000) (hl9 : ls.length ≤ 40000)
   (hszv : ∀ v ∈ scopeL cs (-1) m ls, v.nm.size ≤ maxLen ∧ v.ty.size ≤ maxLen) {P : Prop} {A : Int → Int → Prop} (hst : ∀ (w0 : World) (b : Nat) (xv : Value) (mb : Nat), Ch No w w0 → StsIs P A w0 b cs ms xv mb (vsOf (scopeL cs (-1) m ls)) m.ret (.slice m.s6.1 m.s6.2.1 m.s6.2.2)) :
   Calls Tryz.prog 11 #[.agg #[cv, .string m.ret, .string m.nm, .bool m.st, .bool m.ba, .slice m.pa m.ps.length m.pc, .slice m.s5.1 m.s5.2.1 m.s5.2.2, .slice m.s6.1 m.s6.2.1 m.s6.2.2, .int .i64 m.line, .int .i64 m.col]] w (ChkOut (varsP cs (scopeL cs (-1) m ls) (thisL cs (-1) m).length) P A w) := by
 have HP0 : Hid (ProgAt w (.agg #[cv, .string m.ret, .string m.nm, .bool m.st, .bool m.ba, .slice m.pa m.ps.length m.pc, .slice m.s5.1 m.s5.2.1 m.s5.2.2, .slice m.s6.1 m.s6.2.1 m.s6.2.2, .int .i64 m.line, .int .i64 m.col]) cs) := hid ⟨_, _, _, _, _, _, _, _, _, _, rfl, h⟩
 have HCLS0 := hid h
 have HM0 := hid hm
 have HT0 := hid hT
 have HSZ := hid hsz
 have HSZM := hid hszm
 have HSM := hid hsm
 have HFM := hid hfm
 have HOK := hid hok
 have HIN := hid hin
 have HNM := hid hnm
 have HPS := hid hps
 have HLS := hid hls
 have HP9 := hid hp9
 have HL9 := hid hl9
 have HSZV := hid hszv
 have HST := hid hst
 obtain ⟨ao, cap, rfl, hcap, hmax, _, _⟩ := h.row
 obtain ⟨len, hlen⟩ : ∃ len, cs.length = len := ⟨_, rfl⟩
 have e0 : (cs.map Cls.cells).length = len := by rw [List.length_map, hlen]
 have hp0 := HP0.out
 have hc0 := HCLS0.out
 rw [e0] at hcap hp0 hc0 ⊢
 have HP := hid hp0
 have HC := hid hc0
 have HL := hid hlen
 have hl20 : len ≤ 20 := by have := hsm.1; omega
 clear hp0 hc0 HP0 HCLS0 h hm hT hsz hszm hsm hfm hok hin hnm hps hls hp9 hl9 hszv hst hlen e0
 unfold maxLen at hmax
 obtain ⟨wa, hwa⟩ : ∃ wa, w.alloc (.cells #[.slice ao len cap, .string m.ret, .string m.nm, .bool m.st, .bool m.ba, .slice m.pa m.ps.length m.pc, .slice m.s5.1 m.s5.2.1 m.s5.2.2, .slice m.s6.1 m.s6.2.1 m.s6.2.2, .int .i64 m.line, .int .i64 m.col] 31) = wa := ⟨_, rfl⟩
 have hba := heap_alloc_new w (.cells #[.slice ao len cap, .string m.ret, .string m.nm, .bool m.st, .bool m.ba, .slice m.pa m.ps.length m.pc, .slice m.s5.1 m.s5.2.1 m.s5.2.2, .slice m.s6.1 m.s6.2.1 m.s6.2.2, .int .i64 m.line, .int .i64 m.col] 31)
 have hca := (Ch.refl No w).alloc (.cells #[.slice ao len cap, .string m.ret, .string m.nm, .bool m.st, .bool m.ba, .slice m.pa m.ps.length m.pc, .slice m.s5.1 m.s5.2.1 m.s5.2.2, .slice m.s6.1 m.s6.2.1 m.s6.2.2, .int .i64 m.line, .int .i64 m.col] 31)
 rw [hwa] at hba hca
 obtain ⟨wb, hwb⟩ : ∃ wb, wa.alloc (.cells #[.int .i64 0, .int .i64 0, .int .i64 0] 34) = wb := ⟨_, rfl⟩
 have hbb := heap_alloc_new wa (.cells #[.int .i64 0, .int .i64 0, .int .i64 0] 34)
 have hcb := (Ch.refl No wa).alloc (.cells #[.int .i64 0, .int .i64 0, .int .i64 0] 34)
 rw [hwb] at hbb hcb
 have HPB := hid (hcb.keep _ _ hba (fun h => h))
 have HFB := hid hbb
 have HCB := hid (hca.trans hcb)
 have y1 := lt_size hba
 have y2 := lt_size hbb
 have hpb := HPB.out
 have p0 := cellAt hpb 0
 have p1 := cellAt hpb 1
 have p2 := cellAt hpb 2
 have p3 := cellAt hpb 3
 have p4 := cellAt hpb 4
 have p5 := cellAt hpb 5
 have p6 := cellAt hpb 6
 have p7 := cellAt hpb 7
 have p8 := cellAt hpb 8
 have p9 := cellAt hpb 9
 have hnw := mnew (HP.out.no HCB.out) (HM0.out.no HCB.out) (HT0.out.no HCB.out) HSZ.out HSZM.out HSM.out HFM.out
 clear hba hbb hca hcb hpb
 go_enter Tryz.func11, Tryz.ntmps11
 go_wp2_with fail
 refine hnw.mono ?_
 rintro e w3 ⟨hc3, ⟨mb, rfl, hmb, hok⟩ | ⟨l, c, rfl, hno⟩⟩
 · have HC3 := hid (HCB.out.trans hc3)
   have HMB := hid hmb
   have HP3 := hid (hc3.keep _ _ HPB.out (fun h => h))
   have HF3 := hid (hc3.keep _ _ HFB.out (fun h => h))
   clear hwa hwb hnw hc3 hmb hok p0 p1 p2 p3 p4 p5 p6 p7 p8 p9
   go_upto_region 4 with fail
   obtain ⟨w4, hw4⟩ : ∃ w4, w3.alloc (.cells #[.int .i64 0, .int .i64 0, .int .i64 0] 34) = w4 := ⟨_, rfl⟩
   rw [hw4]
   have hc4 : Ch No w3 w4 := by rw [← hw4]; exact (Ch.refl _ _).alloc _
   have HC4 := hid (HC3.out.trans hc4)
   have HMB4 := hid (HMB.out.no hc4)
   have HP4 := hid (hc4.keep _ _ HP3.out (fun h => h))
   have HF4 := hid (hc4.keep _ _ HF3.out (fun h => h))
   clear hw4 hc4
   go_wp2_with fail
   refine (cTypes HMB4.out).mono ?_
   rintro e w5 ⟨⟨xv, rfl, hxv⟩, rfl⟩
   obtain ⟨xb, tb, abv, ss, hxe, hxt⟩ := hxv
   have HXV : Hid (TypesIs w4 xv cs) := hid ⟨xb, tb, abv, ss, hxe, hxt⟩
   subst hxe
   clear hxt
   obtain ⟨w5, hw5⟩ : ∃ w5, w4.alloc (.cells #[.pointer (some ⟨xb, 0, none⟩), .pointer (some ⟨mb, 0, none⟩), .map none, .string ⟨#[]⟩, .int .i64 0, .int .i64 0] 85) = w5 := ⟨_, rfl⟩
   have hb5 := heap_alloc_new w4 (.cells #[.pointer (some ⟨xb, 0, none⟩), .pointer (some ⟨mb, 0, none⟩), .map none, .string ⟨#[]⟩, .int .i64 0, .int .i64 0] 85)
   have hc5 := (Ch.refl No w4).alloc (.cells #[.pointer (some ⟨xb, 0, none⟩), .pointer (some ⟨mb, 0, none⟩), .map none, .string ⟨#[]⟩, .int .i64 0, .int .i64 0] 85)
   rw [hw5] at hb5 hc5
   obtain ⟨b, hb⟩ : ∃ b, w4.heap.size = b := ⟨_, rfl⟩
   rw [hb] at hb5
   have HCK5 := hid (show CkZ w4 w5 b cs ms (.pointer (some ⟨xb, 0, none⟩)) mb none ⟨#[]⟩ 0 0 from ⟨hb5, HXV.out, HMB4.out, hc5, by omega⟩)
   have HC5 := hid (HC4.out.trans hc5)
   have HP5 := hid (hc5.keep _ _ HP4.out (fun h => h))
   have HF5 := hid (hc5.keep _ _ HF4.out (fun h => h))
   have ywb : w.heap.size < b := by rw [← hb]; exact lt_size HP4.out
   have yab : wa.heap.size < b := by rw [← hb]; exact lt_size HF4.out
   have hp5 := HP5.out
   have p0 := cellAt hp5 0
   have p1 := cellAt hp5 1
   have p2 := cellAt hp5 2
   have p3 := cellAt hp5 3
   have p4 := cellAt hp5 4
   have p5 := cellAt hp5 5
   have p6 := cellAt hp5 6
   have p7 := cellAt hp5 7
   have p8 := cellAt hp5 8
   have p9 := cellAt hp5 9
   have HBE := hid hb
   clear hb5 hc5 hp5 hb
   go_wp2_with fail
   rw [HBE.out]
   clear hw5 p0 p1 p2 p3 p4 p5 p6 p7 p8 p9
   go_loopg [2, 7, 8, 10, 28, 52] len (fun gg s2 s7 s8 s10 s28 s52 wr => ∃ k : Nat, k ≤ len ∧ len - k ≤ gg ∧ s28 = .int .i64 k ∧ Hid (Ch No w5 wr))
   case atStart => exact ⟨0, Nat.zero_le _, by omega, rfl, hid (Ch.refl _ _)⟩
   case round =>
     obtain ⟨k, hk, hg, rfl, HCR⟩ := hrel
     cases hd : decide (k < len) with
     | true =>
       have hkl : k < len := by simpa using hd
       obtain ⟨c, hcs⟩ : ∃ c, cs[k]? = some c := ⟨_, List.getElem?_eq_getElem (by have := HL.out; omega)⟩
       obtain ⟨x, hx, hmx⟩ := HM0.out.get hcs
       have hs6 : c.s6.2.1 = 0 := by rw [hmx.ms.shape.1, HNM.out x (List.mem_of_getElem? hx)]; rfl
       obtain ⟨cb, co, cc, ecs, hcell, _, _⟩ := (HC.out.no (HC5.out.trans HCR.out)).cell hcs
       rw [HL.out] at ecs
       cases ecs
       obtain ⟨q0, q1, q2, q3, q4, q5, q6, q7, q8, q9⟩ := hcell
       rw [HIN.out c (List.mem_of_getElem? hcs)] at q7
       rw [hs6] at q6
       obtain ⟨wx, hwx⟩ : ∃ wx, wr.alloc (.cells #[.string c.name, .string c.sup, .bool c.face, .slice c.fa c.faces.length c.fc, .slice c.s4.1 c.s4.2.1 c.s4.2.2, .slice c.s5.1 c.s5.2.1 c.s5.2.2, .slice c.s6.1 0 c.s6.2.2, .pointer none, .int .i64 c.line, .int .i64 c.col] 50) = wx := ⟨_, rfl⟩
       have hbx := heap_alloc_new wr (.cells #[.string c.name, .string c.sup, .bool c.face, .slice c.fa c.faces.length c.fc, .slice c.s4.1 c.s4.2.1 c.s4.2.2, .slice c.s5.1 c.s5.2.1 c.s5.2.2, .slice c.s6.1 0 c.s6.2.2, .pointer none, .int .i64 c.line, .int .i64 c.col] 50)
       have hcx := (Ch.refl No wr).alloc (.cells #[.string c.name, .string c.sup, .bool c.face, .slice c.fa c.faces.length c.fc, .slice c.s4.1 c.s4.2.1 c.s4.2.2, .slice c.s5.1 c.s5.2.1 c.s5.2.2, .slice c.s6.1 0 c.s6.2.2, .pointer none, .int .i64 c.line, .int .i64 c.col] 50)
       rw [hwx] at hbx hcx
       have HBX := hid hbx
       have HCX := hid (HCR.out.trans hcx)
       have d0 := cellAt hbx 0
       have d1 := cellAt hbx 1
       have d2 := cellAt hbx 2
       have d3 := cellAt hbx 3
       have d4 := cellAt hbx 4
       have d5 := cellAt hbx 5
       have d6 := cellAt hbx 6
       have d7 := cellAt hbx 7
       have d8 := cellAt hbx 8
       have d9 := cellAt hbx 9
       have HSx := hid (show wx.cell? ⟨wr.heap.size, 7, none⟩ = some (.pointer none) from d7)
       clear hs6 hx hmx hcs hbx hcx
       go_upto_region 8 with fail
       clear hwx q0 q1 q2 q3 q4 q5 q6 q7 q8 q9 d0 d1 d2 d3 d4 d5 d7 d8 d9
       refine wp_region_held_drew (S := fun w' => w'.cell? ⟨wr.heap.size, 7, none⟩ = some (.pointer none)) (by kernel_rfl) HSx.out (fun hHeld => ?_)
       (refine tkW 0 (v := ?_) rfl ?_ ?_; rotate_left 1; · (intro wz hSw; (try dsimp only at hSw); go_simp; try rfl)); (try simp only [Act.put, s1, s2, s3, s4, s5, s6])
       (refine tkW 1 (v := ?_) rfl ?_ ?_; rotate_left 1; · (intro wz hSw; (try dsimp only at hSw); go_simp; try rfl)); (try simp only [Act.put, s1, s2, s3, s4, s5, s6])
       (refine tkW 2 (v := ?_) rfl ?_ ?_; rotate_left 1; · (intro wz hSw; (try dsimp only at hSw); go_simp; try rfl)); (try simp only [Act.put, s1, s2, s3, s4, s5, s6])
       (refine tkW 3 (v := ?_) rfl ?_ ?_; rotate_left 1; · (intro wz hSw; (try dsimp only at hSw); go_simp; try rfl)); (try simp only [Act.put, s1, s2, s3, s4, s5, s6])
       (refine tkN 4 rfl ?_); (try simp only [Act.put, s1, s2, s3, s4, s5, s6])
       (refine tkN 5 rfl ?_); (try simp only [Act.put, s1, s2, s3, s4, s5, s6])
       (refine tkN 6 rfl ?_); (try simp only [Act.put, s1, s2, s3, s4, s5, s6])
       (refine tkN 7 rfl ?_); (try simp only [Act.put, s1, s2, s3, s4, s5, s6])
       (refine tkN 8 rfl ?_); (try simp only [Act.put, s1, s2, s3, s4, s5, s6])
       (refine tkN 9 rfl ?_); (try simp only [Act.put, s1, s2, s3, s4, s5, s6])
       (refine tkN 10 rfl ?_); (try simp only [Act.put, s1, s2, s3, s4, s5, s6])
       (refine tkN 11 rfl ?_); (try simp only [Act.put, s1, s2, s3, s4, s5, s6])
       (refine tkN 12 rfl ?_); (try simp only [Act.put, s1, s2, s3, s4, s5, s6])
       (refine tkW 13 (v := ?_) rfl ?_ ?_; rotate_left 1; · (intro wz hSw; (try dsimp only at hSw); go_simp; try rfl)); (try simp only [Act.put, s1, s2, s3, s4, s5, s6])
       refine wpAnyH_done (by kernel_rfl) ?_ _
       clear HSx
       go_wp2_with fail
       go_loopg [2, 10, 52] 0 (fun gg s2 s10 s52 wq => s52 = .int .i64 0 ∧ Hid (Ch No w5 wq))
       case atStart => exact ⟨rfl, hid HCX.out.drew⟩
       case round =>
         obtain ⟨rfl, HCQ⟩ := hrel
         go_wp2_with fail
         go_roundg (len - k - 1)
         case rel => exact ⟨k + 1, by omega, by omega, by go_num, HCQ⟩
         case measure => omega
     | false =>
       have hkl : ¬ k < len := by simpa using hd
       have hpr := HCR.out.keep _ _ HP5.out (fun h => h)
       have p0 := cellAt hpr 0
       have p1 := cellAt hpr 1
       have p2 := cellAt hpr 2
       have p3 := cellAt hpr 3
       have p4 := cellAt hpr 4
       have p5 := cellAt hpr 5
       have p6 := cellAt hpr 6
       have p7 := cellAt hpr 7
       have p8 := cellAt hpr 8
       have p9 := cellAt hpr 9
       have HFR := hid (HCR.out.keep _ _ HF5.out (fun h => h))
       have hcm := cmethod (HCK5.out.no HCR.out) (HP.out.no HC4.out) (-1) m ls (VarsAt.no HPS.out HC4.out) (VarsAt.no HLS.out HC4.out) HP9.out HL9.out HSZV.out (HST.out w4 b (.pointer (some ⟨xb, 0, none⟩)) mb HC4.out)
       clear hpr
       go_wp2_with fail
       refine hcm.mono ?_
       rintro e w6 ⟨r, rfl, hr, hc6, vb, n, vs, ret, l, c, hck, hA⟩
       have HR := hid hr
       have HA := hid hA
       have HCK6 := hid hck
       have HC6 := hid (Ch.newOnly (HC5.out.trans HCR.out) hc6 (fun q o _ e => by have e' : q = b := e; omega))
       have HF6 := hid (hc6.keep _ _ HFR.out (fun e => by have e' : wa.heap.size = b := e; omega))
       clear hr hA hck hc6 hcm p0 p1 p2 p3 p4 p5 p6 p7 p8 p9
       cases r with
       | true =>
         have hf6 := HF6.out
         have a0 := cellAt hf6 0
         have a1 := cellAt hf6 1
         have a2 := cellAt hf6 2
         have f0 := freeAt hf6 0
         have f1 := freeAt hf6 1
         have f2 := freeAt hf6 2
         clear hf6
         go_wp2_with fail
         obtain ⟨wf, hwf, hfb, hfc⟩ := put3 HF6.out (.int .i64 0) (.int .i64 0) (.int .i64 0)
         rw [hwf]
         have k0 := cellAt hfb 0
         have k1 := cellAt hfb 1
         have k2 := cellAt hfb 2
         refine bodyPost_ret (v := .tuple #[.pointer (some ⟨mb, 0, none⟩), .agg #[.int .i64 0, .int .i64 0, .int .i64 0]]) (by simp [results, Tryz.results11, go_sem, k0, k1, k2]) rfl ?_
         exact ⟨Ch.newOnly HC6.out hfc (fun q _ _ e => by have e' : q = wa.heap.size := e; omega), .inl ⟨HR.out.1 (by first | rfl | trivial), _, rfl⟩⟩
       | false =>
         have HNO := hid (show ¬ (varsP cs (scopeL cs (-1) m ls) (thisL cs (-1) m).length ∧ P) from fun h => by have := HR.out.2 h; cases this)
         go_wp2_with fail
         refine (cfault HCK6.out.z).mono ?_
         rintro e w7 ⟨rfl, hc7⟩
         have HF7 := hid (hc7.keep _ _ HF6.out (fun h => h))
         have HC7 := hid (HC6.out.trans hc7)
         have hf7 := HF7.out
         have a0 := cellAt hf7 0
         have a1 := cellAt hf7 1
         have a2 := cellAt hf7 2
         have f0 := freeAt hf7 0
         have f1 := freeAt hf7 1
         have f2 := freeAt hf7 2
         clear hf7 hc7
         go_wp2_with fail
         obtain ⟨wf, hwf, hfb, hfc⟩ := put3 HF7.out (.int .i64 11) (.int .i64 l) (.int .i64 c)
         rw [hwf]
         have k0 := cellAt hfb 0
         have k1 := cellAt hfb 1
         have k2 := cellAt hfb 2
         refine bodyPost_ret (v := .tuple #[.pointer none, .agg #[.int .i64 11, .int .i64 l, .int .i64 c]]) (by simp [results, Tryz.results11, go_sem, k0, k1, k2]) rfl ?_
         exact ⟨Ch.newOnly HC7.out hfc (fun q _ _ e => by have e' : q = wa.heap.size := e; omega), .inr ⟨(by first | exact HNO.out | exact fun h => HNO.out h | exact fun h => HNO.out h.1 h.2), l, c, (by first | exact HA.out rfl | exact HA.out trivial | exact HA.out), rfl⟩⟩
 · exact absurd HOK.out hno
end Go.Proofs.YtgjpgfedlgdjhaaGreatDoor
end
