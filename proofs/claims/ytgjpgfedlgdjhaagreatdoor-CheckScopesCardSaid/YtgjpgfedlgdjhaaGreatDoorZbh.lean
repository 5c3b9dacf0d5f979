/- What the claim uses: part 34. -/
import Derived.Test.YtgjpgfedlgdjhaaGreatDoorZbg
section
set_option linter.unusedVariables false
set_option linter.unusedSimpArgs false
set_option maxRecDepth 8192
namespace Go.Proofs.YtgjpgfedlgdjhaaGreatDoor
open Go.RowKit Go.W
def lkN (lk : Nat → Mem → ByteArray → Option MbR) (ms : List Mem) (nm : ByteArray) (i : Nat) : Option MbR := match ms[i]? with | some m => lk i m nm | none => none
def upM (cs : List Cls) (lk : Nat → Mem → ByteArray → Option MbR) (ms : List Mem) (nm : ByteArray) (o : Option Nat) : Option (Nat × MbR) := upO (lkN lk ms nm) (chainO cs o)
theorem upM_step {cs : List Cls} {lk : Nat → Mem → ByteArray → Option MbR} {ms : List Mem} (hno : NoRing cs) (nm : ByteArray) (i : Nat) :
   upM cs lk ms nm (some i) = match lkN lk ms nm i with | some x => some (i, x) | none => upM cs lk ms nm (supN cs i) := by
 unfold upM
 show upO _ (chainN cs i) = _
 rw [chainEq hno i]
 rw [upO_cons]
 cases lkN lk ms nm i <;> rfl
theorem chainOlen {cs : List Cls} (hno : NoRing cs) (i : Nat) : (chainO cs (some i)).length = (chainO cs (supN cs i)).length + 1 := chainLen hno i
def UpV (o : Option MbR) (B : Nat) (e : Ending) (w' : World) : Prop := match o with
 | some x => ∃ sa sn sc, e = .returned (.tuple #[.agg #[.int .i64 x.cls, .string x.nm, .string x.ty, .slice sa sn sc, .bool x.st, .bool x.ba], .bool true]) ∧ StrsOwn w' B (.slice sa sn sc) x.ps
 | none => e = .returned (.tuple #[.agg #[.int .i64 0, .string ⟨#[]⟩, .string ⟨#[]⟩, .slice none 0 0, .bool false, .bool false], .bool false])
def UpOut (o : Option MbR) (w : World) (e : Ending) (w' : World) : Prop := UpV o w.heap.size e w' ∧ Ch No w w'
def FewP (ms : List Mem) : Prop := ∀ m ∈ ms, ∀ x ∈ m.ms, x.ps.length ≤ 1000
theorem fewField {ms : List Mem} (h : FewP ms) {i : Nat} {nm : ByteArray} {x : MbR} (hx : lkN lkField ms nm i = some x) : x.ps.length ≤ 1000 := by
 unfold lkN at hx
 cases hm : ms[i]? with
 | none => rw [hm] at hx; cases hx
 | some m =>
   rw [hm] at hx
   unfold lkField lkVr at hx
   cases hv : vrF m.fs nm with
   | none => simp [hv] at hx
   | some v => simp [hv] at hx; subst hx; exact Nat.zero_le _
theorem fewStatic {ms : List Mem} (h : FewP ms) {i : Nat} {nm : ByteArray} {x : MbR} (hx : lkN lkStatic ms nm i = some x) : x.ps.length ≤ 1000 := by
 unfold lkN at hx
 cases hm : ms[i]? with
 | none => rw [hm] at hx; cases hx
 | some m =>
   rw [hm] at hx
   unfold lkStatic lkVr at hx
   cases hv : vrF m.ss nm with
   | none => simp [hv] at hx
   | some v => simp [hv] at hx; subst hx; exact Nat.zero_le _
theorem fewMethod {ms : List Mem} (h : FewP ms) {i : Nat} {nm : ByteArray} {x : MbR} (hx : lkN lkMethod ms nm i = some x) : x.ps.length ≤ 1000 := by
 unfold lkN at hx
 cases hm : ms[i]? with
 | none => rw [hm] at hx; cases hx
 | some m =>
   rw [hm] at hx
   unfold lkMethod lkMt at hx
   cases hk : mtK m.ms nm with
   | none => simp [hk] at hx
   | some k =>
     obtain ⟨y, hy, _⟩ := mtSome' hk
     simp [hk, hy] at hx
     subst hx
     simpa using h m (List.mem_of_getElem? hm) y (List.mem_of_getElem? hy)
theorem MembAt.ownCell {w : World} {mb : Nat} {cs : List Cls} {ms : List Mem} {cv m0 m1 m2 m3 m4 m5 m6 m7 m8 xv ov : Value} {bs : List (Nat × Nat × Nat)} (h : MembAt w mb cs ms cv m0 m1 m2 m3 m4 m5 m6 m7 m8 xv ov bs) {i : Nat} {m : Mem} (hi : i < cs.length) (hm : ms[i]? = some m) :
   ∃ ob oo oc b1 b2 b3, ov = .slice (some ⟨ob, oo, none⟩) cs.length oc ∧ cs.length ≤ oc ∧ oc ≤ maxLen ∧ OwnB w (b1, b2, b3) i m ∧ w.cell? ⟨ob, oo + i * 3, none⟩ = some (.map (some b1)) ∧ w.cell? ⟨ob, oo + i * 3 + 1, none⟩ = some (.map (some b2)) ∧ w.cell? ⟨ob, oo + i * 3 + 2, none⟩ = some (.map (some b3)) := by
 obtain ⟨ao, cap, e, h1, h2, h3, h4⟩ := h.row
 rw [List.length_map, h.len] at e h1
 obtain ⟨ob, oo, rfl, h5⟩ := h4 (by rw [List.length_map, h.len]; omega)
 obtain ⟨b, hb⟩ : ∃ b, bs[i]? = some b := ⟨_, List.getElem?_eq_getElem (by rw [h.len]; exact hi)⟩
 have h6 := fun j hj => h5 i (ownCells b) (by rw [List.getElem?_map, hb]; rfl) j hj
 obtain ⟨b1, b2, b3⟩ := b
 exact ⟨ob, oo, cap, b1, b2, b3, e, h1, h2, h.own i _ m hb hm, h6 0 (by omega), h6 1 (by omega), h6 2 (by omega)⟩
theorem MembAt.ownShape {w : World} {mb : Nat} {cs : List Cls} {ms : List Mem} {cv m0 m1 m2 m3 m4 m5 m6 m7 m8 xv ov : Value} {bs : List (Nat × Nat × Nat)} (h : MembAt w mb cs ms cv m0 m1 m2 m3 m4 m5 m6 m7 m8 xv ov bs) :
   ∃ oa oc, ov = .slice oa cs.length oc ∧ cs.length ≤ oc ∧ oc ≤ maxLen := by
 obtain ⟨ao, cap, e, h1, h2, h3, h4⟩ := h.row
 rw [List.length_map, h.len] at e h1
 exact ⟨ao, cap, e, h1, h2⟩
set_option maxHeartbeats 16000000 in
theorem upField {w : World} {mb : Nat} {cs : List Cls} {ms : List Mem} (h : MembIs w mb cs ms) (hS : SoundP cs) (hno : NoRing cs) (hln : ms.length = cs.length) (hfw : FewP ms) {z : Int} {o : Option Nat} (hz : AtZ cs z o) {nb : Nat} {nm : ByteArray} (hnz : nm.size ≤ maxLen) (hnb : w.cell? ⟨nb, 0, none⟩ = some (.string nm)) :
   Calls Tryz.prog 47 #[.pointer (some ⟨mb, 0, none⟩), .int .i64 z, .func (.func 52) #[] #[.pointer (some ⟨nb, 0, none⟩)]] w (UpOut ((upM cs lkField ms nm o).map Prod.snd) w) := by
 obtain ⟨cv, m0, m1, m2, m3, m4, m5, m6, m7, m8, xv, ov, bs, h⟩ := h
 obtain ⟨oa, oc, rfl, hoc, hom⟩ := h.ownShape
 obtain ⟨len, hlen⟩ : ∃ len, cs.length = len := ⟨_, rfl⟩
 rw [hlen] at h hoc
 unfold maxLen at hom
 have HL := hid hlen
 have HS := hid hS
 have HNO := hid hno
 have HLN := hid hln
 have HFW := hid hfw
 have HNZ := hid hnz
 have HZ := hid hz
 obtain ⟨xb, tb, abv, ss, hxv, hx⟩ := h.typ
 subst hxv
 obtain ⟨w1, hw1⟩ : ∃ w1, w.alloc (.cells #[.int .i64 0, .string ⟨#[]⟩, .string ⟨#[]⟩, .slice none 0 0, .bool false, .bool false] 54) = w1 := ⟨_, rfl⟩
 have hb1 := heap_alloc_new w (.cells #[.int .i64 0, .string ⟨#[]⟩, .string ⟨#[]⟩, .slice none 0 0, .bool false, .bool false] 54)
 have hc1 := (Ch.refl No w).alloc (.cells #[.int .i64 0, .string ⟨#[]⟩, .string ⟨#[]⟩, .slice none 0 0, .bool false, .bool false] 54)
 rw [hw1] at hb1 hc1
 have HC1 := hid hc1
 have HB1 := hid hb1
 have HM := hid (h.no hc1)
 have HX := hid (hx.no hc1)
 have HNB := hid (cell_ch hnb hc1 (fun _ _ h => h))
 have ymb : mb < w.heap.size := lt_size h.blk
 have yxb : xb < w.heap.size := lt_size hx.blk
 have y1 := lt_size hb1
 obtain ⟨r0, hr0⟩ : ∃ r, upM cs lkField ms nm o = r := ⟨_, rfl⟩
 obtain ⟨N, hN⟩ : ∃ N, (chainO cs o).length = N := ⟨_, rfl⟩
 have HR0 := hid hr0
 have HNN := hid hN
 rw [hr0]
 clear hlen hS hno hln hfw hnz hz h hx hb1 hc1 hnb hr0 hN
 go_enter Tryz.func47, Tryz.ntmps47
 go_wp2_with fail
 clear hw1
 go_loopg [8, 9, 10] N (fun g s8 s9 s10 wr => ∃ (z1 : Int) (L : Nat), L ≤ g ∧ s8 = .int .i64 z1 ∧ Hid (∃ o, AtZ cs z1 o ∧ upM cs lkField ms nm o = r0 ∧ (chainO cs o).length ≤ L) ∧ Ch No w1 wr)
 case atStart => exact ⟨z, N, Nat.le_refl _, rfl, hid ⟨_, HZ.out, HR0.out, by have := HNN.out; omega⟩, Ch.refl _ _⟩
 case round =>
   obtain ⟨z1, L, hL, rfl, HO, hc⟩ := hrel
   have HC2 := hid hc
   have hzr := hc.size
   have HBR := hid (hc.keep _ _ HB1.out (fun h => h))
   have HMR := hid (HM.out.no hc)
   have HXR := hid (HX.out.no hc)
   have c11 := cellAt HMR.out.blk 11
   have c10 := cellAt HMR.out.blk 10
   have x0 := cellAt HXR.out.blk 0
   clear hc
   have ho := HO.out
   obtain ⟨o, hz, hv, hln⟩ := ho
   rcases hz with ⟨k, rfl, hk, rfl⟩ | ⟨rfl, hz⟩
   · have hkl : k < len := by have := HL.out; omega
     obtain ⟨c, hcs⟩ : ∃ c, cs[k]? = some c := ⟨_, List.getElem?_eq_getElem hk⟩
     obtain ⟨m, hmk⟩ : ∃ m, ms[k]? = some m := ⟨_, List.getElem?_eq_getElem (by have := HLN.out; omega)⟩
     obtain ⟨ob, oo, oc', b1, b2, b3, e, _, _, hob, g0, g1, g2⟩ := HMR.out.ownCell hk hmk
     rw [HL.out] at e
     cases e
     have hlk : lkN lkField ms nm k = lkField k m nm := by unfold lkN; rw [hmk]
     have hclo := cloField (b := (b1, b2, b3)) (hob.tells nm).1 HNZ.out (cell_ch HNB.out HC2.out (fun _ _ h => h))
     have hstep := upM_step (lk := lkField) (ms := ms) HNO.out nm k
     rw [hv, hlk] at hstep
     have HSTEP := hid hstep
     have HLK := hid hlk
     have HLNN := hid hln
     have HCS := hid hcs
     have HK := hid hk
     clear hob hmk hv hln hcs hstep hlk HO hk
     cases hq : lkField k m nm with
     | none =>
       rw [hq] at hclo HSTEP
       have hres : r0 = upM cs lkField ms nm (supN cs k) := HSTEP.out
       have HRES := hid hres
       clear hres hq
       go_wp2_with fail
       refine hclo.mono ?_
       rintro e w5 ⟨rfl, hc5⟩
       have K5 := hid hc5
       have e10 := cellAt (hc5.keep _ _ HMR.out.blk (fun h => h)) 10
       have f0 := cellAt (hc5.keep _ _ HXR.out.blk (fun h => h)) 0
       have z5 := hc5.size
       have zmb : mb < w5.heap.size := by omega
       have zxb : xb < w5.heap.size := by omega
       have hsu := tSuper ((HXR.out.tab.no K5.out).no ((Ch.refl No w5).alloc (.cells #[.int .i64 0, .string ⟨#[]⟩, .string ⟨#[]⟩, .slice none 0 0, .bool false, .bool false] 54))) HCS.out
       clear hc5 hclo g0 g1 g2 c10 c11 x0
       go_wp2_with fail
       refine hsu.mono ?_
       rintro e w6 ⟨rfl, rfl⟩
       clear hsu
       go_wp2_with fail
       go_roundg (L - 1)
       case rel => exact ⟨_, L - 1, Nat.le_refl _, rfl, hid ⟨_, supAtZ HCS.out (HS.out k c HCS.out), HRES.out.symm, by have h1 := chainOlen HNO.out k; have h2 := HLNN.out; omega⟩, HC2.out.trans (K5.out.alloc _)⟩
       case measure => have h1 := chainOlen HNO.out k; have h2 := HLNN.out; omega
     | some x =>
       rw [hq] at hclo HSTEP
       have hres : r0 = some (k, x) := HSTEP.out
       have hps : x.ps.length ≤ 1000 := fewField HFW.out (HLK.out.trans hq)
       subst hres
       clear hq HSTEP HR0
       go_wp2_with fail
       refine hclo.mono ?_
       rintro e w5 ⟨⟨sa, sn, sc, rfl, hst⟩, hc5⟩
       have K5 := hid hc5
       have z5 := hc5.size
       obtain ⟨w6, hw6⟩ : ∃ w6, w5.alloc (.cells #[.int .i64 x.cls, .string x.nm, .string x.ty, .slice sa sn sc, .bool x.st, .bool x.ba] 54) = w6 := ⟨_, rfl⟩
       have hb6 := heap_alloc_new w5 (.cells #[.int .i64 x.cls, .string x.nm, .string x.ty, .slice sa sn sc, .bool x.st, .bool x.ba] 54)
       have hc6 := (Ch.refl No w5).alloc (.cells #[.int .i64 x.cls, .string x.nm, .string x.ty, .slice sa sn sc, .bool x.st, .bool x.ba] 54)
       rw [hw6] at hb6 hc6
       have hcl := cloneS (hst.no hc6) hps
       have HB6 := hid hb6
       have K6 := hid (hc5.trans hc6)
       have i3 := cellAt hb6 3
       clear hst hc5 hc6 hb6 hclo g0 g1 g2 c10 c11 x0
       go_wp2_with fail
       refine hcl.mono ?_
       rintro e w7 ⟨ua, un, uc, rfl, hst7, hc7⟩
       have K7 := hid (K6.out.trans hc7)
       have HST := hid hst7
       have hb7 := hc7.keep _ _ HB6.out (fun h => h)
       have HB7 := hid hb7
       have hr7 := K7.out.keep _ _ HBR.out (fun h => h)
       have HR7 := hid hr7
       have i0 := cellAt hb7 0
       have i1 := cellAt hb7 1
       have i2 := cellAt hb7 2
       have i3 := cellAt hb7 3
       have i4 := cellAt hb7 4
       have i5 := cellAt hb7 5
       have j3 := freeAt hb7 3
       have a0 := cellAt hr7 0
       have a1 := cellAt hr7 1
       have a2 := cellAt hr7 2
       have a3 := cellAt hr7 3
       have a4 := cellAt hr7 4
       have a5 := cellAt hr7 5
       have f0 := freeAt hr7 0
       have f1 := freeAt hr7 1
       have f2 := freeAt hr7 2
       have f3 := freeAt hr7 3
       have f4 := freeAt hr7 4
       have f5 := freeAt hr7 5
       have yne : w.heap.size ≠ w5.heap.size := by omega
       have yne' : w5.heap.size ≠ w.heap.size := by omega
       clear hw6 hst7 hc7 hb7 hr7 hcl
       go_wp2_with fail
       obtain ⟨wg, hwg⟩ : ∃ wg, w7.setCell ⟨w5.heap.size, 3, none⟩ (.slice ua un uc) = wg := ⟨_, rfl⟩
       rw [hwg]
       have hcg : Ch (fun k _ => k = w5.heap.size) w7 wg := by rw [← hwg]; exact (Ch.refl _ w7).setCell (fun _ _ => rfl) _
       have hrg := hcg.keep _ _ HR7.out (fun e => yne e)
       obtain ⟨wf, hwf, hfb, hfc⟩ := put6 hrg (.int .i64 x.cls) (.string x.nm) (.string x.ty) (.slice ua un uc) (.bool x.st) (.bool x.ba)
       rw [hwf]
       have k0 := cellAt hfb 0
       have k1 := cellAt hfb 1
       have k2 := cellAt hfb 2
       have k3 := cellAt hfb 3
       have k4 := cellAt hfb 4
       have k5 := cellAt hfb 5
       refine bodyPost_ret (v := .tuple #[.agg #[.int .i64 x.cls, .string x.nm, .string x.ty, .slice ua un uc, .bool x.st, .bool x.ba], .bool true]) (by simp [results, Tryz.results47, go_sem, k0, k1, k2, k3, k4, k5]) rfl ?_
       have y6 := lt_size HB6.out
       refine ⟨⟨ua, un, uc, rfl, ?_⟩, Ch.newOnly (Ch.newOnly (HC1.out.trans (HC2.out.trans K7.out)) hcg (fun k _ _ e => by have e' : k = w5.heap.size := e; omega)) hfc (fun k _ _ e => Nat.le_of_eq (show k = w.heap.size from e).symm)⟩
       exact ((HST.out.ch hcg (fun g cur hg hbg e => by have e' : g = w5.heap.size := e; omega)).ch hfc (fun g cur hg hbg e => by have e' : g = w.heap.size := e; omega)).base (by omega)
   · have hz' : ¬ (0 ≤ z1 ∧ z1 < len) := by have := HL.out; omega
     have hres : r0 = none := by rw [← hv]; rfl
     subst hres
     clear hv hln HO HR0
     have hbr := HBR.out
     have a0 := cellAt hbr 0
     have a1 := cellAt hbr 1
     have a2 := cellAt hbr 2
     have a3 := cellAt hbr 3
     have a4 := cellAt hbr 4
     have a5 := cellAt hbr 5
     have f0 := freeAt hbr 0
     have f1 := freeAt hbr 1
     have f2 := freeAt hbr 2
     have f3 := freeAt hbr 3
     have f4 := freeAt hbr 4
     have f5 := freeAt hbr 5
     clear hbr
     have hzz : (0 ≤ z1 ∧ ¬ z1 < len) ∨ ¬ 0 ≤ z1 := by omega
     rcases hzz with ⟨h0, h1⟩ | h1
     all_goals (
       go_wp2_with fail
       obtain ⟨wf, hwf, hfb, hfc⟩ := put6 HBR.out (.int .i64 0) (.string ⟨#[]⟩) (.string ⟨#[]⟩) (.slice none 0 0) (.bool false) (.bool false)
       rw [hwf]
       have k0 := cellAt hfb 0
       have k1 := cellAt hfb 1
       have k2 := cellAt hfb 2
       have k3 := cellAt hfb 3
       have k4 := cellAt hfb 4
       have k5 := cellAt hfb 5
       refine bodyPost_ret (v := .tuple #[.agg #[.int .i64 0, .string ⟨#[]⟩, .string ⟨#[]⟩, .slice none 0 0, .bool false, .bool false], .bool false]) (by simp [results, Tryz.results47, go_sem, k0, k1, k2, k3, k4, k5]) rfl ?_
       exact ⟨rfl, Ch.newOnly (HC1.out.trans HC2.out) hfc (fun k _ _ e => Nat.le_of_eq (show k = w.heap.size from e).symm)⟩)
set_option maxHeartbeats 16000000 in
theorem upStatic {w : World} {mb : Nat} {cs : List Cls} {ms : List Mem} (h : MembIs w mb cs ms) (hS : SoundP cs) (hno : NoRing cs) (hln : ms.length = cs.length) (hfw : FewP ms) {z : Int} {o : Option Nat} (hz : AtZ cs z o) {nb : Nat} {nm : ByteArray} (hnz : nm.size ≤ maxLen) (hnb : w.cell? ⟨nb, 0, none⟩ = some (.string nm)) :
   Calls Tryz.prog 47 #[.pointer (some ⟨mb, 0, none⟩), .int .i64 z, .func (.func 117) #[] #[.pointer (some ⟨nb, 0, none⟩)]] w (UpOut ((upM cs lkStatic ms nm o).map Prod.snd) w) := by
 obtain ⟨cv, m0, m1, m2, m3, m4, m5, m6, m7, m8, xv, ov, bs, h⟩ := h
 obtain ⟨oa, oc, rfl, hoc, hom⟩ := h.ownShape
 obtain ⟨len, hlen⟩ : ∃ len, cs.length = len := ⟨_, rfl⟩
 rw [hlen] at h hoc
 unfold maxLen at hom
 have HL := hid hlen
 have HS := hid hS
 have HNO := hid hno
 have HLN := hid hln
 have HFW := hid hfw
 have HNZ := hid hnz
 have HZ := hid hz
 obtain ⟨xb, tb, abv, ss, hxv, hx⟩ := h.typ
 subst hxv
 obtain ⟨w1, hw1⟩ : ∃ w1, w.alloc (.cells #[.int .i64 0, .string ⟨#[]⟩, .string ⟨#[]⟩, .slice none 0 0, .bool false, .bool false] 54) = w1 := ⟨_, rfl⟩
 have hb1 := heap_alloc_new w (.cells #[.int .i64 0, .string ⟨#[]⟩, .string ⟨#[]⟩, .slice none 0 0, .bool false, .bool false] 54)
 have hc1 := (Ch.refl No w).alloc (.cells #[.int .i64 0, .string ⟨#[]⟩, .string ⟨#[]⟩, .slice none 0 0, .bool false, .bool false] 54)
 rw [hw1] at hb1 hc1
 have HC1 := hid hc1
 have HB1 := hid hb1
 have HM := hid (h.no hc1)
 have HX := hid (hx.no hc1)
 have HNB := hid (cell_ch hnb hc1 (fun _ _ h => h))
 have ymb : mb < w.heap.size := lt_size h.blk
 have yxb : xb < w.heap.size := lt_size hx.blk
 have y1 := lt_size hb1
 obtain ⟨r0, hr0⟩ : ∃ r, upM cs lkStatic ms nm o = r := ⟨_, rfl⟩
 obtain ⟨N, hN⟩ : ∃ N, (chainO cs o).length = N := ⟨_, rfl⟩
 have HR0 := hid hr0
 have HNN := hid hN
 rw [hr0]
 clear hlen hS hno hln hfw hnz hz h hx hb1 hc1 hnb hr0 hN
 go_enter Tryz.func47, Tryz.ntmps47
 go_wp2_with fail
 clear hw1
 go_loopg [8, 9, 10] N (fun g s8 s9 s10 wr => ∃ (z1 : Int) (L : Nat), L ≤ g ∧ s8 = .int .i64 z1 ∧ Hid (∃ o, AtZ cs z1 o ∧ upM cs lkStatic ms nm o = r0 ∧ (chainO cs o).length ≤ L) ∧ Ch No w1 wr)
 case atStart => exact ⟨z, N, Nat.le_refl _, rfl, hid ⟨_, HZ.out, HR0.out, by have := HNN.out; omega⟩, Ch.refl _ _⟩
 case round =>
   obtain ⟨z1, L, hL, rfl, HO, hc⟩ := hrel
   have HC2 := hid hc
   have hzr := hc.size
   have HBR := hid (hc.keep _ _ HB1.out (fun h => h))
   have HMR := hid (HM.out.no hc)
   have HXR := hid (HX.out.no hc)
   have c11 := cellAt HMR.out.blk 11
   have c10 := cellAt HMR.out.blk 10
   have x0 := cellAt HXR.out.blk 0
   clear hc
   have ho := HO.out
   obtain ⟨o, hz, hv, hln⟩ := ho
   rcases hz with ⟨k, rfl, hk, rfl⟩ | ⟨rfl, hz⟩
   · have hkl : k < len := by have := HL.out; omega
     obtain ⟨c, hcs⟩ : ∃ c, cs[k]? = some c := ⟨_, List.getElem?_eq_getElem hk⟩
     obtain ⟨m, hmk⟩ : ∃ m, ms[k]? = some m := ⟨_, List.getElem?_eq_getElem (by have := HLN.out; omega)⟩
     obtain ⟨ob, oo, oc', b1, b2, b3, e, _, _, hob, g0, g1, g2⟩ := HMR.out.ownCell hk hmk
     rw [HL.out] at e
     cases e
     have hlk : lkN lkStatic ms nm k = lkStatic k m nm := by unfold lkN; rw [hmk]
     have hclo := cloStatic (b := (b1, b2, b3)) (hob.tells nm).2.1 HNZ.out (cell_ch HNB.out HC2.out (fun _ _ h => h))
     have hstep := upM_step (lk := lkStatic) (ms := ms) HNO.out nm k
     rw [hv, hlk] at hstep
     have HSTEP := hid hstep
     have HLK := hid hlk
     have HLNN := hid hln
     have HCS := hid hcs
     have HK := hid hk
     clear hob hmk hv hln hcs hstep hlk HO hk
     cases hq : lkStatic k m nm with
     | none =>
       rw [hq] at hclo HSTEP
       have hres : r0 = upM cs lkStatic ms nm (supN cs k) := HSTEP.out
       have HRES := hid hres
       clear hres hq
       go_wp2_with fail
       refine hclo.mono ?_
       rintro e w5 ⟨rfl, hc5⟩
       have K5 := hid hc5
       have e10 := cellAt (hc5.keep _ _ HMR.out.blk (fun h => h)) 10
       have f0 := cellAt (hc5.keep _ _ HXR.out.blk (fun h => h)) 0
       have z5 := hc5.size
       have zmb : mb < w5.heap.size := by omega
       have zxb : xb < w5.heap.size := by omega
       have hsu := tSuper ((HXR.out.tab.no K5.out).no ((Ch.refl No w5).alloc (.cells #[.int .i64 0, .string ⟨#[]⟩, .string ⟨#[]⟩, .slice none 0 0, .bool false, .bool false] 54))) HCS.out
       clear hc5 hclo g0 g1 g2 c10 c11 x0
       go_wp2_with fail
       refine hsu.mono ?_
       rintro e w6 ⟨rfl, rfl⟩
       clear hsu
       go_wp2_with fail
       go_roundg (L - 1)
       case rel => exact ⟨_, L - 1, Nat.le_refl _, rfl, hid ⟨_, supAtZ HCS.out (HS.out k c HCS.out), HRES.out.symm, by have h1 := chainOlen HNO.out k; have h2 := HLNN.out; omega⟩, HC2.out.trans (K5.out.alloc _)⟩
       case measure => have h1 := chainOlen HNO.out k; have h2 := HLNN.out; omega
     | some x =>
       rw [hq] at hclo HSTEP
       have hres : r0 = some (k, x) := HSTEP.out
       have hps : x.ps.length ≤ 1000 := fewStatic HFW.out (HLK.out.trans hq)
       subst hres
       clear hq HSTEP HR0
       go_wp2_with fail
       refine hclo.mono ?_
       rintro e w5 ⟨⟨sa, sn, sc, rfl, hst⟩, hc5⟩
       have K5 := hid hc5
       have z5 := hc5.size
       obtain ⟨w6, hw6⟩ : ∃ w6, w5.alloc (.cells #[.int .i64 x.cls, .string x.nm, .string x.ty, .slice sa sn sc, .bool x.st, .bool x.ba] 54) = w6 := ⟨_, rfl⟩
       have hb6 := heap_alloc_new w5 (.cells #[.int .i64 x.cls, .string x.nm, .string x.ty, .slice sa sn sc, .bool x.st, .bool x.ba] 54)
       have hc6 := (Ch.refl No w5).alloc (.cells #[.int .i64 x.cls, .string x.nm, .string x.ty, .slice sa sn sc, .bool x.st, .bool x.ba] 54)
       rw [hw6] at hb6 hc6
       have hcl := cloneS (hst.no hc6) hps
       have HB6 := hid hb6
       have K6 := hid (hc5.trans hc6)
       have i3 := cellAt hb6 3
       clear hst hc5 hc6 hb6 hclo g0 g1 g2 c10 c11 x0
       go_wp2_with fail
       refine hcl.mono ?_
       rintro e w7 ⟨ua, un, uc, rfl, hst7, hc7⟩
       have K7 := hid (K6.out.trans hc7)
       have HST := hid hst7
       have hb7 := hc7.keep _ _ HB6.out (fun h => h)
       have HB7 := hid hb7
       have hr7 := K7.out.keep _ _ HBR.out (fun h => h)
       have HR7 := hid hr7
       have i0 := cellAt hb7 0
       have i1 := cellAt hb7 1
       have i2 := cellAt hb7 2
       have i3 := cellAt hb7 3
       have i4 := cellAt hb7 4
       have i5 := cellAt hb7 5
       have j3 := freeAt hb7 3
       have a0 := cellAt hr7 0
       have a1 := cellAt hr7 1
       have a2 := cellAt hr7 2
       have a3 := cellAt hr7 3
       have a4 := cellAt hr7 4
       have a5 := cellAt hr7 5
       have f0 := freeAt hr7 0
       have f1 := freeAt hr7 1
       have f2 := freeAt hr7 2
       have f3 := freeAt hr7 3
       have f4 := freeAt hr7 4
       have f5 := freeAt hr7 5
       have yne : w.heap.size ≠ w5.heap.size := by omega
       have yne' : w5.heap.size ≠ w.heap.size := by omega
       clear hw6 hst7 hc7 hb7 hr7 hcl
       go_wp2_with fail
       obtain ⟨wg, hwg⟩ : ∃ wg, w7.setCell ⟨w5.heap.size, 3, none⟩ (.slice ua un uc) = wg := ⟨_, rfl⟩
       rw [hwg]
       have hcg : Ch (fun k _ => k = w5.heap.size) w7 wg := by rw [← hwg]; exact (Ch.refl _ w7).setCell (fun _ _ => rfl) _
       have hrg := hcg.keep _ _ HR7.out (fun e => yne e)
       obtain ⟨wf, hwf, hfb, hfc⟩ := put6 hrg (.int .i64 x.cls) (.string x.nm) (.string x.ty) (.slice ua un uc) (.bool x.st) (.bool x.ba)
       rw [hwf]
       have k0 := cellAt hfb 0
       have k1 := cellAt hfb 1
       have k2 := cellAt hfb 2
       have k3 := cellAt hfb 3
       have k4 := cellAt hfb 4
       have k5 := cellAt hfb 5
       refine bodyPost_ret (v := .tuple #[.agg #[.int .i64 x.cls, .string x.nm, .string x.ty, .slice ua un uc, .bool x.st, .bool x.ba], .bool true]) (by simp [results, Tryz.results47, go_sem, k0, k1, k2, k3, k4, k5]) rfl ?_
       have y6 := lt_size HB6.out
       refine ⟨⟨ua, un, uc, rfl, ?_⟩, Ch.newOnly (Ch.newOnly (HC1.out.trans (HC2.out.trans K7.out)) hcg (fun k _ _ e => by have e' : k = w5.heap.size := e; omega)) hfc (fun k _ _ e => Nat.le_of_eq (show k = w.heap.size from e).symm)⟩
       exact ((HST.out.ch hcg (fun g cur hg hbg e => by have e' : g = w5.heap.size := e; omega)).ch hfc (fun g cur hg hbg e => by have e' : g = w.heap.size := e; omega)).base (by omega)
   · have hz' : ¬ (0 ≤ z1 ∧ z1 < len) := by have := HL.out; omega
     have hres : r0 = none := by rw [← hv]; rfl
     subst hres
     clear hv hln HO HR0
     have hbr := HBR.out
     have a0 := cellAt hbr 0
     have a1 := cellAt hbr 1
     have a2 := cellAt hbr 2
     have a3 := cellAt hbr 3
     have a4 := cellAt hbr 4
     have a5 := cellAt hbr 5
     have f0 := freeAt hbr 0
     have f1 := freeAt hbr 1
     have f2 := freeAt hbr 2
     have f3 := freeAt hbr 3
     have f4 := freeAt hbr 4
     have f5 := freeAt hbr 5
     clear hbr
     have hzz : (0 ≤ z1 ∧ ¬ z1 < len) ∨ ¬ 0 ≤ z1 := by omega
     rcases hzz with ⟨h0, h1⟩ | h1
     all_goals (
       go_wp2_with fail
       obtain ⟨wf, hwf, hfb, hfc⟩ := put6 HBR.out (.int .i64 0) (.string ⟨#[]⟩) (.string ⟨#[]⟩) (.slice none 0 0) (.bool false) (.bool false)
       rw [hwf]
       have k0 := cellAt hfb 0
       have k1 := cellAt hfb 1
       have k2 := cellAt hfb 2
       have k3 := cellAt hfb 3
       have k4 := cellAt hfb 4
       have k5 := cellAt hfb 5
       refine bodyPost_ret (v := .tuple #[.agg #[.int .i64 0, .string ⟨#[]⟩, .string ⟨#[]⟩, .slice none 0 0, .bool false, .bool false], .bool false]) (by simp [results, Tryz.results47, go_sem, k0, k1, k2, k3, k4, k5]) rfl ?_
       exact ⟨rfl, Ch.newOnly (HC1.out.trans HC2.out) hfc (fun k _ _ e => Nat.le_of_eq (show k = w.heap.size from e).symm)⟩)
set_option maxHeartbeats 16000000 in
theorem upMethod {w : World} {mb : Nat} {cs : List Cls} {ms : List Mem} (h : MembIs w mb cs ms) (hS : SoundP cs) (hno : NoRing cs) (hln : ms.length = cs.length) (hfw : FewP ms) {z : Int} {o : Option Nat} (hz : AtZ cs z o) {nb : Nat} {nm : ByteArray} (hnz : nm.size ≤ maxLen) (hnb : w.cell? ⟨nb, 0, none⟩ = some (.string nm)) :
   Calls Tryz.prog 47 #[.pointer (some ⟨mb, 0, none⟩), .int .i64 z, .func (.func 48) #[] #[.pointer (some ⟨nb, 0, none⟩)]] w (UpOut ((upM cs lkMethod ms nm o).map Prod.snd) w) := by
 obtain ⟨cv, m0, m1, m2, m3, m4, m5, m6, m7, m8, xv, ov, bs, h⟩ := h
 obtain ⟨oa, oc, rfl, hoc, hom⟩ := h.ownShape
 obtain ⟨len, hlen⟩ : ∃ len, cs.length = len := ⟨_, rfl⟩
 rw [hlen] at h hoc
 unfold maxLen at hom
 have HL := hid hlen
 have HS := hid hS
 have HNO := hid hno
 have HLN := hid hln
 have HFW := hid hfw
 have HNZ := hid hnz
 have HZ := hid hz
 obtain ⟨xb, tb, abv, ss, hxv, hx⟩ := h.typ
 subst hxv
 obtain ⟨w1, hw1⟩ : ∃ w1, w.alloc (.cells #[.int .i64 0, .string ⟨#[]⟩, .string ⟨#[]⟩, .slice none 0 0, .bool false, .bool false] 54) = w1 := ⟨_, rfl⟩
 have hb1 := heap_alloc_new w (.cells #[.int .i64 0, .string ⟨#[]⟩, .string ⟨#[]⟩, .slice none 0 0, .bool false, .bool false] 54)
 have hc1 := (Ch.refl No w).alloc (.cells #[.int .i64 0, .string ⟨#[]⟩, .string ⟨#[]⟩, .slice none 0 0, .bool false, .bool false] 54)
 rw [hw1] at hb1 hc1
 have HC1 := hid hc1
 have HB1 := hid hb1
 have HM := hid (h.no hc1)
 have HX := hid (hx.no hc1)
 have HNB := hid (cell_ch hnb hc1 (fun _ _ h => h))
 have ymb : mb < w.heap.size := lt_size h.blk
 have yxb : xb < w.heap.size := lt_size hx.blk
 have y1 := lt_size hb1
 obtain ⟨r0, hr0⟩ : ∃ r, upM cs lkMethod ms nm o = r := ⟨_, rfl⟩
 obtain ⟨N, hN⟩ : ∃ N, (chainO cs o).length = N := ⟨_, rfl⟩
 have HR0 := hid hr0
 have HNN := hid hN
 rw [hr0]
 clear hlen hS hno hln hfw hnz hz h hx hb1 hc1 hnb hr0 hN
 go_enter Tryz.func47, Tryz.ntmps47
 go_wp2_with fail
 clear hw1
 go_loopg [8, 9, 10] N (fun g s8 s9 s10 wr => ∃ (z1 : Int) (L : Nat), L ≤ g ∧ s8 = .int .i64 z1 ∧ Hid (∃ o, AtZ cs z1 o ∧ upM cs lkMethod ms nm o = r0 ∧ (chainO cs o).length ≤ L) ∧ Ch No w1 wr)
 case atStart => exact ⟨z, N, Nat.le_refl _, rfl, hid ⟨_, HZ.out, HR0.out, by have := HNN.out; omega⟩, Ch.refl _ _⟩
 case round =>
   obtain ⟨z1, L, hL, rfl, HO, hc⟩ := hrel
   have HC2 := hid hc
   have hzr := hc.size
   have HBR := hid (hc.keep _ _ HB1.out (fun h => h))
   have HMR := hid (HM.out.no hc)
   have HXR := hid (HX.out.no hc)
   have c11 := cellAt HMR.out.blk 11
   have c10 := cellAt HMR.out.blk 10
   have x0 := cellAt HXR.out.blk 0
   clear hc
   have ho := HO.out
   obtain ⟨o, hz, hv, hln⟩ := ho
   rcases hz with ⟨k, rfl, hk, rfl⟩ | ⟨rfl, hz⟩
   · have hkl : k < len := by have := HL.out; omega
     obtain ⟨c, hcs⟩ : ∃ c, cs[k]? = some c := ⟨_, List.getElem?_eq_getElem hk⟩
     obtain ⟨m, hmk⟩ : ∃ m, ms[k]? = some m := ⟨_, List.getElem?_eq_getElem (by have := HLN.out; omega)⟩
     obtain ⟨ob, oo, oc', b1, b2, b3, e, _, _, hob, g0, g1, g2⟩ := HMR.out.ownCell hk hmk
     rw [HL.out] at e
     cases e
     have hlk : lkN lkMethod ms nm k = lkMethod k m nm := by unfold lkN; rw [hmk]
     have hclo := cloMethod (b := (b1, b2, b3)) (hob.tells nm).2.2 HNZ.out (cell_ch HNB.out HC2.out (fun _ _ h => h))
     have hstep := upM_step (lk := lkMethod) (ms := ms) HNO.out nm k
     rw [hv, hlk] at hstep
     have HSTEP := hid hstep
     have HLK := hid hlk
     have HLNN := hid hln
     have HCS := hid hcs
     have HK := hid hk
     clear hob hmk hv hln hcs hstep hlk HO hk
     cases hq : lkMethod k m nm with
     | none =>
       rw [hq] at hclo HSTEP
       have hres : r0 = upM cs lkMethod ms nm (supN cs k) := HSTEP.out
       have HRES := hid hres
       clear hres hq
       go_wp2_with fail
       refine hclo.mono ?_
       rintro e w5 ⟨rfl, hc5⟩
       have K5 := hid hc5
       have e10 := cellAt (hc5.keep _ _ HMR.out.blk (fun h => h)) 10
       have f0 := cellAt (hc5.keep _ _ HXR.out.blk (fun h => h)) 0
       have z5 := hc5.size
       have zmb : mb < w5.heap.size := by omega
       have zxb : xb < w5.heap.size := by omega
       have hsu := tSuper ((HXR.out.tab.no K5.out).no ((Ch.refl No w5).alloc (.cells #[.int .i64 0, .string ⟨#[]⟩, .string ⟨#[]⟩, .slice none 0 0, .bool false, .bool false] 54))) HCS.out
       clear hc5 hclo g0 g1 g2 c10 c11 x0
       go_wp2_with fail
       refine hsu.mono ?_
       rintro e w6 ⟨rfl, rfl⟩
       clear hsu
       go_wp2_with fail
       go_roundg (L - 1)
       case rel => exact ⟨_, L - 1, Nat.le_refl _, rfl, hid ⟨_, supAtZ HCS.out (HS.out k c HCS.out), HRES.out.symm, by have h1 := chainOlen HNO.out k; have h2 := HLNN.out; omega⟩, HC2.out.trans (K5.out.alloc _)⟩
       case measure => have h1 := chainOlen HNO.out k; have h2 := HLNN.out; omega
     | some x =>
       rw [hq] at hclo HSTEP
       have hres : r0 = some (k, x) := HSTEP.out
       have hps : x.ps.length ≤ 1000 := fewMethod HFW.out (HLK.out.trans hq)
       subst hres
       clear hq HSTEP HR0
       go_wp2_with fail
       refine hclo.mono ?_
       rintro e w5 ⟨⟨sa, sn, sc, rfl, hst⟩, hc5⟩
       have K5 := hid hc5
       have z5 := hc5.size
       obtain ⟨w6, hw6⟩ : ∃ w6, w5.alloc (.cells #[.int .i64 x.cls, .string x.nm, .string x.ty, .slice sa sn sc, .bool x.st, .bool x.ba] 54) = w6 := ⟨_, rfl⟩
       have hb6 := heap_alloc_new w5 (.cells #[.int .i64 x.cls, .string x.nm, .string x.ty, .slice sa sn sc, .bool x.st, .bool x.ba] 54)
       have hc6 := (Ch.refl No w5).alloc (.cells #[.int .i64 x.cls, .string x.nm, .string x.ty, .slice sa sn sc, .bool x.st, .bool x.ba] 54)
       rw [hw6] at hb6 hc6
       have hcl := cloneS (hst.no hc6) hps
       have HB6 := hid hb6
       have K6 := hid (hc5.trans hc6)
       have i3 := cellAt hb6 3
       clear hst hc5 hc6 hb6 hclo g0 g1 g2 c10 c11 x0
       go_wp2_with fail
       refine hcl.mono ?_
       rintro e w7 ⟨ua, un, uc, rfl, hst7, hc7⟩
       have K7 := hid (K6.out.trans hc7)
       have HST := hid hst7
       have hb7 := hc7.keep _ _ HB6.out (fun h => h)
       have HB7 := hid hb7
       have hr7 := K7.out.keep _ _ HBR.out (fun h => h)
       have HR7 := hid hr7
       have i0 := cellAt hb7 0
       have i1 := cellAt hb7 1
       have i2 := cellAt hb7 2
       have i3 := cellAt hb7 3
       have i4 := cellAt hb7 4
       have i5 := cellAt hb7 5
       have j3 := freeAt hb7 3
       have a0 := cellAt hr7 0
       have a1 := cellAt hr7 1
       have a2 := cellAt hr7 2
       have a3 := cellAt hr7 3
       have a4 := cellAt hr7 4
       have a5 := cellAt hr7 5
       have f0 := freeAt hr7 0
       have f1 := freeAt hr7 1
       have f2 := freeAt hr7 2
       have f3 := freeAt hr7 3
       have f4 := freeAt hr7 4
       have f5 := freeAt hr7 5
       have yne : w.heap.size ≠ w5.heap.size := by omega
       have yne' : w5.heap.size ≠ w.heap.size := by omega
       clear hw6 hst7 hc7 hb7 hr7 hcl
       go_wp2_with fail
       obtain ⟨wg, hwg⟩ : ∃ wg, w7.setCell ⟨w5.heap.size, 3, none⟩ (.slice ua un uc) = wg := ⟨_, rfl⟩
       rw [hwg]
       have hcg : Ch (fun k _ => k = w5.heap.size) w7 wg := by rw [← hwg]; exact (Ch.refl _ w7).setCell (fun _ _ => rfl) _
       have hrg := hcg.keep _ _ HR7.out (fun e => yne e)
       obtain ⟨wf, hwf, hfb, hfc⟩ := put6 hrg (.int .i64 x.cls) (.string x.nm) (.string x.ty) (.slice ua un uc) (.bool x.st) (.bool x.ba)
       rw [hwf]
       have k0 := cellAt hfb 0
       have k1 := cellAt hfb 1
       have k2 := cellAt hfb 2
       have k3 := cellAt hfb 3
       have k4 := cellAt hfb 4
       have k5 := cellAt hfb 5
       refine bodyPost_ret (v := .tuple #[.agg #[.int .i64 x.cls, .string x.nm, .string x.ty, .slice ua un uc, .bool x.st, .bool x.ba], .bool true]) (by simp [results, Tryz.results47, go_sem, k0, k1, k2, k3, k4, k5]) rfl ?_
       have y6 := lt_size HB6.out
       refine ⟨⟨ua, un, uc, rfl, ?_⟩, Ch.newOnly (Ch.newOnly (HC1.out.trans (HC2.out.trans K7.out)) hcg (fun k _ _ e => by have e' : k = w5.heap.size := e; omega)) hfc (fun k _ _ e => Nat.le_of_eq (show k = w.heap.size from e).symm)⟩
       exact ((HST.out.ch hcg (fun g cur hg hbg e => by have e' : g = w5.heap.size := e; omega)).ch hfc (fun g cur hg hbg e => by have e' : g = w.heap.size := e; omega)).base (by omega)
   · have hz' : ¬ (0 ≤ z1 ∧ z1 < len) := by have := HL.out; omega
     have hres : r0 = none := by rw [← hv]; rfl
     subst hres
     clear hv hln HO HR0
     have hbr := HBR.out
     have a0 := cellAt hbr 0
     have a1 := cellAt hbr 1
     have a2 := cellAt hbr 2
     have a3 := cellAt hbr 3
     have a4 := cellAt hbr 4
     have a5 := cellAt hbr 5
     have f0 := freeAt hbr 0
     have f1 := freeAt hbr 1
     have f2 := freeAt hbr 2
     have f3 := freeAt hbr 3
     have f4 := freeAt hbr 4
     have f5 := freeAt hbr 5
     clear hbr
     have hzz : (0 ≤ z1 ∧ ¬ z1 < len) ∨ ¬ 0 ≤ z1 := by omega
     rcases hzz with ⟨h0, h1⟩ | h1
     all_goals (
       go_wp2_with fail
       obtain ⟨wf, hwf, hfb, hfc⟩ := put6 HBR.out (.int .i64 0) (.string ⟨#[]⟩) (.string ⟨#[]⟩) (.slice none 0 0) (.bool false) (.bool false)
       rw [hwf]
       have k0 := cellAt hfb 0
       have k1 := cellAt hfb 1
       have k2 := cellAt hfb 2
       have k3 := cellAt hfb 3
       have k4 := cellAt hfb 4
       have k5 := cellAt hfb 5
       refine bodyPost_ret (v := .tuple #[.agg #[.int .i64 0, .string ⟨#[]⟩, .string ⟨#[]⟩, .slice none 0 0, .bool false, .bool false], .bool false]) (by simp [results, Tryz.results47, go_sem, k0, k1, k2, k3, k4, k5]) rfl ?_
       exact ⟨rfl, Ch.newOnly (HC1.out.trans HC2.out) hfc (fun k _ _ e => Nat.le_of_eq (show k = w.heap.size from e).symm)⟩)
end Go.Proofs.YtgjpgfedlgdjhaaGreatDoor
end
