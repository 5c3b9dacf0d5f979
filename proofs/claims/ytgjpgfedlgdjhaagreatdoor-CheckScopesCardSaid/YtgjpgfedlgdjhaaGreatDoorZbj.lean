/- What the claim uses: part 36. -/
import Derived.Test.YtgjpgfedlgdjhaaGreatDoorZbi
section
set_option linter.unusedVariables false
set_option linter.unusedSimpArgs false
set_option maxRecDepth 8192
namespace Go.Proofs.YtgjpgfedlgdjhaaGreatDoor
open Go.RowKit Go.W
def mbOf (ms : List Mem) (r : Nat × Nat) : Option MbR := match ms[r.1]? with | some m => (m.ms[r.2]?).map (fun x => ⟨r.1, x.nm, x.ret, x.ps.map Vr.ty, x.st, x.ba⟩) | none => none
def methM (cs : List Cls) (ms : List Mem) (nm : ByteArray) (o : Option Nat) : Option MbR := match o with | some i => (methN cs ms nm i).bind (mbOf ms) | none => none
theorem upO_bind {ms : List Mem} {nm : ByteArray} : ∀ l : List Nat, (upO (lkN lkMethod ms nm) l).map Prod.snd = (upO (ownK ms nm) l).bind (mbOf ms)
 | [] => rfl
 | j :: l => by
   rw [upO_cons, upO_cons]
   unfold lkN ownK
   cases hm : ms[j]? with
   | none => exact upO_bind l
   | some m =>
     simp only
     unfold lkMethod lkMt
     cases hk : mtK m.ms nm with
     | none => exact upO_bind l
     | some k =>
       obtain ⟨x, hx, _⟩ := mtSome' hk
       simp [hx, mbOf, hm]
theorem upM_meth {cs : List Cls} {ms : List Mem} {nm : ByteArray} {o : Option Nat} : (upM cs lkMethod ms nm o).map Prod.snd = (methUp cs ms nm o).bind (mbOf ms) := upO_bind _
theorem upO_mem {ms : List Mem} {nm : ByteArray} : ∀ {l : List Nat} {r : Nat × Nat}, upO (ownK ms nm) l = some r → ∃ x, mbOf ms r = some x
 | [], r, h => by cases h
 | j :: l, r, h => by
   rw [upO_cons] at h
   unfold ownK at h
   cases hm : ms[j]? with
   | none => rw [hm] at h; exact upO_mem h
   | some m =>
     rw [hm] at h
     simp only at h
     cases hk : mtK m.ms nm with
     | none => rw [hk] at h; exact upO_mem h
     | some k =>
       rw [hk] at h
       obtain ⟨x, hx, _⟩ := mtSome' hk
       cases h
       exact ⟨_, by unfold mbOf; simp only [hm]; simp only [hx, Option.map_some]; rfl⟩
theorem methUp_none {cs : List Cls} {ms : List Mem} {nm : ByteArray} {o : Option Nat} (h : (upM cs lkMethod ms nm o).map Prod.snd = none) : methUp cs ms nm o = none := by
 rw [upM_meth] at h
 cases hr : methUp cs ms nm o with
 | none => rfl
 | some r =>
   rw [hr] at h
   obtain ⟨x, hx⟩ := upO_mem hr
   rw [Option.bind_some, hx] at h
   cases h
theorem methM_up {cs : List Cls} {ms : List Mem} (hno : NoRing cs) {nm : ByteArray} {o : Option Nat} {x : MbR} (h : (upM cs lkMethod ms nm o).map Prod.snd = some x) : methM cs ms nm o = some x := by
 rw [upM_meth] at h
 cases o with
 | none => cases h
 | some i =>
   unfold methM
   simp only
   rw [methN_step hno]
   cases hr : methUp cs ms nm (some i) with
   | none => rw [hr] at h; cases h
   | some r => rw [hr] at h; exact h
theorem methN_plain {cs : List Cls} {ms : List Mem} (hno : NoRing cs) {nm : ByteArray} {i : Nat} (h : methUp cs ms nm (some i) = none) (hf : faceB cs i = false) : methN cs ms nm i = none := by
 rw [methN_step hno, h]
 simp [hf]
theorem faceB_get {cs : List Cls} {i : Nat} {c : Cls} (hc : cs[i]? = some c) : faceB cs i = c.face := by unfold faceB; rw [hc]
theorem methN_face {cs : List Cls} {ms : List Mem} (hno : NoRing cs) {nm : ByteArray} {i : Nat} {c : Cls} (hc : cs[i]? = some c) (ho : okC cs i c) (h : methUp cs ms nm (some i) = none) (hf : c.face = true) : methN cs ms nm i = (upsN cs i).findSome? (methN cs ms nm) := by
 rw [methN_step hno, h, faceB_get hc, hf]
 simp only [if_true]
 unfold upsN facesN
 rw [hc]
 simp only
 unfold Cls.ups
 cases he : c.sup.toList.isEmpty with
 | true => simp
 | false =>
   obtain ⟨s, d, hfs, hds, hdf⟩ := ho.sup he
   have hup : supN cs i = some s := by
     unfold supN
     rw [hc]
     simp [he, hfs]
   have h2 : methUp cs ms nm (some s) = none := by
     have h3 := methUp_step (ms := ms) hno nm i
     rw [h, hup] at h3
     cases ho : ownK ms nm i with
     | none => rw [ho] at h3; exact h3.symm
     | some q => rw [ho] at h3; cases h3
   have h4 : methN cs ms nm s = none := methN_plain hno h2 (by rw [faceB_get hds]; exact hdf)
   simp [hfs, h4]
theorem findSome_at {α β : Type} {f : α → Option β} {l : List α} {k : Nat} {j : α} {r : β} (hj : l[k]? = some j) (hn : ∀ x ∈ l.take k, f x = none) (hr : f j = some r) : l.findSome? f = some r := by
 induction l generalizing k with
 | nil => simp at hj
 | cons x l ih =>
   cases k with
   | zero =>
     obtain rfl : x = j := by simpa using hj
     simp [hr]
   | succ k =>
     have h1 : f x = none := hn x (by rw [List.take_succ_cons]; exact List.mem_cons_self)
     simp only [List.findSome?_cons, h1]
     exact ih (by simpa using hj) (fun y hy => hn y (by rw [List.take_succ_cons]; exact List.mem_cons_of_mem _ hy))
theorem findSome_no {α β : Type} {f : α → Option β} {l : List α} (hn : ∀ x ∈ l, f x = none) : l.findSome? f = none := by
 rw [List.findSome?_eq_none_iff]; exact hn
theorem methM_mem {cs : List Cls} {ms : List Mem} (hno : NoRing cs) {nm : ByteArray} : ∀ (N i : Nat), rankN cs i ≤ N → ∀ r, methN cs ms nm i = some r → ∃ x, mbOf ms r = some x := by
 intro N
 induction N using Nat.strongRecOn with
 | ind N ih =>
 intro i hi r h
 rw [methN_step hno] at h
 cases hr : methUp cs ms nm (some i) with
 | some r' => rw [hr] at h; cases h; exact upO_mem hr
 | none =>
   rw [hr] at h
   simp only at h
   cases hf : faceB cs i with
   | false => rw [hf] at h; cases h
   | true =>
     rw [hf] at h
     simp only [if_true] at h
     obtain ⟨j, hj, hr'⟩ := List.exists_of_findSome?_eq_some h
     have := rank_lt hno i j (facesN_up hj)
     exact ih (rankN cs j) (by omega) j (Nat.le_refl _) r hr'
theorem IntsAt.cellI {w : World} {ao : Option Addr} {n cap : Nat} {l : List Int} (h : IntsAt w (.slice ao n cap) l) {k : Nat} {x : Int} (hk : l[k]? = some x) :
   ∃ b off, ao = some ⟨b, off, none⟩ ∧ w.cell? ⟨b, off + k, none⟩ = some (.int .i64 x) := by
 obtain ⟨ao', cap', e, _, _, _, h4⟩ := h
 cases e
 obtain ⟨b, off, rfl, h5⟩ := h4 (by have := (List.getElem?_eq_some_iff.1 hk).1; omega)
 exact ⟨b, off, rfl, h5 k x hk⟩
set_option maxHeartbeats 32000000 in
theorem mmeth {cs : List Cls} {ms : List Mem} (hS0 : SoundP cs) (hno0 : NoRing cs) (hsm0 : SmallP cs) (hln0 : ms.length = cs.length) (hfw0 : FewP ms) {nm : ByteArray} (hnz0 : nm.size ≤ maxLen) : ∀ (N : Nat) {w : World} {mb : Nat} (z : Int) (o : Option Nat), MembIs w mb cs ms → AtZ cs z o → (∀ i, o = some i → rankN cs i ≤ N) →
   Calls Tryz.prog 18 #[.pointer (some ⟨mb, 0, none⟩), .int .i64 z, .string nm] w (UpOut (methM cs ms nm o) w) := by
 intro N
 induction N using Nat.strongRecOn with
 | ind N ih =>
 intro w mb z o h hz hrk
 have hmf : ∀ (fn : Fn) (first cap : Array Value) (w : World), (Instr.makeFunc fn first cap).run Tryz.prog w = .ok (.func fn first cap) w := fun _ _ _ _ => rfl
 obtain ⟨w1, hw1⟩ : ∃ w1, w.alloc (.cells #[.string nm] 9) = w1 := ⟨_, rfl⟩
 have hb1 := heap_alloc_new w (.cells #[.string nm] 9)
 have hc1 := (Ch.refl No w).alloc (.cells #[.string nm] 9)
 rw [hw1] at hb1 hc1
 obtain ⟨w2, hw2⟩ : ∃ w2, w1.alloc (.cells #[.int .i64 0, .string ⟨#[]⟩, .string ⟨#[]⟩, .slice none 0 0, .bool false, .bool false] 54) = w2 := ⟨_, rfl⟩
 have hb2 := heap_alloc_new w1 (.cells #[.int .i64 0, .string ⟨#[]⟩, .string ⟨#[]⟩, .slice none 0 0, .bool false, .bool false] 54)
 have hc2 := (Ch.refl No w1).alloc (.cells #[.int .i64 0, .string ⟨#[]⟩, .string ⟨#[]⟩, .slice none 0 0, .bool false, .bool false] 54)
 rw [hw2] at hb2 hc2
 have HC := hid (hc1.trans hc2)
 have HB2 := hid hb2
 have HB1 := hid (hc2.keep _ _ hb1 (fun h => h))
 have hzw := hc1.size
 have hzw1 := lt_size hb1
 have hzw2 := lt_size hb2
 have hup := upMethod (h.no HC.out) hS0 hno0 hln0 hfw0 hz hnz0 (cellAt (hc2.keep _ _ hb1 (fun h => h)) 0)
 have HM := hid (h.no HC.out)
 have HIH := hid ih
 have HZ := hid hz
 have HRK := hid hrk
 clear h ih hz hrk hb1 hb2 hc1 hc2
 cases hr : (upM cs lkMethod ms nm o).map Prod.snd with
 | some x =>
   rw [hr] at hup
   have HR := hid (methM_up hno0 hr)
   clear hr
   go_enter Tryz.func18, Tryz.ntmps18
   go_wp2_with fail
   refine hup.mono ?_
   rintro e w3 ⟨⟨sa, sn, sc, rfl, hst⟩, hc3⟩
   obtain ⟨w4, hw4⟩ : ∃ w4, w3.alloc (.cells #[.int .i64 x.cls, .string x.nm, .string x.ty, .slice sa sn sc, .bool x.st, .bool x.ba] 54) = w4 := ⟨_, rfl⟩
   have hb4 := heap_alloc_new w3 (.cells #[.int .i64 x.cls, .string x.nm, .string x.ty, .slice sa sn sc, .bool x.st, .bool x.ba] 54)
   have hc4 := (Ch.refl No w3).alloc (.cells #[.int .i64 x.cls, .string x.nm, .string x.ty, .slice sa sn sc, .bool x.st, .bool x.ba] 54)
   rw [hw4] at hb4 hc4
   have HC4 := hid (HC.out.trans (hc3.trans hc4))
   have HB24 := hid ((hc3.trans hc4).keep _ _ HB2.out (fun h => h))
   have HST := hid (hst.no hc4)
   have hbb := HB24.out
   have g0 := cellAt hb4 0
   have g1 := cellAt hb4 1
   have g2 := cellAt hb4 2
   have g3 := cellAt hb4 3
   have g4 := cellAt hb4 4
   have g5 := cellAt hb4 5
   have a0 := cellAt hbb 0
   have a1 := cellAt hbb 1
   have a2 := cellAt hbb 2
   have a3 := cellAt hbb 3
   have a4 := cellAt hbb 4
   have a5 := cellAt hbb 5
   have f0 := freeAt hbb 0
   have f1 := freeAt hbb 1
   have f2 := freeAt hbb 2
   have f3 := freeAt hbb 3
   have f4 := freeAt hbb 4
   have f5 := freeAt hbb 5
   have z3 := hc3.size
   have z4 := lt_size hb4
   clear hbb hc3 hc4 hb4 hup hw1 hw2 hst
   go_wp2_with fail
   obtain ⟨wf, hwf, hfb, hfc⟩ := put6 HB24.out (.int .i64 x.cls) (.string x.nm) (.string x.ty) (.slice sa sn sc) (.bool x.st) (.bool x.ba)
   rw [hwf]
   have k0 := cellAt hfb 0
   have k1 := cellAt hfb 1
   have k2 := cellAt hfb 2
   have k3 := cellAt hfb 3
   have k4 := cellAt hfb 4
   have k5 := cellAt hfb 5
   refine bodyPost_ret (v := .tuple #[.agg #[.int .i64 x.cls, .string x.nm, .string x.ty, .slice sa sn sc, .bool x.st, .bool x.ba], .bool true]) (by simp [results, Tryz.results18, go_sem, k0, k1, k2, k3, k4, k5]) rfl ?_
   rw [HR.out]
   refine ⟨⟨sa, sn, sc, rfl, ?_⟩, Ch.newOnly HC4.out hfc (fun k _ _ e => by have e' : k = w1.heap.size := e; omega)⟩
   exact (HST.out.ch hfc (fun g cur hg hbg e => by have e' : g = w1.heap.size := e; omega)).base (by omega)
 | none =>
   rw [hr] at hup
   have HUN := hid (methUp_none hr)
   clear hr
   go_enter Tryz.func18, Tryz.ntmps18
   go_wp2_with fail
   refine hup.mono ?_
   rintro e w3 ⟨rfl, hc3⟩
   have HC3 := hid hc3
   have hb23 := hc3.keep _ _ HB2.out (fun h => h)
   have HM3 := hid (HM.out.no hc3)
   have hm3 := HM3.out
   obtain ⟨cv, m0, m1, m2, m3, m4, m5, m6, m7, m8, xv, ov, bs, hm⟩ := hm3
   obtain ⟨xb, tb, abv, ss, hxv, hx⟩ := hm.typ
   subst hxv
   have c10 := cellAt hm.blk 10
   have x0 := cellAt hx.blk 0
   have zmb := lt_size hm.blk
   have zxb := lt_size hx.blk
   have HX3 := hid hx.tab
   have HMB := hid hm.blk
   have HXB := hid hx.blk
   have hc4' : Ch No w3 (w3.alloc (.cells #[.int .i64 0, .string ⟨#[]⟩, .string ⟨#[]⟩, .slice none 0 0, .bool false, .bool false] 54)) := (Ch.refl No w3).alloc _
   have hb4' := heap_alloc_new w3 (.cells #[.int .i64 0, .string ⟨#[]⟩, .string ⟨#[]⟩, .slice none 0 0, .bool false, .bool false] 54)
   have z3 := hc3.size
   have hzo := HZ.out
   clear hup hw1 hw2 hc3 hm hx
   rcases hzo with ⟨i, rfl, hi, rfl⟩ | ⟨rfl, hzn⟩
   · obtain ⟨c, hc⟩ : ∃ c, cs[i]? = some c := ⟨_, List.getElem?_eq_getElem hi⟩
     have hfc := tFace (HX3.out.no hc4') hc
     obtain ⟨fb, hfb⟩ : ∃ fb, c.face = fb := ⟨_, rfl⟩
     rw [hfb] at hfc
     have HFB := hid hfb
     have HCS := hid hc
     clear hc hfb hi
     cases fb with
     | false =>
       go_wp2_with fail
       refine hfc.mono ?_
       rintro e w4 ⟨rfl, hw4⟩
       rw [hw4] at hc4' hb4'
       have HC4 := hid hc4'
       have HB24 := hid (hc4'.keep _ _ hb23 (fun h => h))
       have hbb := HB24.out
       have g0 := cellAt hb4' 0
       have g1 := cellAt hb4' 1
       have g2 := cellAt hb4' 2
       have g3 := cellAt hb4' 3
       have g4 := cellAt hb4' 4
       have g5 := cellAt hb4' 5
       have a0 := cellAt hbb 0
       have a1 := cellAt hbb 1
       have a2 := cellAt hbb 2
       have a3 := cellAt hbb 3
       have a4 := cellAt hbb 4
       have a5 := cellAt hbb 5
       have f0 := freeAt hbb 0
       have f1 := freeAt hbb 1
       have f2 := freeAt hbb 2
       have f3 := freeAt hbb 3
       have f4 := freeAt hbb 4
       have f5 := freeAt hbb 5
       clear hw4 hc4' hb4' hbb hfc
       go_wp2_with fail
       obtain ⟨wf, hwf, hfb, hfc'⟩ := put6 HB24.out (.int .i64 0) (.string ⟨#[]⟩) (.string ⟨#[]⟩) (.slice none 0 0) (.bool false) (.bool false)
       rw [hwf]
       have k0 := cellAt hfb 0
       have k1 := cellAt hfb 1
       have k2 := cellAt hfb 2
       have k3 := cellAt hfb 3
       have k4 := cellAt hfb 4
       have k5 := cellAt hfb 5
       refine bodyPost_ret (v := .tuple #[.agg #[.int .i64 0, .string ⟨#[]⟩, .string ⟨#[]⟩, .slice none 0 0, .bool false, .bool false], .bool false]) (by simp [results, Tryz.results18, go_sem, k0, k1, k2, k3, k4, k5]) rfl ?_
       rw [show methM cs ms nm (some i) = none from by unfold methM; simp only; rw [methN_plain hno0 HUN.out (by rw [faceB_get HCS.out]; exact HFB.out)]; rfl]
       exact ⟨rfl, Ch.newOnly (HC.out.trans (HC3.out.trans HC4.out)) hfc' (fun k _ _ e => by have e' : k = w1.heap.size := e; omega)⟩
     | true =>
       go_wp2_with fail
       refine hfc.mono ?_
       rintro e w4 ⟨rfl, hw4⟩
       rw [hw4] at hc4' hb4'
       clear hw4 hfc
       have HC4 := hid hc4'
       have c10' := cell_ch c10 hc4' (fun _ _ h => h)
       have x0' := cell_ch x0 hc4' (fun _ _ h => h)
       have hri := tRight (HX3.out.no hc4') hS0 hsm0 HCS.out
       have z4 := hc4'.size
       have HB24 := hid (hc4'.keep _ _ hb23 (fun h => h))
       have HB14 := hid ((HC3.out.trans hc4').keep _ _ HB1.out (fun h => h))
       clear hc4' hb4' c10 x0 hb23
       go_wp2_with fail
       refine hri.mono ?_
       rintro e w5 ⟨u, rfl, hu, hc5⟩
       rw [rightZ_ups HCS.out (hS0 i c HCS.out)] at hu
       have HU := hid hu.at_
       obtain ⟨ua, ucap, rfl, hucap, humax, _, _⟩ := hu.at_
       obtain ⟨n, hn⟩ : ∃ n, (upsN cs i).length = n := ⟨_, rfl⟩
       have hul := HU.out
       rw [List.length_map, hn] at hucap hul
       rw [List.length_map, hn]
       unfold maxLen at humax
       have HUL := hid hul
       have HN := hid hn
       have HC5 := hid hc5
       have hno : n ≤ 9223372036854775807 := by omega
       clear hri hu hc5 hn hul c10' x0' HU
       go_wp2_with fail
       go_loopg [46, 11, 12, 13] n (fun g s46 s11 s12 s13 wr => ∃ k : Nat, k ≤ n ∧ n - k ≤ g ∧ s46 = .int .i64 k ∧ Hid (∀ j ∈ (upsN cs i).take k, methN cs ms nm j = none) ∧ Ch No w5 wr)
       case atStart => exact ⟨0, Nat.zero_le _, by omega, rfl, hid (by simp), Ch.refl _ _⟩
       case round =>
         obtain ⟨k, hk, hg, rfl, HN', hcr⟩ := hrel
         have HCR := hid (HC4.out.trans (HC5.out.trans hcr))
         have HCR5 := hid hcr
         have hzr := HCR.out.size
         have hb2r := (HC5.out.trans hcr).keep _ _ HB24.out (fun h => h)
         have hb1r := (HC5.out.trans hcr).keep _ _ HB14.out (fun h => h)
         have HB2R := hid hb2r
         have b0 := cellAt hb1r 0
         clear hcr hb1r
         cases hd : decide (k < n) with
         | false =>
           have hkl : ¬ k < n := by simpa using hd
           have a0 := cellAt hb2r 0
           have a1 := cellAt hb2r 1
           have a2 := cellAt hb2r 2
           have a3 := cellAt hb2r 3
           have a4 := cellAt hb2r 4
           have a5 := cellAt hb2r 5
           have f0 := freeAt hb2r 0
           have f1 := freeAt hb2r 1
           have f2 := freeAt hb2r 2
           have f3 := freeAt hb2r 3
           have f4 := freeAt hb2r 4
           have f5 := freeAt hb2r 5
           clear hb2r b0
           go_wp2_with fail
           obtain ⟨wf, hwf, hfb, hfc'⟩ := put6 HB2R.out (.int .i64 0) (.string ⟨#[]⟩) (.string ⟨#[]⟩) (.slice none 0 0) (.bool false) (.bool false)
           rw [hwf]
           have k0 := cellAt hfb 0
           have k1 := cellAt hfb 1
           have k2 := cellAt hfb 2
           have k3 := cellAt hfb 3
           have k4 := cellAt hfb 4
           have k5 := cellAt hfb 5
           refine bodyPost_ret (v := .tuple #[.agg #[.int .i64 0, .string ⟨#[]⟩, .string ⟨#[]⟩, .slice none 0 0, .bool false, .bool false], .bool false]) (by simp [results, Tryz.results18, go_sem, k0, k1, k2, k3, k4, k5]) rfl ?_
           have hall := HN'.out
           rw [List.take_of_length_le (by have := HN.out; omega)] at hall
           rw [show methM cs ms nm (some i) = none from by unfold methM; simp only; rw [methN_face hno0 HCS.out (hS0 i c HCS.out) HUN.out HFB.out, findSome_no hall]; rfl]
           exact ⟨rfl, Ch.newOnly (HC.out.trans (HC3.out.trans HCR.out)) hfc' (fun k _ _ e => by have e' : k = w1.heap.size := e; omega)⟩
         | true =>
           have hkl : k < n := by simpa using hd
           obtain ⟨j, hj⟩ : ∃ j, (upsN cs i)[k]? = some j := ⟨_, List.getElem?_eq_getElem (by have := HN.out; omega)⟩
           have hcl := HUL.out.no HCR5.out
           obtain ⟨ub, uo, eua, hcell⟩ := hcl.cellI (by rw [List.getElem?_map, hj]; rfl)
           subst eua
           have hjm := List.mem_of_getElem? hj
           have hjl := upsN_lt cs i j hjm
           have hrj := rank_lt hno0 i j hjm
           have hri := HRK.out i rfl
           have hme := HIH.out (rankN cs j) (by omega) (j : Int) (some j) (HM3.out.no HCR.out) (AtZ.some hjl) (fun i' e => by cases e; exact Nat.le_refl _)
           have HJ := hid hj
           clear hcl hj hjm hjl hrj hri
           cases hmj : methN cs ms nm j with
           | none =>
             rw [show methM cs ms nm (some j) = none from by unfold methM; simp only; rw [hmj]; rfl] at hme
             have HMJ := hid hmj
             clear hmj hb2r
             go_wp2_with fail
             refine hme.mono ?_
             rintro e w6 ⟨rfl, hc6⟩
             have HC6 := hid hc6
             clear hme hc6
             go_wp2_with fail
             go_roundg (n - k - 1)
             case rel =>
               refine ⟨k + 1, by omega, by omega, by go_num, hid fun y hy => ?_, HCR5.out.trans (HC6.out.alloc _)⟩
               rw [List.take_add_one, HJ.out] at hy
               rcases List.mem_append.1 hy with hy | hy
               · exact HN'.out y hy
               · simp at hy; subst hy; exact HMJ.out
             case measure => omega
           | some r =>
             obtain ⟨x, hx⟩ := methM_mem (ms := ms) hno0 (nm := nm) (rankN cs j) j (Nat.le_refl _) r hmj
             rw [show methM cs ms nm (some j) = some x from by unfold methM; simp only; rw [hmj]; exact hx] at hme
             have HX := hid hx
             have HMJ := hid hmj
             clear hmj hx hb2r
             go_wp2_with fail
             refine hme.mono ?_
             rintro e w6 ⟨⟨sa, sn, sc, rfl, hst⟩, hc6⟩
             obtain ⟨w7, hw7⟩ : ∃ w7, w6.alloc (.cells #[.int .i64 x.cls, .string x.nm, .string x.ty, .slice sa sn sc, .bool x.st, .bool x.ba] 54) = w7 := ⟨_, rfl⟩
             have hb7 := heap_alloc_new w6 (.cells #[.int .i64 x.cls, .string x.nm, .string x.ty, .slice sa sn sc, .bool x.st, .bool x.ba] 54)
             have hc7 := (Ch.refl No w6).alloc (.cells #[.int .i64 x.cls, .string x.nm, .string x.ty, .slice sa sn sc, .bool x.st, .bool x.ba] 54)
             rw [hw7] at hb7 hc7
             have HC7 := hid (hc6.trans hc7)
             have HB27 := hid ((hc6.trans hc7).keep _ _ HB2R.out (fun h => h))
             have HST := hid (hst.no hc7)
             have hbb := HB27.out
             have g0 := cellAt hb7 0
             have g1 := cellAt hb7 1
             have g2 := cellAt hb7 2
             have g3 := cellAt hb7 3
             have g4 := cellAt hb7 4
             have g5 := cellAt hb7 5
             have a0 := cellAt hbb 0
             have a1 := cellAt hbb 1
             have a2 := cellAt hbb 2
             have a3 := cellAt hbb 3
             have a4 := cellAt hbb 4
             have a5 := cellAt hbb 5
             have f0 := freeAt hbb 0
             have f1 := freeAt hbb 1
             have f2 := freeAt hbb 2
             have f3 := freeAt hbb 3
             have f4 := freeAt hbb 4
             have f5 := freeAt hbb 5
             have z6 := hc6.size
             have z7 := lt_size hb7
             clear hbb hc6 hc7 hb7 hme hst b0
             go_wp2_with fail
             obtain ⟨wf, hwf, hfb, hfc'⟩ := put6 HB27.out (.int .i64 x.cls) (.string x.nm) (.string x.ty) (.slice sa sn sc) (.bool x.st) (.bool x.ba)
             rw [hwf]
             have k0 := cellAt hfb 0
             have k1 := cellAt hfb 1
             have k2 := cellAt hfb 2
             have k3 := cellAt hfb 3
             have k4 := cellAt hfb 4
             have k5 := cellAt hfb 5
             refine bodyPost_ret (v := .tuple #[.agg #[.int .i64 x.cls, .string x.nm, .string x.ty, .slice sa sn sc, .bool x.st, .bool x.ba], .bool true]) (by simp [results, Tryz.results18, go_sem, k0, k1, k2, k3, k4, k5]) rfl ?_
             rw [show methM cs ms nm (some i) = some x from by unfold methM; simp only; rw [methN_face hno0 HCS.out (hS0 i c HCS.out) HUN.out HFB.out, findSome_at HJ.out HN'.out HMJ.out]; exact HX.out]
             refine ⟨⟨sa, sn, sc, rfl, ?_⟩, Ch.newOnly (HC.out.trans (HC3.out.trans (HCR.out.trans HC7.out))) hfc' (fun k _ _ e => by have e' : k = w1.heap.size := e; omega)⟩
             exact (HST.out.ch hfc' (fun g cur hg hbg e => by have e' : g = w1.heap.size := e; omega)).base (by omega)
   · have hfc := tFaceNo (HX3.out.no hc4') hzn
     go_wp2_with fail
     refine hfc.mono ?_
     rintro e w4 ⟨rfl, hw4⟩
     rw [hw4] at hc4' hb4'
     have HC4 := hid hc4'
     have HB24 := hid (hc4'.keep _ _ hb23 (fun h => h))
     have hbb := HB24.out
     have g0 := cellAt hb4' 0
     have g1 := cellAt hb4' 1
     have g2 := cellAt hb4' 2
     have g3 := cellAt hb4' 3
     have g4 := cellAt hb4' 4
     have g5 := cellAt hb4' 5
     have a0 := cellAt hbb 0
     have a1 := cellAt hbb 1
     have a2 := cellAt hbb 2
     have a3 := cellAt hbb 3
     have a4 := cellAt hbb 4
     have a5 := cellAt hbb 5
     have f0 := freeAt hbb 0
     have f1 := freeAt hbb 1
     have f2 := freeAt hbb 2
     have f3 := freeAt hbb 3
     have f4 := freeAt hbb 4
     have f5 := freeAt hbb 5
     clear hw4 hc4' hb4' hbb hfc
     go_wp2_with fail
     obtain ⟨wf, hwf, hfb, hfc'⟩ := put6 HB24.out (.int .i64 0) (.string ⟨#[]⟩) (.string ⟨#[]⟩) (.slice none 0 0) (.bool false) (.bool false)
     rw [hwf]
     have k0 := cellAt hfb 0
     have k1 := cellAt hfb 1
     have k2 := cellAt hfb 2
     have k3 := cellAt hfb 3
     have k4 := cellAt hfb 4
     have k5 := cellAt hfb 5
     refine bodyPost_ret (v := .tuple #[.agg #[.int .i64 0, .string ⟨#[]⟩, .string ⟨#[]⟩, .slice none 0 0, .bool false, .bool false], .bool false]) (by simp [results, Tryz.results18, go_sem, k0, k1, k2, k3, k4, k5]) rfl ?_
     exact ⟨rfl, Ch.newOnly (HC.out.trans (HC3.out.trans HC4.out)) hfc' (fun k _ _ e => by have e' : k = w1.heap.size := e; omega)⟩
end Go.Proofs.YtgjpgfedlgdjhaaGreatDoor
end
