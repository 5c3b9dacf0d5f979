/- What the claim uses: part 22. -/
import Derived.Test.YtgjpgfedlgdjhaaGreatDoorZas
section
set_option linter.unusedVariables false
set_option linter.unusedSimpArgs false
namespace Go.Proofs.YtgjpgfedlgdjhaaGreatDoor
open Go.RowKit Go.W
theorem lookF {w : World} {mb n : Nat} {cs : List Cls} (h : MapIs Tryz.prog 9 strK w mb n (getV (find cs))) {nm : ByteArray} (hn : nm.size ≤ maxLen) :
   (Instr.lookup 142 (.map (some mb)) (.string nm) true).run Tryz.prog w = .ok (.tuple #[.int .i64 (getI (find cs) nm), .bool (getB (find cs) nm)]) w := by
 have hrun := h.lookOk lawS Tryz.underlying142 (zeroI w) (keyS hn)
 have e1 : ((getV (find cs) nm).getD (.int .i64 0)) = .int .i64 (getI (find cs) nm) := by
   unfold getV getI; cases find cs nm <;> rfl
 have e2 : (getV (find cs) nm).isSome = getB (find cs) nm := by
   unfold getV getB; cases find cs nm <;> rfl
 rw [e1, e2] at hrun
 exact hrun
theorem lookNo {w : World} {mb n : Nat} {cs : List Cls} (h : MapIs Tryz.prog 9 strK w mb n (getV (find cs))) {nm : ByteArray} (hn : nm.size ≤ maxLen) (hf : find cs nm = none) :
   (Instr.lookup 142 (.map (some mb)) (.string nm) true).run Tryz.prog w = .ok (.tuple #[.int .i64 0, .bool false]) w := by
 rw [lookF h hn]; simp [getI, getB, hf]
theorem lookYes {w : World} {mb n : Nat} {cs : List Cls} (h : MapIs Tryz.prog 9 strK w mb n (getV (find cs))) {nm : ByteArray} (hn : nm.size ≤ maxLen) {i : Nat} (hf : find cs nm = some i) :
   (Instr.lookup 142 (.map (some mb)) (.string nm) true).run Tryz.prog w = .ok (.tuple #[.int .i64 (i : Int), .bool true]) w := by
 rw [lookF h hn]; simp [getI, getB, hf]
set_option maxHeartbeats 8000000 in
set_option maxRecDepth 100000 in
theorem hkind {w : World} {pv tv : Value} {cs : List Cls} {mb mn : Nat} (h : ProgAt w pv cs) (hm : MapIs Tryz.prog 9 strK w mb mn (getV (find cs))) (hsz : SzP cs) {i : Nat} {c : Cls} (hi : cs[i]? = some c) (hl : c.faces.length ≤ 1000) :
   Calls Tryz.prog 71 #[tv, pv, .map (some mb), .agg #[.string c.name, .string c.sup, .bool c.face, .slice c.fa c.faces.length c.fc, .slice c.s4.1 c.s4.2.1 c.s4.2.2, .slice c.s5.1 c.s5.2.1 c.s5.2.2, .slice c.s6.1 c.s6.2.1 c.s6.2.2, .pointer c.p7, .int .i64 c.line, .int .i64 c.col]] w (KindOut cs c w) := by
 have hst := h.clss c hi
 obtain ⟨fa0, hfa0⟩ : ∃ fa0, c.fa = fa0 := ⟨_, rfl⟩
 rw [hfa0] at hst ⊢
 clear hfa0
 have HM := hid hm
 obtain ⟨z1, z2, z3⟩ := hsz c (List.mem_of_getElem? hi)
 have HZ3 := hid z3
 clear z3 hsz hm
 have hp := h
 obtain ⟨cv, m0, m1, m2, m3, m4, m5, m6, m7, m8, rfl, h⟩ := h
 obtain ⟨ao, cap, rfl, hcap, hmax, _, _⟩ := h.row
 rw [List.length_map] at hcap h hp ⊢
 obtain ⟨len, hlen⟩ : ∃ len, cs.length = len := ⟨_, rfl⟩
 rw [hlen] at hcap h hp ⊢
 unfold maxLen at hmax
 obtain ⟨wa, hwa⟩ : ∃ wa, w.alloc (.cells #[.slice ao len cap, m0, m1, m2, m3, m4, m5, m6, m7, m8] 31) = wa := ⟨_, rfl⟩
 have hpb := heap_alloc_new w (.cells #[.slice ao len cap, m0, m1, m2, m3, m4, m5, m6, m7, m8] 31)
 have hch := (Ch.refl No w).alloc (.cells #[.slice ao len cap, m0, m1, m2, m3, m4, m5, m6, m7, m8] 31)
 rw [hwa] at hch hpb
 have HL := hid hlen
 have HP := hid (hp.no hch)
 have HC := hid (h.no hch)
 have HPB := hid hpb
 have HCH := hid hch
 have p0 := cellAt hpb 0
 have p1 := cellAt hpb 1
 have p2 := cellAt hpb 2
 have p3 := cellAt hpb 3
 have p4 := cellAt hpb 4
 have p5 := cellAt hpb 5
 have p6 := cellAt hpb 6
 have p7 := cellAt hpb 7
 have p8 := cellAt hpb 8
 have p9 := cellAt hpb 9
 have hz := lt_size hpb
 clear hlen h hp hpb hch
 have HST := hid (hst.no HCH.out)
 have hcb := heap_alloc_new wa (.cells #[.string c.name, .string c.sup, .bool c.face, .slice fa0 c.faces.length c.fc, .slice c.s4.1 c.s4.2.1 c.s4.2.2, .slice c.s5.1 c.s5.2.1 c.s5.2.2, .slice c.s6.1 c.s6.2.1 c.s6.2.2, .pointer c.p7, .int .i64 c.line, .int .i64 c.col] 50)
 have hcc := (Ch.refl No wa).alloc (.cells #[.string c.name, .string c.sup, .bool c.face, .slice fa0 c.faces.length c.fc, .slice c.s4.1 c.s4.2.1 c.s4.2.2, .slice c.s5.1 c.s5.2.1 c.s5.2.2, .slice c.s6.1 c.s6.2.1 c.s6.2.2, .pointer c.p7, .int .i64 c.line, .int .i64 c.col] 50)
 obtain ⟨wb, hwb⟩ : ∃ wb, wa.alloc (.cells #[.string c.name, .string c.sup, .bool c.face, .slice fa0 c.faces.length c.fc, .slice c.s4.1 c.s4.2.1 c.s4.2.2, .slice c.s5.1 c.s5.2.1 c.s5.2.2, .slice c.s6.1 c.s6.2.1 c.s6.2.2, .pointer c.p7, .int .i64 c.line, .int .i64 c.col] 50) = wb := ⟨_, rfl⟩
 rw [hwb] at hcb hcc
 have hrb := heap_alloc_new wb (.cells #[.string { data := #[] }, .bool false, .int .i64 0, .slice none 0 0] 147)
 have hcr := (Ch.refl No wb).alloc (.cells #[.string { data := #[] }, .bool false, .int .i64 0, .slice none 0 0] 147)
 obtain ⟨wc, hwc⟩ : ∃ wc, wb.alloc (.cells #[.string { data := #[] }, .bool false, .int .i64 0, .slice none 0 0] 147) = wc := ⟨_, rfl⟩
 rw [hwc] at hrb hcr
 have HCC := hid (hcc.trans hcr)
 have hpc := (hcc.trans hcr).keep _ _ HPB.out (fun h => h)
 have hdc := hcr.keep _ _ hcb (fun h => h)
 have HRB := hid hrb
 clear p0 p1 p2 p3 p4 p5 p6 p7 p8 p9
 have p0 := cellAt hpc 0
 have p1 := cellAt hpc 1
 have p2 := cellAt hpc 2
 have p3 := cellAt hpc 3
 have p4 := cellAt hpc 4
 have p5 := cellAt hpc 5
 have p6 := cellAt hpc 6
 have p7 := cellAt hpc 7
 have p8 := cellAt hpc 8
 have p9 := cellAt hpc 9
 have d0 := cellAt hdc 0
 have d1 := cellAt hdc 1
 have d2 := cellAt hdc 2
 have d3 := cellAt hdc 3
 have d4 := cellAt hdc 4
 have d5 := cellAt hdc 5
 have d6 := cellAt hdc 6
 have d7 := cellAt hdc 7
 have d8 := cellAt hdc 8
 have d9 := cellAt hdc 9
 have r0 := cellAt hrb 0
 have r1 := cellAt hrb 1
 have r2 := cellAt hrb 2
 have r3 := cellAt hrb 3
 have f0 := freeAt hrb 0
 have f1 := freeAt hrb 1
 have f2 := freeAt hrb 2
 have f3 := freeAt hrb 3
 have z5 := lt_size hpc
 have z6 := lt_size hdc
 have z7 := lt_size hrb
 have z8 := lt_size hcb
 have HM1 := hid (HM.out.ch (HCH.out.trans HCC.out) (fun _ _ h => h))
 have HS1 := hid (HST.out.no HCC.out)
 have HP1 := hid (HP.out.no HCC.out)
 have HC1 := hid (HC.out.no HCC.out)
 clear hcb hcc hrb hcr hpc hdc
 go_enter Tryz.func71, Tryz.ntmps71
 have HBR := hid (((Ch.refl No wc).alloc (.cells #[.string c.name, .bool c.face, .int .i64 (-1), .slice none 0 0] 147)).keep _ _ HRB.out (fun h => h))
 cases hs : c.sup.toList.isEmpty with
 | true =>
   go_wp2_with fail
   clear hwa hwb hwc
   have HKB0 := hid (heap_alloc_new wc (.cells #[.string c.name, .bool c.face, .int .i64 (-1), .slice none 0 0] 147))
   go_loopg [48] c.faces.length (fun g s48 wr => ∃ (k : Nat) (fa : Option Addr) (fc : Nat), k ≤ c.faces.length ∧ c.faces.length - k ≤ g ∧ s48 = .int .i64 k ∧ Hid (okF cs c k) ∧ wr.heap[wc.heap.size]? = some (.cells #[.string c.name, .bool c.face, .int .i64 (-1), .slice fa k fc] 147 (0, 0)) ∧ IntsOwn wr (wc.heap.size + 1) (.slice fa k fc) (fzL cs c k) ∧ Ch No wc wr)
   case atStart => exact ⟨0, _, _, Nat.zero_le _, by omega, rfl, hid (fun k f h => absurd h (Nat.not_lt_zero _)), HKB0.out, IntsOwn.nil _ _, (Ch.refl _ _).alloc _⟩
   case round =>
     obtain ⟨k, fa, fcp, hk, hg, rfl, HN, hkb, hown, hc⟩ := hrel
     obtain ⟨R, Z⟩ := chRules hc
     have FR := chFroz hc
     have hkz := lt_size hkb
     have kb0 := cellAt hkb 0
     have kb1 := cellAt hkb 1
     have kb2 := cellAt hkb 2
     have kb3 := cellAt hkb 3
     have kf0 := freeAt hkb 0
     have kf1 := freeAt hkb 1
     have kf2 := freeAt hkb 2
     have kf3 := freeAt hkb 3
     have HKB := hid hkb
     have HOW := hid hown
     have HC2 := hid hc
     clear hkb hown hc
     cases hd : decide (k < c.faces.length) with
     | false =>
       have hkl : ¬ k < c.faces.length := by simpa using hd
       go_wp2_with fail
       obtain ⟨wf, hwf, hfb, hfc⟩ := put4 (HC2.out.keep _ _ HRB.out (fun h => h)) (.string c.name) (.bool c.face) (.int .i64 (-1)) (.slice fa k fcp)
       rw [hwf]
       have k0 := cellAt hfb 0
       have k1 := cellAt hfb 1
       have k2 := cellAt hfb 2
       have k3 := cellAt hfb 3
       refine bodyPost_ret (v := .tuple #[.agg #[.string c.name, .bool c.face, .int .i64 (-1), .slice fa k fcp], .bool true]) (by simp [results, Tryz.results71, go_sem, k0, k1, k2, k3]) rfl ?_
       have hlast := HOW.out
       rw [fzLend (by omega)] at hlast
       have ekl : k = c.faces.length := by omega
       refine ⟨((HCH.out.trans HCC.out).trans HC2.out).trans' hfc (fun j o ho e => by have e' : j = wb.heap.size := e; have := lt_size ho; omega), .inl ⟨⟨(fun h => by rw [hs] at h; cases h), by rw [← ekl]; exact HN.out⟩, fa, fcp, by rw [supZ_no hs, ekl], ?_⟩⟩
       rw [ekl] at hlast
       refine (hlast.ch hfc (fun g o hg hbg ho e => by have e' : g = wb.heap.size := e; omega)).base (by omega)
     | true =>
       have hkl : k < c.faces.length := by simpa using hd
       obtain ⟨x, hx⟩ : ∃ x, c.faces[k]? = some x := ⟨_, List.getElem?_eq_getElem hkl⟩
       obtain ⟨_, fb, fo, hfa, hq⟩ := (HS1.out.no HC2.out).cell hx
       have hxs := HZ3.out x (List.mem_of_getElem? hx)
       subst hfa
       have HX := hid hx
       clear hx
       have hmr := HM1.out.ch HC2.out (fun _ _ h => h)
       cases hf : find cs x with
       | none =>
         have hlk := lookNo hmr hxs hf
         have HF := hid hf
         clear hf hmr
         go_wp2_with fail
         obtain ⟨wf, hwf, hfb, hfc⟩ := put4 (HC2.out.keep _ _ HRB.out (fun h => h)) (.string c.name) (.bool c.face) (.int .i64 (-1)) (.slice fa k fcp)
         rw [hwf]
         have k0 := cellAt hfb 0
         have k1 := cellAt hfb 1
         have k2 := cellAt hfb 2
         have k3 := cellAt hfb 3
         refine bodyPost_ret (v := .tuple #[.agg #[.string c.name, .bool c.face, .int .i64 (-1), .slice fa k fcp], .bool false]) (by simp [results, Tryz.results71, go_sem, k0, k1, k2, k3]) rfl ?_
         refine ⟨((HCH.out.trans HCC.out).trans HC2.out).trans' hfc (fun j o ho e => by have e' : j = wb.heap.size := e; have := lt_size ho; omega), .inr ⟨fun h => ?_, _, _, _, _, rfl⟩⟩
         obtain ⟨⟨j, d, h5, _⟩, _⟩ := h.faces k x hkl HX.out
         rw [HF.out] at h5; cases h5
       | some j =>
         obtain ⟨d, hdj, _⟩ := find_some hf
         have hlk := lookYes hmr hxs hf
         have hfc0 := HC1.out.cell hdj
         obtain ⟨cb, co, cc, ecs, hcell, _, _⟩ := hfc0
         rw [HL.out] at ecs
         cases ecs
         have q2 := hcell.q2
         have qzz := block_lt_of_cell q2
         have hjl : j < len := by have := (List.getElem?_eq_some_iff.1 hdj).1; have := HL.out; omega
         have HF := hid hf
         have HD := hid hdj
         clear hf hmr hdj hcell
         cases hfd : d.face with
         | false =>
           rw [hfd] at q2
           go_wp2_with fail
           obtain ⟨wf, hwf, hfb, hfc⟩ := put4 (HC2.out.keep _ _ HRB.out (fun h => h)) (.string c.name) (.bool c.face) (.int .i64 (-1)) (.slice fa k fcp)
           rw [hwf]
           have k0 := cellAt hfb 0
           have k1 := cellAt hfb 1
           have k2 := cellAt hfb 2
           have k3 := cellAt hfb 3
           refine bodyPost_ret (v := .tuple #[.agg #[.string c.name, .bool c.face, .int .i64 (-1), .slice fa k fcp], .bool false]) (by simp [results, Tryz.results71, go_sem, k0, k1, k2, k3]) rfl ?_
           refine ⟨((HCH.out.trans HCC.out).trans HC2.out).trans' hfc (fun j o ho e => by have e' : j = wb.heap.size := e; have := lt_size ho; omega), .inr ⟨fun h => ?_, _, _, _, _, rfl⟩⟩
           obtain ⟨⟨j', d', h5, h6, h7⟩, _⟩ := h.faces k x hkl HX.out
           rw [HF.out] at h5; cases h5
           rw [HD.out] at h6; cases h6
           rw [hfd] at h7; cases h7
         | true =>
           rw [hfd] at q2
           have hco := scontainsI HOW.out.at_ (j : Int)
           cases hin : decide ((j : Int) ∈ fzL cs c k) with
           | true =>
             rw [hin] at hco
             have HIN := hid hin
             clear hin
             go_wp2_with fail
             refine hco.mono ?_
             rintro e w6 ⟨rfl, rfl⟩
             go_wp2_with fail
             obtain ⟨wf, hwf, hfb, hfc⟩ := put4 (HC2.out.keep _ _ HRB.out (fun h => h)) (.string c.name) (.bool c.face) (.int .i64 (-1)) (.slice fa k fcp)
             rw [hwf]
             have k0 := cellAt hfb 0
             have k1 := cellAt hfb 1
             have k2 := cellAt hfb 2
             have k3 := cellAt hfb 3
             refine bodyPost_ret (v := .tuple #[.agg #[.string c.name, .bool c.face, .int .i64 (-1), .slice fa k fcp], .bool false]) (by simp [results, Tryz.results71, go_sem, k0, k1, k2, k3]) rfl ?_
             refine ⟨((HCH.out.trans HCC.out).trans HC2.out).trans' hfc (fun j o ho e => by have e' : j = wb.heap.size := e; have := lt_size ho; omega), .inr ⟨fun h => ?_, _, _, _, _, rfl⟩⟩
             have hm : (j : Int) ∈ fzL cs c k := by simpa using HIN.out
             exact okFnot HX.out ((okFmem HN.out HF.out).1 hm) h.faces
           | false =>
             rw [hin] at hco
             have HIN := hid hin
             clear hin
             have hlen1 : (fzL cs c k).length + [(j : Int)].length ≤ 10000000 := by rw [fzLlen hk, List.length_singleton]; omega
             go_wp2_with (first | (go_at_call 106; refine hco.mono ?_; rintro e w6 ⟨rfl, rfl⟩) | (at_builtin; go_must (refine wpAppendI2 rfl _ _ rfl (wc.heap.size + 1) _ (fzL cs c k) [(j : Int)] rfl (HOW.out.alloc _) (.slice (some ⟨wr.heap.size, 0, none⟩) 1 1) rfl (one_at wr _) Nat.zero_lt_one hlen1 (by (simp; omega)) ?_)))
             intro v4 w4 hown4 hgrow4 _
             obtain ⟨fa4, fc4, rfl⟩ := hown4.shape
             rw [List.length_append, fzLlen hk, List.length_singleton] at hown4
             rw [List.length_append, fzLlen hk, List.length_singleton]
             have hch4 := grown_ch hgrow4
             have hlt : ∀ j, (Value.slice fa k fcp).ownBlock = some j → wc.heap.size + 1 ≤ j := fun j hj => (HOW.out.lt j hj).1
             have hkb4 := hch4.keep _ _ HKB.out (fun h => by have := hlt _ h; omega)
             have hc4 : Ch No wc w4 := HC2.out.trans' hch4 (fun j o ho h => by have := hlt _ h; have := lt_size ho; omega)
             have kc3 := cellAt hkb4 3
             have kg3 := freeAt hkb4 3
             have hkz4 := lt_size hkb4
             have HG := hid hkb4
             have HO4 := hid hown4
             have HC4 := hid hc4
             clear hgrow4 hch4 hlt hkb4 hown4 hc4 R Z FR kb0 kb1 kb2 kb3 kf0 kf1 kf2 kf3
             go_wp2_with fail
             go_roundg (c.faces.length - k - 1)
             case rel =>
               refine ⟨k + 1, fa4, fc4, by omega, by omega, by go_num, hid (okFstep HN.out HX.out HF.out HD.out hfd ?_), ?_, ?_, HC4.out.setNew (Nat.le_refl _) _⟩
               · intro hm
                 have := (okFmem HN.out HF.out).2 hm
                 have h2 := HIN.out
                 simp only [decide_eq_false_iff_not] at h2
                 exact h2 this
               · rw [setCell_heap HG.out]; rfl
               · rw [fzLsucc HX.out HF.out]
                 refine IntsOwn.ch (S := fun k _ => k = wc.heap.size) ?_ ((Ch.refl _ _).setCell (fun _ _ => rfl) _) (fun g o hg hbg ho e => by have e' : g = wc.heap.size := e; omega)
                 exact HO4.out
             case measure => omega
 | false =>
   cases hfs : find cs c.sup with
   | none =>
     have hlk := lookNo (HM1.out.ch ((Ch.refl No wc).alloc (.cells #[.string c.name, .bool c.face, .int .i64 (-1), .slice none 0 0] 147)) (fun _ _ h => h)) z2 hfs
     have HF := hid hfs
     clear hfs
     go_wp2_with fail
     obtain ⟨wf, hwf, hfb, hfc⟩ := put4 (HRB.out) (.string c.name) (.bool c.face) (.int .i64 (-1)) (.slice none 0 0)
     rw [hwf]
     have k0 := cellAt hfb 0
     have k1 := cellAt hfb 1
     have k2 := cellAt hfb 2
     have k3 := cellAt hfb 3
     have kz := lt_size hfb
     refine bodyPost_ret (v := .tuple #[.agg #[.string c.name, .bool c.face, .int .i64 (-1), .slice none 0 0], .bool false]) (by simp [results, Tryz.results71, go_sem, k0, k1, k2, k3, kz]) rfl ?_
     refine ⟨((HCH.out.trans HCC.out).trans' hfc (fun j o ho e => by have e' : j = wb.heap.size := e; have := lt_size ho; omega)).alloc _, .inr ⟨fun h => ?_, _, _, _, _, rfl⟩⟩
     obtain ⟨s, d, h5, _⟩ := h.sup hs
     rw [HF.out] at h5; cases h5
   | some s =>
     obtain ⟨ds, hds, _⟩ := find_some hfs
     have hlk := lookYes (HM1.out.ch ((Ch.refl No wc).alloc (.cells #[.string c.name, .bool c.face, .int .i64 (-1), .slice none 0 0] 147)) (fun _ _ h => h)) z2 hfs
     obtain ⟨cb, co, cc, ecs, hcell, _, _⟩ := HC1.out.cell hds
     rw [HL.out] at ecs
     cases ecs
     have qs2 := hcell.q2
     have qz := block_lt_of_cell qs2
     have hjl : s < len := by have := (List.getElem?_eq_some_iff.1 hds).1; have := HL.out; omega
     have HFS := hid hfs
     have HDS := hid hds
     clear hfs hds hcell
     cases hsf : ds.face with
     | true =>
       rw [hsf] at qs2
       go_wp2_with fail
       obtain ⟨wf, hwf, hfb, hfc⟩ := put4 (HRB.out) (.string c.name) (.bool c.face) (.int .i64 (-1)) (.slice none 0 0)
       rw [hwf]
       have k0 := cellAt hfb 0
       have k1 := cellAt hfb 1
       have k2 := cellAt hfb 2
       have k3 := cellAt hfb 3
       have kz := lt_size hfb
       refine bodyPost_ret (v := .tuple #[.agg #[.string c.name, .bool c.face, .int .i64 (-1), .slice none 0 0], .bool false]) (by simp [results, Tryz.results71, go_sem, k0, k1, k2, k3, kz]) rfl ?_
       refine ⟨((HCH.out.trans HCC.out).trans' hfc (fun j o ho e => by have e' : j = wb.heap.size := e; have := lt_size ho; omega)).alloc _, .inr ⟨fun h => ?_, _, _, _, _, rfl⟩⟩
       obtain ⟨s', d', h5, h6, h7⟩ := h.sup hs
       rw [HFS.out] at h5; cases h5
       rw [HDS.out] at h6; cases h6
       rw [hsf] at h7; cases h7
     | false =>
       rw [hsf] at qs2
       go_wp2_with fail
       clear hwa hwb hwc
       have HKB0 := hid (heap_alloc_new wc (.cells #[.string c.name, .bool c.face, .int .i64 (s : Int), .slice none 0 0] 147))
       go_loopg [48] c.faces.length (fun g s48 wr => ∃ (k : Nat) (fa : Option Addr) (fc : Nat), k ≤ c.faces.length ∧ c.faces.length - k ≤ g ∧ s48 = .int .i64 k ∧ Hid (okF cs c k) ∧ wr.heap[wc.heap.size]? = some (.cells #[.string c.name, .bool c.face, .int .i64 (s), .slice fa k fc] 147 (0, 0)) ∧ IntsOwn wr (wc.heap.size + 1) (.slice fa k fc) (fzL cs c k) ∧ Ch No wc wr)
       case atStart => exact ⟨0, _, _, Nat.zero_le _, by omega, rfl, hid (fun k f h => absurd h (Nat.not_lt_zero _)), HKB0.out, IntsOwn.nil _ _, (Ch.refl _ _).alloc _⟩
       case round =>
         obtain ⟨k, fa, fcp, hk, hg, rfl, HN, hkb, hown, hc⟩ := hrel
         obtain ⟨R, Z⟩ := chRules hc
         have FR := chFroz hc
         have hkz := lt_size hkb
         have kb0 := cellAt hkb 0
         have kb1 := cellAt hkb 1
         have kb2 := cellAt hkb 2
         have kb3 := cellAt hkb 3
         have kf0 := freeAt hkb 0
         have kf1 := freeAt hkb 1
         have kf2 := freeAt hkb 2
         have kf3 := freeAt hkb 3
         have HKB := hid hkb
         have HOW := hid hown
         have HC2 := hid hc
         clear hkb hown hc
         cases hd : decide (k < c.faces.length) with
         | false =>
           have hkl : ¬ k < c.faces.length := by simpa using hd
           go_wp2_with fail
           obtain ⟨wf, hwf, hfb, hfc⟩ := put4 (HC2.out.keep _ _ HRB.out (fun h => h)) (.string c.name) (.bool c.face) (.int .i64 (s)) (.slice fa k fcp)
           rw [hwf]
           have k0 := cellAt hfb 0
           have k1 := cellAt hfb 1
           have k2 := cellAt hfb 2
           have k3 := cellAt hfb 3
           refine bodyPost_ret (v := .tuple #[.agg #[.string c.name, .bool c.face, .int .i64 (s), .slice fa k fcp], .bool true]) (by simp [results, Tryz.results71, go_sem, k0, k1, k2, k3]) rfl ?_
           have hlast := HOW.out
           rw [fzLend (by omega)] at hlast
           have ekl : k = c.faces.length := by omega
           refine ⟨((HCH.out.trans HCC.out).trans HC2.out).trans' hfc (fun j o ho e => by have e' : j = wb.heap.size := e; have := lt_size ho; omega), .inl ⟨⟨(fun _ => ⟨s, ds, HFS.out, HDS.out, hsf⟩), by rw [← ekl]; exact HN.out⟩, fa, fcp, by rw [supZ_yes hs, findZ_some HFS.out, ekl], ?_⟩⟩
           rw [ekl] at hlast
           refine (hlast.ch hfc (fun g o hg hbg ho e => by have e' : g = wb.heap.size := e; omega)).base (by omega)
         | true =>
           have hkl : k < c.faces.length := by simpa using hd
           obtain ⟨x, hx⟩ : ∃ x, c.faces[k]? = some x := ⟨_, List.getElem?_eq_getElem hkl⟩
           obtain ⟨_, fb, fo, hfa, hq⟩ := (HS1.out.no HC2.out).cell hx
           have hxs := HZ3.out x (List.mem_of_getElem? hx)
           subst hfa
           have HX := hid hx
           clear hx
           have hmr := HM1.out.ch HC2.out (fun _ _ h => h)
           cases hf : find cs x with
           | none =>
             have hlk := lookNo hmr hxs hf
             have HF := hid hf
             clear hf hmr
             go_wp2_with fail
             obtain ⟨wf, hwf, hfb, hfc⟩ := put4 (HC2.out.keep _ _ HRB.out (fun h => h)) (.string c.name) (.bool c.face) (.int .i64 (s)) (.slice fa k fcp)
             rw [hwf]
             have k0 := cellAt hfb 0
             have k1 := cellAt hfb 1
             have k2 := cellAt hfb 2
             have k3 := cellAt hfb 3
             refine bodyPost_ret (v := .tuple #[.agg #[.string c.name, .bool c.face, .int .i64 (s), .slice fa k fcp], .bool false]) (by simp [results, Tryz.results71, go_sem, k0, k1, k2, k3]) rfl ?_
             refine ⟨((HCH.out.trans HCC.out).trans HC2.out).trans' hfc (fun j o ho e => by have e' : j = wb.heap.size := e; have := lt_size ho; omega), .inr ⟨fun h => ?_, _, _, _, _, rfl⟩⟩
             obtain ⟨⟨j, d, h5, _⟩, _⟩ := h.faces k x hkl HX.out
             rw [HF.out] at h5; cases h5
           | some j =>
             obtain ⟨d, hdj, _⟩ := find_some hf
             have hlk := lookYes hmr hxs hf
             have hfc0 := HC1.out.cell hdj
             obtain ⟨cb, co, cc, ecs, hcell, _, _⟩ := hfc0
             rw [HL.out] at ecs
             cases ecs
             have q2 := hcell.q2
             have qzz := block_lt_of_cell q2
             have hjl : j < len := by have := (List.getElem?_eq_some_iff.1 hdj).1; have := HL.out; omega
             have HF := hid hf
             have HD := hid hdj
             clear hf hmr hdj hcell
             cases hfd : d.face with
             | false =>
               rw [hfd] at q2
               go_wp2_with fail
               obtain ⟨wf, hwf, hfb, hfc⟩ := put4 (HC2.out.keep _ _ HRB.out (fun h => h)) (.string c.name) (.bool c.face) (.int .i64 (s)) (.slice fa k fcp)
               rw [hwf]
               have k0 := cellAt hfb 0
               have k1 := cellAt hfb 1
               have k2 := cellAt hfb 2
               have k3 := cellAt hfb 3
               refine bodyPost_ret (v := .tuple #[.agg #[.string c.name, .bool c.face, .int .i64 (s), .slice fa k fcp], .bool false]) (by simp [results, Tryz.results71, go_sem, k0, k1, k2, k3]) rfl ?_
               refine ⟨((HCH.out.trans HCC.out).trans HC2.out).trans' hfc (fun j o ho e => by have e' : j = wb.heap.size := e; have := lt_size ho; omega), .inr ⟨fun h => ?_, _, _, _, _, rfl⟩⟩
               obtain ⟨⟨j', d', h5, h6, h7⟩, _⟩ := h.faces k x hkl HX.out
               rw [HF.out] at h5; cases h5
               rw [HD.out] at h6; cases h6
               rw [hfd] at h7; cases h7
             | true =>
               rw [hfd] at q2
               have hco := scontainsI HOW.out.at_ (j : Int)
               cases hin : decide ((j : Int) ∈ fzL cs c k) with
               | true =>
                 rw [hin] at hco
                 have HIN := hid hin
                 clear hin
                 go_wp2_with fail
                 refine hco.mono ?_
                 rintro e w6 ⟨rfl, rfl⟩
                 go_wp2_with fail
                 obtain ⟨wf, hwf, hfb, hfc⟩ := put4 (HC2.out.keep _ _ HRB.out (fun h => h)) (.string c.name) (.bool c.face) (.int .i64 (s)) (.slice fa k fcp)
                 rw [hwf]
                 have k0 := cellAt hfb 0
                 have k1 := cellAt hfb 1
                 have k2 := cellAt hfb 2
                 have k3 := cellAt hfb 3
                 refine bodyPost_ret (v := .tuple #[.agg #[.string c.name, .bool c.face, .int .i64 (s), .slice fa k fcp], .bool false]) (by simp [results, Tryz.results71, go_sem, k0, k1, k2, k3]) rfl ?_
                 refine ⟨((HCH.out.trans HCC.out).trans HC2.out).trans' hfc (fun j o ho e => by have e' : j = wb.heap.size := e; have := lt_size ho; omega), .inr ⟨fun h => ?_, _, _, _, _, rfl⟩⟩
                 have hm : (j : Int) ∈ fzL cs c k := by simpa using HIN.out
                 exact okFnot HX.out ((okFmem HN.out HF.out).1 hm) h.faces
               | false =>
                 rw [hin] at hco
                 have HIN := hid hin
                 clear hin
                 have hlen1 : (fzL cs c k).length + [(j : Int)].length ≤ 10000000 := by rw [fzLlen hk, List.length_singleton]; omega
                 go_wp2_with (first | (go_at_call 106; refine hco.mono ?_; rintro e w6 ⟨rfl, rfl⟩) | (at_builtin; go_must (refine wpAppendI2 rfl _ _ rfl (wc.heap.size + 1) _ (fzL cs c k) [(j : Int)] rfl (HOW.out.alloc _) (.slice (some ⟨wr.heap.size, 0, none⟩) 1 1) rfl (one_at wr _) Nat.zero_lt_one hlen1 (by (simp; omega)) ?_)))
                 intro v4 w4 hown4 hgrow4 _
                 obtain ⟨fa4, fc4, rfl⟩ := hown4.shape
                 rw [List.length_append, fzLlen hk, List.length_singleton] at hown4
                 rw [List.length_append, fzLlen hk, List.length_singleton]
                 have hch4 := grown_ch hgrow4
                 have hlt : ∀ j, (Value.slice fa k fcp).ownBlock = some j → wc.heap.size + 1 ≤ j := fun j hj => (HOW.out.lt j hj).1
                 have hkb4 := hch4.keep _ _ HKB.out (fun h => by have := hlt _ h; omega)
                 have hc4 : Ch No wc w4 := HC2.out.trans' hch4 (fun j o ho h => by have := hlt _ h; have := lt_size ho; omega)
                 have kc3 := cellAt hkb4 3
                 have kg3 := freeAt hkb4 3
                 have hkz4 := lt_size hkb4
                 have HG := hid hkb4
                 have HO4 := hid hown4
                 have HC4 := hid hc4
                 clear hgrow4 hch4 hlt hkb4 hown4 hc4 R Z FR kb0 kb1 kb2 kb3 kf0 kf1 kf2 kf3
                 go_wp2_with fail
                 go_roundg (c.faces.length - k - 1)
                 case rel =>
                   refine ⟨k + 1, fa4, fc4, by omega, by omega, by go_num, hid (okFstep HN.out HX.out HF.out HD.out hfd ?_), ?_, ?_, HC4.out.setNew (Nat.le_refl _) _⟩
                   · intro hm
                     have := (okFmem HN.out HF.out).2 hm
                     have h2 := HIN.out
                     simp only [decide_eq_false_iff_not] at h2
                     exact h2 this
                   · rw [setCell_heap HG.out]; rfl
                   · rw [fzLsucc HX.out HF.out]
                     refine IntsOwn.ch (S := fun k _ => k = wc.heap.size) ?_ ((Ch.refl _ _).setCell (fun _ _ => rfl) _) (fun g o hg hbg ho e => by have e' : g = wc.heap.size := e; omega)
                     exact HO4.out
                 case measure => omega
end Go.Proofs.YtgjpgfedlgdjhaaGreatDoor
end
