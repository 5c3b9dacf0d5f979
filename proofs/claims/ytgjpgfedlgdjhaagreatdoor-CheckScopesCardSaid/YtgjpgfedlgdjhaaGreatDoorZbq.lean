/- What the claim uses: part 43. -/
import Derived.Test.YtgjpgfedlgdjhaaGreatDoorZbp
section
set_option linter.unusedVariables false
set_option linter.unusedSimpArgs false
set_option maxRecDepth 8192
namespace Go.Proofs.YtgjpgfedlgdjhaaGreatDoor
open Go.RowKit Go.W
def GoodR (cs : List Cls) (ms : List Mem) : Prop := ∀ (i : Nat) (c : Cls) (m : Mem), cs[i]? = some c → ms[i]? = some m → RightOk cs ms i c m
def MembsOk (cs : List Cls) (ms : List Mem) : Prop := FaultAt cs none ∧ GoodR cs ms
def NewM (cs : List Cls) (ms : List Mem) (w : World) (e : Ending) (w' : World) : Prop :=
 Ch No w w' ∧ ((∃ mb, e = .returned (.tuple #[.pointer (some ⟨mb, 0, none⟩), .agg #[.int .i64 0, .int .i64 0, .int .i64 0]]) ∧ MembIs w' mb cs ms ∧ MembsOk cs ms) ∨
   (∃ l c, e = .returned (.tuple #[.pointer none, .agg #[.int .i64 11, .int .i64 l, .int .i64 c]]) ∧ ¬ MembsOk cs ms))
def NoStr : Nat → Obj → Prop := fun _ o => ∃ cur t, o = .cells cur t (0, 0) ∧ t ≠ 9
theorem OwnB.chS {w w' : World} {b : Nat × Nat × Nat} {i : Nat} {m : Mem} (h : OwnB w b i m) (hc : Ch NoStr w w') : OwnB w' b i m := by
 have hm : ∀ (k : Nat) (es : Array MapEntry) (c : Nat), ¬ NoStr k (.map es c) := fun k es c ⟨cur, t, e, _⟩ => by cases e
 obtain ⟨n1, n2, n3, pv, h1, h2, h3, h4, h5⟩ := h.ex
 exact ⟨n1, n2, n3, pv, h1.ch hc (fun _ _ => hm _ _ _), h2.ch hc (fun _ _ => hm _ _ _), h3.ch hc (fun _ _ => hm _ _ _), h4, fun k x hx => (h5 k x hx).ch hc (fun g cur _ _ ⟨cur', t, e, ht⟩ => by cases e; exact ht rfl)⟩
theorem Tryz.infoOwn : (Tryz.prog.info? 100).map (fun i => (i.zero.map (fun z => z.cells.size), i.size, i.bytes)) = some (some 3, 3, 24) := by kernel_rfl
theorem Tryz.sliceOwn : Tryz.prog.underlying 95 = some (.slice 100) := by kernel_rfl
theorem ownsRowAt {w : World} {base : Nat} {v : Value} {bs : List (Nat × Nat × Nat)} (h : w.ownsRow base 100 3 v bs.length (bs.flatMap ownCells)) : RowAt w v 3 (bs.map ownCells) := by
 rcases h.2 with ⟨rfl, h0⟩ | ⟨g, cap, cur, rfl, hg, hh, h4, h5, h6, h7⟩
 · have : bs = [] := List.length_eq_zero_iff.1 h0
   subst this
   exact ⟨none, 0, rfl, Nat.le_refl _, Nat.zero_le _, by simp, fun h => by simp at h⟩
 · refine ⟨some ⟨g, 0, none⟩, cap, by rw [List.length_map], by rw [List.length_map]; exact h4, h5, fun c hc => ?_, fun _ => ⟨g, 0, rfl, fun i c hi j hj => ?_⟩⟩
   · obtain ⟨k, _, rfl⟩ := List.mem_map.1 hc
     rfl
   · rw [List.getElem?_map] at hi
     cases hk : bs[i]? with
     | none => rw [hk] at hi; cases hi
     | some k =>
       rw [hk] at hi
       have : c = ownCells k := by simpa using hi.symm
       subst this
       have hil := (List.getElem?_eq_some_iff.1 hk).1
       rw [cellAt hh, Nat.zero_add, ← Array.getElem?_toList]
       have hf := flat_get ownCells 3 (fun _ => rfl) bs i j k hk hj
       rw [← h7, List.getElem?_take, if_pos (by omega)] at hf
       exact hf
theorem one3 (a b c : Nat) : ∀ u ∈ [Value.map (some a), .map (some b), .map (some c)], u.oneCell' = true := by
 intro u hu
 simp at hu
 rcases hu with rfl | rfl | rfl <;> rfl
theorem Ch.same {a w : World} {b : Nat} {o : Obj} (h : a.heap[b]? = some o) (h' : w.heap[b]? = some o) (hc : Ch (fun k _ => k = b) a w) : Ch No a w :=
 ⟨hc.os, hc.tape, hc.output, hc.size, fun k o' ho _ => by
   by_cases e : k = b
   · subst e
     rw [h] at ho; cases ho
     exact h'
   · exact hc.keep k o' ho e⟩
theorem noRingOf {cs : List Cls} (h : FaultAt cs none) : NoRing cs := h.2
set_option maxRecDepth 100000 in
set_option maxHeartbeats 64000000 in
theorem mnew {w : World} {pv : Value} {cs : List Cls} {ms : List Mem} (h : ProgAt w pv cs) (hm : MemsAt w cs ms) (hT : Tab w) (hsz : SzP cs) (hszm : SzM ms) (hsm : SmallP cs) (hfm : ∀ m ∈ ms, FewM m) :
   Calls Tryz.prog 15 #[pv] w (NewM cs ms w) := by
 have HSM := hid hsm
 have HSZ := hid hsz
 have HSZM := hid hszm
 have HT0 := hid hT
 have HM0 := hid hm
 have HFM := hid hfm
 have HLN := hid hm.len
 have HP0 := hid h
 clear hsm hsz hszm hT hm hfm
 have hp := h
 obtain ⟨cv, m0, m1, m2, m3, m4, m5, m6, m7, m8, rfl, h⟩ := h
 obtain ⟨ao, cap, rfl, hcap, hmax, _, _⟩ := h.row
 rw [List.length_map] at hcap h hp ⊢
 obtain ⟨len, hlen⟩ : ∃ len, cs.length = len := ⟨_, rfl⟩
 rw [hlen] at hcap h hp ⊢
 unfold maxLen at hmax
 obtain ⟨wa, hwa⟩ : ∃ wa, w.alloc (.cells #[.slice ao len cap, m0, m1, m2, m3, m4, m5, m6, m7, m8] 31) = wa := ⟨_, rfl⟩
 have hpb := heap_alloc_new w (.cells #[.slice ao len cap, m0, m1, m2, m3, m4, m5, m6, m7, m8] 31)
 have hch := (Ch.refl No w).alloc (.cells #[.slice ao len cap, m0, m1, m2, m3, m4, m5, m6, m7, m8] 31)
 rw [hwa] at hch hpb
 have HL := hid hlen
 have HP := hid (hp.no hch)
 have HC := hid (h.no hch)
 have HPB := hid hpb
 have HCH := hid hch
 have p0 := cellAt hpb 0
 have p1 := cellAt hpb 1
 have p2 := cellAt hpb 2
 have p3 := cellAt hpb 3
 have p4 := cellAt hpb 4
 have p5 := cellAt hpb 5
 have p6 := cellAt hpb 6
 have p7 := cellAt hpb 7
 have p8 := cellAt hpb 8
 have p9 := cellAt hpb 9
 have hz := lt_size hpb
 clear hlen h hp hpb hch
 have hl20 : len ≤ 20 := by have := HSM.out.1; have := HL.out; omega
 have HCLS : Hid (ClssAt w (.slice ao len cap) cs) := by
   obtain ⟨_, _, _, _, _, _, _, _, _, _, e, hc⟩ := HP0.out
   rw [List.length_map, HL.out] at e
   cases e
   exact hid hc
 obtain ⟨wb, hwb⟩ : ∃ wb, wa.alloc (.cells #[.int .i64 0, .int .i64 0, .int .i64 0] 34) = wb := ⟨_, rfl⟩
 have hbb := heap_alloc_new wa (.cells #[.int .i64 0, .int .i64 0, .int .i64 0] 34)
 have hcb := (Ch.refl No wa).alloc (.cells #[.int .i64 0, .int .i64 0, .int .i64 0] 34)
 rw [hwb] at hbb hcb
 have HCB := hid (HCH.out.trans hcb)
 have HPB2 := hid (hcb.keep _ _ HPB.out (fun h => h))
 have HBB := hid hbb
 have hnw := hnew (HP.out.no hcb) (HT0.out.no HCB.out) HSZ.out HSM.out
 have yb := lt_size hbb
 clear p0 p1 p2 p3 p4 p5 p6 p7 p8 p9 hbb hcb
 have p0 := cellAt HPB2.out 0
 have p1 := cellAt HPB2.out 1
 have p2 := cellAt HPB2.out 2
 have p3 := cellAt HPB2.out 3
 have p4 := cellAt HPB2.out 4
 have p5 := cellAt HPB2.out 5
 have p6 := cellAt HPB2.out 6
 have p7 := cellAt HPB2.out 7
 have p8 := cellAt HPB2.out 8
 have p9 := cellAt HPB2.out 9
 go_enter Tryz.func15, Tryz.ntmps15
 go_wp2_with fail
 refine hnw.mono ?_
 rintro e w3 ⟨o, hf, hc3, hout⟩
 have HC3 := hid (HCB.out.trans hc3)
 have HF := hid hf
 have HP3 := hid (hc3.keep _ _ HPB2.out (fun h => h))
 have HB3 := hid (hc3.keep _ _ HBB.out (fun h => h))
 clear hwa hwb p0 p1 p2 p3 p4 p5 p6 p7 p8 p9 hnw hf hc3
 rcases faultIs HF.out with ⟨rfl, hfc⟩ | ⟨i, l, c, rfl, hfc⟩
 · obtain ⟨tv, rfl, hti⟩ := hout
   unfold faultV
   clear hfc
   go_upto_region 2 with fail
   obtain ⟨w4, hw4⟩ : ∃ w4, w3.alloc (.cells #[.int .i64 0, .int .i64 0, .int .i64 0] 34) = w4 := ⟨_, rfl⟩
   rw [hw4]
   have hb4 := heap_alloc_new w3 (.cells #[.int .i64 0, .int .i64 0, .int .i64 0] 34)
   have hc4 := (Ch.refl No w3).alloc (.cells #[.int .i64 0, .int .i64 0, .int .i64 0] 34)
   rw [hw4] at hb4 hc4
   have HC4 := hid (HC3.out.trans hc4)
   have HP4 := hid (hc4.keep _ _ HP3.out (fun h => h))
   have HB34 := hid (hc4.keep _ _ HB3.out (fun h => h))
   have hxn := xnew (HT0.out.no HC4.out) (hti.no hc4) HF.out HSM.out.1
   have g0 := cellAt hb4 0
   have g1 := cellAt hb4 1
   have g2 := cellAt hb4 2
   have y4 := lt_size hb4
   have y34 := hc4.size
   clear hw4 hb4 hc4 hti
   go_wp2_with fail
   refine hxn.mono ?_
   rintro e w5 ⟨xv, rfl, hxv, hc5⟩
   obtain ⟨xb, tb, abv, ss, hxe, hxt⟩ := hxv
   have HXV : Hid (TypesIs w5 xv cs) := hid ⟨xb, tb, abv, ss, hxe, hxt⟩
   subst hxe
   have HC5 := hid (HC4.out.trans hc5)
   have HP5 := hid (hc5.keep _ _ HP4.out (fun h => h))
   have HB35 := hid (hc5.keep _ _ HB34.out (fun h => h))
   have hp5 := HP5.out
   have p0 := cellAt hp5 0
   have p1 := cellAt hp5 1
   have p2 := cellAt hp5 2
   have p3 := cellAt hp5 3
   have p4 := cellAt hp5 4
   have p5 := cellAt hp5 5
   have p6 := cellAt hp5 6
   have p7 := cellAt hp5 7
   have p8 := cellAt hp5 8
   have p9 := cellAt hp5 9
   obtain ⟨w6, hw6⟩ : ∃ w6, w5.alloc (.cells #[.slice ao len cap, m0, m1, m2, m3, m4, m5, m6, m7, m8, .pointer (some ⟨xb, 0, none⟩), .slice none 0 0] 97) = w6 := ⟨_, rfl⟩
   have hb6 := heap_alloc_new w5 (.cells #[.slice ao len cap, m0, m1, m2, m3, m4, m5, m6, m7, m8, .pointer (some ⟨xb, 0, none⟩), .slice none 0 0] 97)
   have hc6 := (Ch.refl No w5).alloc (.cells #[.slice ao len cap, m0, m1, m2, m3, m4, m5, m6, m7, m8, .pointer (some ⟨xb, 0, none⟩), .slice none 0 0] 97)
   rw [hw6] at hb6 hc6
   have HC6 := hid (HC5.out.trans hc6)
   have HP6 := hid (hc6.keep _ _ HP5.out (fun h => h))
   have HB36 := hid (hc6.keep _ _ HB35.out (fun h => h))
   have HC56 := hid hc6
   have HB6 := hid hb6
   have hp6 := HP6.out
   have p0' := cellAt hp6 0
   have y6 := lt_size hb6
   have y56 := hc5.size
   have y6w := HC5.out.size
   clear hxn hp5 hc5 hb6 hc6 hp6 hxt g0 g1 g2
   go_wp2_with fail
   clear hw6 p0 p1 p2 p3 p4 p5 p6 p7 p8 p9
   obtain ⟨mbk, hmbk⟩ : ∃ mbk, w5.heap.size = mbk := ⟨_, rfl⟩
   rw [hmbk] at HB6 y6 y56 y6w ⊢
   have HMBK := hid hmbk
   clear hmbk p0'
   go_loopg [36, 9, 10] len (fun g s36 s9 s10 wr => ∃ k : Nat, k ≤ len ∧ len - k ≤ g ∧ s36 = .int .i64 k ∧ Hid (∃ (bs : List (Nat × Nat × Nat)) (sa : Option Addr) (sc : Nat), wr.heap[mbk]? = some (.cells #[.slice ao len cap, m0, m1, m2, m3, m4, m5, m6, m7, m8, .pointer (some ⟨xb, 0, none⟩), .slice sa k sc] 97 (0, 0)) ∧ wr.ownsRow w6.heap.size 100 3 (.slice sa k sc) k (bs.flatMap ownCells) ∧ bs.length = k ∧ ∀ (j : Nat) (b : Nat × Nat × Nat) (m : Mem), bs[j]? = some b → ms[j]? = some m → OwnB wr b j m) ∧ Hid (Ch (fun j _ => j = mbk) w6 wr))
   case atStart => exact ⟨0, Nat.zero_le _, by omega, rfl, hid ⟨[], none, 0, HB6.out, World.ownsRow_nil _ _ _ _, rfl, fun j b m h => by simp at h⟩, hid (Ch.refl _ _)⟩
   case round =>
     obtain ⟨k, hk, hg, rfl, HR, HCX⟩ := hrel
     have hr := HR.out
     obtain ⟨bs, sa, sc, hmb, hown, hbl, hob⟩ := hr
     have HCR := hid (Ch.newOnly HC6.out HCX.out (fun k _ _ e => by have e' : k = mbk := e; omega))
     cases hd : decide (k < len) with
     | true =>
       have hkl : k < len := by simpa using hd
       obtain ⟨c, hcs⟩ : ∃ c, cs[k]? = some c := ⟨_, List.getElem?_eq_getElem (by have := HL.out; omega)⟩
       obtain ⟨m, hmi⟩ : ∃ m, ms[k]? = some m := ⟨_, List.getElem?_eq_getElem (by have := HL.out; have := HLN.out; omega)⟩
       obtain ⟨cb, co, cc, ecs, hcell, _, _⟩ := (HCLS.out.no HCR.out).cell hcs
       rw [HL.out] at ecs
       cases ecs
       obtain ⟨q0, q1, q2, q3, q4, q5, q6, q7, q8, q9⟩ := hcell
       obtain ⟨wx, hwx⟩ : ∃ wx, wr.alloc (.cells #[.string c.name, .string c.sup, .bool c.face, .slice c.fa c.faces.length c.fc, .slice c.s4.1 c.s4.2.1 c.s4.2.2, .slice c.s5.1 c.s5.2.1 c.s5.2.2, .slice c.s6.1 c.s6.2.1 c.s6.2.2, .pointer c.p7, .int .i64 c.line, .int .i64 c.col] 50) = wx := ⟨_, rfl⟩
       have hbx := heap_alloc_new wr (.cells #[.string c.name, .string c.sup, .bool c.face, .slice c.fa c.faces.length c.fc, .slice c.s4.1 c.s4.2.1 c.s4.2.2, .slice c.s5.1 c.s5.2.1 c.s5.2.2, .slice c.s6.1 c.s6.2.1 c.s6.2.2, .pointer c.p7, .int .i64 c.line, .int .i64 c.col] 50)
       have hcx := (Ch.refl No wr).alloc (.cells #[.string c.name, .string c.sup, .bool c.face, .slice c.fa c.faces.length c.fc, .slice c.s4.1 c.s4.2.1 c.s4.2.2, .slice c.s5.1 c.s5.2.1 c.s5.2.2, .slice c.s6.1 c.s6.2.1 c.s6.2.2, .pointer c.p7, .int .i64 c.line, .int .i64 c.col] 50)
       rw [hwx] at hbx hcx
       have hma := HM0.out.at_ k c m hcs hmi
       have hto := mtold (hma.no (HCR.out.trans (hcx.trans ((Ch.refl No wx).drew)))) (HSZM.out m (List.mem_of_getElem? hmi)) (HFM.out m (List.mem_of_getElem? hmi)) k
       have HMBX := hid (hcx.keep _ _ hmb (fun h => h))
       have HOWN := hid hown
       have HOB := hid hob
       have HBL := hid hbl
       have HCXX := hid hcx
       have HMI := hid hmi
       have hmbx := HMBX.out
       have c11 := cellAt hmbx 11
       have d0 := cellAt hbx 0
       have d1 := cellAt hbx 1
       have d2 := cellAt hbx 2
       have d3 := cellAt hbx 3
       have d4 := cellAt hbx 4
       have d5 := cellAt hbx 5
       have d6 := cellAt hbx 6
       have d7 := cellAt hbx 7
       have d8 := cellAt hbx 8
       have d9 := cellAt hbx 9
       have yx := lt_size hbx
       have ymx := lt_size hmb
       have hz6 := HCX.out.size
       have hk1 : k + 1 ≤ 100000 := by omega
       clear hmb hown hob hbl hbx hcx hma hmi hcs hmbx
       go_wp2_with fail
       go_region_law (first | (refine step_appendOwn rfl _ _ rfl Tryz.sliceOwn Tryz.infoOwn (Nat.le_of_ble_eq_true rfl) (Nat.le_of_ble_eq_true rfl) w6.heap.size (.slice sa k sc) k _ rfl HROW.out wt.heap.size 1 1 [.map (some b1), .map (some b2), .map (some b3)] rfl rfl (heap_alloc_new wt _) (one3 b1 b2 b3) hk1 hbase ?_; intro v7 w7 hr7 hc7; obtain ⟨a7, c7, e7, _, _⟩ := ownsShape hr7; subst e7; have hmb7 := hc7.keep _ _ HMBT.out (not_own HROW.out HMBT.out (by decide)); have HMB7 := hid hmb7; have HR7 := hid hr7; have HC7 := hid hc7; have e11 := cellAt hmb7 11; have f11 := freeAt hmb7 11; clear hr7 hc7 hmb7) | (go_simp; go_at_call 44; refine hto.mono ?_; rintro e wt ⟨ov, rfl, hov, hct⟩; obtain ⟨⟨b1, b2, b3⟩, rfl, hob⟩ := hov.b; have HOBN := hid hob; have HCT0 := hid (((Ch.refl No wx).drew).trans hct); have HCT := hid ((HCXX.out.trans HCT0.out).alloc (.cells #[.map (some b1), .map (some b2), .map (some b3)] 100)); have HROW := hid (ownsRow_ch HOWN.out HCT.out (fun _ _ _ _ _ h => h)); have HMBT := hid (((HCT0.out.alloc (.cells #[.map (some b1), .map (some b2), .map (some b3)] 100))).keep _ _ HMBX.out (fun h => h)); have hmbw := HCT0.out.keep _ _ HMBX.out (fun h => h); have t11 := cellAt hmbw 11; have ymt := lt_size hmbw; have hzt := HCT0.out.size; have hbase : w6.heap.size ≤ (wt.alloc (.cells #[.map (some b1), .map (some b2), .map (some b3)] 100)).heap.size := Nat.le_trans hz6 HCT.out.size; clear hmbw hov hob hct hto))
       all_goals (
         clear hwx
         go_wp2_with fail
         go_roundg (len - k - 1)
         case rel =>
           have hmbw := HCT0.out.keep _ _ HMBX.out (fun h => h)
           have hB : Ch NoStr wt (w7.setCell ⟨mbk, 11, none⟩ (.slice a7 (k + 1) c7)) := (((Ch.refl NoStr wt).alloc _).trans (HC7.out.mono (fun j o ho e => by
             obtain ⟨_, cur, h2⟩ := owned_typed HROW.out j e
             rw [h2] at ho
             cases ho
             exact ⟨cur, 100, rfl, by decide⟩))).setCell (fun o ho => by
               rw [hmbw] at ho
               cases ho
               exact ⟨_, 97, rfl, by decide⟩) _
           have hA : Ch NoStr wr (w7.setCell ⟨mbk, 11, none⟩ (.slice a7 (k + 1) c7)) := ((HCXX.out.trans HCT0.out).mono (fun _ _ _ h => h.elim)).trans hB
           refine ⟨k + 1, by omega, by omega, by go_num, hid ⟨bs ++ [(b1, b2, b3)], a7, c7, ?_, ?_, ?_, ?_⟩, hid ?_⟩
           · have h1 := setCell_heap HMB7.out 11 (.slice a7 (k + 1) c7)
             simpa using h1
           · rw [List.flatMap_append]
             exact ownsRow_ch HR7.out ((Ch.refl (fun j _ => j = mbk) w7).setCell (fun _ _ => rfl) _) (fun g cur hg hbg _ e => by have e' : g = mbk := e; omega)
           · rw [List.length_append, HBL.out]; rfl
           · intro j b m' hj hm'
             by_cases hjk : j < k
             · rw [List.getElem?_append_left (by rw [HBL.out]; exact hjk)] at hj
               exact (HOB.out j b m' hj hm').chS hA
             · have hj2 : j = k := by
                 have := (List.getElem?_eq_some_iff.1 hj).1
                 rw [List.length_append, HBL.out] at this
                 simp at this
                 omega
               subst hj2
               rw [List.getElem?_append_right (by rw [HBL.out]; exact Nat.le_refl _), HBL.out, Nat.sub_self] at hj
               have e : (b1, b2, b3) = b := by simpa using hj
               subst e
               rw [HMI.out] at hm'; cases hm'
               exact HOBN.out.chS hB
           · exact ((HCX.out.trans (HCT.out.mono (fun _ _ _ h => h.elim))).trans' HC7.out (fun j o ho e => by
               obtain ⟨h1, _⟩ := owned_typed HROW.out j e
               have := lt_size ho
               omega)).setCell (fun _ _ => rfl) _
         case measure => omega)
     | false =>
       have hkl : ¬ k < len := by simpa using hd
       have ekl : k = len := by omega
       obtain ⟨w8, hw8⟩ : ∃ w8, w8 = wr := ⟨_, rfl⟩
       subst hw8
       have HMEM : Hid (MembIs w8 mbk cs ms) := hid ⟨_, _, _, _, _, _, _, _, _, _, _, _, bs, hmb, HCLS.out.no HCR.out, HXV.out.no (Ch.newOnly HC56.out HCX.out (fun q _ _ e => by have e' : q = mbk := e; have := HMBK.out; omega)), ownsRowAt (by rw [hbl]; exact hown), by rw [hbl, ekl, HL.out], hob⟩
       have hpr := HCX.out.keep _ _ HP6.out (fun e => by have e' : w.heap.size = mbk := e; have := lt_size HP5.out; have := HMBK.out; omega)
       have hbr := HCX.out.keep _ _ HB36.out (fun e => by have e' : wa.heap.size = mbk := e; have := lt_size HB35.out; have := HMBK.out; omega)
       have HPR := hid hpr
       have HBR := hid hbr
       have p0 := cellAt hpr 0
       have y8 : w.heap.size ≤ w8.heap.size := HCR.out.size
       have hfd := HF.out
       clear hmb hown hbl hob hpr hbr HR HCX ekl hfd
       go_wp2_with fail
       clear p0
       go_loopg [57, 11, 12, 13, 14] len (fun g s57 s11 s12 s13 s14 wr => ∃ k : Nat, k ≤ len ∧ len - k ≤ g ∧ s57 = .int .i64 k ∧ Hid (∀ (q : Nat) (c : Cls) (m : Mem), q < k → cs[q]? = some c → ms[q]? = some m → RightOk cs ms q c m) ∧ Ch No w8 wr)
       case atStart => exact ⟨0, Nat.zero_le _, by omega, rfl, hid (fun q c m hq => absurd hq (Nat.not_lt_zero q)), Ch.refl _ _⟩
       case round =>
         obtain ⟨k, hk, hg, rfl, HA, hcr⟩ := hrel
         have HC2 := hid hcr
         have HCW := hid (HCR.out.trans hcr)
         have HB2 := hid (hcr.keep _ _ HBR.out (fun h => h))
         have hb2 := HB2.out
         have a0 := cellAt hb2 0
         have a1 := cellAt hb2 1
         have a2 := cellAt hb2 2
         have f0 := freeAt hb2 0
         have f1 := freeAt hb2 1
         have f2 := freeAt hb2 2
         have yr := hcr.size
         have ya := lt_size hb2
         clear hcr hb2
         cases hd : decide (k < len) with
         | false =>
           have hkl : ¬ k < len := by simpa using hd
           go_wp2_with fail
           obtain ⟨wf, hwf, hfb, hfc⟩ := put3 HB2.out (.int .i64 0) (.int .i64 0) (.int .i64 0)
           rw [hwf]
           have k0 := cellAt hfb 0
           have k1 := cellAt hfb 1
           have k2 := cellAt hfb 2
           refine bodyPost_ret (v := .tuple #[.pointer (some ⟨mbk, 0, none⟩), .agg #[.int .i64 0, .int .i64 0, .int .i64 0]]) (by simp [results, Tryz.results15, go_sem, k0, k1, k2]) rfl ?_
           have hno := Ch.same HB2.out hfb hfc
           exact ⟨HCW.out.trans hno, .inl ⟨mbk, rfl, HMEM.out.no (HC2.out.trans hno), HF.out, fun q c' m' hc' hm' => HA.out q c' m' (by have := (List.getElem?_eq_some_iff.1 hc').1; have := HL.out; omega) hc' hm'⟩⟩
         | true =>
           have hkl : k < len := by simpa using hd
           obtain ⟨c, hcs⟩ : ∃ c, cs[k]? = some c := ⟨_, List.getElem?_eq_getElem (by have := HL.out; omega)⟩
           obtain ⟨m, hmi⟩ : ∃ m, ms[k]? = some m := ⟨_, List.getElem?_eq_getElem (by have := HL.out; have := HLN.out; omega)⟩
           obtain ⟨cb, co, cc, ecs, hcell, _, _⟩ := (HCLS.out.no HCW.out).cell hcs
           rw [HL.out] at ecs
           cases ecs
           obtain ⟨q0, q1, q2, q3, q4, q5, q6, q7, q8, q9⟩ := hcell
           obtain ⟨wx, hwx⟩ : ∃ wx, wr.alloc (.cells #[.string c.name, .string c.sup, .bool c.face, .slice c.fa c.faces.length c.fc, .slice c.s4.1 c.s4.2.1 c.s4.2.2, .slice c.s5.1 c.s5.2.1 c.s5.2.2, .slice c.s6.1 c.s6.2.1 c.s6.2.2, .pointer c.p7, .int .i64 c.line, .int .i64 c.col] 50) = wx := ⟨_, rfl⟩
           have hbx := heap_alloc_new wr (.cells #[.string c.name, .string c.sup, .bool c.face, .slice c.fa c.faces.length c.fc, .slice c.s4.1 c.s4.2.1 c.s4.2.2, .slice c.s5.1 c.s5.2.1 c.s5.2.2, .slice c.s6.1 c.s6.2.1 c.s6.2.2, .pointer c.p7, .int .i64 c.line, .int .i64 c.col] 50)
           have hcx := (Ch.refl No wr).alloc (.cells #[.string c.name, .string c.sup, .bool c.face, .slice c.fa c.faces.length c.fc, .slice c.s4.1 c.s4.2.1 c.s4.2.2, .slice c.s5.1 c.s5.2.1 c.s5.2.2, .slice c.s6.1 c.s6.2.1 c.s6.2.2, .pointer c.p7, .int .i64 c.line, .int .i64 c.col] 50)
           rw [hwx] at hbx hcx
           have HCX := hid (HCW.out.trans hcx)
           have hri := mright (HT0.out.no HCX.out) (HMEM.out.no (HC2.out.trans hcx)) (HM0.out.no HCX.out) HF.out (noRingOf HF.out) HSM.out HSM.out.1 HLN.out (fun m hm => (HFM.out m hm).ps) HSZM.out hcs hmi
           have HCS := hid hcs
           have HMI := hid hmi
           have d0 := cellAt hbx 0
           have d1 := cellAt hbx 1
           have d2 := cellAt hbx 2
           have d3 := cellAt hbx 3
           have d4 := cellAt hbx 4
           have d5 := cellAt hbx 5
           have d6 := cellAt hbx 6
           have d7 := cellAt hbx 7
           have d8 := cellAt hbx 8
           have d9 := cellAt hbx 9
           have yx := lt_size hbx
           have HCX2 := hid hcx
           clear hcs hmi hbx hcx
           go_wp2_with fail
           refine hri.mono ?_
           rintro e w9 ⟨⟨p9, q9', ok9, rfl, hok⟩, hc9⟩
           have HOK := hid hok
           obtain ⟨wy, hwy⟩ : ∃ wy, w9.alloc (.cells #[.int .i64 p9, .int .i64 q9'] 27) = wy := ⟨_, rfl⟩
           have hby := heap_alloc_new w9 (.cells #[.int .i64 p9, .int .i64 q9'] 27)
           have hcy := (Ch.refl No w9).alloc (.cells #[.int .i64 p9, .int .i64 q9'] 27)
           rw [hwy] at hby hcy
           have K9 := hid (HCX2.out.trans (hc9.trans hcy))
           have HBY := hid (K9.out.keep _ _ HB2.out (fun h => h))
           have hb9 := HBY.out
           clear a0 a1 a2 f0 f1 f2 d0 d1 d2 d3 d4 d5 d6 d7 d8 d9 q0 q1 q2 q3 q4 q5 q6 q7 q8 q9
           have g0 := cellAt hby 0
           have g1 := cellAt hby 1
           have a0 := cellAt hb9 0
           have a1 := cellAt hb9 1
           have a2 := cellAt hb9 2
           have f0 := freeAt hb9 0
           have f1 := freeAt hb9 1
           have f2 := freeAt hb9 2
           have y9 := lt_size hby
           clear hri hok hc9 hby hcy hb9 hwx
           go_upto_region 15 with fail
           clear hwy
           cases ok9 with
           | true =>
             go_wp2_with fail
             go_roundg (len - k - 1)
             case rel =>
               refine ⟨k + 1, by omega, by omega, by go_num, hid fun q c' m' hq hc' hm' => ?_, HC2.out.trans K9.out⟩
               by_cases h1 : q < k
               · exact HA.out q c' m' h1 hc' hm'
               · obtain rfl : q = k := by omega
                 rw [HCS.out] at hc'; cases hc'
                 rw [HMI.out] at hm'; cases hm'
                 exact HOK.out.1 (by first | rfl | trivial)
             case measure => omega
           | false =>
             go_wp2_with fail
             go_region
             all_goals (
               go_wp2_with fail
               obtain ⟨wf, hwf, hfb, hfc⟩ := put3 HBY.out (.int .i64 11) (.int .i64 p9) (.int .i64 q9')
               rw [hwf]
               have k0 := cellAt hfb 0
               have k1 := cellAt hfb 1
               have k2 := cellAt hfb 2
               refine bodyPost_ret (v := .tuple #[.pointer none, .agg #[.int .i64 11, .int .i64 p9, .int .i64 q9']]) (by simp [results, Tryz.results15, go_sem, k0, k1, k2]) rfl ?_
               exact ⟨Ch.newOnly (HCW.out.trans K9.out) (by first | exact hfc | exact hfc.drew) (fun q _ _ e => by have e' : q = wa.heap.size := e; omega), .inr ⟨p9, q9', rfl, fun hk => by
                 have h0 := HOK.out.2 (hk.2 k c m HCS.out HMI.out)
                 first | cases h0 | exact h0⟩⟩)
 · have he : e = .returned (.tuple #[.pointer none, faultV (faultC cs (some i))]) := hout
   rw [hfc] at he
   subst he
   unfold faultV
   clear hfc hout
   obtain ⟨w4, hw4⟩ : ∃ w4, w3.alloc (.cells #[.int .i64 11, .int .i64 l, .int .i64 c] 34) = w4 := ⟨_, rfl⟩
   have hb4 := heap_alloc_new w3 (.cells #[.int .i64 11, .int .i64 l, .int .i64 c] 34)
   have hc4 := (Ch.refl No w3).alloc (.cells #[.int .i64 11, .int .i64 l, .int .i64 c] 34)
   rw [hw4] at hb4 hc4
   have HC4 := hid (HC3.out.trans hc4)
   have HB34 := hid (hc4.keep _ _ HB3.out (fun h => h))
   have hb34 := HB34.out
   have g0 := cellAt hb4 0
   have g1 := cellAt hb4 1
   have g2 := cellAt hb4 2
   have a0 := cellAt hb34 0
   have a1 := cellAt hb34 1
   have a2 := cellAt hb34 2
   have f0 := freeAt hb34 0
   have f1 := freeAt hb34 1
   have f2 := freeAt hb34 2
   have y4 := lt_size hb4
   clear hb4 hc4 hb34
   go_wp2_with fail
   go_region
   all_goals (
     clear hw4
     go_wp2_with fail
     obtain ⟨wf, hwf, hfb, hfc⟩ := put3 HB34.out (.int .i64 11) (.int .i64 l) (.int .i64 c)
     rw [hwf]
     have k0 := cellAt hfb 0
     have k1 := cellAt hfb 1
     have k2 := cellAt hfb 2
     refine bodyPost_ret (v := .tuple #[.pointer none, .agg #[.int .i64 11, .int .i64 l, .int .i64 c]]) (by simp [results, Tryz.results15, go_sem, k0, k1, k2]) rfl ?_
     exact ⟨Ch.newOnly HC4.out hfc.drew (fun k _ _ e => by have e' : k = wa.heap.size := e; omega), .inr ⟨l, c, rfl, fun hk => by have := HF.out.uniq hk.1; cases this⟩⟩)
end Go.Proofs.YtgjpgfedlgdjhaaGreatDoor
end
