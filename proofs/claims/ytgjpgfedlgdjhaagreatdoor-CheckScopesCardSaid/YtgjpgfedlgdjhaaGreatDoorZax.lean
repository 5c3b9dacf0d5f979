/- What the claim uses: part 24. -/
import Derived.Test.YtgjpgfedlgdjhaaGreatDoorZaw
section
set_option linter.unusedVariables false
set_option linter.unusedSimpArgs false
namespace Go.Proofs.YtgjpgfedlgdjhaaGreatDoor
open Go.RowKit Go.W
set_option maxHeartbeats 2000000 in
theorem hinvalid (w : World) (l c : Int) : Calls Tryz.prog 72 #[.agg #[.int .i64 l, .int .i64 c]] w fun e w' => e = .returned (.agg #[.int .i64 11, .int .i64 l, .int .i64 c]) ∧ Ch No w w' := by
 have hc1 := (Ch.refl No w).alloc (.cells #[.int .i64 l, .int .i64 c] 27)
 have hb1 := heap_alloc_new w (.cells #[.int .i64 l, .int .i64 c] 27)
 obtain ⟨wa, hwa⟩ : ∃ wa, w.alloc (.cells #[.int .i64 l, .int .i64 c] 27) = wa := ⟨_, rfl⟩
 rw [hwa] at hc1 hb1
 have hc2 := (Ch.refl No wa).alloc (.cells #[.int .i64 11, .int .i64 l, .int .i64 c] 34)
 have hb2 := heap_alloc_new wa (.cells #[.int .i64 11, .int .i64 l, .int .i64 c] 34)
 have p0 := cellAt hb1 0
 have p1 := cellAt hb1 1
 have z1 := lt_size hb1
 have k0 := cellAt hb2 0
 have k1 := cellAt hb2 1
 have k2 := cellAt hb2 2
 have HC := hid (hc1.trans hc2)
 clear hc1 hb1 hc2 hb2
 go_enter Tryz.func72, Tryz.ntmps72
 go_wp2_with fail
 refine bodyPost_ret (v := faultV (11, l, c)) (by simp [results, Tryz.results72, go_sem, faultV, k0, k1, k2]) rfl ?_
 exact ⟨rfl, HC.out⟩
theorem chLow {F : Nat} {a w : World} (h : Ch (fun j _ => j = F) a w) (hF : F < a.heap.size) : (∀ b o, b < F → w.cell? ⟨b, o, none⟩ = a.cell? ⟨b, o, none⟩) ∧ (∀ b, b < a.heap.size → b < w.heap.size) ∧ ∀ b o, b < F → w.frozen? ⟨b, o, none⟩ = a.frozen? ⟨b, o, none⟩ := by
 have key : ∀ b, b < F → w.heap[b]? = a.heap[b]? := fun b hb => by
   have ho : a.heap[b]? = some a.heap[b] := Array.getElem?_eq_getElem (by omega)
   rw [ho]
   exact h.keep _ _ ho (fun e => by have e' : b = F := e; omega)
 exact ⟨fun b o hb => World.cell?_of_block (key b hb), fun b hb => Nat.lt_of_lt_of_le hb h.size, fun b o hb => by simp [World.frozen?, key b hb]⟩
theorem SoSt.tabR {cs : List Cls} {tb mb mn ab r : Nat} {allv ordv : Value} {ks : List Knd} {w wr wz : World} {ss : List SetP} {d : List Nat} (h : SoSt cs tb mb mn ab allv ks w wr ss d ordv) (hk : KndsAt wz allv ks) (hm : MapIs Tryz.prog 9 strK wz mb mn (getV (find cs)))
   (hc : Ch (fun k _ => k = r) wr wz) (hr : r ≠ tb) (hra : r < ab) (hn : cs.length ≤ 20) : TabAt wz tb (tabOf cs ab mb mn allv ks ss d ordv) :=
 ⟨hc.keep _ _ h.tbk (fun e => hr e.symm), hk, hm, setsAtOf h.ss.len (by omega) (hc.keep _ _ h.abk (fun e => by have e' : ab = r := e; omega)) (h.sets.ch hc (fun k o hk _ _ e => by have e' : k = r := e; omega)) h.ss.nil,
   (h.ord.ch hc (fun g o _ hbg _ e => by have e' : g = r := e; omega)).at_⟩
structure RowsOf (cs : List Cls) (ks : List Knd) (k : Nat) : Prop where
 len : ks.length = k
 ok : ∀ j, j < k → okI cs j
 row : ∀ (i : Nat) (c : Cls) (x : Knd), i < k → cs[i]? = some c → ks[i]? = some x → x.name = c.name ∧ x.face = c.face ∧ x.sup = supZ cs c ∧ x.fs = c.faces.map (findZ cs)
theorem RowsOf.nil (cs : List Cls) : RowsOf cs [] 0 := ⟨rfl, fun j h => absurd h (Nat.not_lt_zero _), fun i _ _ h => absurd h (Nat.not_lt_zero _)⟩
theorem findSelf {cs : List Cls} {k : Nat} {c : Cls} (hc : cs[k]? = some c) : ∃ j, find cs c.name = some j := by
 cases h : find cs c.name with
 | some j => exact ⟨j, rfl⟩
 | none =>
   unfold find at h
   rw [List.findIdx?_eq_none_iff] at h
   have := h c (List.mem_of_getElem? hc)
   simp at this
def TableIs (w : World) (tv : Value) (cs : List Cls) : Prop :=
 ∃ tb T, tv = .pointer (some ⟨tb, 0, none⟩) ∧ TabAt w tb T ∧ KsOf cs T ∧ T.get = find cs ∧ T.ord = ordL cs ∧ SsOf cs T.ss (ordN cs)
theorem TableIs.no {w w' : World} {tv : Value} {cs : List Cls} (h : TableIs w tv cs) (hc : Ch No w w') : TableIs w' tv cs := by
 obtain ⟨tb, T, h1, h2, h3⟩ := h
 exact ⟨tb, T, h1, h2.no hc, h3⟩
def NewOut (cs : List Cls) (w : World) (e : Ending) (w' : World) : Prop :=
 ∃ o, FaultAt cs o ∧ Ch No w w' ∧ match o with
   | some i => e = .returned (.tuple #[.pointer none, faultV (faultC cs (some i))])
   | none => ∃ tv, e = .returned (.tuple #[tv, faultV (0, 0, 0)]) ∧ TableIs w' tv cs
theorem NewOut.fail {cs : List Cls} {w w' : World} {k : Nat} {c : Cls} (hc : cs[k]? = some c) (hf : FaultAt cs (some k)) (h : Ch No w w') : NewOut cs w (.returned (.tuple #[.pointer none, faultV (11, c.line, c.col)])) w' :=
 ⟨some k, hf, h, by show _ = Ending.returned (.tuple #[.pointer none, faultV (faultC cs (some k))]); rw [faultSome hc]⟩
theorem NewOut.good {cs : List Cls} {w w' : World} {tv : Value} (hf : FaultAt cs none) (h : Ch No w w') (ht : TableIs w' tv cs) : NewOut cs w (.returned (.tuple #[tv, faultV (0, 0, 0)])) w' :=
 ⟨none, hf, h, tv, rfl, ht⟩
theorem RowsOf.step {cs : List Cls} {ks : List Knd} {k : Nat} {c : Cls} {x : Knd} (h : RowsOf cs ks k) (hc : cs[k]? = some c) (ho : okC cs k c) (hx : x.name = c.name ∧ x.face = c.face ∧ x.sup = supZ cs c ∧ x.fs = c.faces.map (findZ cs)) : RowsOf cs (ks ++ [x]) (k + 1) := by
 refine ⟨by rw [List.length_append, h.len]; rfl, fun j hj => ?_, fun i d y hi hd hy => ?_⟩
 · by_cases e : j = k
   · subst e
     intro d hd
     rw [hc] at hd; cases hd; exact ho
   · exact h.ok j (by omega)
 · by_cases e : i = k
   · subst e
     rw [hc] at hd; cases hd
     rw [List.getElem?_append_right (by rw [h.len]; exact Nat.le_refl _), h.len] at hy
     simp at hy
     subst hy; exact hx
   · rw [List.getElem?_append_left (by rw [h.len]; omega)] at hy
     exact h.row i d y (by omega) hd hy
set_option maxRecDepth 100000 in
set_option maxHeartbeats 16000000 in
theorem hnew {w : World} {pv : Value} {cs : List Cls} (h : ProgAt w pv cs) (hT : Tab w) (hsz : SzP cs) (hsm : SmallP cs) :
   Calls Tryz.prog 42 #[pv] w (NewOut cs w) := by
 have HM := hid hsm
 have HSZ := hid hsz
 have HT := hid hT
 clear hsm hsz hT
 have hp := h
 obtain ⟨cv, m0, m1, m2, m3, m4, m5, m6, m7, m8, rfl, h⟩ := h
 obtain ⟨ao, cap, rfl, hcap, hmax, _, _⟩ := h.row
 rw [List.length_map] at hcap h hp ⊢
 obtain ⟨len, hlen⟩ : ∃ len, cs.length = len := ⟨_, rfl⟩
 rw [hlen] at hcap h hp ⊢
 unfold maxLen at hmax
 obtain ⟨wa, hwa⟩ : ∃ wa, w.alloc (.cells #[.slice ao len cap, m0, m1, m2, m3, m4, m5, m6, m7, m8] 31) = wa := ⟨_, rfl⟩
 have hpb := heap_alloc_new w (.cells #[.slice ao len cap, m0, m1, m2, m3, m4, m5, m6, m7, m8] 31)
 have hch := (Ch.refl No w).alloc (.cells #[.slice ao len cap, m0, m1, m2, m3, m4, m5, m6, m7, m8] 31)
 rw [hwa] at hch hpb
 have HL := hid hlen
 have HP := hid (hp.no hch)
 have HC := hid (h.no hch)
 have HPB := hid hpb
 have HCH := hid hch
 have p0 := cellAt hpb 0
 have p1 := cellAt hpb 1
 have p2 := cellAt hpb 2
 have p3 := cellAt hpb 3
 have p4 := cellAt hpb 4
 have p5 := cellAt hpb 5
 have p6 := cellAt hpb 6
 have p7 := cellAt hpb 7
 have p8 := cellAt hpb 8
 have p9 := cellAt hpb 9
 have hz := lt_size hpb
 clear hlen h hp hpb hch
 have hl20 : len ≤ 20 := by have := HM.out.1; have := HL.out; omega
 -- the fault's cell, the two maps, the table
 have hrb := heap_alloc_new wa (.cells #[.int .i64 0, .int .i64 0, .int .i64 0] 34)
 have hcr := (Ch.refl No wa).alloc (.cells #[.int .i64 0, .int .i64 0, .int .i64 0] 34)
 obtain ⟨wb, hwb⟩ : ∃ wb, wa.alloc (.cells #[.int .i64 0, .int .i64 0, .int .i64 0] 34) = wb := ⟨_, rfl⟩
 rw [hwb] at hrb hcr
 have hmm := @run_makeMap Tryz.prog
 have hm1 := MapIs.made Tryz.prog 9 strK wb
 have hcm := (Ch.refl No wb).alloc (.map #[] 0)
 obtain ⟨wc, hwc⟩ : ∃ wc, wb.alloc (.map #[] 0) = wc := ⟨_, rfl⟩
 rw [hwc] at hm1 hcm
 have htb := heap_alloc_new wc (.cells #[.slice none 0 0, .map (some wb.heap.size), .slice none 0 0, .slice none 0 0] 145)
 have hct := (Ch.refl No wc).alloc (.cells #[.slice none 0 0, .map (some wb.heap.size), .slice none 0 0, .slice none 0 0] 145)
 obtain ⟨wd, hwd⟩ : ∃ wd, wc.alloc (.cells #[.slice none 0 0, .map (some wb.heap.size), .slice none 0 0, .slice none 0 0] 145) = wd := ⟨_, rfl⟩
 rw [hwd] at htb hct
 have hm2 := MapIs.made Tryz.prog 9 strK wd
 have hcn := (Ch.refl No wd).alloc (.map #[] 0)
 obtain ⟨we, hwe⟩ : ∃ we, wd.alloc (.map #[] 0) = we := ⟨_, rfl⟩
 rw [hwe] at hm2 hcn
 have hce := (((hcr.trans hcm).trans hct).trans hcn)
 have hpe := hce.keep _ _ HPB.out (fun h => h)
 have hre := (((hcm.trans hct).trans hcn)).keep _ _ hrb (fun h => h)
 have hte := hcn.keep _ _ htb (fun h => h)
 have hm1e := hm1.ch (hct.trans hcn) (fun _ _ h => h)
 have y1 : w.heap.size < wa.heap.size := hz
 have y2 : wa.heap.size < wb.heap.size := lt_size hrb
 have y3 : wb.heap.size < wc.heap.size := by rw [← hwc]; simp
 have y4 : wc.heap.size < wd.heap.size := lt_size htb
 have y5 : wd.heap.size < we.heap.size := by rw [← hwe]; simp
 have yp : w.heap.size < wd.heap.size := by omega
 have yr : wa.heap.size < wd.heap.size := by omega
 have HPE := hid hpe
 have HRE := hid hre
 have HTE := hid hte
 have HM1 := hid hm1e
 have HM2 := hid hm2
 have HCE := hid hce
 clear p0 p1 p2 p3 p4 p5 p6 p7 p8 p9 hrb hcr hm1 hcm htb hct hm2 hcn hce hpe hre hte hm1e
 have p0 := cellAt HPE.out 0
 have p1 := cellAt HPE.out 1
 have p2 := cellAt HPE.out 2
 have p3 := cellAt HPE.out 3
 have p4 := cellAt HPE.out 4
 have p5 := cellAt HPE.out 5
 have p6 := cellAt HPE.out 6
 have p7 := cellAt HPE.out 7
 have p8 := cellAt HPE.out 8
 have p9 := cellAt HPE.out 9
 go_enter Tryz.func42, Tryz.ntmps42
 go_wp2_with fail
 clear hwa hwb hwc hwd hwe hmm
 go_loopg [23] len (fun g s23 wr => ∃ (k : Nat), k ≤ len ∧ len - k ≤ g ∧ s23 = .int .i64 k ∧ Hid (MapIs Tryz.prog 9 strK wr wd.heap.size k (getV (find (cs.take k)))) ∧ Hid (Ch (fun j _ => j = wd.heap.size) we wr))
 case atStart => exact ⟨0, Nat.zero_le _, by omega, rfl, HM2, hid (Ch.refl _ _)⟩
 case round =>
   obtain ⟨k, hk, hg, rfl, HMP, HCW⟩ := hrel
   obtain ⟨R, Z, _⟩ := chLow HCW.out y5
   cases hd : decide (k < len) with
   | true =>
     have hkl : k < len := by simpa using hd
     obtain ⟨c, hc⟩ : ∃ c, cs[k]? = some c := ⟨_, List.getElem?_eq_getElem (by have := HL.out; omega)⟩
     obtain ⟨cb, co, cc, ecs, hcell, _, _⟩ := (HC.out.no HCE.out).cell hc
     obtain ⟨_, _, _, ecs2, hcell2, _, _⟩ := HC.out.cell hc
     rw [HL.out] at ecs
     cases ecs
     rw [HL.out] at ecs2
     cases ecs2
     have ycb : cb < wd.heap.size := by have hcb : cb < wa.heap.size := block_lt_of_cell hcell2.q0; omega
     obtain ⟨q0, q1, q2, q3, q4, q5, q6, q7, q8, q9⟩ := hcell
     have hns := (HSZ.out c (List.mem_of_getElem? hc)).1
     have hbc := heap_alloc_new wr (.cells #[.string c.name, .string c.sup, .bool c.face, .slice c.fa c.faces.length c.fc, .slice c.s4.1 c.s4.2.1 c.s4.2.2, .slice c.s5.1 c.s5.2.1 c.s5.2.2, .slice c.s6.1 c.s6.2.1 c.s6.2.2, .pointer c.p7, .int .i64 c.line, .int .i64 c.col] 50)
     have hca := (Ch.refl No wr).alloc (.cells #[.string c.name, .string c.sup, .bool c.face, .slice c.fa c.faces.length c.fc, .slice c.s4.1 c.s4.2.1 c.s4.2.2, .slice c.s5.1 c.s5.2.1 c.s5.2.2, .slice c.s6.1 c.s6.2.1 c.s6.2.2, .pointer c.p7, .int .i64 c.line, .int .i64 c.col] 50)
     obtain ⟨wx, hwx⟩ : ∃ wx, wr.alloc (.cells #[.string c.name, .string c.sup, .bool c.face, .slice c.fa c.faces.length c.fc, .slice c.s4.1 c.s4.2.1 c.s4.2.2, .slice c.s5.1 c.s5.2.1 c.s5.2.2, .slice c.s6.1 c.s6.2.1 c.s6.2.2, .pointer c.p7, .int .i64 c.line, .int .i64 c.col] 50) = wx := ⟨_, rfl⟩
     rw [hwx] at hbc hca
     have hmx := HMP.out.ch hca (fun _ _ h => h)
     have d0 := cellAt hbc 0
     have d1 := cellAt hbc 1
     have d2 := cellAt hbc 2
     have d3 := cellAt hbc 3
     have d4 := cellAt hbc 4
     have d5 := cellAt hbc 5
     have d6 := cellAt hbc 6
     have d7 := cellAt hbc 7
     have d8 := cellAt hbc 8
     have d9 := cellAt hbc 9
     have hzx := lt_size hbc
     have HX := hid hc
     have HCA := hid hca
     clear hc hcell2 hbc hca
     cases hf : find (cs.take k) c.name with
     | some j =>
       have hlk := lookYes hmx hns hf
       have HF := hid hf
       have HMX := hid hmx
       clear hf hmx
       go_wp2_with fail
       go_roundg (len - k - 1)
       case rel =>
         refine ⟨k + 1, by omega, by omega, by go_num, hid ?_, hid (HCW.out.trans (HCA.out.mono (fun _ _ _ h => h.elim)))⟩
         rw [take_old HX.out (by rw [HF.out]; rfl)]
         exact HMX.out.mono (by omega)
       case measure => omega
     | none =>
       have hlk := lookNo hmx hns hf
       obtain ⟨wy, hrun, hm3, hg3⟩ := hmx.store lawS Tryz.underlying142 (by unfold maxLen; omega) (keyS hns) (.int .i64 (k : Int))
       have hrun' : (Instr.mapUpdate 142 (.map (some wd.heap.size)) (.string c.name) (.int .i64 (k : Int))).run Tryz.prog wx = .ok () wy := hrun
       have HF := hid hf
       have HM3 := hid hm3
       have HG3 := hid hg3
       clear hf hmx hrun hm3 hg3
       go_wp2_with fail
       go_roundg (len - k - 1)
       case rel =>
         refine ⟨k + 1, by omega, by omega, by go_num, hid ?_, hid ((HCW.out.trans (HCA.out.mono (fun _ _ _ h => h.elim))).trans ((Ch.refl _ wx).grown HG3.out (fun _ _ h _ => by cases h; rfl)))⟩
         have e : getV (find (cs.take (k + 1))) = fun l => if l = c.name then some (.int .i64 (k : Int)) else getV (find (cs.take k)) l := funext (take_new HX.out HF.out)
         rw [e]
         exact HM3.out
       case measure => omega
   | false =>
     have hkl : ¬ k < len := by simpa using hd
     have hfirst : MapIs Tryz.prog 9 strK wr wd.heap.size len (getV (find cs)) := by
       have := HMP.out
       rw [List.take_of_length_le (by have := HL.out; omega)] at this
       exact this.mono (by omega)
     have HFM := hid hfirst
     clear hfirst
     -- the second loop: the rows
     obtain ⟨w1, hw1⟩ : ∃ w1, w1 = wr := ⟨_, rfl⟩
     subst hw1
     have hkeep : ∀ (b : Nat) (o : Obj), b < wd.heap.size → we.heap[b]? = some o → w1.heap[b]? = some o := fun b o hb ho => HCW.out.keep _ _ ho (fun e => by have e' : b = wd.heap.size := e; omega)
     have HPF := hid (hkeep _ _ yp HPE.out)
     have HRF := hid (hkeep _ _ yr HRE.out)
     have HTF := hid (hkeep _ _ y4 HTE.out)
     have hwaf : Ch No wa w1 := HCE.out.trans' HCW.out (fun j o hj e => by have e' : j = wd.heap.size := e; have := lt_size hj; omega)
     have HWAF := hid hwaf
     have yf : we.heap.size ≤ w1.heap.size := HCW.out.size
     clear hkeep hwaf R Z p0 p1 p2 p3 p4 p5 p6 p7 p8 p9
     have hstart : Ch (fun j _ => j = wc.heap.size) w1 w1 := Ch.refl _ _
     have HS0 := hid hstart
     clear hstart
     have p0 := cellAt HPF.out 0
     have p1 := cellAt HPF.out 1
     have p2 := cellAt HPF.out 2
     have p3 := cellAt HPF.out 3
     have p4 := cellAt HPF.out 4
     have p5 := cellAt HPF.out 5
     have p6 := cellAt HPF.out 6
     have p7 := cellAt HPF.out 7
     have p8 := cellAt HPF.out 8
     have p9 := cellAt HPF.out 9
     go_wp2_with fail
     clear p0 p1 p2 p3 p4 p5 p6 p7 p8 p9
     go_loopg [45] len (fun g s45 wr => ∃ (k : Nat) (ka : Option Addr) (kc : Nat) (ks : List Knd), k ≤ len ∧ len - k ≤ g ∧ s45 = .int .i64 k ∧ Hid (RowsOf cs ks k) ∧ Hid (KndsOwn wr w1.heap.size (.slice ka k kc) ks) ∧ Hid (wr.heap[wc.heap.size]? = some (.cells #[.slice ka k kc, .map (some wb.heap.size), .slice none 0 0, .slice none 0 0] 145 (0, 0))) ∧ Hid (Ch (fun j _ => j = wc.heap.size) w1 wr))
     case atStart => exact ⟨0, none, 0, [], Nat.zero_le _, by omega, rfl, hid (RowsOf.nil cs), hid (KndsOwn.nil _ _), HTF, HS0⟩
     case round =>
       obtain ⟨k, ka, kc, ks, hk, hg, rfl, HRO, HKO, HTB, HCT⟩ := hrel
       have hno : Ch No wa wr := HWAF.out.trans' HCT.out (fun j o hj e => by have e' : j = wc.heap.size := e; have := lt_size hj; omega)
       have HNO := hid hno
       have hpf2 := HCT.out.keep _ _ HPF.out (fun e => by have e' : w.heap.size = wc.heap.size := e; omega)
       have hrf2 := HCT.out.keep _ _ HRF.out (fun e => by have e' : wa.heap.size = wc.heap.size := e; omega)
       have p0 := cellAt hpf2 0
       have p1 := cellAt hpf2 1
       have p2 := cellAt hpf2 2
       have p3 := cellAt hpf2 3
       have p4 := cellAt hpf2 4
       have p5 := cellAt hpf2 5
       have p6 := cellAt hpf2 6
       have p7 := cellAt hpf2 7
       have p8 := cellAt hpf2 8
       have p9 := cellAt hpf2 9
       have x1 := lt_size hpf2
       have x2 := lt_size hrf2
       have x3 := lt_size HTB.out
       have HRF2 := hid hrf2
       clear hpf2 hrf2 hno
       cases hd : decide (k < len) with
       | true =>
         have hkl : k < len := by simpa using hd
         obtain ⟨c, hc⟩ : ∃ c, cs[k]? = some c := ⟨_, List.getElem?_eq_getElem (by have := HL.out; omega)⟩
         obtain ⟨cb, co, cc, ecs, hcell, _, _⟩ := (HC.out.no HNO.out).cell hc
         rw [HL.out] at ecs
         cases ecs
         obtain ⟨q0, q1, q2, q3, q4, q5, q6, q7, q8, q9⟩ := hcell
         have hns := (HSZ.out c (List.mem_of_getElem? hc)).1
         have hfl := HM.out.2 c (List.mem_of_getElem? hc)
         have hbc := heap_alloc_new wr (.cells #[.string c.name, .string c.sup, .bool c.face, .slice c.fa c.faces.length c.fc, .slice c.s4.1 c.s4.2.1 c.s4.2.2, .slice c.s5.1 c.s5.2.1 c.s5.2.2, .slice c.s6.1 c.s6.2.1 c.s6.2.2, .pointer c.p7, .int .i64 c.line, .int .i64 c.col] 50)
         have hca := (Ch.refl No wr).alloc (.cells #[.string c.name, .string c.sup, .bool c.face, .slice c.fa c.faces.length c.fc, .slice c.s4.1 c.s4.2.1 c.s4.2.2, .slice c.s5.1 c.s5.2.1 c.s5.2.2, .slice c.s6.1 c.s6.2.1 c.s6.2.2, .pointer c.p7, .int .i64 c.line, .int .i64 c.col] 50)
         obtain ⟨wx, hwx⟩ : ∃ wx, wr.alloc (.cells #[.string c.name, .string c.sup, .bool c.face, .slice c.fa c.faces.length c.fc, .slice c.s4.1 c.s4.2.1 c.s4.2.2, .slice c.s5.1 c.s5.2.1 c.s5.2.2, .slice c.s6.1 c.s6.2.1 c.s6.2.2, .pointer c.p7, .int .i64 c.line, .int .i64 c.col] 50) = wx := ⟨_, rfl⟩
         rw [hwx] at hbc hca
         have hmx := (HFM.out.ch HCT.out (fun _ _ e => by have e' : wd.heap.size = wc.heap.size := e; omega)).ch hca (fun _ _ h => h)
         have hki := hkind (tv := .pointer (some ⟨wc.heap.size, 0, none⟩)) (HP.out.no (HNO.out.trans hca)) hmx HSZ.out hc (by omega)
         have d0 := cellAt hbc 0
         have d1 := cellAt hbc 1
         have d2 := cellAt hbc 2
         have d3 := cellAt hbc 3
         have d4 := cellAt hbc 4
         have d5 := cellAt hbc 5
         have d6 := cellAt hbc 6
         have d7 := cellAt hbc 7
         have d8 := cellAt hbc 8
         have d9 := cellAt hbc 9
         have r0 := cell_ch p0 hca (fun _ _ h => h)
         have r1 := cell_ch p1 hca (fun _ _ h => h)
         have r2 := cell_ch p2 hca (fun _ _ h => h)
         have r3 := cell_ch p3 hca (fun _ _ h => h)
         have r4 := cell_ch p4 hca (fun _ _ h => h)
         have r5 := cell_ch p5 hca (fun _ _ h => h)
         have r6 := cell_ch p6 hca (fun _ _ h => h)
         have r7 := cell_ch p7 hca (fun _ _ h => h)
         have r8 := cell_ch p8 hca (fun _ _ h => h)
         have r9 := cell_ch p9 hca (fun _ _ h => h)
         have hzx := lt_size hbc
         have HX := hid hc
         have HCA := hid hca
         have HBC := hid hbc
         have HMX := hid hmx
         clear hc hbc hca hmx
         go_wp2_with fail
         refine hki.mono ?_
         rintro e w6 ⟨hc6, hout⟩
         have hbc6 := hc6.keep _ _ HBC.out (fun h => h)
         have e0 := cellAt hbc6 0
         have e1 := cellAt hbc6 1
         have e2 := cellAt hbc6 2
         have e3 := cellAt hbc6 3
         have e4 := cellAt hbc6 4
         have e5 := cellAt hbc6 5
         have e6 := cellAt hbc6 6
         have e7 := cellAt hbc6 7
         have e8 := cellAt hbc6 8
         have e9 := cellAt hbc6 9
         have x6 := lt_size hbc6
         have hm6 := HMX.out.ch hc6 (fun _ _ h => h)
         obtain ⟨j, hj⟩ : ∃ j, find cs c.name = some j := findSelf HX.out
         have HJ := hid hj
         have HC6 := hid hc6
         have HM6 := hid hm6
         have HBC6 := hid hbc6
         clear hki hc6 hbc6 hm6 hj d0 d1 d2 d3 d4 d5 d6 d7 d8 d9 r0 r1 r2 r3 r4 r5 r6 r7 r8 r9
         rcases hout with ⟨hok, fa, fc, rfl, hfs⟩ | ⟨hok, z, xa, xn, xc, rfl⟩
         · have HOK := hid hok
           have HFS := hid hfs
           clear hok hfs
           have hkb := heap_alloc_new w6 (.cells #[.string c.name, .bool c.face, .int .i64 (supZ cs c), .slice fa c.faces.length fc] 147)
           have hck := (Ch.refl No w6).alloc (.cells #[.string c.name, .bool c.face, .int .i64 (supZ cs c), .slice fa c.faces.length fc] 147)
           have hlk := lookN (HM6.out.ch hck (fun _ _ h => h)) hns HJ.out
           have b0 := cell_ch e0 hck (fun _ _ h => h)
           have b1 := cell_ch e1 hck (fun _ _ h => h)
           have b2 := cell_ch e2 hck (fun _ _ h => h)
           have b3 := cell_ch e3 hck (fun _ _ h => h)
           have b4 := cell_ch e4 hck (fun _ _ h => h)
           have b5 := cell_ch e5 hck (fun _ _ h => h)
           have b6 := cell_ch e6 hck (fun _ _ h => h)
           have b7 := cell_ch e7 hck (fun _ _ h => h)
           have b8 := cell_ch e8 hck (fun _ _ h => h)
           have b9 := cell_ch e9 hck (fun _ _ h => h)
           by_cases hjk : j = k
           · have hne : ((j : Int) != (k : Int)) = false := by subst hjk; simp
             have HCK := hid hck
             have HKB := hid hkb
             have htk := ((HCA.out.trans HC6.out).trans hck).keep _ _ HTB.out (fun h => h)
             have t0 := cellAt htk 0
             have t1 := cellAt htk 1
             have t2 := cellAt htk 2
             have t3 := cellAt htk 3
             have u0 := freeAt htk 0
             have u1 := freeAt htk 1
             have u2 := freeAt htk 2
             have u3 := freeAt htk 3
             have n0 := cellAt hkb 0
             have n1 := cellAt hkb 1
             have n2 := cellAt hkb 2
             have n3 := cellAt hkb 3
             have HTK := hid htk
             have HJK := hid hjk
             clear hck hkb htk hjk
             obtain ⟨wk, hwk⟩ : ∃ wk, w6.alloc (.cells #[.string c.name, .bool c.face, .int .i64 (supZ cs c), .slice fa c.faces.length fc] 147) = wk := ⟨_, rfl⟩
             rw [hwk] at HCK HKB HTK b0 b1 b2 b3 b4 b5 b6 b7 b8 b9 hlk t0 t1 t2 t3 u0 u1 u2 u3 n0 n1 n2 n3
             have hkall := (HCA.out.trans HC6.out).trans HCK.out
             have hca2 := ((Ch.refl No wk).alloc (.cells #[.string c.name, .bool c.face, .int .i64 (supZ cs c), .slice fa c.faces.length fc] 147)).drew
             have hKO := HKO.out.no (hkall.trans hca2)
             have hFS : IntsOwn ((wk.alloc (.cells #[.string c.name, .bool c.face, .int .i64 (supZ cs c), .slice fa c.faces.length fc] 147)).drew) w1.heap.size (.slice fa c.faces.length fc) (c.faces.map (findZ cs)) := (HFS.out.base (by have h1 := HCT.out.size; have h2 := HCA.out.size; omega)).no (HCK.out.trans hca2)
             have hBB : ((wk.alloc (.cells #[.string c.name, .bool c.face, .int .i64 (supZ cs c), .slice fa c.faces.length fc] 147)).drew).heap[wk.heap.size]? = some (.cells #[.string c.name, .bool c.face, .int .i64 (supZ cs c), .slice fa (c.faces.map (findZ cs)).length fc] 147 (0, 0)) := by
               rw [List.length_map]
               exact heap_alloc_new wk _
             have hFS2 : IntsOwn ((wk.alloc (.cells #[.string c.name, .bool c.face, .int .i64 (supZ cs c), .slice fa c.faces.length fc] 147)).drew) w1.heap.size (.slice fa (c.faces.map (findZ cs)).length fc) (c.faces.map (findZ cs)) := by
               rw [List.length_map]
               exact hFS
             have hnb : (Value.slice ka k kc).ownBlock ≠ some wc.heap.size := fun e => by
               have := (HKO.out.lt _ e).1
               omega
             have hbase2 : w1.heap.size ≤ ((wk.alloc (.cells #[.string c.name, .bool c.face, .int .i64 (supZ cs c), .slice fa c.faces.length fc] 147)).drew).heap.size := by have h1 := HCT.out.size; have h2 := (hkall.trans hca2).size; omega
             have hks1 : ks.length ≤ 1000 := by rw [HRO.out.len]; omega
             have hksl := HRO.out.len
             have HTK2 := hid (hca2.keep _ _ HTK.out (fun h => h))
             have HCA2 := hid hca2
             have HKSL := hid hksl
             have HKALL := hid hkall
             have HBB := hid hBB
             have HFS2 := hid hFS2
             have HKO2 := hid hKO
             clear hksl hkall hca2 hKO hFS hBB hFS2
             go_wp2_with fail
             clear hwk
             have zk := lt_size HTK.out
             have zk2 := lt_size HKB.out
             go_region_law (first | (refine step_appendK rfl _ _ rfl w1.heap.size (.slice ka k kc) ks rfl HKO2.out (⟨c.name, c.face, supZ cs c, c.faces.map (findZ cs), fa, fc⟩ : Knd) wk.heap.size 1 rfl HBB.out hks1 hbase2 HFS2.out ?_; intro v9 w9 hown9 hch9; obtain ⟨ka9, kc9, rfl, _, _⟩ := hown9.shape; rw [List.length_append, HKSL.out, List.length_singleton] at hown9 ⊢; have ht9 := hch9.keep _ _ HTK2.out hnb; have t90 := cellAt ht9 0; have f90 := freeAt ht9 0; have HT9 := hid ht9; have HOWN9 := hid hown9; have HCH9 := hid hch9; clear ht9 hown9 hch9))
             all_goals (
               go_wp2_with fail
               go_roundg (len - k - 1)
               case rel =>
                 have hc9 : Ch (fun j _ => j = wc.heap.size) w9 (w9.setCell ⟨wc.heap.size, 0, none⟩ (.slice ka9 (k + 1) kc9)) := (Ch.refl _ _).setCell (fun _ _ => rfl) _
                 have hcr9 : Ch (fun j _ => j = wc.heap.size) w1 w9 := (HCT.out.trans ((HKALL.out.trans HCA2.out).mono (fun _ _ _ h => h.elim))).trans' HCH9.out (fun j o hj e => by
                   have := (HKO.out.lt _ e).1
                   have := lt_size hj
                   omega)
                 refine ⟨k + 1, ka9, kc9, ks ++ [(⟨c.name, c.face, supZ cs c, c.faces.map (findZ cs), fa, fc⟩ : Knd)], by omega, by omega, by go_num, hid (HRO.out.step HX.out ?_ ⟨rfl, rfl, rfl, rfl⟩), hid (HOWN9.out.ch hc9 (fun g o hg e => by have e' : g = wc.heap.size := e; omega)), hid ?_, hid (hcr9.trans hc9)⟩
                 · exact okC_iff.2 ⟨by rw [HJ.out, HJK.out], HOK.out⟩
                 · rw [setCell_heap HT9.out]; rfl
               case measure => omega)
           · have hne : ((j : Int) != (k : Int)) = true := by simp; omega
             have HJK := hid hjk
             clear hkb hck hjk
             go_wp2_with (go_at_call 72; refine (hinvalid _ c.line c.col).mono ?_; rintro e w8 ⟨rfl, hc8⟩; have hw8 := ((HCA.out.trans HC6.out).alloc _).trans hc8; have hr8 := hw8.keep _ _ HRF2.out (fun h => h); have g0 := cellAt hr8 0; have g1 := cellAt hr8 1; have g2 := cellAt hr8 2; have f0 := freeAt hr8 0; have f1 := freeAt hr8 1; have f2 := freeAt hr8 2; have HW8 := hid hw8; have HR8 := hid hr8; clear hc8 hw8 hr8)
             obtain ⟨wz, hwz, hzb, hzc⟩ := put3 HR8.out (.int .i64 11) (.int .i64 c.line) (.int .i64 c.col)
             rw [hwz]
             have k0 := cellAt hzb 0
             have k1 := cellAt hzb 1
             have k2 := cellAt hzb 2
             refine bodyPost_ret (v := .tuple #[.pointer none, faultV (11, c.line, c.col)]) (by simp [results, Tryz.results42, go_sem, faultV, k0, k1, k2]) rfl ?_
             refine NewOut.fail HX.out ⟨by have := HL.out; omega, .inl ⟨fun h => ?_, HRO.out.ok⟩⟩ ((HCH.out.trans (HNO.out.trans HW8.out)).trans' hzc (fun j o hj e => by have e' : j = wa.heap.size := e; have := lt_size hj; omega))
             have := (okC_iff.1 (h c HX.out)).1
             rw [HJ.out] at this
             exact HJK.out (by cases this; rfl)
         · have HOK := hid hok
           clear hok
           go_wp2_with (go_at_call 72; refine (hinvalid _ c.line c.col).mono ?_; rintro e w8 ⟨rfl, hc8⟩; have hw8 := ((HCA.out.trans HC6.out).alloc _).trans hc8; have hr8 := hw8.keep _ _ HRF2.out (fun h => h); have g0 := cellAt hr8 0; have g1 := cellAt hr8 1; have g2 := cellAt hr8 2; have f0 := freeAt hr8 0; have f1 := freeAt hr8 1; have f2 := freeAt hr8 2; have HW8 := hid hw8; have HR8 := hid hr8; clear hc8 hw8 hr8)
           obtain ⟨wz, hwz, hzb, hzc⟩ := put3 HR8.out (.int .i64 11) (.int .i64 c.line) (.int .i64 c.col)
           rw [hwz]
           have k0 := cellAt hzb 0
           have k1 := cellAt hzb 1
           have k2 := cellAt hzb 2
           refine bodyPost_ret (v := .tuple #[.pointer none, faultV (11, c.line, c.col)]) (by simp [results, Tryz.results42, go_sem, faultV, k0, k1, k2]) rfl ?_
           refine NewOut.fail HX.out ⟨by have := HL.out; omega, .inl ⟨fun h => ?_, HRO.out.ok⟩⟩ ((HCH.out.trans (HNO.out.trans HW8.out)).trans' hzc (fun j o hj e => by have e' : j = wa.heap.size := e; have := lt_size hj; omega))
           exact HOK.out (okC_iff.1 (h c HX.out)).2
       | false =>
         have hkl : ¬ k < len := by simpa using hd
         have hkk : k = len := by omega
         have hro : RowsOf cs ks len := by rw [← hkk]; exact HRO.out
         have hsp : SoundP cs := soundOf (fun j hj => hro.ok j (by have := HL.out; omega))
         have ytb : wc.heap.size < w1.heap.size := by omega
         have hks := hro.len
         obtain ⟨wr0, hwr0⟩ : ∃ wr0, wr0 = wr := ⟨_, rfl⟩
         subst hwr0
         obtain ⟨wg, hwg⟩ : ∃ wg, wr0.setCell ⟨wc.heap.size, 1, none⟩ (.map (some wd.heap.size)) = wg := ⟨_, rfl⟩
         have hcg : Ch (fun j _ => j = wc.heap.size) wr0 wg := by rw [← hwg]; exact (Ch.refl _ _).setCell (fun _ _ => rfl) _
         have htg : wg.heap[wc.heap.size]? = some (.cells #[.slice ka k kc, .map (some wd.heap.size), .slice none 0 0, .slice none 0 0] 145 (0, 0)) := by
           rw [← hwg, setCell_heap HTB.out]; rfl
         have hgdb : 0 < w.heap.size := by
           have h0 := HT.out 0 (by decide)
           exact block_lt_of_cell h0
         have hfix : Fix cs wc.heap.size wd.heap.size len (.slice ka k kc) ks wg := by
           refine ⟨fun w' hw' => ⟨?_, ?_, ?_⟩, by rw [hks]; exact HL.out.symm, fun i d x hd hx => hro.row i d x (by have := (List.getElem?_eq_some_iff.1 hd).1; have := HL.out; omega) hd hx, HSZ.out, hsp, HM.out, lt_size htg⟩
           · exact ((HKO.out.ch hcg (fun g o hg e => by have e' : g = wc.heap.size := e; omega)).ch hw' (fun g o hg e => by have e' : g = wc.heap.size := e; omega)).at_
           · exact ((HFM.out.ch HCT.out (fun _ _ e => by have e' : wd.heap.size = wc.heap.size := e; omega)).ch hcg (fun _ _ e => by have e' : wd.heap.size = wc.heap.size := e; omega)).ch hw' (fun _ _ e => by have e' : wd.heap.size = wc.heap.size := e; omega)
           · exact (((HT.out.no (HCH.out.trans HNO.out)).ch hcg (fun _ e => by have e' : 0 = wc.heap.size := e; omega))).ch hw' (fun _ e => by have e' : 0 = wc.heap.size := e; omega)
         have hso := hsort hfix htg
         have t0 := cellAt HTB.out 0
         have t1 := cellAt HTB.out 1
         have t2 := cellAt HTB.out 2
         have t3 := cellAt HTB.out 3
         have u0 := freeAt HTB.out 0
         have u1 := freeAt HTB.out 1
         have u2 := freeAt HTB.out 2
         have u3 := freeAt HTB.out 3
         have HFIX := hid hfix
         have HSP := hid hsp
         have HCG := hid hcg
         have HHTG := hid htg
         clear hkk hro hsp hks hfix hcg htg
         go_wp2_with fail
         refine hso.mono ?_
         rintro e w3 ⟨rfl, ab, ss, d, ordv, hss, rfl⟩
         -- the third loop: the rings
         have hpf3 := hss.ch.keep _ _ (HCG.out.keep _ _ (HCT.out.keep _ _ HPF.out (fun e => by have e' : w.heap.size = wc.heap.size := e; omega)) (fun e => by have e' : w.heap.size = wc.heap.size := e; omega)) (fun e => by have e' : w.heap.size = wc.heap.size := e; omega)
         have hrf3 := hss.ch.keep _ _ (HCG.out.keep _ _ (HCT.out.keep _ _ HRF.out (fun e => by have e' : wa.heap.size = wc.heap.size := e; omega)) (fun e => by have e' : wa.heap.size = wc.heap.size := e; omega)) (fun e => by have e' : wa.heap.size = wc.heap.size := e; omega)
         have hno3 : Ch No wa w3 := (HNO.out.trans' HCG.out (fun j o hj e => by have e' : j = wc.heap.size := e; have := lt_size hj; omega)).trans' hss.ch (fun j o hj e => by have e' : j = wc.heap.size := e; have := lt_size hj; omega)
         have HSS := hid hss
         have HPF3 := hid hpf3
         have HRF3 := hid hrf3
         have HNO3 := hid hno3
         have s0 := cellAt hpf3 0
         have s1 := cellAt hpf3 1
         have s2 := cellAt hpf3 2
         have s3 := cellAt hpf3 3
         have s4 := cellAt hpf3 4
         have s5 := cellAt hpf3 5
         have s6 := cellAt hpf3 6
         have s7 := cellAt hpf3 7
         have s8 := cellAt hpf3 8
         have s9 := cellAt hpf3 9
         clear hso hss hpf3 hrf3 hno3 hwg t0 t1 t2 t3 u0 u1 u2 u3 p0 p1 p2 p3 p4 p5 p6 p7 p8 p9
         go_wp2_with fail
         clear s0 s1 s2 s3 s4 s5 s6 s7 s8 s9
         go_loopg [91] len (fun g s91 wr => ∃ (k : Nat), k ≤ len ∧ len - k ≤ g ∧ s91 = .int .i64 k ∧ Hid (∀ j, j < k → ¬ Gr.Reach (upsN cs) j j) ∧ Hid (Ch No w3 wr))
         case atStart => exact ⟨0, Nat.zero_le _, by omega, rfl, hid (fun j h => absurd h (Nat.not_lt_zero _)), hid (Ch.refl _ _)⟩
         case round =>
           obtain ⟨k, hk, hg, rfl, HNR, HC3⟩ := hrel
           have htab := (HSS.out.tab HFIX.out).no HC3.out
           have hrr := HC3.out.keep _ _ HRF3.out (fun h => h)
           cases hd : decide (k < len) with
           | true =>
             have hkl : k < len := by simpa using hd
             have hkc : k < cs.length := by have := HL.out; omega
             obtain ⟨c, hc⟩ : ∃ c, cs[k]? = some c := ⟨_, List.getElem?_eq_getElem hkc⟩
             obtain ⟨cb, co, cc, ecs, hcell, _, _⟩ := (HC.out.no (HNO3.out.trans HC3.out)).cell hc
             rw [HL.out] at ecs
             cases ecs
             obtain ⟨q0, q1, q2, q3, q4, q5, q6, q7, q8, q9⟩ := hcell
             have hbc := heap_alloc_new wr (.cells #[.string c.name, .string c.sup, .bool c.face, .slice c.fa c.faces.length c.fc, .slice c.s4.1 c.s4.2.1 c.s4.2.2, .slice c.s5.1 c.s5.2.1 c.s5.2.2, .slice c.s6.1 c.s6.2.1 c.s6.2.2, .pointer c.p7, .int .i64 c.line, .int .i64 c.col] 50)
             have hca := (Ch.refl No wr).alloc (.cells #[.string c.name, .string c.sup, .bool c.face, .slice c.fa c.faces.length c.fc, .slice c.s4.1 c.s4.2.1 c.s4.2.2, .slice c.s5.1 c.s5.2.1 c.s5.2.2, .slice c.s6.1 c.s6.2.1 c.s6.2.2, .pointer c.p7, .int .i64 c.line, .int .i64 c.col] 50)
             obtain ⟨wx, hwx⟩ : ∃ wx, wr.alloc (.cells #[.string c.name, .string c.sup, .bool c.face, .slice c.fa c.faces.length c.fc, .slice c.s4.1 c.s4.2.1 c.s4.2.2, .slice c.s5.1 c.s5.2.1 c.s5.2.2, .slice c.s6.1 c.s6.2.1 c.s6.2.2, .pointer c.p7, .int .i64 c.line, .int .i64 c.col] 50) = wx := ⟨_, rfl⟩
             rw [hwx] at hbc hca
             have htx := htab.no hca
             have t2 := cellAt htx.blk 2
             have t2' : wx.cell? ⟨wc.heap.size, 2, none⟩ = some (.slice (some ⟨ab, 0, none⟩) cs.length cs.length) := t2
             clear t2
             have d0 := cellAt hbc 0
             have d1 := cellAt hbc 1
             have d2 := cellAt hbc 2
             have d3 := cellAt hbc 3
             have d4 := cellAt hbc 4
             have d5 := cellAt hbc 5
             have d6 := cellAt hbc 6
             have d7 := cellAt hbc 7
             have d8 := cellAt hbc 8
             have d9 := cellAt hbc 9
             have hzx := lt_size hbc
             have HX := hid hc
             have HTX := hid htx
             have HBC := hid hbc
             have HCA := hid hca
             have hrx := hca.keep _ _ hrr (fun h => h)
             have HRX := hid hrx
             by_cases hin : k ∈ ordN cs
             · obtain ⟨b, hb⟩ := HSS.out.ss.yes k hin
               have hac := sCell ((HC3.out.trans hca).keep _ _ HSS.out.abk (fun h => h)) hb
               have hac' : wx.cell? ⟨ab, k, none⟩ = some (.pointer (some ⟨b, 0, none⟩)) := hac
               have HIN := hid hin
               clear hc hbc hca htx htab hrr hrx hac hb hin
               go_wp2_with fail
               go_roundg (len - k - 1)
               case rel =>
                 refine ⟨k + 1, by omega, by omega, by go_num, hid (fun j hj => ?_), hid (HC3.out.trans HCA.out)⟩
                 by_cases e : j = k
                 · subst e; exact HSS.out.ss.ord.1.noring _ HIN.out
                 · exact HNR.out j (by omega)
               case measure => omega
             · have hb := HSS.out.ss.no k hkc hin
               have hac := sCell ((HC3.out.trans hca).keep _ _ HSS.out.abk (fun h => h)) hb
               have hac' : wx.cell? ⟨ab, k, none⟩ = some (.pointer none) := hac
               have hro := hround htx (HSS.out.ksof HFIX.out) HSP.out HM.out hkc
               clear hc hbc hca htx htab hrr hrx hac hb hin
               go_wp2_with fail
               refine hro.mono ?_
               rintro e w6 ⟨⟨hre, rfl⟩ | ⟨hre, rfl⟩, hc6⟩
               · have hbc6 := hc6.keep _ _ HBC.out (fun h => h)
                 have e8 := cellAt hbc6 8
                 have e9 := cellAt hbc6 9
                 have HRE2 := hid hre
                 have HC6 := hid hc6
                 clear hro hre hc6 hbc6
                 go_wp2_with (go_at_call 72; refine (hinvalid _ c.line c.col).mono ?_; rintro e w8 ⟨rfl, hc8⟩; have hw8 := HC6.out.trans hc8; have hr8 := hw8.keep _ _ HRX.out (fun h => h); have g0 := cellAt hr8 0; have g1 := cellAt hr8 1; have g2 := cellAt hr8 2; have f0 := freeAt hr8 0; have f1 := freeAt hr8 1; have f2 := freeAt hr8 2; have HW8 := hid hw8; have HR8 := hid hr8; clear hc8 hw8 hr8)
                 obtain ⟨wz, hwz, hzb, hzc⟩ := put3 HR8.out (.int .i64 11) (.int .i64 c.line) (.int .i64 c.col)
                 rw [hwz]
                 have k0 := cellAt hzb 0
                 have k1 := cellAt hzb 1
                 have k2 := cellAt hzb 2
                 refine bodyPost_ret (v := .tuple #[.pointer none, faultV (11, c.line, c.col)]) (by simp [results, Tryz.results42, go_sem, faultV, k0, k1, k2]) rfl ?_
                 exact NewOut.fail HX.out ⟨hkc, .inr ⟨HSP.out, HRE2.out, HNR.out⟩⟩ ((HCH.out.trans (HNO3.out.trans (HC3.out.trans (HCA.out.trans HW8.out)))).trans' hzc (fun j o hj e => by have e' : j = wa.heap.size := e; have := lt_size hj; omega))
               · have HRE2 := hid hre
                 have HC6 := hid hc6
                 clear hro hre hc6
                 go_wp2_with fail
                 go_roundg (len - k - 1)
                 case rel =>
                   refine ⟨k + 1, by omega, by omega, by go_num, hid (fun j hj => ?_), hid ((HC3.out.trans HCA.out).trans HC6.out)⟩
                   by_cases e : j = k
                   · subst e; exact HRE2.out
                   · exact HNR.out j (by omega)
                 case measure => omega
           | false =>
             have hkl : ¬ k < len := by simpa using hd
             have g0 := cellAt hrr 0
             have g1 := cellAt hrr 1
             have g2 := cellAt hrr 2
             have f0 := freeAt hrr 0
             have f1 := freeAt hrr 1
             have f2 := freeAt hrr 2
             have HRR := hid hrr
             have HTAB := hid htab
             clear hrr htab
             go_wp2_with fail
             obtain ⟨wz, hwz, hzb, hzc⟩ := put3 HRR.out (.int .i64 0) (.int .i64 0) (.int .i64 0)
             rw [hwz]
             have k0 := cellAt hzb 0
             have k1 := cellAt hzb 1
             have k2 := cellAt hzb 2
             refine bodyPost_ret (v := .tuple #[.pointer (some ⟨wc.heap.size, 0, none⟩), faultV (0, 0, 0)]) (by simp [results, Tryz.results42, go_sem, faultV, k0, k1, k2]) rfl ?_
             refine NewOut.good ⟨HSP.out, fun j hj => HNR.out j (by have := HL.out; omega)⟩ ((HCH.out.trans (HNO3.out.trans HC3.out)).trans' hzc (fun j o hj e => by have e' : j = wa.heap.size := e; have := lt_size hj; omega)) ?_
             have hss := HSS.out.no HC3.out
             have hcw : Ch (fun j _ => j = wc.heap.size) wr0 w3 := HCG.out.trans HSS.out.ch
             have hkz := ((((HKO.out.ch hcw (fun g o hg e => by have e' : g = wc.heap.size := e; omega)).no HC3.out).ch hzc (fun g o hg e => by have e' : g = wa.heap.size := e; omega))).at_
             have hmz := (((HFM.out.ch HCT.out (fun _ _ e => by have e' : wd.heap.size = wc.heap.size := e; omega)).ch hcw (fun _ _ e => by have e' : wd.heap.size = wc.heap.size := e; omega)).ch HC3.out (fun _ _ h => h)).ch hzc (fun _ _ e => by have e' : wd.heap.size = wa.heap.size := e; omega)
             have hab := HSS.out.ab
             have hwg := HHTG.out
             exact ⟨wc.heap.size, _, rfl, hss.tabR hkz hmz hzc (by omega) (by have h1 := lt_size HHTG.out; omega) (by have := HL.out; omega), hss.ksof HFIX.out, rfl, rfl, hss.ss⟩
end Go.Proofs.YtgjpgfedlgdjhaaGreatDoor
end
