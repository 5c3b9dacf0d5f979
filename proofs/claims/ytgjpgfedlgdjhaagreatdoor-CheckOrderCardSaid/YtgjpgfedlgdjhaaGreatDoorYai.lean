/- Part 9. -/
import Derived.Test.YtgjpgfedlgdjhaaGreatDoorYah
import Derived.Deep.CutRange
set_option linter.unusedVariables false
set_option linter.unusedSimpArgs false
set_option maxHeartbeats 64000000
set_option maxRecDepth 8192
section
namespace Go.Proofs.YtgjpgfedlgdjhaaGreatDoor
open Go.RowKit Go.W
def Aca (cs : List Aj) (ms : List Ba) : Prop := ∀ (i : Nat) (c : Aj) (m : Ba), cs[i]? = some c → ms[i]? = some m → D8 cs ms i c m
def Fw (cs : List Aj) (ms : List Ba) : Prop := Bt cs none ∧ Aca cs ms
def Afj (cs : List Aj) (ms : List Ba) (w : World) (e : Ending) (w' : World) : Prop :=
 Ch No w w' ∧ ((∃ mb, e = .returned (.tuple #[.pointer (some ⟨mb, 0, none⟩), .agg #[.int .i64 0, .int .i64 0, .int .i64 0]]) ∧ B3 w' mb cs ms ∧ Fw cs ms) ∨
  (∃ l c, e = .returned (.tuple #[.pointer none, .agg #[.int .i64 11, .int .i64 l, .int .i64 c]]) ∧ ¬ Fw cs ms))
def Nu : Nat → Obj → Prop := fun _ o => ∃ cur t, o = .cells cur t (0, 0) ∧ t ≠ 9
theorem Jb.chS {w w' : World} {b : Nat × Nat × Nat} {i : Nat} {m : Ba} (h : Jb w b i m) (hc : Ch Nu w w') : Jb w' b i m := by
 have hm : ∀ (k : Nat) (es : Array MapEntry) (c : Nat), ¬ Nu k (.map es c) := fun k es c ⟨cur, t, e, _⟩ => by cases e
 obtain ⟨n1, n2, n3, pv, h1, h2, h3, h4, h5⟩ := h.ex
 exact ⟨n1, n2, n3, pv, h1.ch hc (fun _ _ => hm _ _ _), h2.ch hc (fun _ _ => hm _ _ _), h3.ch hc (fun _ _ => hm _ _ _), h4, fun k x hx => (h5 k x hx).ch hc (fun g cur _ _ ⟨cur', t, e, ht⟩ => by cases e; exact ht rfl)⟩
theorem Tryz.infoOwn : (Tryz.prog.info? 100).map (fun i => (i.zero.map (fun z => z.cells.size), i.size, i.bytes)) = some (some 3, 3, 24) := by kernel_rfl
theorem Tryz.sliceOwn : Tryz.prog.underlying 95 = some (.slice 100) := by kernel_rfl
theorem Se {w : World} {base : Nat} {v : Value} {bs : List (Nat × Nat × Nat)} (h : w.ownsRow base 100 3 v bs.length (bs.flatMap Ep)) : B5 w v 3 (bs.map Ep) := by
 rcases h.2 with ⟨rfl, h0⟩ | ⟨g, cap, cur, rfl, hg, hh, h4, h5, h6, h7⟩
 {have : bs = [] := List.length_eq_zero_iff.1 h0
  subst this
  exact ⟨none, 0, rfl, Nat.le_refl _, Nat.zero_le _, by simp, fun h => by simp at h⟩}
 {refine ⟨some ⟨g, 0, none⟩, cap, by rw [List.length_map], by rw [List.length_map]; exact h4, h5, fun c hc => ?_, fun _ => ⟨g, 0, rfl, fun i c hi j hj => ?_⟩⟩
  {obtain ⟨k, _, rfl⟩ := List.mem_map.1 hc
   rfl}
  {rw [List.getElem?_map] at hi
   cases hk : bs[i]? with
   | none => rw [hk] at hi; cases hi
   | some k =>
    rw [hk] at hi
    have : c = Ep k := by simpa using hi.symm
    subst this
    have hil := (gL hk)
    rw [Ab hh, Nat.zero_add, ← Array.getElem?_toList]
    have hf := E9 Ep 3 (fun _ => rfl) bs i j k hk hj
    rw [← h7, List.getElem?_take, if_pos (by omega)] at hf
    exact hf}}
theorem Afk (a b c : Nat) : ∀ u ∈ [Value.map (some a), .map (some b), .map (some c)], u.oneCell' = true := by
 intro u hu
 simp at hu
 rcases hu with rfl | rfl | rfl <;> rfl
theorem Ch.same {a w : World} {b : Nat} {o : Obj} (h : a.heap[b]? = some o) (h' : w.heap[b]? = some o) (hc : Ch (fun k _ => k = b) a w) : Ch No a w :=
 ⟨hc.os, hc.tape, hc.output, hc.size, fun k o' ho _ => by
  by_cases e : k = b
  {subst e
   rw [h] at ho; cases ho
   exact h'}
  {exact hc.keep k o' ho e}⟩
theorem Nv {cs : List Aj} (h : Bt cs none) : A3 cs := h.2
set_option maxRecDepth 100000 in
set_option maxHeartbeats 64000000 in
theorem Acb {w : World} {pv : Value} {cs : List Aj} {ms : List Ba} (h : Cz w pv cs) (hm : En w cs ms) (hT : Ia w) (hsz : Sv cs) (hszm : W5 ms) (hsm : Df cs) (hfm : ∀ m ∈ ms, T9 m) :
 Calls Tryz.prog 15 #[pv] w (Afj cs ms w) := by
 have HSM := Aa hsm
 have HSZ := Aa hsz
 have HSZM := Aa hszm
 have HT0 := Aa hT
 have HM0 := Aa hm
 have HFM := Aa hfm
 have HLN := Aa hm.len
 have HP0 := Aa h
 clear hsm hsz hszm hT hm hfm
 have hp := h
 obtain ⟨cv, m0, m1, m2, m3, m4, m5, m6, m7, m8, rfl, h⟩ := h
 obtain ⟨ao, cap, rfl, hcap, hmax, _, _⟩ := h.row
 rw [List.length_map] at hcap h hp ⊢
 obtain ⟨len, Av⟩ := Ax cs.length
 rw [Av] at hcap h hp ⊢
 unfold maxLen at hmax
 obtain ⟨wa, hwa, hpb, hch⟩ := A2 w (.cells #[.slice ao len cap, m0, m1, m2, m3, m4, m5, m6, m7, m8] 31)
 have HL := Aa Av
 have HP := Aa (hp.no hch)
 have HC := Aa (h.no hch)
 have HPB := Aa hpb
 have HCH := Aa hch
 obtain ⟨p0, p1, p2, p3, p4, p5, p6, p7, p8, p9⟩ := Cp hpb
 have hz := Ac hpb
 clear Av h hp hpb hch
 have hl20 : len ≤ 20 := by have := HSM.out.1; have := HL.out; omega
 have HCLS : Hid (Ek w (.slice ao len cap) cs) := by
  obtain ⟨_, _, _, _, _, _, _, _, _, _, e, hc⟩ := HP0.out
  rw [List.length_map, HL.out] at e
  cases e
  exact Aa hc
 obtain ⟨wb, hwb, hbb, hcb⟩ := A2 wa (.cells #[.int .i64 0, .int .i64 0, .int .i64 0] 34)
 have HCB := Aa (HCH.out.trans hcb)
 have HPB2 := Aa (hcb.keep _ _ HPB.out (fun h => h))
 have HBB := Aa hbb
 have hnw := Tt (HP.out.no hcb) (HT0.out.no HCB.out) HSZ.out HSM.out
 have yb := Ac hbb
 clear p0 p1 p2 p3 p4 p5 p6 p7 p8 p9 hbb hcb
 obtain ⟨p0, p1, p2, p3, p4, p5, p6, p7, p8, p9⟩ := Cp HPB2.out
 go_in
 go_wp2_with fail
 refine hnw.mono ?_
 rintro e w3 ⟨o, hf, hc3, hout⟩
 have HC3 := Aa (HCB.out.trans hc3)
 have HF := Aa hf
 have HP3 := Aa (hc3.keep _ _ HPB2.out (fun h => h))
 have HB3 := Aa (hc3.keep _ _ HBB.out (fun h => h))
 clear hwa hwb p0 p1 p2 p3 p4 p5 p6 p7 p8 p9 hnw hf hc3
 rcases Wv HF.out with ⟨rfl, hfc⟩ | ⟨i, l, c, rfl, hfc⟩
 {obtain ⟨tv, rfl, hti⟩ := hout
  unfold Cr
  clear hfc
  go_upto_region 2 with fail
  obtain ⟨w4, hw4, hb4, hc4⟩ := A2 w3 (.cells #[.int .i64 0, .int .i64 0, .int .i64 0] 34)
  rw [hw4]
  have HC4 := Aa (HC3.out.trans hc4)
  have HP4 := Aa (hc4.keep _ _ HP3.out (fun h => h))
  have HB34 := Aa (hc4.keep _ _ HB3.out (fun h => h))
  have hxn := Afg (HT0.out.no HC4.out) (hti.no hc4) HF.out HSM.out.1
  obtain ⟨g0, g1, g2⟩ := Dy hb4
  have y4 := Ac hb4
  have y34 := hc4.size
  clear hw4 hb4 hc4 hti
  go_wp2_with fail
  refine hxn.mono ?_
  rintro e w5 ⟨xv, rfl, hxv, hc5⟩
  obtain ⟨xb, tb, abv, ss, hxe, hxt⟩ := hxv
  have HXV : Hid (Bv w5 xv cs) := Aa ⟨xb, tb, abv, ss, hxe, hxt⟩
  subst hxe
  have HC5 := Aa (HC4.out.trans hc5)
  have HP5 := Aa (hc5.keep _ _ HP4.out (fun h => h))
  have HB35 := Aa (hc5.keep _ _ HB34.out (fun h => h))
  have hp5 := HP5.out
  obtain ⟨p0, p1, p2, p3, p4, p5, p6, p7, p8, p9⟩ := Cp hp5
  obtain ⟨w6, hw6, hb6, hc6⟩ := A2 w5 (.cells #[.slice ao len cap, m0, m1, m2, m3, m4, m5, m6, m7, m8, .pointer (some ⟨xb, 0, none⟩), .slice none 0 0] 97)
  have HC6 := Aa (HC5.out.trans hc6)
  have HP6 := Aa (hc6.keep _ _ HP5.out (fun h => h))
  have HB36 := Aa (hc6.keep _ _ HB35.out (fun h => h))
  have HC56 := Aa hc6
  have HB6 := Aa hb6
  have hp6 := HP6.out
  have p0' := Ab hp6 0
  have y6 := Ac hb6
  have y56 := hc5.size
  have y6w := HC5.out.size
  clear hxn hp5 hc5 hb6 hc6 hp6 hxt g0 g1 g2
  go_wp2_with fail
  clear hw6 p0 p1 p2 p3 p4 p5 p6 p7 p8 p9
  obtain ⟨mbk, hmbk⟩ := Ax w5.heap.size
  rw [hmbk] at HB6 y6 y56 y6w ⊢
  have HMBK := Aa hmbk
  clear hmbk p0'
  go_loopg [36, 9, 10] len (fun g s36 s9 s10 wr => ∃ k : Nat, k ≤ len ∧ len - k ≤ g ∧ s36 = .int .i64 k ∧ Hid (∃ (bs : List (Nat × Nat × Nat)) (sa : Option Addr) (sc : Nat), wr.heap[mbk]? = some (.cells #[.slice ao len cap, m0, m1, m2, m3, m4, m5, m6, m7, m8, .pointer (some ⟨xb, 0, none⟩), .slice sa k sc] 97 (0, 0)) ∧ wr.ownsRow w6.heap.size 100 3 (.slice sa k sc) k (bs.flatMap Ep) ∧ bs.length = k ∧ ∀ (j : Nat) (b : Nat × Nat × Nat) (m : Ba), bs[j]? = some b → ms[j]? = some m → Jb wr b j m) ∧ Hid (Ch (fun j _ => j = mbk) w6 wr))
  case atStart => exact ⟨0, Nat.zero_le _, by omega, rfl, Aa ⟨[], none, 0, HB6.out, World.ownsRow_nil _ _ _ _, rfl, fun j b m h => by simp at h⟩, Aa (Ch.refl _ _)⟩
  case round =>
   obtain ⟨k, hk, hg, rfl, HR, HCX⟩ := hrel
   have hr := HR.out
   obtain ⟨bs, sa, sc, hmb, hown, hbl, hob⟩ := hr
   have HCR := Aa (Ch.newOnly HC6.out HCX.out (Eb (by omega)))
   cases hd : decide (k < len) with
   | true =>
    have hkl : k < len := by simpa using hd
    obtain ⟨c, hcs⟩ := gE (l := cs) (i := k) (by have := HL.out; omega)
    obtain ⟨m, hmi⟩ := gE (l := ms) (i := k) (by have := HL.out; have := HLN.out; omega)
    obtain ⟨cb, co, cc, ecs, hcell, _, _⟩ := (HCLS.out.no HCR.out).cell hcs
    rw [HL.out] at ecs
    cases ecs
    obtain ⟨q0, q1, q2, q3, q4, q5, q6, q7, q8, q9⟩ := hcell
    obtain ⟨wx, hwx, hbx, hcx⟩ := A2 wr (.cells #[.string c.name, .string c.sup, .bool c.face, .slice c.fa c.faces.length c.fc, .slice c.s4.1 c.s4.2.1 c.s4.2.2, .slice c.s5.1 c.s5.2.1 c.s5.2.2, .slice c.s6.1 c.s6.2.1 c.s6.2.2, .pointer c.p7, .int .i64 c.line, .int .i64 c.col] 50)
    have hma := HM0.out.at_ k c m hcs hmi
    have hto := Abn (hma.no (HCR.out.trans (hcx.trans ((Ch.refl No wx).drew)))) (HSZM.out m (mG hmi)) (HFM.out m (mG hmi)) k
    have HMBX := Aa (hcx.keep _ _ hmb (fun h => h))
    have HOWN := Aa hown
    have HOB := Aa hob
    have HBL := Aa hbl
    have HCXX := Aa hcx
    have HMI := Aa hmi
    have hmbx := HMBX.out
    have c11 := Ab hmbx 11
    obtain ⟨d0, d1, d2, d3, d4, d5, d6, d7, d8, d9⟩ := Cp hbx
    have yx := Ac hbx
    have ymx := Ac hmb
    have hz6 := HCX.out.size
    have hk1 : k + 1 ≤ 100000 := by omega
    clear hmb hown hob hbl hbx hcx hma hmi hcs hmbx
    go_wp2_with fail
    go_region_law (first | (refine Dr rfl _ _ rfl Tryz.sliceOwn Tryz.infoOwn (lb rfl) (lb rfl) w6.heap.size (.slice sa k sc) k _ rfl HROW.out wt.heap.size 1 1 [.map (some b1), .map (some b2), .map (some b3)] rfl rfl (heap_alloc_new wt _) (Afk b1 b2 b3) hk1 hbase ?_; intro v7 w7 hr7 hc7; obtain ⟨a7, c7, e7, _, _⟩ := Ik hr7; subst e7; have hmb7 := hc7.keep _ _ HMBT.out (Bu HROW.out HMBT.out (by decide)); have HMB7 := Aa hmb7; have HR7 := Aa hr7; have HC7 := Aa hc7; have e11 := Ab hmb7 11; have f11 := Ad hmb7 11; clear hr7 hc7 hmb7) | (go_simp; go_at_call 44; refine hto.mono ?_; rintro e wt ⟨ov, rfl, hov, hct⟩; obtain ⟨⟨b1, b2, b3⟩, rfl, hob⟩ := hov.b; have HOBN := Aa hob; have HCT0 := Aa (((Ch.refl No wx).drew).trans hct); have HCT := Aa ((HCXX.out.trans HCT0.out).alloc (.cells #[.map (some b1), .map (some b2), .map (some b3)] 100)); have HROW := Aa (An HOWN.out HCT.out (fun _ _ _ _ _ h => h)); have HMBT := Aa (((HCT0.out.alloc (.cells #[.map (some b1), .map (some b2), .map (some b3)] 100))).keep _ _ HMBX.out (fun h => h)); have hmbw := HCT0.out.keep _ _ HMBX.out (fun h => h); have t11 := Ab hmbw 11; have ymt := Ac hmbw; have hzt := HCT0.out.size; have hbase : w6.heap.size ≤ (wt.alloc (.cells #[.map (some b1), .map (some b2), .map (some b3)] 100)).heap.size := Nat.le_trans hz6 HCT.out.size; clear hmbw hov hob hct hto))
    all_goals (
     clear hwx
     go_wp2
     go_roundg (len - k - 1)
     case rel =>
      have hmbw := HCT0.out.keep _ _ HMBX.out (fun h => h)
      have hB : Ch Nu wt (w7.setCell ⟨mbk, 11, none⟩ (.slice a7 (k + 1) c7)) := (((Ch.refl Nu wt).alloc _).trans (HC7.out.mono (fun j o ho e => by
       obtain ⟨_, cur, h2⟩ := Aw HROW.out j e
       rw [h2] at ho
       cases ho
       exact ⟨cur, 100, rfl, by decide⟩))).setCell (fun o ho => by
        rw [hmbw] at ho
        cases ho
        exact ⟨_, 97, rfl, by decide⟩) _
      have hA : Ch Nu wr (w7.setCell ⟨mbk, 11, none⟩ (.slice a7 (k + 1) c7)) := ((HCXX.out.trans HCT0.out).mono (fun _ _ _ h => h.elim)).trans hB
      refine ⟨k + 1, by omega, by omega, by go_num, Aa ⟨bs ++ [(b1, b2, b3)], a7, c7, ?_, ?_, ?_, ?_⟩, Aa ?_⟩
      {have h1 := Af HMB7.out 11 (.slice a7 (k + 1) c7)
       simpa using h1}
      {rw [List.flatMap_append]
       exact An HR7.out ((Ch.refl (fun j _ => j = mbk) w7).setCell (fun _ _ => rfl) _) (fun g cur hg hbg _ e => by have e' : g = mbk := e; omega)}
      {rw [List.length_append, HBL.out]; rfl}
      {intro j b m' hj hm'
       by_cases hjk : j < k
       {rw [List.getElem?_append_left (by rw [HBL.out]; exact hjk)] at hj
        exact (HOB.out j b m' hj hm').chS hA}
       {have hj2 : j = k := by
         have := (gL hj)
         rw [List.length_append, HBL.out] at this
         simp at this
         omega
        subst hj2
        rw [List.getElem?_append_right (by rw [HBL.out]; exact Nat.le_refl _), HBL.out, Nat.sub_self] at hj
        have e : (b1, b2, b3) = b := by simpa using hj
        subst e
        rw [HMI.out] at hm'; cases hm'
        exact HOBN.out.chS hB}}
      {exact ((HCX.out.trans (HCT.out.mono (fun _ _ _ h => h.elim))).trans' HC7.out (fun j o ho e => by
        obtain ⟨h1, _⟩ := Aw HROW.out j e
        have := Ac ho
        omega)).setCell (fun _ _ => rfl) _}
     case measure => omega)
   | false =>
    have hkl : ¬ k < len := by simpa using hd
    have ekl : k = len := by omega
    obtain ⟨w8, hw8⟩ : ∃ w8, w8 = wr := ⟨_, rfl⟩
    subst hw8
    have HMEM : Hid (B3 w8 mbk cs ms) := Aa ⟨_, _, _, _, _, _, _, _, _, _, _, _, bs, hmb, HCLS.out.no HCR.out, HXV.out.no (Ch.newOnly HC56.out HCX.out (fun q _ _ e => by have e' : q = mbk := e; have := HMBK.out; omega)), Se (by rw [hbl]; exact hown), by rw [hbl, ekl, HL.out], hob⟩
    have hpr := HCX.out.keep _ _ HP6.out (fun e => by have e' : w.heap.size = mbk := e; have := Ac HP5.out; have := HMBK.out; omega)
    have hbr := HCX.out.keep _ _ HB36.out (fun e => by have e' : wa.heap.size = mbk := e; have := Ac HB35.out; have := HMBK.out; omega)
    have HPR := Aa hpr
    have HBR := Aa hbr
    have p0 := Ab hpr 0
    have y8 : w.heap.size ≤ w8.heap.size := HCR.out.size
    have hfd := HF.out
    clear hmb hown hbl hob hpr hbr HR HCX ekl hfd
    go_wp2_with fail
    clear p0
    go_loopg [57, 11, 12, 13, 14] len (fun g s57 s11 s12 s13 s14 wr => ∃ k : Nat, k ≤ len ∧ len - k ≤ g ∧ s57 = .int .i64 k ∧ Hid (∀ (q : Nat) (c : Aj) (m : Ba), q < k → cs[q]? = some c → ms[q]? = some m → D8 cs ms q c m) ∧ Ch No w8 wr)
    case atStart => exact ⟨0, Nat.zero_le _, by omega, rfl, Aa (fun q c m hq => absurd hq (Nat.not_lt_zero q)), Ch.refl _ _⟩
    case round =>
     obtain ⟨k, hk, hg, rfl, HA, hcr⟩ := hrel
     have HC2 := Aa hcr
     have HCW := Aa (HCR.out.trans hcr)
     have HB2 := Aa (hcr.keep _ _ HBR.out (fun h => h))
     have hb2 := HB2.out
     obtain ⟨a0, a1, a2⟩ := Dy hb2
     obtain ⟨f0, f1, f2⟩ := I5 hb2
     have yr := hcr.size
     have ya := Ac hb2
     clear hcr hb2
     cases hd : decide (k < len) with
     | false =>
      have hkl : ¬ k < len := by simpa using hd
      go_wp2_with fail
      obtain ⟨wf, hwf, hfb, hfc⟩ := Ev HB2.out (.int .i64 0) (.int .i64 0) (.int .i64 0)
      rw [hwf]
      obtain ⟨k0, k1, k2⟩ := Dy hfb
      refine bodyPost_ret (v := .tuple #[.pointer (some ⟨mbk, 0, none⟩), .agg #[.int .i64 0, .int .i64 0, .int .i64 0]]) (by simp [results, Tryz.results15, go_sem, k0, k1, k2]) rfl ?_
      have hno := Ch.same HB2.out hfb hfc
      exact ⟨HCW.out.trans hno, .inl ⟨mbk, rfl, HMEM.out.no (HC2.out.trans hno), HF.out, fun q c' m' hc' hm' => HA.out q c' m' (by have := (List.getElem?_eq_some_iff.1 hc').1; have := HL.out; omega) hc' hm'⟩⟩
     | true =>
      have hkl : k < len := by simpa using hd
      obtain ⟨c, hcs⟩ := gE (l := cs) (i := k) (by have := HL.out; omega)
      obtain ⟨m, hmi⟩ := gE (l := ms) (i := k) (by have := HL.out; have := HLN.out; omega)
      obtain ⟨cb, co, cc, ecs, hcell, _, _⟩ := (HCLS.out.no HCW.out).cell hcs
      rw [HL.out] at ecs
      cases ecs
      obtain ⟨q0, q1, q2, q3, q4, q5, q6, q7, q8, q9⟩ := hcell
      obtain ⟨wx, hwx, hbx, hcx⟩ := A2 wr (.cells #[.string c.name, .string c.sup, .bool c.face, .slice c.fa c.faces.length c.fc, .slice c.s4.1 c.s4.2.1 c.s4.2.2, .slice c.s5.1 c.s5.2.1 c.s5.2.2, .slice c.s6.1 c.s6.2.1 c.s6.2.2, .pointer c.p7, .int .i64 c.line, .int .i64 c.col] 50)
      have HCX := Aa (HCW.out.trans hcx)
      have hri := Aaa (HT0.out.no HCX.out) (HMEM.out.no (HC2.out.trans hcx)) (HM0.out.no HCX.out) HF.out (Nv HF.out) HSM.out HSM.out.1 HLN.out (fun m hm => (HFM.out m hm).ps) HSZM.out hcs hmi
      have HCS := Aa hcs
      have HMI := Aa hmi
      obtain ⟨d0, d1, d2, d3, d4, d5, d6, d7, d8, d9⟩ := Cp hbx
      have yx := Ac hbx
      have HCX2 := Aa hcx
      clear hcs hmi hbx hcx
      go_wp2_with fail
      refine hri.mono ?_
      rintro e w9 ⟨⟨p9, q9', ok9, rfl, hok⟩, hc9⟩
      have HOK := Aa hok
      obtain ⟨wy, hwy, hby, hcy⟩ := A2 w9 (.cells #[.int .i64 p9, .int .i64 q9'] 27)
      have K9 := Aa (HCX2.out.trans (hc9.trans hcy))
      have HBY := Aa (K9.out.keep _ _ HB2.out (fun h => h))
      have hb9 := HBY.out
      clear a0 a1 a2 f0 f1 f2 d0 d1 d2 d3 d4 d5 d6 d7 d8 d9 q0 q1 q2 q3 q4 q5 q6 q7 q8 q9
      obtain ⟨g0, g1⟩ := Co hby
      obtain ⟨a0, a1, a2⟩ := Dy hb9
      obtain ⟨f0, f1, f2⟩ := I5 hb9
      have y9 := Ac hby
      clear hri hok hc9 hby hcy hb9 hwx
      go_upto_region 15 with fail
      clear hwy
      cases ok9 with
      | true =>
       go_wp2
       go_roundg (len - k - 1)
       case rel =>
        refine ⟨k + 1, by omega, by omega, by go_num, Aa fun q c' m' hq hc' hm' => ?_, HC2.out.trans K9.out⟩
        by_cases h1 : q < k
        {exact HA.out q c' m' h1 hc' hm'}
        {obtain rfl : q = k := by omega
         rw [HCS.out] at hc'; cases hc'
         rw [HMI.out] at hm'; cases hm'
         exact HOK.out.1 (by first | rfl | trivial)}
       case measure => omega
      | false =>
       go_wp2_with fail
       go_region
       all_goals (
        go_wp2_with fail
        obtain ⟨wf, hwf, hfb, hfc⟩ := Ev HBY.out (.int .i64 11) (.int .i64 p9) (.int .i64 q9')
        rw [hwf]
        obtain ⟨k0, k1, k2⟩ := Dy hfb
        refine bodyPost_ret (v := .tuple #[.pointer none, .agg #[.int .i64 11, .int .i64 p9, .int .i64 q9']]) (by simp [results, Tryz.results15, go_sem, k0, k1, k2]) rfl ?_
        exact ⟨Ch.newOnly (HCW.out.trans K9.out) (by first | exact hfc | exact hfc.drew) (Eb (by omega)), .inr ⟨p9, q9', rfl, fun hk => by
         have h0 := HOK.out.2 (hk.2 k c m HCS.out HMI.out)
         first | cases h0 | exact h0⟩⟩)}
 {have he : e = .returned (.tuple #[.pointer none, Cr (G8 cs (some i))]) := hout
  rw [hfc] at he
  subst he
  unfold Cr
  clear hfc hout
  obtain ⟨w4, hw4, hb4, hc4⟩ := A2 w3 (.cells #[.int .i64 11, .int .i64 l, .int .i64 c] 34)
  have HC4 := Aa (HC3.out.trans hc4)
  have HB34 := Aa (hc4.keep _ _ HB3.out (fun h => h))
  have hb34 := HB34.out
  obtain ⟨g0, g1, g2⟩ := Dy hb4
  obtain ⟨a0, a1, a2⟩ := Dy hb34
  obtain ⟨f0, f1, f2⟩ := I5 hb34
  have y4 := Ac hb4
  clear hb4 hc4 hb34
  go_wp2_with fail
  go_region
  all_goals (
   clear hw4
   go_wp2_with fail
   obtain ⟨wf, hwf, hfb, hfc⟩ := Ev HB34.out (.int .i64 11) (.int .i64 l) (.int .i64 c)
   rw [hwf]
   obtain ⟨k0, k1, k2⟩ := Dy hfb
   refine bodyPost_ret (v := .tuple #[.pointer none, .agg #[.int .i64 11, .int .i64 l, .int .i64 c]]) (by simp [results, Tryz.results15, go_sem, k0, k1, k2]) rfl ?_
   exact ⟨Ch.newOnly HC4.out hfc.drew (Eb (by omega)), .inr ⟨l, c, rfl, fun hk => by have := HF.out.uniq hk.1; cases this⟩⟩)}
def B1 (c : Int) : Int :=
 if (65 ≤ c ∧ c ≤ 90) ∨ (97 ≤ c ∧ c ≤ 122) ∨ c = 95 then 0 else if 48 ≤ c ∧ c ≤ 57 then 1
 else if c = 123 ∨ c = 125 ∨ c = 40 ∨ c = 41 ∨ c = 91 ∨ c = 93 ∨ c = 59 ∨ c = 44 ∨ c = 61 ∨ c = 46 ∨ c = 60 ∨ c = 43 ∨ c = 45 then 2
 else if c = 32 ∨ c = 9 ∨ c = 13 ∨ c = 10 then 3 else if c = 35 then 4 else if c = 58 then 5 else 6
theorem Hr (w : World) (c : Int) : Calls Tryz.prog 127 #[.int .u8 c] w fun e w' => e = .returned (.int .i64 (B1 c)) ∧ w = w' := by
 go_in
 go_wp2_with fail
 all_goals (
  go_ret
  refine ⟨congrArg (fun z => Ending.returned (.int .i64 z)) (?_ : _ = B1 c), rfl⟩
  try simp only [Bool.or_eq_true, Bool.and_eq_true, Bool.or_eq_false_iff, Bool.and_eq_false_iff, decide_eq_true_eq, decide_eq_false_iff_not, beq_iff_eq, beq_eq_false_iff_ne, Bool.not_eq_true, ne_eq, ge_iff_le] at *
  unfold B1
  first | (simp [*]; done) | (repeat' split) <;> omega)
def Bs (l : List UInt8) (n : Nat) : Int × Int := (l.take n).foldl (fun p c => if c = 10 then (p.1 + 1, 1) else (p.1, p.2 + 1)) (1, 1)
theorem Nw {l : List UInt8} {n : Nat} {c : UInt8} (h : l[n]? = some c) : Bs l (n + 1) = if c = 10 then ((Bs l n).1 + 1, 1) else ((Bs l n).1, (Bs l n).2 + 1) := by
 unfold Bs
 rw [List.take_add_one, h]
 simp
theorem Lo {w : World} {b : Nat} {x0 x1 : Value} {t : TypeId} (h : w.heap[b]? = some (.cells #[x0, x1] t (0, 0))) (u v : Value) :
 ∃ wf, (w.setCell ⟨b, 0, none⟩ u).setCell ⟨b, 1, none⟩ v = wf ∧ wf.heap[b]? = some (.cells #[u, v] t (0, 0)) ∧ Ch (fun k _ => k = b) w wf :=
 ⟨_, rfl, Af (Af h 0 u) 1 v, ((Ch.refl _ _).setCell (fun _ _ => rfl) _).setCell (fun _ _ => rfl) _⟩
theorem E0 {s : ByteArray} {k : Nat} (h : k < s.size) : s.data.toList[k]? = some s[k] := by
 rw [Array.getElem?_toList]
 exact Array.getElem?_eq_getElem h
theorem Afl (x : UInt8) (b : Bool) (h : ((x.toNat : Int) == 10) = b) : (x = 10) ↔ b = true := by
 subst h
 rw [beq_iff_eq]
 constructor
 {rintro rfl; rfl}
 {intro h
  have : x.toNat = 10 := by omega
  exact UInt8.toNat_inj.1 this}
theorem Pk (w : World) (s : ByteArray) (n : Nat) (hn : n ≤ s.size) (hs : s.size ≤ 30000) : Calls Tryz.prog 94 #[.string s, .int .i64 n] w fun e w' => e = .returned (.agg #[.int .i64 (Bs s.data.toList n).1, .int .i64 (Bs s.data.toList n).2]) ∧ Ch No w w' := by
 obtain ⟨wa, hwa, hba, hca⟩ := A2 w (.cells #[.int .i64 0, .int .i64 0] 27)
 obtain ⟨wb, hwb, hbb, hcb⟩ := A2 wa (.cells #[.int .i64 1, .int .i64 1] 27)
 have HA := Aa (hcb.keep _ _ hba (fun h => h))
 have HB := Aa hbb
 have HC := Aa (hca.trans hcb)
 have y1 := Ac hba
 clear hba hbb hca hcb
 go_in
 go_wp2_with fail
 clear hwa hwb
 go_loopg [6] n (fun gg s6 wr => ∃ k : Nat, k ≤ n ∧ n - k ≤ gg ∧ s6 = .int .i64 k ∧ Hid (wr.heap[w.heap.size]? = some (.cells #[.int .i64 0, .int .i64 0] 27 (0, 0))) ∧ ∃ l c, (1 ≤ l ∧ l ≤ (k : Int) + 1 ∧ 1 ≤ c ∧ c ≤ (k : Int) + 1) ∧ Hid (wr.heap[wa.heap.size]? = some (.cells #[.int .i64 l, .int .i64 c] 27 (0, 0)) ∧ (l, c) = Bs s.data.toList k ∧ Ch No w wr))
 case atStart => exact ⟨0, Nat.zero_le _, by omega, rfl, HA, 1, 1, by omega, Aa ⟨HB.out, rfl, HC.out⟩⟩
 case round =>
  obtain ⟨k, hk, hg, rfl, HAR, l, c, ⟨l1, l2, c1, c2⟩, HR⟩ := hrel
  have hbr := HR.out.1
  obtain ⟨b0, b1⟩ := Co hbr
  obtain ⟨f0, f1⟩ := Lb hbr
  clear hbr
  cases hd : decide (k < n) with
  | true =>
   have hkn : k < n := by simpa using hd
   have hks : k < s.size := by omega
   obtain ⟨isB, hisB⟩ : ∃ b, ((s[k].toNat : Int) == 10) = b := ⟨_, rfl⟩
   have HIS := Aa (Afl _ _ hisB)
   have hsu := Aa (Nw (E0 hks))
   have e0 := Aa (Af (Af HR.out.1 0 (.int .i64 (l + 1))) 1 (.int .i64 1))
   have e1 := Aa (Af HR.out.1 1 (.int .i64 (c + 1)))
   have ne : ¬ w.heap.size = wa.heap.size := by omega
   cases isB with
   | true =>
    go_wp2
    go_roundg (n - k - 1)
    case rel => exact ⟨k + 1, by omega, by omega, by go_num, Aa (by rw [heap_setCell_other _ _ _ _ ne, heap_setCell_other _ _ _ _ ne]; exact HAR.out), l + 1, 1, by omega, Aa ⟨e0.out, by rw [hsu.out, if_pos (HIS.out.2 (by first | rfl | trivial)), ← HR.out.2.1], ((HR.out.2.2).setNew (Nat.le_of_lt y1) _).setNew (Nat.le_of_lt y1) _⟩⟩
    case measure => omega
   | false =>
    go_wp2
    go_roundg (n - k - 1)
    case rel => exact ⟨k + 1, by omega, by omega, by go_num, Aa (by rw [heap_setCell_other _ _ _ _ ne]; exact HAR.out), l, c + 1, by omega, Aa ⟨e1.out, by rw [hsu.out, if_neg (fun h => by have := HIS.out.1 h; first | cases this | exact this), ← HR.out.2.1], (HR.out.2.2).setNew (Nat.le_of_lt y1) _⟩⟩
    case measure => omega
  | false =>
   have hkn : ¬ k < n := by simpa using hd
   obtain ⟨a0, a1⟩ := Co HAR.out
   obtain ⟨g0, g1⟩ := Lb HAR.out
   go_wp2_with fail
   obtain ⟨wf, hwf, hfb, hfc⟩ := Lo HAR.out (.int .i64 l) (.int .i64 c)
   rw [hwf]
   obtain ⟨k0, k1⟩ := Co hfb
   refine bodyPost_ret (v := .agg #[.int .i64 l, .int .i64 c]) (by simp [results, Tryz.results94, go_sem, k0, k1]) rfl ?_
   have ek : k = n := by omega
   subst ek
   rw [← HR.out.2.1]
   exact ⟨rfl, Ch.newOnly HR.out.2.2 hfc (Eb (by omega))⟩
def Ca (p : UInt8 → Bool) (l : List UInt8) (k : Nat) : Nat := k + ((l.drop k).takeWhile p).length
theorem Up {l : List UInt8} {k : Nat} {c : UInt8} (h : l[k]? = some c) : l.drop k = c :: l.drop (k + 1) := by
 obtain ⟨hk, rfl⟩ := List.getElem?_eq_some_iff.1 h
 exact List.drop_eq_getElem_cons hk
theorem Il {p : UInt8 → Bool} {l : List UInt8} {k : Nat} {c : UInt8} (h : l[k]? = some c) (hp : p c = true) : Ca p l k = Ca p l (k + 1) := by
 unfold Ca
 rw [Up h, List.takeWhile_cons, if_pos hp, List.length_cons]
 omega
theorem Im {p : UInt8 → Bool} {l : List UInt8} {k : Nat} {c : UInt8} (h : l[k]? = some c) (hp : p c = false) : Ca p l k = k := by
 unfold Ca
 rw [Up h, List.takeWhile_cons, if_neg (by rw [hp]; simp)]
 rfl
theorem Ke (p : UInt8 → Bool) (l : List UInt8) : Ca p l l.length = l.length := by
 unfold Ca
 rw [List.drop_length]
 rfl
theorem Me (p : UInt8 → Bool) (l : List UInt8) (k : Nat) (h : k ≤ l.length) : Ca p l k ≤ l.length ∧ k ≤ Ca p l k := by
 unfold Ca
 have h1 : ((l.drop k).takeWhile p).length ≤ (l.drop k).length := (List.takeWhile_sublist p).length_le
 rw [List.length_drop] at h1
 omega
def Kv (c : UInt8) : Bool := decide (B1 c.toNat ≤ 1)
def Kw (c : UInt8) : Bool := B1 c.toNat == 1
def Nx (c : UInt8) : Bool := (c.toNat : Int) != 10
def C3 (l : List UInt8) (a : Nat) : Nat × Int × Int :=
 let k := B1 ((l.getD a 0).toNat : Int)
 if k = 0 then (Ca Kv l (a + 1), 0, if 32 < Ca Kv l (a + 1) - a then 13 else 0)
 else if k = 1 then (Ca Kw l (a + 1), 1, if 3 < Ca Kw l (a + 1) - a then 13 else 0)
 else if k = 2 then (a + 1, 2, 0) else if k = 3 then (a + 1, -1, 0) else if k = 4 then (Ca Nx l (a + 1), -1, 0)
 else if k = 5 ∧ l[a + 1]? = some 58 then (a + 2, 2, 0) else (a + 1, -1, 10)
theorem Ny (c : Int) : B1 c = 0 ∨ B1 c = 1 ∨ B1 c = 2 ∨ B1 c = 3 ∨ B1 c = 4 ∨ B1 c = 5 ∨ B1 c = 6 := by
 unfold B1
 repeat' split
 all_goals simp
section
variable {l : List UInt8} {a : Nat} {c : UInt8}
theorem Yi (h : l.getD a 0 = c) (hk : B1 (c.toNat : Int) = 0) : C3 l a = (Ca Kv l (a + 1), 0, if 32 < Ca Kv l (a + 1) - a then 13 else 0) := by unfold C3; rw [h, hk]; rfl
theorem Yj (h : l.getD a 0 = c) (hk : B1 (c.toNat : Int) = 1) : C3 l a = (Ca Kw l (a + 1), 1, if 3 < Ca Kw l (a + 1) - a then 13 else 0) := by unfold C3; rw [h, hk]; rfl
theorem Acc (h : l.getD a 0 = c) (hk : B1 (c.toNat : Int) = 2) : C3 l a = (a + 1, 2, 0) := by unfold C3; rw [h, hk]; rfl
theorem Acd (h : l.getD a 0 = c) (hk : B1 (c.toNat : Int) = 3) : C3 l a = (a + 1, -1, 0) := by unfold C3; rw [h, hk]; rfl
theorem Ace (h : l.getD a 0 = c) (hk : B1 (c.toNat : Int) = 4) : C3 l a = (Ca Nx l (a + 1), -1, 0) := by unfold C3; rw [h, hk]; rfl
theorem Acf (h : l.getD a 0 = c) (hk : B1 (c.toNat : Int) = 5) (h5 : l[a + 1]? = some 58) : C3 l a = (a + 2, 2, 0) := by unfold C3; rw [h, hk]; simp [h5]
theorem Uq (h : l.getD a 0 = c) (hk : B1 (c.toNat : Int) = 5) (h5 : ¬ l[a + 1]? = some 58) : C3 l a = (a + 1, -1, 10) := by unfold C3; rw [h, hk]; simp [h5]
theorem Acg (h : l.getD a 0 = c) (hk : B1 (c.toNat : Int) = 6) : C3 l a = (a + 1, -1, 10) := by unfold C3; rw [h, hk]; rfl
end
theorem Ur (x : UInt8) : ((x.toNat : Int) == 58) = decide (x = 58) := by
 by_cases h : x = 58
 {subst h; rfl}
 {rw [decide_eq_false h, beq_eq_false_iff_ne]
  intro h2
  exact h (UInt8.toNat_inj.1 (by have : x.toNat = 58 := by omega
                                 exact this))}
theorem Ach {p : Prop} (h : p := by
 by_cases h32 : 32 < k - a
 {have d : decide ((32 : Int) < (k : Int) - (a : Int)) = true := decide_eq_true (by omega)
  go_wp2
  refine bodyPost_ret (v := .tuple #[.int .i64 k, .int .i64 0, .int .i64 13]) (by simp [results, Tryz.results93, go_sem]) rfl ?_
  exact ⟨by rw [Yi HGD.out HKC.out, HSC.out, if_pos h32], rfl⟩}
 {have d : decide ((32 : Int) < (k : Int) - (a : Int)) = false := decide_eq_false (by omega)
  go_wp2
  refine bodyPost_ret (v := .tuple #[.int .i64 k, .int .i64 0, .int .i64 0]) (by simp [results, Tryz.results93, go_sem]) rfl ?_
  exact ⟨by rw [Yi HGD.out HKC.out, HSC.out, if_neg h32], rfl⟩}
 ) : p := h
theorem Aci {p : Prop} (h : p := by
 by_cases h32 : 3 < k - a
 {have d : decide ((3 : Int) < (k : Int) - (a : Int)) = true := decide_eq_true (by omega)
  go_wp2
  refine bodyPost_ret (v := .tuple #[.int .i64 k, .int .i64 1, .int .i64 13]) (by simp [results, Tryz.results93, go_sem]) rfl ?_
  exact ⟨by rw [Yj HGD.out HKC.out, HSC.out, if_pos h32], rfl⟩}
 {have d : decide ((3 : Int) < (k : Int) - (a : Int)) = false := decide_eq_false (by omega)
  go_wp2
  refine bodyPost_ret (v := .tuple #[.int .i64 k, .int .i64 1, .int .i64 0]) (by simp [results, Tryz.results93, go_sem]) rfl ?_
  exact ⟨by rw [Yj HGD.out HKC.out, HSC.out, if_neg h32], rfl⟩}
 ) : p := h
theorem Acj {p : Prop} (h : p := by
 go_wp2
 go_roundg (s.size - k - 1)
 case rel => exact ⟨k + 1, by omega, by omega, by omega, by go_num, hsc, rfl⟩
 case measure => omega
 ) : p := h
theorem Ack {p : Prop} (h : p := by
 clear hpb hby
 go_wp2_with fail
 refine (Hr _ _).mono ?_
 rintro e w1 ⟨rfl, rfl⟩
 exact Acj
 ) : p := h
theorem Acl {p : Prop} (h : p := by
 go_wp2
 refine bodyPost_ret (v := .tuple #[.int .i64 k, .int .i64 (-1), .int .i64 0]) (by simp [results, Tryz.results93, go_sem]) rfl ?_
 exact ⟨by rw [Ace HGD.out HKC.out, HSC.out], rfl⟩
 ) : p := h
theorem Afm (w : World) (s : ByteArray) (a : Nat) (ha : a < s.size) (hs : s.size ≤ 30000) : Calls Tryz.prog 93 #[.string s, .int .i64 a] w fun e w' => e = .returned (.tuple #[.int .i64 (C3 s.data.toList a).1, .int .i64 (C3 s.data.toList a).2.1, .int .i64 (C3 s.data.toList a).2.2]) ∧ w = w' := by
 have hb0 := E0 ha
 obtain ⟨c0, hc0⟩ : ∃ c, s[a] = c := ⟨_, rfl⟩
 rw [hc0] at hb0
 obtain ⟨kc, hkc⟩ : ∃ k, B1 (c0.toNat : Int) = k := ⟨_, rfl⟩
 have hr := Ny (c0.toNat : Int)
 rw [hkc] at hr
 have HEN : Hid (C3 s.data.toList a = C3 s.data.toList a) := Aa rfl
 have hgd : s.data.toList.getD a 0 = c0 := by rw [List.getD_eq_getElem?_getD, hb0]; rfl
 have HGD := Aa hgd
 have HKC := Aa hkc
 have HC0 := Aa hc0
 clear hb0 hc0 hkc hgd
 go_in
 go_wp2_with fail
 refine (Hr _ _).mono ?_
 rintro e w1 ⟨rfl, rfl⟩
 rw [HC0.out, HKC.out]
 rcases hr with rfl | rfl | rfl | rfl | rfl | rfl | rfl
 {go_wp2
  go_loopg [8] (s.size - a) (fun gg s8 wr => ∃ k : Nat, a + 1 ≤ k ∧ k ≤ s.size ∧ s.size - k ≤ gg ∧ s8 = .int .i64 k ∧ Hid (Ca Kv s.data.toList k = Ca Kv s.data.toList (a + 1)) ∧ w = wr)
  case atStart => exact ⟨a + 1, by omega, by omega, by omega, by go_num, Aa rfl, rfl⟩
  case round =>
   obtain ⟨k, hk1, hk2, hg, rfl, HS, rfl⟩ := hrel
   cases hd : decide (k < s.size) with
   | false =>
    have hks : ¬ k < s.size := by simpa using hd
    have ek : k = s.size := by omega
    have hsc : Ca Kv s.data.toList (a + 1) = k := by
     rw [← HS.out, ek]
     have h1 := Ke Kv s.data.toList
     rw [show s.data.toList.length = s.size from Array.length_toList] at h1
     exact h1
    have HSC := Aa hsc
    clear hsc ek
    exact Ach
   | true =>
    have hks : k < s.size := by simpa using hd
    have hby := E0 hks
    obtain ⟨pb, hpb⟩ : ∃ b, Kv s[k] = b := ⟨_, rfl⟩
    have HPB := Aa hpb
    cases pb with
    | true =>
     have hsc := Aa (HS.out.symm.trans (Il hby hpb)).symm
     have hkd : decide (B1 (s[k].toNat : Int) ≤ 1) = _ := hpb
     exact Ack
    | false =>
     have HSC := Aa (HS.out.symm.trans (Im hby hpb))
     have hkd : decide (B1 (s[k].toNat : Int) ≤ 1) = _ := hpb
     clear hpb hby
     go_wp2_with fail
     refine (Hr _ _).mono ?_
     rintro e w1 ⟨rfl, rfl⟩
     exact Ach}
 {go_wp2
  go_loopg [8] (s.size - a) (fun gg s8 wr => ∃ k : Nat, a + 1 ≤ k ∧ k ≤ s.size ∧ s.size - k ≤ gg ∧ s8 = .int .i64 k ∧ Hid (Ca Kw s.data.toList k = Ca Kw s.data.toList (a + 1)) ∧ w = wr)
  case atStart => exact ⟨a + 1, by omega, by omega, by omega, by go_num, Aa rfl, rfl⟩
  case round =>
   obtain ⟨k, hk1, hk2, hg, rfl, HS, rfl⟩ := hrel
   cases hd : decide (k < s.size) with
   | false =>
    have hks : ¬ k < s.size := by simpa using hd
    have ek : k = s.size := by omega
    have hsc : Ca Kw s.data.toList (a + 1) = k := by
     rw [← HS.out, ek]
     have h1 := Ke Kw s.data.toList
     rw [show s.data.toList.length = s.size from Array.length_toList] at h1
     exact h1
    have HSC := Aa hsc
    clear hsc ek
    exact Aci
   | true =>
    have hks : k < s.size := by simpa using hd
    have hby := E0 hks
    obtain ⟨pb, hpb⟩ : ∃ b, Kw s[k] = b := ⟨_, rfl⟩
    have HPB := Aa hpb
    cases pb with
    | true =>
     have hsc := Aa (HS.out.symm.trans (Il hby hpb)).symm
     have hkd : (B1 (s[k].toNat : Int) == 1) = _ := hpb
     exact Ack
    | false =>
     have HSC := Aa (HS.out.symm.trans (Im hby hpb))
     have hkd : (B1 (s[k].toNat : Int) == 1) = _ := hpb
     clear hpb hby
     go_wp2_with fail
     refine (Hr _ _).mono ?_
     rintro e w1 ⟨rfl, rfl⟩
     exact Aci}
 {go_wp2
  refine bodyPost_ret (v := .tuple #[.int .i64 ((a : Int) + 1), .int .i64 (2), .int .i64 0]) (by simp [results, Tryz.results93, go_sem]) rfl ?_
  exact ⟨by rw [Acc HGD.out HKC.out]; simp, rfl⟩}
 {go_wp2
  refine bodyPost_ret (v := .tuple #[.int .i64 ((a : Int) + 1), .int .i64 (-1), .int .i64 0]) (by simp [results, Tryz.results93, go_sem]) rfl ?_
  exact ⟨by rw [Acd HGD.out HKC.out]; simp, rfl⟩}
 {go_wp2
  go_loopg [8] (s.size - a) (fun gg s8 wr => ∃ k : Nat, a + 1 ≤ k ∧ k ≤ s.size ∧ s.size - k ≤ gg ∧ s8 = .int .i64 k ∧ Hid (Ca Nx s.data.toList k = Ca Nx s.data.toList (a + 1)) ∧ w = wr)
  case atStart => exact ⟨a + 1, by omega, by omega, by omega, by go_num, Aa rfl, rfl⟩
  case round =>
   obtain ⟨k, hk1, hk2, hg, rfl, HS, rfl⟩ := hrel
   cases hd : decide (k < s.size) with
   | false =>
    have hks : ¬ k < s.size := by simpa using hd
    have ek : k = s.size := by omega
    have hsc : Ca Nx s.data.toList (a + 1) = k := by
     rw [← HS.out, ek]
     have h1 := Ke Nx s.data.toList
     rw [show s.data.toList.length = s.size from Array.length_toList] at h1
     exact h1
    have HSC := Aa hsc
    clear hsc ek
    exact Acl
   | true =>
    have hks : k < s.size := by simpa using hd
    have hby := E0 hks
    obtain ⟨pb, hpb⟩ : ∃ b, Nx s[k] = b := ⟨_, rfl⟩
    have HPB := Aa hpb
    cases pb with
    | true =>
     have hsc := Aa (HS.out.symm.trans (Il hby hpb)).symm
     have hkd : ((s[k].toNat : Int) != 10) = _ := hpb
     clear hpb hby
     exact Acj
    | false =>
     have HSC := Aa (HS.out.symm.trans (Im hby hpb))
     have hkd : ((s[k].toNat : Int) != 10) = _ := hpb
     clear hpb hby
     exact Acl}
 {by_cases h5 : a + 1 < s.size
  {have hb5 := E0 h5
   have HB5 := Aa hb5
   by_cases h58 : s[a + 1] = 58
   {have d5 : ((s[a + 1].toNat : Int) == 58) = true := by rw [Ur]; exact decide_eq_true h58
    clear hb5
    go_wp2
    refine bodyPost_ret (v := .tuple #[.int .i64 ((a : Int) + 1 + 1), .int .i64 (2), .int .i64 0]) (by simp [results, Tryz.results93, go_sem]) rfl ?_
    exact ⟨by rw [Acf HGD.out HKC.out (by rw [HB5.out, h58])]; simp; omega, rfl⟩}
   {have d5 : ((s[a + 1].toNat : Int) == 58) = false := by rw [Ur]; exact decide_eq_false h58
    clear hb5
    go_wp2
    refine bodyPost_ret (v := .tuple #[.int .i64 ((a : Int) + 1), .int .i64 (-1), .int .i64 10]) (by simp [results, Tryz.results93, go_sem]) rfl ?_
    exact ⟨by rw [Uq HGD.out HKC.out (by rw [HB5.out]; simpa using h58)]; simp, rfl⟩}}
  {go_wp2
   refine bodyPost_ret (v := .tuple #[.int .i64 ((a : Int) + 1), .int .i64 (-1), .int .i64 10]) (by simp [results, Tryz.results93, go_sem]) rfl ?_
   exact ⟨by rw [Uq HGD.out HKC.out (by rw [List.getElem?_eq_none (by rw [show s.data.toList.length = s.size from Array.length_toList]; omega)]; simp)]; simp, rfl⟩}}
 {go_wp2
  refine bodyPost_ret (v := .tuple #[.int .i64 ((a : Int) + 1), .int .i64 (-1), .int .i64 10]) (by simp [results, Tryz.results93, go_sem]) rfl ?_
  exact ⟨by rw [Acg HGD.out HKC.out]; simp, rfl⟩}
end Go.Proofs.YtgjpgfedlgdjhaaGreatDoor
end
