/- What the claim uses: part 41. -/
import Derived.Test.YtgjpgfedlgdjhaaGreatDoorZbn
import Derived.Maps.RangeWalk
import Derived.Deep.CutRange
section
set_option linter.unusedVariables false
set_option linter.unusedSimpArgs false
set_option maxRecDepth 8192
namespace Go.Proofs.YtgjpgfedlgdjhaaGreatDoor
open Go.RowKit Go.W
theorem keyInvS {key : Value} {kl : Lit} (h : keyOf Tryz.prog 9 key = some kl) : ∃ x : ByteArray, key = .string x := by
 have hk : Tryz.prog.underlying 9 = some .string := Tryz.underlying9
 cases key <;> simp [keyOf, hk, mapKey] at h
 exact ⟨_, rfl⟩
theorem keyLitS {x : ByteArray} {kl : Lit} (h : keyOf Tryz.prog 9 (.string x) = some kl) : x.size ≤ maxLen ∧ kl = strK.lit x := by
 have hk : Tryz.prog.underlying 9 = some .string := Tryz.underlying9
 simp [keyOf, hk, mapKey] at h
 exact ⟨h.1, h.2.symm⟩
theorem sameS {a b : ByteArray} : (strK.lit a).sameKey (strK.lit b) = true ↔ a = b := by
 show (a.data.toList == b.data.toList) = true ↔ _
 constructor
 · intro h
   have h1 : a.data.toList = b.data.toList := by simpa using h
   cases a; cases b; simp_all [Array.ext_iff]
 · rintro rfl; simp
theorem ranges_ch {H : Type} {P : Program} {k : TypeId} {R : Value → Option (DataW H × List MemPlace)} {S : Nat → Obj → Prop} {w w' : World} {b r n : Nat} {D : DataW H} {left : Lit → Bool} {cnt : Nat} (h : w.ranges P k R b r n D left cnt) (hc : Ch S w w') (hb : ∀ o, ¬ S b o) (hr : ∀ o, ¬ S r o) : w'.ranges P k R b r n D left cnt := by
 obtain ⟨es, clock, since, seen, c0, h1, F, hs, hD, h2, rest⟩ := h
 exact ⟨es, clock, since, seen, c0, hc.keep _ _ h1 (hb _), F, hs, hD, hc.keep _ _ h2 (hr _), rest⟩
theorem getMt_inv {w : World} {i : Nat} {pv : Nat → Option Addr × Nat × Nat} {l : List Mt} (hp : ∀ (k : Nat) (x : Mt), l[k]? = some x → StrsAt w (.slice (pv k).1 (pv k).2.1 (pv k).2.2) (x.ps.map Vr.ty)) {nm : ByteArray} {c : Value} (h : getMt i pv l nm = some c) :
   ∃ (x : MbR) (sa : Option Addr) (sn sc : Nat), lkMt i l nm = some x ∧ c = .agg #[.int .i64 x.cls, .string x.nm, .string x.ty, .slice sa sn sc, .bool x.st, .bool x.ba] ∧ StrsAt w (.slice sa sn sc) x.ps := by
 unfold getMt at h
 cases hk : mtK l nm with
 | none => rw [hk] at h; cases h
 | some k =>
   obtain ⟨x, hx, hn⟩ := mtSome' hk
   rw [hk] at h
   simp only [hx] at h
   refine ⟨⟨i, x.nm, x.ret, x.ps.map Vr.ty, x.st, x.ba⟩, (pv k).1, (pv k).2.1, (pv k).2.2, by unfold lkMt; rw [hk]; simp [hx], ?_, hp k x hx⟩
   exact (Option.some.inj h).symm
theorem getMt_some {i : Nat} {pv : Nat → Option Addr × Nat × Nat} {l : List Mt} {nm : ByteArray} {x : MbR} (h : lkMt i l nm = some x) : ∃ c, getMt i pv l nm = some c := by
 unfold lkMt at h
 cases hk : mtK l nm with
 | none => rw [hk] at h; cases h
 | some k =>
   obtain ⟨y, hy, _⟩ := mtSome' hk
   refine ⟨mbV i y.nm y.ret (pv k).1 (pv k).2.1 (pv k).2.2 y.st y.ba, ?_⟩
   unfold getMt
   rw [hk]
   simp only [hy]
theorem lkMt_nm {i : Nat} {l : List Mt} {nm : ByteArray} {x : MbR} (h : lkMt i l nm = some x) : x.nm = nm ∧ ∃ y ∈ l, y.nm = nm := by
 unfold lkMt at h
 cases hk : mtK l nm with
 | none => rw [hk] at h; cases h
 | some k =>
   obtain ⟨y, hy, hn⟩ := mtSome' hk
   rw [hk] at h
   simp [hy] at h
   subst h
   exact ⟨hn, y, List.mem_of_getElem? hy, hn⟩
def AskM (cs : List Cls) (ms : List Mem) (i : Nat) (nm : ByteArray) (x : MbR) : Prop := ∃ y, methM cs ms nm (some i) = some y ∧ y.ba = false ∧ y.st = false ∧ x.ty = y.ty ∧ x.ps = y.ps
def WholeU (cs : List Cls) (ms : List Mem) (i u : Nat) : Prop := ∀ nm x, lkN lkMethod ms nm u = some x → x.ba = true → AskM cs ms i nm x
def WholeOk (cs : List Cls) (ms : List Mem) (i : Nat) : Prop := ∀ u ∈ upsAll cs i, WholeU cs ms i u
def DoneN (cs : List Cls) (ms : List Mem) (i j : Nat) (mj : Mem) (left : Lit → Bool) : Prop := ∀ nm x, lkMt j mj.ms nm = some x → left (strK.lit nm) = false → x.ba = true → AskM cs ms i nm x
set_option maxHeartbeats 32000000 in
theorem mwhole {w : World} {mb : Nat} {cs : List Cls} {ms : List Mem} (hT : Tab w) (h : MembIs w mb cs ms) (hf : FaultAt cs none) (hno : NoRing cs) (hsm : SmallP cs) (hn : cs.length ≤ 20) (hln : ms.length = cs.length) (hfw : FewP ms) (hsz : SzM ms) {i : Nat} (hi : i < cs.length) :
   Calls Tryz.prog 87 #[.pointer (some ⟨mb, 0, none⟩), .int .i64 i] w fun e w' => BoolIs (WholeOk cs ms i) e ∧ Ch No w w' := by
 have HMS := hid h
 obtain ⟨cv, m0, m1, m2, m3, m4, m5, m6, m7, m8, xv, ov, bs, hm⟩ := h
 obtain ⟨oa, oc, hov, hoc, hom⟩ := hm.ownShape
 subst hov
 obtain ⟨xb, tb, abv, ss, hxv, hx⟩ := hm.typ
 subst hxv
 have hab := tAbove (is := [(i : Int)]) (hT.no ((Ch.refl No w).alloc _)) (hx.tab.no ((Ch.refl No w).alloc _)) hf hn (one_at w (i : Int))
 rw [upsAll_map] at hab
 obtain ⟨len, hlen⟩ : ∃ len, cs.length = len := ⟨_, rfl⟩
 unfold maxLen at hom
 have HL := hid hlen
 have HBLK := hid hm.blk
 have HMA := hid hm
 have HLN := hid hln
 have HI := hid hi
 have HUL := hid (upsAll_len cs i)
 have HN20 := hid hn
 have HF := hid hf
 have HNO := hid hno
 have HSM := hid hsm
 have HFW := hid hfw
 have HSZ := hid hsz
 have HUM := hid (fun j => (upsAll_mem (j := j) hi).1)
 have c10 := cellAt hm.blk 10
 have c11 := cellAt hm.blk 11
 have x0 := cellAt hx.blk 0
 rw [hlen] at c11 hoc
 have ymb := lt_size hm.blk
 have yxb := lt_size hx.blk
 clear hm hx hT hf hno hsm hn hln hfw hsz hi hlen
 go_enter Tryz.func87, Tryz.ntmps87
 go_wp2_with fail
 refine hab.mono ?_
 rintro e w1 ⟨u, rfl, hu, hc1⟩
 have HU := hid hu.at_
 obtain ⟨ua, ucap, rfl, hucap, humax, _, _⟩ := hu.at_
 obtain ⟨n, hn⟩ : ∃ n, (upsAll cs i).length = n := ⟨_, rfl⟩
 have hul := HU.out
 rw [List.length_map, hn] at hucap hul
 rw [List.length_map, hn]
 unfold maxLen at humax
 have HUS := hid hul
 have HN := hid hn
 have HC1 := hid (((Ch.refl No w).alloc (.cells #[.int .i64 i] 3)).trans hc1)
 have hno : n ≤ 9223372036854775807 := by omega
 clear hab hu hc1 hn hul c10 c11 x0 HU
 go_wp2_with fail
 go_loopg [22, 6, 7, 8, 9, 10] n (fun g s22 s6 s7 s8 s9 s10 wr => ∃ k : Nat, k ≤ n ∧ n - k ≤ g ∧ s22 = .int .i64 k ∧ Hid (∀ u ∈ (upsAll cs i).take k, WholeU cs ms i u) ∧ Ch No w1 wr)
 case atStart => exact ⟨0, Nat.zero_le _, by omega, rfl, hid (by simp), Ch.refl _ _⟩
 case round =>
   obtain ⟨k, hk, hg, rfl, HA, hcr1⟩ := hrel
   obtain ⟨w2, hw2⟩ : ∃ w2, w2 = wr := ⟨_, rfl⟩
   subst hw2
   have HCR1 := hid hcr1
   have HCR := hid (HC1.out.trans hcr1)
   have c11 := cellAt (HCR.out.keep _ _ HBLK.out (fun h => h)) 11
   rw [HL.out] at c11
   clear hcr1
   cases hd : decide (k < n) with
   | false =>
     have hkl : ¬ k < n := by simpa using hd
     go_wp2_with fail
     go_ret
     have ha := HA.out
     rw [List.take_of_length_le (by have := HN.out; omega)] at ha
     exact ⟨BoolIs.t ha, HCR.out⟩
   | true =>
     have hkl : k < n := by simpa using hd
     obtain ⟨j, hj⟩ : ∃ j, (upsAll cs i)[k]? = some j := ⟨_, List.getElem?_eq_getElem (by have := HN.out; omega)⟩
     obtain ⟨ub, uo, eua, hcell⟩ := (HUS.out.no HCR1.out).cellI (k := k) (by rw [List.getElem?_map, hj]; rfl)
     subst eua
     have hjl := (HUM.out j (List.mem_of_getElem? hj)).1
     obtain ⟨mj, hmj⟩ : ∃ m, ms[j]? = some m := ⟨_, List.getElem?_eq_getElem (by have := HLN.out; omega)⟩
     obtain ⟨ob, oo, oc', b1, b2, b3, e, _, _, hob, g0', g1', g2'⟩ := HMA.out.ownCell hjl hmj
     have g0 := cell_ch g0' HCR.out (fun _ _ h => h)
     have g1 := cell_ch g1' HCR.out (fun _ _ h => h)
     have g2 := cell_ch g2' HCR.out (fun _ _ h => h)
     rw [HL.out] at e
     cases e
     have hjn : j < len := by have := HL.out; omega
     obtain ⟨n1, n2, n3, pv, _, _, hmp, hn3, hps⟩ := hob.ex
     have hmp2 := hmp.ch HCR.out (fun _ _ h => h)
     obtain ⟨D, hown, hD⟩ := hmp2
     dsimp only at hown hD
     have HJ := hid hj
     have HMJ := hid hmj
     have HPS := hid (fun k x hx => (hps k x hx).at_)
     have HD := hid hD
     have hlkN : ∀ nm, lkN lkMethod ms nm j = lkMt j mj.ms nm := fun nm => by unfold lkN; rw [hmj]; rfl
     have HLK := hid hlkN
     have hbl := hown.lt
     clear hj hjl hmj hob hmp hn3 hps hD hlkN g0' g1' g2'
     go_wp2_with (first
       | (at_range; refine wpList_range_own _ rfl _ 98 rfl 9 54 lawS Tryz.underlying98 RV b3 n3 D rfl hown ?_; intro w3 hrg3 hg3 hs3)
       | go_in)
     try go_frame
     have HC3 := hid ((Ch.refl No w2).grown hg3 (fun _ _ h _ => by cases h))
     have HCT3 := hid (HCR.out.trans HC3.out)
     obtain ⟨r, hr⟩ : ∃ r, w2.heap.size = r := ⟨_, rfl⟩
     rw [hr] at hrg3 hs3 ⊢
     have hwr : w.heap.size ≤ r := by rw [← hr]; exact HCR.out.size
     have hbr : b3 ≠ r := by omega
     have HW2 := hid hr
     clear hr hown hg3
     obtain ⟨C0, hC0⟩ : ∃ C0, Go.Maps.size D = C0 := ⟨_, rfl⟩
     rw [hC0] at hrg3
     clear hC0
     go_loopg [7, 8, 9, 10] C0 (fun g s7 s8 s9 s10 wr' => ∃ left cnt, cnt ≤ g ∧ Hid (wr'.ranges Tryz.prog 9 RV b3 r n3 D left cnt) ∧ Hid (DoneN cs ms i j mj left) ∧ Hid (Ch (fun q _ => q = r) w3 wr'))
     case atStart =>
       refine ⟨_, _, Nat.le_refl _, hid hrg3, hid ?_, hid (Ch.refl _ _)⟩
       intro nm x hx hl
       exfalso
       obtain ⟨c, hc⟩ := getMt_some (pv := pv) hx
       obtain ⟨hxn, y, hym, hyn⟩ := lkMt_nm hx
       have hz := ((HSZ.out mj (List.mem_of_getElem? HMJ.out)).ms y hym).1
       have h1 := (HD.out nm (keyS (by rw [← hyn]; exact hz))).1
       rw [hc, hl] at h1
       cases h1
     case round =>
       obtain ⟨left, cnt, hcnt, HRG, HDN, HCX⟩ := hrel
       have hrg := HRG.out
       have HC4 := hid (Ch.newOnly HCT3.out HCX.out (fun q _ _ e => by have e' : q = r := e; omega))
       go_wp2_with (first
         | (at_next; refine wpList_next_ranges _ rfl _ rfl 9 lawS RV Value.string (fun v => v) (fun _ _ h => keyInvS h) (fun v _ _ => ⟨v, rfl⟩) b3 r n3 D left cnt rfl hrg ?_ ?_)
         | go_in)
       · intro hc0 hl0
         clear hrg
         go_wp2_with fail
         go_roundg (n - k - 1)
         case rel =>
           refine ⟨k + 1, by omega, by omega, by go_num, hid fun u hu => ?_, HCR1.out.trans (Ch.newOnly HC3.out HCX.out (fun q _ _ e => by have e' : q = r := e; have := HW2.out; omega))⟩
           rw [List.take_add_one, HJ.out] at hu
           rcases List.mem_append.1 hu with hu | hu
           · exact HA.out u hu
           · simp at hu; subst hu
             intro nm x hx hb
             rw [HLK.out] at hx
             exact HDN.out nm x hx (hl0 _) hb
         case measure => omega
       · intro x c kl ya yb0 w5 cnt5 hkx hlx hRx hatx hrg5 hlt5 hg5 hs5 hen
         obtain ⟨hxz, hkl'⟩ := keyLitS hkx
         subst hkl'
         have hget : getMt j pv mj.ms x = some c := by
           have hy1 : ya = .held c := by
             have h1 : RV c = some (ya, yb0) := hRx
             unfold RV at h1
             have h2 := Option.some.inj h1
             exact (Prod.mk.inj h2).1.symm
           have h2 := fun z => ((HD.out x (keyS hxz)).2 z).symm.trans ((hatx (.held z)).trans hy1)
           cases hgx : getMt j pv mj.ms x with
           | none =>
             rw [hgx] at h2
             have h3 := h2 (.bool true)
             have h4 := h2 (.bool false)
             simp only [Option.getD_none, DataW.held.injEq] at h3 h4
             rw [← h3] at h4
             cases h4
           | some v =>
             rw [hgx] at h2
             have h3 := h2 v
             simp only [Option.getD_some, DataW.held.injEq] at h3
             rw [h3]
         obtain ⟨xx, sa, sn, sc, hlkx, hcx, hst⟩ := getMt_inv HPS.out hget
         subst hcx
         have HLX := hid hlkx
         have HXN := hid (lkMt_nm hlkx).1
         have HC5' := hid (HCX.out.trans ((Ch.refl (fun q _ => q = r) wr).grown hg5 (fun _ _ h _ => by cases h; rfl)))
         have HC5 := hid (Ch.newOnly HCT3.out HC5'.out (fun q _ _ e => by have e' : q = r := e; omega))
         have HST := hid (hst.no HC5.out)
         have HRG5 := hid hrg5
         have HXZ := hid hxz
         clear hrg hkx hlx hRx hatx hrg5 hg5 hs5 hget hlkx hst hxz
         obtain ⟨xc, xn, xt, xp, xs, xbb⟩ := xx
         dsimp only at hen
         obtain ⟨w6, hw6⟩ : ∃ w6, w5.alloc (.cells #[.int .i64 xc, .string xn, .string xt, .slice sa sn sc, .bool xs, .bool xbb] 54) = w6 := ⟨_, rfl⟩
         have hb6 := heap_alloc_new w5 (.cells #[.int .i64 xc, .string xn, .string xt, .slice sa sn sc, .bool xs, .bool xbb] 54)
         have hc6 := (Ch.refl No w5).alloc (.cells #[.int .i64 xc, .string xn, .string xt, .slice sa sn sc, .bool xs, .bool xbb] 54)
         rw [hw6] at hb6 hc6
         have HB6 := hid hb6
         have K6 := hid hc6
         have d0 := cellAt hb6 0
         have d1 := cellAt hb6 1
         have d2 := cellAt hb6 2
         have d3 := cellAt hb6 3
         have d4 := cellAt hb6 4
         have d5 := cellAt hb6 5
         have hstep : ∀ nm', (left (strK.lit nm') && !(strK.lit nm').sameKey (strK.lit x)) = false → left (strK.lit nm') = false ∨ nm' = x := fun nm' h => by
           cases hl : left (strK.lit nm') with
           | false => exact .inl rfl
           | true =>
             rw [hl] at h
             right
             apply sameS.1
             simpa using h
         have HSTEP := hid hstep
         clear hb6 hc6 hstep
         go_upto_region 7 with fail
         clear hw6
         cases xbb with
         | false =>
           go_wp2_with fail
           go_roundg cnt5
           case rel =>
             refine ⟨_, cnt5, Nat.le_refl _, hid (ranges_ch HRG5.out K6.out (fun _ h => h) (fun _ h => h)), hid ?_, hid (HC5'.out.trans (K6.out.mono (fun _ _ _ h => h.elim)))⟩
             intro nm' x' hx' hl'
             rcases HSTEP.out nm' hl' with h | h
             · exact HDN.out nm' x' hx' h
             · subst h
               rw [HLX.out] at hx'; cases hx'
               intro hb; cases hb
           case measure => omega
         | true =>
           have hme := mmeth HF.out.1 HNO.out HSM.out HLN.out HFW.out HXZ.out (rankN cs i) (i : Int) (some i) ((HMS.out.no HC5.out).no K6.out) (AtZ.some HI.out) (fun i' e => by cases e; exact Nat.le_refl _)
           cases hmm : methM cs ms x (some i) with
           | none =>
             rw [hmm] at hme
             have HMM := hid hmm
             clear hmm
             go_wp2_with fail
             refine hme.mono ?_
             rintro e w7 ⟨rfl, hc7⟩
             have K7 := hid hc7
             clear hme hc7
             go_wp2_with fail
             go_ret
             refine ⟨BoolIs.f (fun hw => ?_), HC5.out.trans (K6.out.trans (K7.out.alloc _))⟩
             obtain ⟨y, hy, _⟩ := hw j (List.mem_of_getElem? HJ.out) x _ ((HLK.out x).trans HLX.out) rfl
             rw [HMM.out] at hy; cases hy
           | some y =>
             obtain ⟨yc, yn, yt, yp, ys, yb⟩ := y
             rw [hmm] at hme
             have HMM := hid hmm
             clear hmm
             go_wp2_with fail
             refine hme.mono ?_
             rintro e w7 ⟨⟨ta, tn, tc, rfl, hty⟩, hc7⟩
             dsimp only at hty
             obtain ⟨w8, hw8⟩ : ∃ w8, w7.alloc (.cells #[.int .i64 yc, .string yn, .string yt, .slice ta tn tc, .bool ys, .bool yb] 54) = w8 := ⟨_, rfl⟩
             have hb8 := heap_alloc_new w7 (.cells #[.int .i64 yc, .string yn, .string yt, .slice ta tn tc, .bool ys, .bool yb] 54)
             have hc8 := (Ch.refl No w7).alloc (.cells #[.int .i64 yc, .string yn, .string yt, .slice ta tn tc, .bool ys, .bool yb] 54)
             rw [hw8] at hb8 hc8
             have K8 := hid (hc7.trans hc8)
             have HTY := hid (hty.at_.no hc8)
             have hb68 := K8.out.keep _ _ HB6.out (fun h => h)
             have g0 := cellAt hb8 0
             have g1 := cellAt hb8 1
             have g2 := cellAt hb8 2
             have g3 := cellAt hb8 3
             have g4 := cellAt hb8 4
             have g5 := cellAt hb8 5
             clear d0 d1 d2 d3 d4 d5
             have d0 := cellAt hb68 0
             have d1 := cellAt hb68 1
             have d2 := cellAt hb68 2
             have d3 := cellAt hb68 3
             have d4 := cellAt hb68 4
             have d5 := cellAt hb68 5
             have hal := malike (c := xc) (nm := xn) (ty := xt) (st := xs) (ba := true) (c' := yc) (nm' := yn) (ty' := yt) (st' := ys) (ba' := yb) ((HST.out.no K6.out).no K8.out) HTY.out
             clear hme hty hc7 hc8 hb8 hb68
             have HALL := hid (show (WholeOk cs ms i → yb = false ∧ ys = false ∧ xt = yt ∧ xp = yp) from fun hw => by
               obtain ⟨y, hy, h1, h2, h3, h4⟩ := hw j (List.mem_of_getElem? HJ.out) x _ ((HLK.out x).trans HLX.out) rfl
               rw [HMM.out] at hy; cases hy
               exact ⟨h1, h2, h3, h4⟩)
             go_upto_region 9 with fail
             clear hw8
             cases yb with
             | true =>
               go_wp2_with fail
               go_ret
               exact ⟨BoolIs.f (fun hw => by have h0 := (HALL.out hw).1; cases h0), HC5.out.trans (K6.out.trans K8.out)⟩
             | false =>
               cases ys with
               | true =>
                 go_wp2_with fail
                 go_ret
                 exact ⟨BoolIs.f (fun hw => by have h0 := (HALL.out hw).2.1; cases h0), HC5.out.trans (K6.out.trans K8.out)⟩
               | false =>
                 go_wp2_with fail
                 refine hal.mono ?_
                 rintro e w9 ⟨⟨r9, rfl, hr9⟩, hc9⟩
                 have HR9 := hid hr9
                 have K9 := hid (K6.out.trans (K8.out.trans hc9))
                 clear hal hr9 hc9
                 cases r9 with
                 | false =>
                   go_wp2_with fail
                   go_ret
                   refine ⟨BoolIs.f (fun hw => ?_), HC5.out.trans K9.out⟩
                   have h0 := HR9.out.2 (HALL.out hw).2.2
                   first | cases h0 | exact h0
                 | true =>
                   have HAL := hid (HR9.out.1 (by first | rfl | trivial))
                   go_wp2_with fail
                   go_roundg cnt5
                   case rel =>
                     refine ⟨_, cnt5, Nat.le_refl _, hid (ranges_ch HRG5.out K9.out (fun _ h => h) (fun _ h => h)), hid ?_, hid (HC5'.out.trans (K9.out.mono (fun _ _ _ h => h.elim)))⟩
                     intro nm' x' hx' hl'
                     rcases HSTEP.out nm' hl' with h | h
                     · exact HDN.out nm' x' hx' h
                     · subst h
                       rw [HLX.out] at hx'; cases hx'
                       intro _
                       exact ⟨_, HMM.out, rfl, rfl, HAL.out.1, HAL.out.2⟩
                   case measure => omega
end Go.Proofs.YtgjpgfedlgdjhaaGreatDoor
end
