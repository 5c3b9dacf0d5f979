/- What the claim uses: part 33. -/
import Derived.Test.YtgjpgfedlgdjhaaGreatDoorZbf
import Derived.Deep.CutRange
section
set_option linter.unusedVariables false
set_option linter.unusedSimpArgs false
set_option maxRecDepth 8192
namespace Go.Proofs.YtgjpgfedlgdjhaaGreatDoor
open Go.RowKit Go.W
theorem mtSome' {l : List Mt} {nm : ByteArray} {k : Nat} (h : mtK l nm = some k) : ∃ x, l[k]? = some x ∧ x.nm = nm := by
 unfold mtK at h
 rw [List.findIdx?_eq_some_iff_getElem] at h
 obtain ⟨hl, h1, _⟩ := h
 exact ⟨l[k], List.getElem?_eq_getElem hl, by simpa using h1⟩
structure OwnB (w : World) (b : Nat × Nat × Nat) (i : Nat) (m : Mem) : Prop where
 ex : ∃ n1 n2 n3 pv, MapIs Tryz.prog 9 strK w b.1 n1 (getVr i false m.fs) ∧ MapIs Tryz.prog 9 strK w b.2.1 n2 (getVr i true m.ss) ∧ MapIs Tryz.prog 9 strK w b.2.2 n3 (getMt i pv m.ms) ∧
   (n3 ≤ 100000) ∧ ∀ (k : Nat) (x : Mt), m.ms[k]? = some x → StrsOwn w 0 (.slice (pv k).1 (pv k).2.1 (pv k).2.2) (x.ps.map Vr.ty)
theorem OwnB.no {w w' : World} {b : Nat × Nat × Nat} {i : Nat} {m : Mem} (h : OwnB w b i m) (hc : Ch No w w') : OwnB w' b i m := by
 obtain ⟨n1, n2, n3, pv, h1, h2, h3, h4, h5⟩ := h.ex
 exact ⟨n1, n2, n3, pv, h1.ch hc (fun _ _ h => h), h2.ch hc (fun _ _ h => h), h3.ch hc (fun _ _ h => h), h4, fun k x hx => (h5 k x hx).no hc⟩
theorem OwnAt.b {w : World} {ov : Value} {i : Nat} {m : Mem} (h : OwnAt w ov i m) : ∃ b : Nat × Nat × Nat, ov = .agg #[.map (some b.1), .map (some b.2.1), .map (some b.2.2)] ∧ OwnB w b i m := by
 obtain ⟨b1, b2, b3, n1, n2, n3, pv, e, h⟩ := h.ex
 exact ⟨(b1, b2, b3), e, n1, n2, n3, pv, h⟩
def ownCells (b : Nat × Nat × Nat) : List Value := [.map (some b.1), .map (some b.2.1), .map (some b.2.2)]
structure MembAt (w : World) (mb : Nat) (cs : List Cls) (ms : List Mem) (cv m0 m1 m2 m3 m4 m5 m6 m7 m8 xv ov : Value) (bs : List (Nat × Nat × Nat)) : Prop where
 blk : w.heap[mb]? = some (.cells #[cv, m0, m1, m2, m3, m4, m5, m6, m7, m8, xv, ov] 97 (0, 0))
 clss : ClssAt w cv cs
 typ : TypesIs w xv cs
 row : RowAt w ov 3 (bs.map ownCells)
 len : bs.length = cs.length
 own : ∀ (i : Nat) (b : Nat × Nat × Nat) (m : Mem), bs[i]? = some b → ms[i]? = some m → OwnB w b i m
def MembIs (w : World) (mb : Nat) (cs : List Cls) (ms : List Mem) : Prop := ∃ cv m0 m1 m2 m3 m4 m5 m6 m7 m8 xv ov bs, MembAt w mb cs ms cv m0 m1 m2 m3 m4 m5 m6 m7 m8 xv ov bs
theorem MembAt.no {w w' : World} {mb : Nat} {cs : List Cls} {ms : List Mem} {cv m0 m1 m2 m3 m4 m5 m6 m7 m8 xv ov : Value} {bs : List (Nat × Nat × Nat)} (h : MembAt w mb cs ms cv m0 m1 m2 m3 m4 m5 m6 m7 m8 xv ov bs) (hc : Ch No w w') : MembAt w' mb cs ms cv m0 m1 m2 m3 m4 m5 m6 m7 m8 xv ov bs :=
 ⟨hc.keep _ _ h.blk (fun h => h), h.clss.no hc, h.typ.no hc, h.row.no hc, h.len, fun i b m h1 h2 => (h.own i b m h1 h2).no hc⟩
theorem MembIs.no {w w' : World} {mb : Nat} {cs : List Cls} {ms : List Mem} (h : MembIs w mb cs ms) (hc : Ch No w w') : MembIs w' mb cs ms := by
 obtain ⟨cv, m0, m1, m2, m3, m4, m5, m6, m7, m8, xv, ov, bs, h⟩ := h
 exact ⟨cv, m0, m1, m2, m3, m4, m5, m6, m7, m8, xv, ov, bs, h.no hc⟩
set_option maxHeartbeats 2000000 in
theorem mtyped {w : World} {mb : Nat} {cs : List Cls} {ms : List Mem} (h : MembIs w mb cs ms) {t : ByteArray} (ht : t.size ≤ maxLen) :
   Calls Tryz.prog 116 #[.pointer (some ⟨mb, 0, none⟩), .string t] w fun e w' => BoolIs (typedP cs t) e ∧ Ch No w w' := by
 obtain ⟨cv, m0, m1, m2, m3, m4, m5, m6, m7, m8, xv, ov, bs, h⟩ := h
 have HT := hid ht
 have HX := hid h.typ
 have c10 := cellAt h.blk 10
 clear h ht
 by_cases hn : t = sNull
 · have e0 := lit t [110, 117, 108, 108] hn
   have HN := hid hn
   clear hn
   go_enter Tryz.func116, Tryz.ntmps116
   go_wp2_with fail
   go_ret
   exact ⟨BoolIs.f (fun h => h.1 HN.out), Ch.refl _ _⟩
 · have e0 := litn t [110, 117, 108, 108] hn
   have HN := hid hn
   clear hn
   have hc := (Ch.refl No w).alloc (.cells #[.string t] 9)
   have hxi := xis (HX.out.no hc) (StrsAt.one (w := w) [t] (by simp)) (fun u hu => by simp at hu; subst hu; exact HT.out)
   have HC := hid hc
   clear hc
   go_enter Tryz.func116, Tryz.ntmps116
   go_wp2_with fail
   refine hxi.mono ?_
   rintro e w2 ⟨⟨r, rfl, hr⟩, rfl⟩
   have HR := hid hr
   clear hr hxi
   go_wp2_with fail
   go_ret
   refine ⟨⟨r, rfl, ?_⟩, HC.out⟩
   rw [HR.out]
   exact ⟨fun h => ⟨HN.out, h t (by simp)⟩, fun h u hu => by simp at hu; subst hu; exact h.2⟩
set_option maxHeartbeats 4000000 in
theorem malike {w : World} {c nm c' nm'} {ty ty' : ByteArray} {sa sa' : Option Addr} {sn sc sn' sc' : Nat} {st ba st' ba' : Bool} {l l' : List ByteArray} (h : StrsAt w (.slice sa sn sc) l) (h' : StrsAt w (.slice sa' sn' sc') l') :
   Calls Tryz.prog 124 #[.agg #[.int .i64 c, .string nm, .string ty, .slice sa sn sc, .bool st, .bool ba], .agg #[.int .i64 c', .string nm', .string ty', .slice sa' sn' sc', .bool st', .bool ba']] w fun e w' => BoolIs (ty = ty' ∧ l = l') e ∧ Ch No w w' := by
 obtain ⟨w1, hw1⟩ : ∃ w1, w.alloc (.cells #[.int .i64 c, .string nm, .string ty, .slice sa sn sc, .bool st, .bool ba] 54) = w1 := ⟨_, rfl⟩
 have hb1 := heap_alloc_new w (.cells #[.int .i64 c, .string nm, .string ty, .slice sa sn sc, .bool st, .bool ba] 54)
 have hc1 := (Ch.refl No w).alloc (.cells #[.int .i64 c, .string nm, .string ty, .slice sa sn sc, .bool st, .bool ba] 54)
 rw [hw1] at hb1 hc1
 obtain ⟨w2, hw2⟩ : ∃ w2, w1.alloc (.cells #[.int .i64 c', .string nm', .string ty', .slice sa' sn' sc', .bool st', .bool ba'] 54) = w2 := ⟨_, rfl⟩
 have hb2 := heap_alloc_new w1 (.cells #[.int .i64 c', .string nm', .string ty', .slice sa' sn' sc', .bool st', .bool ba'] 54)
 have hc2 := (Ch.refl No w1).alloc (.cells #[.int .i64 c', .string nm', .string ty', .slice sa' sn' sc', .bool st', .bool ba'] 54)
 rw [hw2] at hb2 hc2
 have HC := hid (hc1.trans hc2)
 have heq := equalS (h.no HC.out) (h'.no HC.out)
 have hb12 := hc2.keep _ _ hb1 (fun h => h)
 have d2 := cellAt hb12 2
 have d3 := cellAt hb12 3
 have e2 := cellAt hb2 2
 have e3 := cellAt hb2 3
 clear hb1 hb2 hb12 hc1 hc2 h h'
 by_cases ht : ty = ty'
 · have e0 := toL ty ty' ht
   have HT := hid ht
   clear ht
   go_enter Tryz.func124, Tryz.ntmps124
   go_wp2_with fail
   refine heq.mono ?_
   rintro e w3 ⟨⟨r, rfl, hr⟩, hc3⟩
   have HR := hid hr
   have HC3 := hid hc3
   clear hr hc3 heq
   go_wp2_with fail
   go_ret
   exact ⟨⟨r, rfl, fun h => ⟨HT.out, HR.out.1 h⟩, fun h => HR.out.2 h.2⟩, HC.out.trans HC3.out⟩
 · have e0 := toLn ty ty' ht
   have HT := hid ht
   clear ht heq
   go_enter Tryz.func124, Tryz.ntmps124
   go_wp2_with fail
   go_ret
   exact ⟨BoolIs.f (fun h => HT.out h.1), HC.out⟩
def lkVr (i : Nat) (st : Bool) (l : List Vr) (nm : ByteArray) : Option MbR := (vrF l nm).map (fun v => ⟨i, v.nm, v.ty, [], st, false⟩)
def lkMt (i : Nat) (l : List Mt) (nm : ByteArray) : Option MbR := (mtK l nm).bind (fun k => (l[k]?).map (fun x => ⟨i, x.nm, x.ret, x.ps.map Vr.ty, x.st, x.ba⟩))
def lkField (i : Nat) (m : Mem) (nm : ByteArray) : Option MbR := lkVr i false m.fs nm
def lkStatic (i : Nat) (m : Mem) (nm : ByteArray) : Option MbR := lkVr i true m.ss nm
def lkMethod (i : Nat) (m : Mem) (nm : ByteArray) : Option MbR := lkMt i m.ms nm
def Tells (w : World) (b : Nat) (nm : ByteArray) (o : Option MbR) : Prop := ∃ n get, MapIs Tryz.prog 9 strK w b n get ∧ match o with | some x => ∃ u, get nm = some u ∧ MbAt w u x | none => get nm = none
theorem tellsVr {w : World} {b n i : Nat} {st : Bool} {l : List Vr} (h : MapIs Tryz.prog 9 strK w b n (getVr i st l)) (nm : ByteArray) : Tells w b nm (lkVr i st l nm) := by
 refine ⟨n, _, h, ?_⟩
 unfold lkVr
 cases hv : vrF l nm with
 | none => simp only [Option.map_none]; unfold getVr; rw [hv]; rfl
 | some v =>
   simp only [Option.map_some]
   refine ⟨mbV i v.nm v.ty none 0 0 st false, by unfold getVr; rw [hv]; rfl, none, 0, 0, rfl, StrsAt.nil w⟩
theorem tellsMt {w : World} {b n i : Nat} {pv : Nat → Option Addr × Nat × Nat} {l : List Mt} (h : MapIs Tryz.prog 9 strK w b n (getMt i pv l)) (hp : ∀ (k : Nat) (x : Mt), l[k]? = some x → StrsAt w (.slice (pv k).1 (pv k).2.1 (pv k).2.2) (x.ps.map Vr.ty)) (nm : ByteArray) : Tells w b nm (lkMt i l nm) := by
 refine ⟨n, _, h, ?_⟩
 unfold lkMt
 cases hk : mtK l nm with
 | none => simp only [Option.bind_none]; unfold getMt; rw [hk]
 | some k =>
   obtain ⟨x, hx, hn⟩ := mtSome' hk
   simp only [Option.bind_some, hx, Option.map_some]
   exact ⟨_, by unfold getMt; rw [hk]; simp only [hx], (pv k).1, (pv k).2.1, (pv k).2.2, rfl, hp k x hx⟩
theorem OwnB.tells {w : World} {b : Nat × Nat × Nat} {i : Nat} {m : Mem} (h : OwnB w b i m) (nm : ByteArray) : Tells w b.1 nm (lkField i m nm) ∧ Tells w b.2.1 nm (lkStatic i m nm) ∧ Tells w b.2.2 nm (lkMethod i m nm) := by
 obtain ⟨n1, n2, n3, pv, h1, h2, h3, h4, h5⟩ := h.ex
 exact ⟨tellsVr h1 nm, tellsVr h2 nm, tellsMt h3 (fun k x hx => (h5 k x hx).at_) nm⟩
def LookV (o : Option MbR) (e : Ending) (w' : World) : Prop := match o with
 | some x => ∃ sa sn sc, e = .returned (.tuple #[.agg #[.int .i64 x.cls, .string x.nm, .string x.ty, .slice sa sn sc, .bool x.st, .bool x.ba], .bool true]) ∧ StrsAt w' (.slice sa sn sc) x.ps
 | none => e = .returned (.tuple #[.agg #[.int .i64 0, .string ⟨#[]⟩, .string ⟨#[]⟩, .slice none 0 0, .bool false, .bool false], .bool false])
def LookOut (o : Option MbR) (w : World) (e : Ending) (w' : World) : Prop := LookV o e w' ∧ Ch No w w'
set_option maxHeartbeats 4000000 in
theorem cloField {w : World} {b : Nat × Nat × Nat} {nb : Nat} {nm : ByteArray} {o : Option MbR} (h : Tells w b.1 nm o) (hz : nm.size ≤ maxLen) (hnb : w.cell? ⟨nb, 0, none⟩ = some (.string nm)) :
   Calls Tryz.prog 52 #[.agg #[.map (some b.1), .map (some b.2.1), .map (some b.2.2)], .pointer (some ⟨nb, 0, none⟩)] w (LookOut o w) := by
 obtain ⟨b1, b2, b3⟩ := b
 dsimp only at h ⊢
 obtain ⟨n, get, hm, ho⟩ := h
 obtain ⟨w1, hw1⟩ : ∃ w1, w.alloc (.cells #[.map (some b1), .map (some b2), .map (some b3)] 100) = w1 := ⟨_, rfl⟩
 have hb1 := heap_alloc_new w (.cells #[.map (some b1), .map (some b2), .map (some b3)] 100)
 have hc1 := (Ch.refl No w).alloc (.cells #[.map (some b1), .map (some b2), .map (some b3)] 100)
 rw [hw1] at hb1 hc1
 have zz : (Value.agg #[.int .i64 0, .string ⟨#[]⟩, .string ⟨#[]⟩, .slice none 0 0, .bool false, .bool false]) = (Value.agg #[.int .i64 0, .string ⟨#[]⟩, .string ⟨#[]⟩, .slice none 0 0, .bool false, .bool false]) := rfl
 obtain ⟨w2, hw2⟩ : ∃ w2, w1.alloc (.cells #[.int .i64 0, .string ⟨#[]⟩, .string ⟨#[]⟩, .slice none 0 0, .bool false, .bool false] 54) = w2 := ⟨_, rfl⟩
 have hb2 := heap_alloc_new w1 (.cells #[.int .i64 0, .string ⟨#[]⟩, .string ⟨#[]⟩, .slice none 0 0, .bool false, .bool false] 54)
 have hc2 := (Ch.refl No w1).alloc (.cells #[.int .i64 0, .string ⟨#[]⟩, .string ⟨#[]⟩, .slice none 0 0, .bool false, .bool false] 54)
 rw [hw2] at hb2 hc2
 have HCZ := hid hc1.size
 have HC := hid (hc1.trans hc2)
 have HM := hid (hm.ch HC.out (fun _ _ h => h))
 have hlk := HM.out.lookOk lawS Tryz.underlying98 (zeroMem w2) (keyS hz)
 have HB2 := hid hb2
 have hb12 := hc2.keep _ _ hb1 (fun h => h)
 have hn2 := cell_ch hnb HC.out (fun _ _ h => h)
 have y1 := lt_size hb1
 have y2 := lt_size hb2
 have d0 := cellAt hb12 0
 clear hm hb1 hb2 hb12 hc1 hc2 hnb hz zz
 cases o with
 | none =>
   dsimp only at ho
   rw [ho] at hlk
   have hlk' : (Instr.lookup 98 (.map (some b1)) (.string nm) true).run Tryz.prog w2 = .ok (.tuple #[.agg #[.int .i64 0, .string ⟨#[]⟩, .string ⟨#[]⟩, .slice none 0 0, .bool false, .bool false], .bool false]) w2 := hlk
   clear hlk ho
   go_enter Tryz.func52, Tryz.ntmps52
   go_upto_region 2 with fail
   obtain ⟨w3, hw3⟩ : ∃ w3, w2.alloc (.cells #[.int .i64 0, .string ⟨#[]⟩, .string ⟨#[]⟩, .slice none 0 0, .bool false, .bool false] 54) = w3 := ⟨_, rfl⟩
   rw [hw3]
   have hc3 : Ch No w2 w3 := by rw [← hw3]; exact (Ch.refl No w2).alloc _
   have hb3 := heap_alloc_new w2 (.cells #[.int .i64 0, .string ⟨#[]⟩, .string ⟨#[]⟩, .slice none 0 0, .bool false, .bool false] 54)
   rw [hw3] at hb3
   have HB23 := hid (hc3.keep _ _ HB2.out (fun h => h))
   have HC3 := hid hc3
   have a0 := cellAt HB23.out 0
   have a1 := cellAt HB23.out 1
   have a2 := cellAt HB23.out 2
   have a3 := cellAt HB23.out 3
   have a4 := cellAt HB23.out 4
   have a5 := cellAt HB23.out 5
   have f0 := freeAt HB23.out 0
   have f1 := freeAt HB23.out 1
   have f2 := freeAt HB23.out 2
   have f3 := freeAt HB23.out 3
   have f4 := freeAt HB23.out 4
   have f5 := freeAt HB23.out 5
   have hlt3 := lt_size HB23.out
   clear hc3
   have g0 := cellAt hb3 0
   have g1 := cellAt hb3 1
   have g2 := cellAt hb3 2
   have g3 := cellAt hb3 3
   have g4 := cellAt hb3 4
   have g5 := cellAt hb3 5
   clear hw3 hb3
   go_wp2_with fail
   obtain ⟨wf, hwf, hfb, hfc⟩ := put6 HB23.out (.int .i64 0) (.string ⟨#[]⟩) (.string ⟨#[]⟩) (.slice none 0 0) (.bool false) (.bool false)
   rw [hwf]
   have k0 := cellAt hfb 0
   have k1 := cellAt hfb 1
   have k2 := cellAt hfb 2
   have k3 := cellAt hfb 3
   have k4 := cellAt hfb 4
   have k5 := cellAt hfb 5
   refine bodyPost_ret (v := .tuple #[.agg #[.int .i64 0, .string ⟨#[]⟩, .string ⟨#[]⟩, .slice none 0 0, .bool false, .bool false], .bool false]) (by simp [results, Tryz.results52, go_sem, k0, k1, k2, k3, k4, k5]) rfl ?_
   have HCF := hid (Ch.newOnly (HC.out.trans HC3.out) hfc (fun k _ _ e => by
     have e' : k = w1.heap.size := e
     have := HCZ.out
     omega))
   exact ⟨rfl, HCF.out⟩
 | some x =>
   obtain ⟨u, hu, sa, sn, sc, rfl, hst⟩ := ho
   rw [hu] at hlk
   have hlk' : (Instr.lookup 98 (.map (some b1)) (.string nm) true).run Tryz.prog w2 = .ok (.tuple #[.agg #[.int .i64 x.cls, .string x.nm, .string x.ty, .slice sa sn sc, .bool x.st, .bool x.ba], .bool true]) w2 := hlk
   have HST := hid hst
   clear hlk hu hst
   go_enter Tryz.func52, Tryz.ntmps52
   go_upto_region 2 with fail
   obtain ⟨w3, hw3⟩ : ∃ w3, w2.alloc (.cells #[.int .i64 x.cls, .string x.nm, .string x.ty, .slice sa sn sc, .bool x.st, .bool x.ba] 54) = w3 := ⟨_, rfl⟩
   rw [hw3]
   have hc3 : Ch No w2 w3 := by rw [← hw3]; exact (Ch.refl No w2).alloc _
   have hb3 := heap_alloc_new w2 (.cells #[.int .i64 x.cls, .string x.nm, .string x.ty, .slice sa sn sc, .bool x.st, .bool x.ba] 54)
   rw [hw3] at hb3
   have HB23 := hid (hc3.keep _ _ HB2.out (fun h => h))
   have HC3 := hid hc3
   have a0 := cellAt HB23.out 0
   have a1 := cellAt HB23.out 1
   have a2 := cellAt HB23.out 2
   have a3 := cellAt HB23.out 3
   have a4 := cellAt HB23.out 4
   have a5 := cellAt HB23.out 5
   have f0 := freeAt HB23.out 0
   have f1 := freeAt HB23.out 1
   have f2 := freeAt HB23.out 2
   have f3 := freeAt HB23.out 3
   have f4 := freeAt HB23.out 4
   have f5 := freeAt HB23.out 5
   have hlt3 := lt_size HB23.out
   clear hc3
   have g0 := cellAt hb3 0
   have g1 := cellAt hb3 1
   have g2 := cellAt hb3 2
   have g3 := cellAt hb3 3
   have g4 := cellAt hb3 4
   have g5 := cellAt hb3 5
   clear hw3 hb3
   go_wp2_with fail
   obtain ⟨wf, hwf, hfb, hfc⟩ := put6 HB23.out (.int .i64 x.cls) (.string x.nm) (.string x.ty) (.slice sa sn sc) (.bool x.st) (.bool x.ba)
   rw [hwf]
   have k0 := cellAt hfb 0
   have k1 := cellAt hfb 1
   have k2 := cellAt hfb 2
   have k3 := cellAt hfb 3
   have k4 := cellAt hfb 4
   have k5 := cellAt hfb 5
   refine bodyPost_ret (v := .tuple #[.agg #[.int .i64 x.cls, .string x.nm, .string x.ty, .slice sa sn sc, .bool x.st, .bool x.ba], .bool true]) (by simp [results, Tryz.results52, go_sem, k0, k1, k2, k3, k4, k5]) rfl ?_
   have HCF := hid (Ch.newOnly (HC.out.trans HC3.out) hfc (fun k _ _ e => by
     have e' : k = w1.heap.size := e
     have := HCZ.out
     omega))
   refine ⟨⟨sa, sn, sc, rfl, ?_⟩, HCF.out⟩
   exact HST.out.no HCF.out
set_option maxHeartbeats 4000000 in
theorem cloStatic {w : World} {b : Nat × Nat × Nat} {nb : Nat} {nm : ByteArray} {o : Option MbR} (h : Tells w b.2.1 nm o) (hz : nm.size ≤ maxLen) (hnb : w.cell? ⟨nb, 0, none⟩ = some (.string nm)) :
   Calls Tryz.prog 117 #[.agg #[.map (some b.1), .map (some b.2.1), .map (some b.2.2)], .pointer (some ⟨nb, 0, none⟩)] w (LookOut o w) := by
 obtain ⟨b1, b2, b3⟩ := b
 dsimp only at h ⊢
 obtain ⟨n, get, hm, ho⟩ := h
 obtain ⟨w1, hw1⟩ : ∃ w1, w.alloc (.cells #[.map (some b1), .map (some b2), .map (some b3)] 100) = w1 := ⟨_, rfl⟩
 have hb1 := heap_alloc_new w (.cells #[.map (some b1), .map (some b2), .map (some b3)] 100)
 have hc1 := (Ch.refl No w).alloc (.cells #[.map (some b1), .map (some b2), .map (some b3)] 100)
 rw [hw1] at hb1 hc1
 have zz : (Value.agg #[.int .i64 0, .string ⟨#[]⟩, .string ⟨#[]⟩, .slice none 0 0, .bool false, .bool false]) = (Value.agg #[.int .i64 0, .string ⟨#[]⟩, .string ⟨#[]⟩, .slice none 0 0, .bool false, .bool false]) := rfl
 obtain ⟨w2, hw2⟩ : ∃ w2, w1.alloc (.cells #[.int .i64 0, .string ⟨#[]⟩, .string ⟨#[]⟩, .slice none 0 0, .bool false, .bool false] 54) = w2 := ⟨_, rfl⟩
 have hb2 := heap_alloc_new w1 (.cells #[.int .i64 0, .string ⟨#[]⟩, .string ⟨#[]⟩, .slice none 0 0, .bool false, .bool false] 54)
 have hc2 := (Ch.refl No w1).alloc (.cells #[.int .i64 0, .string ⟨#[]⟩, .string ⟨#[]⟩, .slice none 0 0, .bool false, .bool false] 54)
 rw [hw2] at hb2 hc2
 have HCZ := hid hc1.size
 have HC := hid (hc1.trans hc2)
 have HM := hid (hm.ch HC.out (fun _ _ h => h))
 have hlk := HM.out.lookOk lawS Tryz.underlying98 (zeroMem w2) (keyS hz)
 have HB2 := hid hb2
 have hb12 := hc2.keep _ _ hb1 (fun h => h)
 have hn2 := cell_ch hnb HC.out (fun _ _ h => h)
 have y1 := lt_size hb1
 have y2 := lt_size hb2
 have d1 := cellAt hb12 1
 clear hm hb1 hb2 hb12 hc1 hc2 hnb hz zz
 cases o with
 | none =>
   dsimp only at ho
   rw [ho] at hlk
   have hlk' : (Instr.lookup 98 (.map (some b2)) (.string nm) true).run Tryz.prog w2 = .ok (.tuple #[.agg #[.int .i64 0, .string ⟨#[]⟩, .string ⟨#[]⟩, .slice none 0 0, .bool false, .bool false], .bool false]) w2 := hlk
   clear hlk ho
   go_enter Tryz.func117, Tryz.ntmps117
   go_upto_region 2 with fail
   obtain ⟨w3, hw3⟩ : ∃ w3, w2.alloc (.cells #[.int .i64 0, .string ⟨#[]⟩, .string ⟨#[]⟩, .slice none 0 0, .bool false, .bool false] 54) = w3 := ⟨_, rfl⟩
   rw [hw3]
   have hc3 : Ch No w2 w3 := by rw [← hw3]; exact (Ch.refl No w2).alloc _
   have hb3 := heap_alloc_new w2 (.cells #[.int .i64 0, .string ⟨#[]⟩, .string ⟨#[]⟩, .slice none 0 0, .bool false, .bool false] 54)
   rw [hw3] at hb3
   have HB23 := hid (hc3.keep _ _ HB2.out (fun h => h))
   have HC3 := hid hc3
   have a0 := cellAt HB23.out 0
   have a1 := cellAt HB23.out 1
   have a2 := cellAt HB23.out 2
   have a3 := cellAt HB23.out 3
   have a4 := cellAt HB23.out 4
   have a5 := cellAt HB23.out 5
   have f0 := freeAt HB23.out 0
   have f1 := freeAt HB23.out 1
   have f2 := freeAt HB23.out 2
   have f3 := freeAt HB23.out 3
   have f4 := freeAt HB23.out 4
   have f5 := freeAt HB23.out 5
   have hlt3 := lt_size HB23.out
   clear hc3
   have g0 := cellAt hb3 0
   have g1 := cellAt hb3 1
   have g2 := cellAt hb3 2
   have g3 := cellAt hb3 3
   have g4 := cellAt hb3 4
   have g5 := cellAt hb3 5
   clear hw3 hb3
   go_wp2_with fail
   obtain ⟨wf, hwf, hfb, hfc⟩ := put6 HB23.out (.int .i64 0) (.string ⟨#[]⟩) (.string ⟨#[]⟩) (.slice none 0 0) (.bool false) (.bool false)
   rw [hwf]
   have k0 := cellAt hfb 0
   have k1 := cellAt hfb 1
   have k2 := cellAt hfb 2
   have k3 := cellAt hfb 3
   have k4 := cellAt hfb 4
   have k5 := cellAt hfb 5
   refine bodyPost_ret (v := .tuple #[.agg #[.int .i64 0, .string ⟨#[]⟩, .string ⟨#[]⟩, .slice none 0 0, .bool false, .bool false], .bool false]) (by simp [results, Tryz.results117, go_sem, k0, k1, k2, k3, k4, k5]) rfl ?_
   have HCF := hid (Ch.newOnly (HC.out.trans HC3.out) hfc (fun k _ _ e => by
     have e' : k = w1.heap.size := e
     have := HCZ.out
     omega))
   exact ⟨rfl, HCF.out⟩
 | some x =>
   obtain ⟨u, hu, sa, sn, sc, rfl, hst⟩ := ho
   rw [hu] at hlk
   have hlk' : (Instr.lookup 98 (.map (some b2)) (.string nm) true).run Tryz.prog w2 = .ok (.tuple #[.agg #[.int .i64 x.cls, .string x.nm, .string x.ty, .slice sa sn sc, .bool x.st, .bool x.ba], .bool true]) w2 := hlk
   have HST := hid hst
   clear hlk hu hst
   go_enter Tryz.func117, Tryz.ntmps117
   go_upto_region 2 with fail
   obtain ⟨w3, hw3⟩ : ∃ w3, w2.alloc (.cells #[.int .i64 x.cls, .string x.nm, .string x.ty, .slice sa sn sc, .bool x.st, .bool x.ba] 54) = w3 := ⟨_, rfl⟩
   rw [hw3]
   have hc3 : Ch No w2 w3 := by rw [← hw3]; exact (Ch.refl No w2).alloc _
   have hb3 := heap_alloc_new w2 (.cells #[.int .i64 x.cls, .string x.nm, .string x.ty, .slice sa sn sc, .bool x.st, .bool x.ba] 54)
   rw [hw3] at hb3
   have HB23 := hid (hc3.keep _ _ HB2.out (fun h => h))
   have HC3 := hid hc3
   have a0 := cellAt HB23.out 0
   have a1 := cellAt HB23.out 1
   have a2 := cellAt HB23.out 2
   have a3 := cellAt HB23.out 3
   have a4 := cellAt HB23.out 4
   have a5 := cellAt HB23.out 5
   have f0 := freeAt HB23.out 0
   have f1 := freeAt HB23.out 1
   have f2 := freeAt HB23.out 2
   have f3 := freeAt HB23.out 3
   have f4 := freeAt HB23.out 4
   have f5 := freeAt HB23.out 5
   have hlt3 := lt_size HB23.out
   clear hc3
   have g0 := cellAt hb3 0
   have g1 := cellAt hb3 1
   have g2 := cellAt hb3 2
   have g3 := cellAt hb3 3
   have g4 := cellAt hb3 4
   have g5 := cellAt hb3 5
   clear hw3 hb3
   go_wp2_with fail
   obtain ⟨wf, hwf, hfb, hfc⟩ := put6 HB23.out (.int .i64 x.cls) (.string x.nm) (.string x.ty) (.slice sa sn sc) (.bool x.st) (.bool x.ba)
   rw [hwf]
   have k0 := cellAt hfb 0
   have k1 := cellAt hfb 1
   have k2 := cellAt hfb 2
   have k3 := cellAt hfb 3
   have k4 := cellAt hfb 4
   have k5 := cellAt hfb 5
   refine bodyPost_ret (v := .tuple #[.agg #[.int .i64 x.cls, .string x.nm, .string x.ty, .slice sa sn sc, .bool x.st, .bool x.ba], .bool true]) (by simp [results, Tryz.results117, go_sem, k0, k1, k2, k3, k4, k5]) rfl ?_
   have HCF := hid (Ch.newOnly (HC.out.trans HC3.out) hfc (fun k _ _ e => by
     have e' : k = w1.heap.size := e
     have := HCZ.out
     omega))
   refine ⟨⟨sa, sn, sc, rfl, ?_⟩, HCF.out⟩
   exact HST.out.no HCF.out
set_option maxHeartbeats 4000000 in
theorem cloMethod {w : World} {b : Nat × Nat × Nat} {nb : Nat} {nm : ByteArray} {o : Option MbR} (h : Tells w b.2.2 nm o) (hz : nm.size ≤ maxLen) (hnb : w.cell? ⟨nb, 0, none⟩ = some (.string nm)) :
   Calls Tryz.prog 48 #[.agg #[.map (some b.1), .map (some b.2.1), .map (some b.2.2)], .pointer (some ⟨nb, 0, none⟩)] w (LookOut o w) := by
 obtain ⟨b1, b2, b3⟩ := b
 dsimp only at h ⊢
 obtain ⟨n, get, hm, ho⟩ := h
 obtain ⟨w1, hw1⟩ : ∃ w1, w.alloc (.cells #[.map (some b1), .map (some b2), .map (some b3)] 100) = w1 := ⟨_, rfl⟩
 have hb1 := heap_alloc_new w (.cells #[.map (some b1), .map (some b2), .map (some b3)] 100)
 have hc1 := (Ch.refl No w).alloc (.cells #[.map (some b1), .map (some b2), .map (some b3)] 100)
 rw [hw1] at hb1 hc1
 have zz : (Value.agg #[.int .i64 0, .string ⟨#[]⟩, .string ⟨#[]⟩, .slice none 0 0, .bool false, .bool false]) = (Value.agg #[.int .i64 0, .string ⟨#[]⟩, .string ⟨#[]⟩, .slice none 0 0, .bool false, .bool false]) := rfl
 obtain ⟨w2, hw2⟩ : ∃ w2, w1.alloc (.cells #[.int .i64 0, .string ⟨#[]⟩, .string ⟨#[]⟩, .slice none 0 0, .bool false, .bool false] 54) = w2 := ⟨_, rfl⟩
 have hb2 := heap_alloc_new w1 (.cells #[.int .i64 0, .string ⟨#[]⟩, .string ⟨#[]⟩, .slice none 0 0, .bool false, .bool false] 54)
 have hc2 := (Ch.refl No w1).alloc (.cells #[.int .i64 0, .string ⟨#[]⟩, .string ⟨#[]⟩, .slice none 0 0, .bool false, .bool false] 54)
 rw [hw2] at hb2 hc2
 have HCZ := hid hc1.size
 have HC := hid (hc1.trans hc2)
 have HM := hid (hm.ch HC.out (fun _ _ h => h))
 have hlk := HM.out.lookOk lawS Tryz.underlying98 (zeroMem w2) (keyS hz)
 have HB2 := hid hb2
 have hb12 := hc2.keep _ _ hb1 (fun h => h)
 have hn2 := cell_ch hnb HC.out (fun _ _ h => h)
 have y1 := lt_size hb1
 have y2 := lt_size hb2
 have d2 := cellAt hb12 2
 clear hm hb1 hb2 hb12 hc1 hc2 hnb hz zz
 cases o with
 | none =>
   dsimp only at ho
   rw [ho] at hlk
   have hlk' : (Instr.lookup 98 (.map (some b3)) (.string nm) true).run Tryz.prog w2 = .ok (.tuple #[.agg #[.int .i64 0, .string ⟨#[]⟩, .string ⟨#[]⟩, .slice none 0 0, .bool false, .bool false], .bool false]) w2 := hlk
   clear hlk ho
   go_enter Tryz.func48, Tryz.ntmps48
   go_upto_region 2 with fail
   obtain ⟨w3, hw3⟩ : ∃ w3, w2.alloc (.cells #[.int .i64 0, .string ⟨#[]⟩, .string ⟨#[]⟩, .slice none 0 0, .bool false, .bool false] 54) = w3 := ⟨_, rfl⟩
   rw [hw3]
   have hc3 : Ch No w2 w3 := by rw [← hw3]; exact (Ch.refl No w2).alloc _
   have hb3 := heap_alloc_new w2 (.cells #[.int .i64 0, .string ⟨#[]⟩, .string ⟨#[]⟩, .slice none 0 0, .bool false, .bool false] 54)
   rw [hw3] at hb3
   have HB23 := hid (hc3.keep _ _ HB2.out (fun h => h))
   have HC3 := hid hc3
   have a0 := cellAt HB23.out 0
   have a1 := cellAt HB23.out 1
   have a2 := cellAt HB23.out 2
   have a3 := cellAt HB23.out 3
   have a4 := cellAt HB23.out 4
   have a5 := cellAt HB23.out 5
   have f0 := freeAt HB23.out 0
   have f1 := freeAt HB23.out 1
   have f2 := freeAt HB23.out 2
   have f3 := freeAt HB23.out 3
   have f4 := freeAt HB23.out 4
   have f5 := freeAt HB23.out 5
   have hlt3 := lt_size HB23.out
   clear hc3
   have g0 := cellAt hb3 0
   have g1 := cellAt hb3 1
   have g2 := cellAt hb3 2
   have g3 := cellAt hb3 3
   have g4 := cellAt hb3 4
   have g5 := cellAt hb3 5
   clear hw3 hb3
   go_wp2_with fail
   obtain ⟨wf, hwf, hfb, hfc⟩ := put6 HB23.out (.int .i64 0) (.string ⟨#[]⟩) (.string ⟨#[]⟩) (.slice none 0 0) (.bool false) (.bool false)
   rw [hwf]
   have k0 := cellAt hfb 0
   have k1 := cellAt hfb 1
   have k2 := cellAt hfb 2
   have k3 := cellAt hfb 3
   have k4 := cellAt hfb 4
   have k5 := cellAt hfb 5
   refine bodyPost_ret (v := .tuple #[.agg #[.int .i64 0, .string ⟨#[]⟩, .string ⟨#[]⟩, .slice none 0 0, .bool false, .bool false], .bool false]) (by simp [results, Tryz.results48, go_sem, k0, k1, k2, k3, k4, k5]) rfl ?_
   have HCF := hid (Ch.newOnly (HC.out.trans HC3.out) hfc (fun k _ _ e => by
     have e' : k = w1.heap.size := e
     have := HCZ.out
     omega))
   exact ⟨rfl, HCF.out⟩
 | some x =>
   obtain ⟨u, hu, sa, sn, sc, rfl, hst⟩ := ho
   rw [hu] at hlk
   have hlk' : (Instr.lookup 98 (.map (some b3)) (.string nm) true).run Tryz.prog w2 = .ok (.tuple #[.agg #[.int .i64 x.cls, .string x.nm, .string x.ty, .slice sa sn sc, .bool x.st, .bool x.ba], .bool true]) w2 := hlk
   have HST := hid hst
   clear hlk hu hst
   go_enter Tryz.func48, Tryz.ntmps48
   go_upto_region 2 with fail
   obtain ⟨w3, hw3⟩ : ∃ w3, w2.alloc (.cells #[.int .i64 x.cls, .string x.nm, .string x.ty, .slice sa sn sc, .bool x.st, .bool x.ba] 54) = w3 := ⟨_, rfl⟩
   rw [hw3]
   have hc3 : Ch No w2 w3 := by rw [← hw3]; exact (Ch.refl No w2).alloc _
   have hb3 := heap_alloc_new w2 (.cells #[.int .i64 x.cls, .string x.nm, .string x.ty, .slice sa sn sc, .bool x.st, .bool x.ba] 54)
   rw [hw3] at hb3
   have HB23 := hid (hc3.keep _ _ HB2.out (fun h => h))
   have HC3 := hid hc3
   have a0 := cellAt HB23.out 0
   have a1 := cellAt HB23.out 1
   have a2 := cellAt HB23.out 2
   have a3 := cellAt HB23.out 3
   have a4 := cellAt HB23.out 4
   have a5 := cellAt HB23.out 5
   have f0 := freeAt HB23.out 0
   have f1 := freeAt HB23.out 1
   have f2 := freeAt HB23.out 2
   have f3 := freeAt HB23.out 3
   have f4 := freeAt HB23.out 4
   have f5 := freeAt HB23.out 5
   have hlt3 := lt_size HB23.out
   clear hc3
   have g0 := cellAt hb3 0
   have g1 := cellAt hb3 1
   have g2 := cellAt hb3 2
   have g3 := cellAt hb3 3
   have g4 := cellAt hb3 4
   have g5 := cellAt hb3 5
   clear hw3 hb3
   go_wp2_with fail
   obtain ⟨wf, hwf, hfb, hfc⟩ := put6 HB23.out (.int .i64 x.cls) (.string x.nm) (.string x.ty) (.slice sa sn sc) (.bool x.st) (.bool x.ba)
   rw [hwf]
   have k0 := cellAt hfb 0
   have k1 := cellAt hfb 1
   have k2 := cellAt hfb 2
   have k3 := cellAt hfb 3
   have k4 := cellAt hfb 4
   have k5 := cellAt hfb 5
   refine bodyPost_ret (v := .tuple #[.agg #[.int .i64 x.cls, .string x.nm, .string x.ty, .slice sa sn sc, .bool x.st, .bool x.ba], .bool true]) (by simp [results, Tryz.results48, go_sem, k0, k1, k2, k3, k4, k5]) rfl ?_
   have HCF := hid (Ch.newOnly (HC.out.trans HC3.out) hfc (fun k _ _ e => by
     have e' : k = w1.heap.size := e
     have := HCZ.out
     omega))
   refine ⟨⟨sa, sn, sc, rfl, ?_⟩, HCF.out⟩
   exact HST.out.no HCF.out
end Go.Proofs.YtgjpgfedlgdjhaaGreatDoor
end
