/- What the claim uses: part 49. -/
import Derived.Test.YtgjpgfedlgdjhaaGreatDoorZbu
import Derived.Test.YtgjpgfedlgdjhaaGreatDoorZbv
section
set_option linter.unusedVariables false
set_option linter.unusedSimpArgs false
set_option maxRecDepth 8192
namespace Go.Proofs.YtgjpgfedlgdjhaaGreatDoor
open Go.RowKit Go.W
def vsOf (l : List Vr) : ByteArray → Option ByteArray := l.foldl (fun f v => fun x => if x = v.nm then some v.ty else f x) (fun _ => none)
theorem vsOf_snoc (l : List Vr) (v : Vr) : vsOf (l ++ [v]) = fun x => if x = v.nm then some v.ty else vsOf l x := by unfold vsOf; rw [List.foldl_append]; rfl
theorem vsFold_mem {x t : ByteArray} : ∀ (l : List Vr) (f : ByteArray → Option ByteArray), l.foldl (fun f v => fun x => if x = v.nm then some v.ty else f x) f x = some t → f x = some t ∨ ∃ v ∈ l, v.nm = x ∧ v.ty = t
 | [], f, h => .inl h
 | v :: r, f, h => by
   rcases vsFold_mem r _ h with h | ⟨u, hu, h1⟩
   · by_cases e : x = v.nm
     · simp only [if_pos e] at h
       exact .inr ⟨v, List.mem_cons_self .., e.symm, by simpa using h⟩
     · simp only [if_neg e] at h
       exact .inl h
   · exact .inr ⟨u, List.mem_cons_of_mem _ hu, h1⟩
theorem vsOf_mem {l : List Vr} {x t : ByteArray} (h : vsOf l x = some t) : ∃ v ∈ l, v.nm = x ∧ v.ty = t := by
 rcases vsFold_mem l _ h with h | h
 · cases h
 · exact h
def varP (cs : List Cls) (l : List Vr) (s k : Nat) (v : Vr) : Prop := s ≤ k → vsOf (l.take k) v.nm = none ∧ v.nm ≠ sThis ∧ v.ty ≠ sNull ∧ isT cs v.ty
def varsP (cs : List Cls) (l : List Vr) (s : Nat) : Prop := ∀ (k : Nat) (v : Vr), l[k]? = some v → varP cs l s k v
theorem take_snoc {l : List Vr} {k : Nat} {v : Vr} (h : l[k]? = some v) : l.take (k + 1) = l.take k ++ [v] := by
 rw [List.take_add_one, h]; rfl
def CkOut (P : Prop) (A : Int → Int → Prop) (w0 w : World) (b : Nat) (cs : List Cls) (ms : List Mem) (xv : Value) (mb : Nat) (e : Ending) (w' : World) : Prop :=
 ∃ r : Bool, e = .returned (.bool r) ∧ (r = true ↔ P) ∧ Ch (fun k _ => k = b) w w' ∧ ∃ vb n vs ret l c, CkIs w0 w' b cs ms xv mb vb n vs ret l c ∧ (r = false → A l c)
structure CkZ (w0 w : World) (b : Nat) (cs : List Cls) (ms : List Mem) (xv : Value) (mb : Nat) (mv : Option Nat) (ret : ByteArray) (l c : Int) : Prop where
 blk : w.heap[b]? = some (.cells #[xv, .pointer (some ⟨mb, 0, none⟩), .map mv, .string ret, .int .i64 l, .int .i64 c] 85 (0, 0))
 typ0 : TypesIs w0 xv cs
 mem0 : MembIs w0 mb cs ms
 ch : Ch No w0 w
 ge : w0.heap.size ≤ b
theorem CkZ.no {w0 w w' : World} {b : Nat} {cs : List Cls} {ms : List Mem} {xv : Value} {mb : Nat} {mv : Option Nat} {ret : ByteArray} {l c : Int} (h : CkZ w0 w b cs ms xv mb mv ret l c) (hc : Ch No w w') : CkZ w0 w' b cs ms xv mb mv ret l c :=
 ⟨hc.keep _ _ h.blk (fun h => h), h.typ0, h.mem0, h.ch.trans hc, h.ge⟩
theorem CkZ.set {w0 w w' : World} {b : Nat} {cs : List Cls} {ms : List Mem} {xv : Value} {mb : Nat} {mv : Option Nat} {ret : ByteArray} {l c : Int} (h : CkZ w0 w b cs ms xv mb mv ret l c) (hc : Ch (fun k _ => k = b) w w') {vb' n' : Nat} {vs' : ByteArray → Option ByteArray} {ret' : ByteArray} {l' c' : Int}
   (hb : w'.heap[b]? = some (.cells #[xv, .pointer (some ⟨mb, 0, none⟩), .map (some vb'), .string ret', .int .i64 l', .int .i64 c'] 85 (0, 0))) (hm : MapIs Tryz.prog 9 strK w' vb' n' (fun s => (vs' s).map Value.string)) : CkIs w0 w' b cs ms xv mb vb' n' vs' ret' l' c' :=
 ⟨hb, h.typ0, h.mem0, Ch.newOnly h.ch hc (fun k o _ e => by have e' : k = b := e; have := h.ge; omega), h.ge, hm⟩
theorem CkIs.z {w0 w : World} {b : Nat} {cs : List Cls} {ms : List Mem} {xv : Value} {mb vb n : Nat} {vs : ByteArray → Option ByteArray} {ret : ByteArray} {l c : Int} (h : CkIs w0 w b cs ms xv mb vb n vs ret l c) : CkZ w0 w b cs ms xv mb (some vb) ret l c := ⟨h.blk, h.typ0, h.mem0, h.ch, h.ge⟩
def MethOut (P : Prop) (A : Int → Int → Prop) (w0 w : World) (b : Nat) (cs : List Cls) (ms : List Mem) (xv : Value) (mb : Nat) (sl : List Vr) (s : Nat) (e : Ending) (w' : World) : Prop := CkOut (varsP cs sl s ∧ P) (fun l c => varsP cs sl s → A l c) w0 w b cs ms xv mb e w'
theorem MethOut.f {P : Prop} {A : Int → Int → Prop} {w0 w w' : World} {b : Nat} {cs : List Cls} {ms : List Mem} {xv : Value} {mb : Nat} {sl : List Vr} {s k : Nat} {v : Vr} (hv : sl[k]? = some v) (hn : ¬ varP cs sl s k v) (hc : Ch (fun k _ => k = b) w w') {vb n : Nat} {vs : ByteArray → Option ByteArray} {ret : ByteArray} {l c : Int} (h : CkIs w0 w' b cs ms xv mb vb n vs ret l c) : MethOut P A w0 w b cs ms xv mb sl s (.returned (.bool false)) w' :=
 ⟨false, rfl, ⟨(fun h => by cases h), fun h => absurd (h.1 k v hv) hn⟩, hc, vb, n, vs, ret, l, c, h, fun _ h => absurd (h k v hv) hn⟩
def StsIs (P : Prop) (A : Int → Int → Prop) (w0 : World) (b : Nat) (cs : List Cls) (ms : List Mem) (xv : Value) (mb : Nat) (vs : ByteArray → Option ByteArray) (ret : ByteArray) (bv : Value) : Prop :=
 ∀ (w1 : World) (vb n : Nat) (l c : Int), CkIs w0 w1 b cs ms xv mb vb n vs ret l c → Calls Tryz.prog 62 #[.pointer (some ⟨b, 0, none⟩), bv] w1 (CkOut P A w0 w1 b cs ms xv mb)
theorem lookS {w : World} {vb n : Nat} {vs : ByteArray → Option ByteArray} (h : MapIs Tryz.prog 9 strK w vb n (fun s => (vs s).map Value.string)) {x : ByteArray} (hx : x.size ≤ maxLen) :
   (Instr.lookup 83 (.map (some vb)) (.string x) true).run Tryz.prog w = .ok (.tuple #[.string (vof vs x), .bool (vs x).isSome]) w := by
 have hrun := h.lookOk lawS Tryz.underlying83 (zeroS w) (keyS hx)
 have e1 : (((vs x).map Value.string).getD (.string ⟨#[]⟩)) = .string (vof vs x) := by
   unfold vof; cases vs x <;> rfl
 have e2 : ((vs x).map Value.string).isSome = (vs x).isSome := by cases vs x <;> rfl
 rw [e1, e2] at hrun
 exact hrun
set_option maxHeartbeats 16000000 in
theorem cmethod {w0 w : World} {b : Nat} {cs : List Cls} {ms : List Mem} {xv : Value} {mb : Nat} {mv : Option Nat} {ret : ByteArray} {l c : Int} (hck : CkZ w0 w b cs ms xv mb mv ret l c) {pv : Value} (h0 : ProgAt w0 pv cs) (z : Int) (m : Mt) (ls : List Vr) (hps : VarsAt w0 (.slice m.pa m.ps.length m.pc) m.ps) (hls : VarsAt w0 (.slice m.s5.1 m.s5.2.1 m.s5.2.2) ls) (hp9 : m.ps.length ≤ 40000) (hl9 : ls.length ≤ 40000)
   (hsz : ∀ v ∈ scopeL cs z m ls, v.nm.size ≤ maxLen ∧ v.ty.size ≤ maxLen) {P : Prop} {A : Int → Int → Prop} (hst : StsIs P A w0 b cs ms xv mb (vsOf (scopeL cs z m ls)) m.ret (.slice m.s6.1 m.s6.2.1 m.s6.2.2)) :
   Calls Tryz.prog 33 #[.pointer (some ⟨b, 0, none⟩), pv, .int .i64 z, .agg #[.string m.ret, .string m.nm, .bool m.st, .bool m.ba, .slice m.pa m.ps.length m.pc, .slice m.s5.1 m.s5.2.1 m.s5.2.2, .slice m.s6.1 m.s6.2.1 m.s6.2.2, .int .i64 m.line, .int .i64 m.col]] w (MethOut P A w0 w b cs ms xv mb (scopeL cs z m ls) (thisL cs z m).length) := by
 have h := h0.no hck.ch
 have HP00 := hid h0
 have HCK0 := hid hck
 have HPS0 := hid hps
 have HLS0 := hid hls
 have HP9 := hid hp9
 have HL9 := hid hl9
 have HSZ := hid hsz
 have HST := hid hst
 have HS5 := hid hls.shape.1
 have hs5b : m.s5.2.1 ≤ 40000 := by have := hls.shape.1; omega
 have hp5b := hp9
 clear hck hps hls hp9 hl9 hsz h0 hst
 have hp := h
 obtain ⟨cv, m0, m1, m2, m3, m4, m5, m6, m7, m8, rfl, h⟩ := h
 obtain ⟨ao, cap, rfl, hcap, hmax, _, _⟩ := h.row
 rw [List.length_map] at hcap h hp ⊢
 obtain ⟨len, hlen⟩ : ∃ len, cs.length = len := ⟨_, rfl⟩
 rw [hlen] at hcap h hp ⊢
 unfold maxLen at hmax
 obtain ⟨wa, hwa⟩ : ∃ wa, w.alloc (.cells #[.slice ao len cap, m0, m1, m2, m3, m4, m5, m6, m7, m8] 31) = wa := ⟨_, rfl⟩
 have hpb := heap_alloc_new w (.cells #[.slice ao len cap, m0, m1, m2, m3, m4, m5, m6, m7, m8] 31)
 have hch := (Ch.refl No w).alloc (.cells #[.slice ao len cap, m0, m1, m2, m3, m4, m5, m6, m7, m8] 31)
 rw [hwa] at hch hpb
 have HL := hid hlen
 have HP := hid (hp.no hch)
 have HC := hid (h.no hch)
 have HPB := hid hpb
 have HCH := hid hch
 have p0 := cellAt hpb 0
 have p1 := cellAt hpb 1
 have p2 := cellAt hpb 2
 have p3 := cellAt hpb 3
 have p4 := cellAt hpb 4
 have p5 := cellAt hpb 5
 have p6 := cellAt hpb 6
 have p7 := cellAt hpb 7
 have p8 := cellAt hpb 8
 have p9 := cellAt hpb 9
 have hz := lt_size hpb
 clear hlen h hp hpb hch
 obtain ⟨wx, hwx⟩ : ∃ wx, wa.alloc (.cells #[.string m.ret, .string m.nm, .bool m.st, .bool m.ba, .slice m.pa m.ps.length m.pc, .slice m.s5.1 m.s5.2.1 m.s5.2.2, .slice m.s6.1 m.s6.2.1 m.s6.2.2, .int .i64 m.line, .int .i64 m.col] 29) = wx := ⟨_, rfl⟩
 have hbx := heap_alloc_new wa (.cells #[.string m.ret, .string m.nm, .bool m.st, .bool m.ba, .slice m.pa m.ps.length m.pc, .slice m.s5.1 m.s5.2.1 m.s5.2.2, .slice m.s6.1 m.s6.2.1 m.s6.2.2, .int .i64 m.line, .int .i64 m.col] 29)
 have hcx := (Ch.refl No wa).alloc (.cells #[.string m.ret, .string m.nm, .bool m.st, .bool m.ba, .slice m.pa m.ps.length m.pc, .slice m.s5.1 m.s5.2.1 m.s5.2.2, .slice m.s6.1 m.s6.2.1 m.s6.2.2, .int .i64 m.line, .int .i64 m.col] 29)
 rw [hwx] at hbx hcx
 have HBX := hid hbx
 have HCX := hid (HCH.out.trans hcx)
 have hpx := hcx.keep _ _ HPB.out (fun h => h)
 have HPBX := hid hpx
 have hbk := (HCK0.out.no HCX.out).blk
 have HBK := hid hbk
 have b2 := cellAt hbk 2
 have b3 := cellAt hbk 3
 have g2 := freeAt hbk 2
 have g3 := freeAt hbk 3
 have r0 := cellAt hbx 0
 have yb := lt_size hbk
 have ybx := lt_size hbx
 clear p0 p1 p2 p3 p4 p5 p6 p7 p8 p9 hcx hpx hbx hbk
 have hmm := @run_makeMap Tryz.prog
 go_enter Tryz.func33, Tryz.ntmps33
 go_wp2_with fail
 clear hwa hwx
 go_region
 all_goals (
   obtain ⟨vbk, hvbk⟩ : ∃ vbk, wx.heap.size = vbk := ⟨_, rfl⟩
   rw [hvbk]
   obtain ⟨wy, hwy⟩ : ∃ wy, (((wx.setCell ⟨b, 2, none⟩ (.map (some vbk))).setCell ⟨b, 3, none⟩ (.string m.ret)).alloc (.map #[] 0)).drew = wy := ⟨_, rfl⟩
   rw [hwy]
   have hsw : ((wx.setCell ⟨b, 2, none⟩ (.map (some vbk))).setCell ⟨b, 3, none⟩ (.string m.ret)).heap.size = vbk := by rw [← hvbk]; simp
   have hcy : Ch (fun k _ => k = b) wx wy := by
     rw [← hwy]
     exact ((((Ch.refl _ _).setCell (fun _ _ => rfl) _).setCell (fun _ _ => rfl) _).alloc _).drew
   have hby : wy.heap[b]? = some (.cells #[xv, .pointer (some ⟨mb, 0, none⟩), .map (some vbk), .string m.ret, .int .i64 l, .int .i64 c] 85 (0, 0)) := by
     rw [← hwy]
     exact heapOld (setCell_heap (setCell_heap HBK.out 2 (.map (some vbk))) 3 (.string m.ret)) _
   have hmy : MapIs Tryz.prog 9 strK wy vbk 0 (fun s => ((fun _ => none : ByteArray → Option ByteArray) s).map Value.string) := by
     rw [← hwy]
     have := MapIs.made Tryz.prog 9 strK ((wx.setCell ⟨b, 2, none⟩ (.map (some vbk))).setCell ⟨b, 3, none⟩ (.string m.ret))
     rw [hsw] at this
     exact this.drew
   have HCKY := hid ((HCK0.out.no HCX.out).set hcy hby hmy)
   have HCY := hid ((HCX.out.mono (S' := fun k _ => k = b) (fun _ _ _ h => h.elim)).trans hcy)
   have ybw : b < w.heap.size := lt_size HCK0.out.blk
   have HBY := hid (hcy.keep _ _ HBX.out (fun e => by have e' : wa.heap.size = b := e; have := HCH.out.size; omega))
   have HPY := hid (hcy.keep _ _ HPBX.out (fun e => by have e' : w.heap.size = b := e; omega))
   have HVBK := hid (show wx.heap.size = vbk from hvbk)
   clear hsw hcy hby hmy hwy b2 b3 g2 g3 hvbk
   have hxy := HBY.out
   have hpy := HPY.out
   have r4 := cellAt hxy 4
   have r5 := cellAt hxy 5
   have r0 := cellAt hxy 0
   have r1 := cellAt hxy 1
   have r2 := cellAt hxy 2
   have r3 := cellAt hxy 3
   have r4 := cellAt hxy 4
   have r5 := cellAt hxy 5
   have r6 := cellAt hxy 6
   have r7 := cellAt hxy 7
   have r8 := cellAt hxy 8
   have p0 := cellAt hpy 0
   have p1 := cellAt hpy 1
   have p2 := cellAt hpy 2
   have p3 := cellAt hpy 3
   have p4 := cellAt hpy 4
   have p5 := cellAt hpy 5
   have p6 := cellAt hpy 6
   have p7 := cellAt hpy 7
   have p8 := cellAt hpy 8
   have p9 := cellAt hpy 9
   have hp0 := HP00.out
   rw [List.length_map, HL.out] at hp0
   have hsc := cscope (hp0.no HCKY.out.ch) z m ls (VarsAt.no HPS0.out HCKY.out.ch) (VarsAt.no HLS0.out HCKY.out.ch) HP9.out HL9.out
   clear hxy hpy hp0
   go_wp2_with fail
   refine hsc.mono ?_
   rintro e w1 ⟨v1, rfl, hown, hc1⟩
   obtain ⟨sa, sc, e1, _, hsc2⟩ := ownsSh2 hown
   subst e1
   obtain ⟨sl, hsl⟩ : ∃ sl, scopeL cs z m ls = sl := ⟨_, rfl⟩
   obtain ⟨s0, hs0⟩ : ∃ s0, (thisL cs z m).length = s0 := ⟨_, rfl⟩
   obtain ⟨N, hN⟩ : ∃ N, sl.length = N := ⟨_, rfl⟩
   have hNs : N = s0 + m.ps.length + m.s5.2.1 := by rw [← hN, ← hsl, ← hs0]; unfold scopeL; rw [List.length_append, List.length_append, HS5.out]
   have hs01 : s0 ≤ 1 := by
     rw [← hs0]; unfold thisL
     split
     · split <;> simp
     · simp
   have HSZ1 := HSZ.out
   have HST1 := HST.out
   rw [hsl] at hown HSZ1 HST1 ⊢
   rw [hs0]
   rw [hN] at hown ⊢
   have HOWN := hid hown
   have HSZ := hid HSZ1
   have HST := hid HST1
   have HCK1 := hid (HCKY.out.no hc1)
   have HC1 := hid (HCY.out.trans (hc1.mono (fun _ _ _ h => h.elim)))
   have HB1 := hid (hc1.keep _ _ HBY.out (fun h => h))
   have HNN := hid hN
   have yvb : vbk < wy.heap.size := by obtain ⟨es, cc, hm⟩ := HCKY.out.vars.isMap; exact lt_size hm
   have ybb : b < wy.heap.size := lt_size HCKY.out.blk
   have yab : wa.heap.size < wy.heap.size := lt_size HBY.out
   have hvw : w.heap.size ≤ vbk := by have h1 := HVBK.out; have h2 := HCX.out.size; omega
   have hva : ¬ wa.heap.size = vbk := by have h1 := HVBK.out; have h2 := lt_size HBX.out; omega
   unfold maxLen at hsc2
   have HNS := hid hNs
   have HSL := hid hsl
   have HS0E := hid hs0
   have hwy0 : w.heap.size ≤ wy.heap.size := HCY.out.size
   have hN9 : N ≤ 90000 := by omega
   clear hNs
   clear hown HSZ1 HST1 hN hc1 hsc r0 r1 r2 r3 r4 r5 r6 r7 r8 p0 p1 p2 p3 p4 p5 p6 p7 p8 p9
   clear HPS0 HLS0 HP00
   go_wp2_with fail
   go_loopg [8, 11, 12, 13, 14, 15, 38] N (fun gg s8 s11 s12 s13 s14 s15 s38 wr => ∃ k : Nat, k ≤ N ∧ N - k ≤ gg ∧ s38 = .int .i64 k ∧ Hid (CkIs w0 wr b cs ms xv mb vbk k (vsOf (sl.take k)) m.ret l c) ∧ Hid (Ch (fun k _ => k = b) w wr) ∧ Hid (wr.ownsRow wy.heap.size 64 4 (.slice sa N sc) N (sl.map Vr.cells).flatten) ∧ Hid (∀ (j : Nat) (v : Vr), j < k → sl[j]? = some v → varP cs sl s0 j v) ∧ Hid (wr.heap[wa.heap.size]? = some (.cells #[.string m.ret, .string m.nm, .bool m.st, .bool m.ba, .slice m.pa m.ps.length m.pc, .slice m.s5.1 m.s5.2.1 m.s5.2.2, .slice m.s6.1 m.s6.2.1 m.s6.2.2, .int .i64 m.line, .int .i64 m.col] 29 (0, 0))))
   case atStart => exact ⟨0, Nat.zero_le _, by omega, rfl, hid (HCK1.out), HC1, HOWN, hid (fun j v hj => absurd hj (Nat.not_lt_zero _)), HB1⟩
   case round =>
     obtain ⟨k, hk, hg, rfl, HCKR, HCR, HOR, HVR, HBR⟩ := hrel
     cases hd : decide (k < N) with
     | true =>
       have hkl : k < N := by simpa using hd
       obtain ⟨v, hv⟩ : ∃ v, sl[k]? = some v := ⟨_, List.getElem?_eq_getElem (by have := HNN.out; omega)⟩
       obtain ⟨bb, off, hsa, hcell⟩ := (varsOwnAt HOR.out HNN.out.symm).cell hv
       obtain ⟨q0, q1, q2, q3⟩ := hcell
       subst hsa
       obtain ⟨wz, hwz⟩ : ∃ wz, wr.alloc (.cells #[.string v.ty, .string v.nm, .int .i64 v.line, .int .i64 v.col] 64) = wz := ⟨_, rfl⟩
       have hbz := heap_alloc_new wr (.cells #[.string v.ty, .string v.nm, .int .i64 v.line, .int .i64 v.col] 64)
       have hcz := (Ch.refl No wr).alloc (.cells #[.string v.ty, .string v.nm, .int .i64 v.line, .int .i64 v.col] 64)
       rw [hwz] at hbz hcz
       have HBZ := hid hbz
       have HCKZ := hid (HCKR.out.no hcz)
       have HCZ := hid (HCR.out.trans (hcz.mono (fun _ _ _ h => h.elim)))
       have HOZ := hid (ownsRow_ch HOR.out hcz (fun _ _ _ _ _ h => h))
       have HBMZ := hid (hcz.keep _ _ HBR.out (fun h => h))
       have hvz := HSZ.out v (List.mem_of_getElem? hv)
       have HVZ := hid hvz
       have hbk := HCKZ.out.blk
       have x0 := cellAt hbz 0
       have x1 := cellAt hbz 1
       have x2 := cellAt hbz 2
       have x3 := cellAt hbz 3
       have b0 := cellAt hbk 0
       have b2 := cellAt hbk 2
       have b4 := cellAt hbk 4
       have b5 := cellAt hbk 5
       have g4 := freeAt hbk 4
       have g5 := freeAt hbk 5
       have hlk := lookS HCKZ.out.vars hvz.1
       have hlkd : (Instr.lookup 83 (.map (some vbk)) (.string v.nm) true).run Tryz.prog wz.drew = .ok (.tuple #[.string (vof (vsOf (sl.take k)) v.nm), .bool (vsOf (sl.take k) v.nm).isSome]) wz.drew := lookS HCKZ.out.vars.drew hvz.1
       obtain ⟨tw, htw⟩ : ∃ tw, (vsOf (sl.take k) v.nm).isSome = tw := ⟨_, rfl⟩
       obtain ⟨ov, hov⟩ : ∃ ov, vof (vsOf (sl.take k)) v.nm = ov := ⟨_, rfl⟩
       rw [htw, hov] at hlk hlkd
       have HTW := hid htw
       have HV := hid hv
       have ybz : b < wz.heap.size := lt_size hbk
       have yrz : wr.heap.size < wz.heap.size := lt_size hbz
       clear hov htw hvz hv hbz hcz hbk
       go_upto_region 8 with fail
       clear hwz q0 q1 q2 q3 hlk
       by_cases ho : s0 ≤ k
       · have d8 : decide ((N : Int) - ((m.ps.length : Int) + (m.s5.2.1 : Int)) ≤ (k : Int)) = true := decide_eq_true (by have := HNS.out; omega)
         have HO := hid ho
         clear ho
         go_region
         all_goals (
           try rw [d8]
           go_wp2_with fail
           obtain ⟨wt, hwt⟩ : ∃ wt, wz.drew = wt := ⟨_, rfl⟩
           rw [hwt]
           have hdt : Ch No wz wt := by rw [← hwt]; exact (Ch.refl _ _).drew
           have HCKT := hid (HCKZ.out.no hdt)
           have HCT := hid (HCZ.out.trans (hdt.mono (S' := fun k _ => k = b) (fun _ _ _ h => h.elim)))
           have HOT := hid (ownsRow_ch HOZ.out hdt (fun _ _ _ _ _ h => h))
           have HBMT := hid (hdt.keep _ _ HBMZ.out (fun h => h))
           have HBT := hid (hdt.keep _ _ HBZ.out (fun h => h))
           clear hwt hlkd x0 x1 x2 x3 b0 b2 b4 b5 g4 g5 hdt
           have HSx := hid (show wt.cell? ⟨wr.heap.size, 0, none⟩ = some (.string v.ty) ∧ wt.cell? ⟨wr.heap.size, 1, none⟩ = some (.string v.nm) ∧ wt.cell? ⟨b, 0, none⟩ = some xv from ⟨cellAt HBT.out 0, cellAt HBT.out 1, cellAt HCKT.out.blk 0⟩)
           have HVBN := hid (show ¬ vbk = b from by omega)
           cases tw with
           | true =>
             have hno := hid (show ¬ varP cs sl s0 k v from fun h => by have h1 := (h HO.out).1; have h2 := HTW.out; rw [h1] at h2; cases h2)
             refine wp_region_held_drew (S := fun w' => w'.cell? ⟨wr.heap.size, 0, none⟩ = some (.string v.ty) ∧ w'.cell? ⟨wr.heap.size, 1, none⟩ = some (.string v.nm) ∧ w'.cell? ⟨b, 0, none⟩ = some xv) (by kernel_rfl) HSx.out (fun hHeld => ?_)
             (refine tkW 0 (v := ?_) rfl ?_ ?_; rotate_left 1; · (intro wz hSw; (try dsimp only at hSw); go_simp; try rfl)); (try simp only [Act.put, s1, s2, s3, s4, s5, s6])
             (refine tkW 1 (v := ?_) rfl ?_ ?_; rotate_left 1; · (intro wz hSw; (try dsimp only at hSw); go_simp; try rfl)); (try simp only [Act.put, s1, s2, s3, s4, s5, s6])
             (refine tkW 2 (v := ?_) rfl ?_ ?_; rotate_left 1; · (intro wz hSw; (try dsimp only at hSw); go_simp; try rfl)); (try simp only [Act.put, s1, s2, s3, s4, s5, s6])
             (refine tkW 3 (v := ?_) rfl ?_ ?_; rotate_left 1; · (intro wz hSw; (try dsimp only at hSw); go_simp; try rfl)); (try simp only [Act.put, s1, s2, s3, s4, s5, s6])
             (refine tkN 4 rfl ?_); (try simp only [Act.put, s1, s2, s3, s4, s5, s6])
             (refine tkN 5 rfl ?_); (try simp only [Act.put, s1, s2, s3, s4, s5, s6])
             (refine tkN 6 rfl ?_); (try simp only [Act.put, s1, s2, s3, s4, s5, s6])
             (refine tkW 7 (v := ?_) rfl ?_ ?_; rotate_left 1; · (intro wz hSw; (try dsimp only at hSw); go_simp; try rfl)); (try simp only [Act.put, s1, s2, s3, s4, s5, s6])
             (refine tkW 8 (v := ?_) rfl ?_ ?_; rotate_left 1; · (intro wz hSw; (try dsimp only at hSw); go_simp; try rfl)); (try simp only [Act.put, s1, s2, s3, s4, s5, s6])
             (refine tkN 9 rfl ?_); (try simp only [Act.put, s1, s2, s3, s4, s5, s6])
             (refine tkN 10 rfl ?_); (try simp only [Act.put, s1, s2, s3, s4, s5, s6])
             (refine tkN 11 rfl ?_); (try simp only [Act.put, s1, s2, s3, s4, s5, s6])
             (refine tkW 12 (v := ?_) rfl ?_ ?_; rotate_left 1; · (intro wz hSw; (try dsimp only at hSw); go_simp; try rfl)); (try simp only [Act.put, s1, s2, s3, s4, s5, s6])
             (refine tkW 13 (v := ?_) rfl ?_ ?_; rotate_left 1; · (intro wz hSw; (try dsimp only at hSw); go_simp; try rfl)); (try simp only [Act.put, s1, s2, s3, s4, s5, s6])
             (refine tkN 14 rfl ?_); (try simp only [Act.put, s1, s2, s3, s4, s5, s6])
             (refine tkN 15 rfl ?_); (try simp only [Act.put, s1, s2, s3, s4, s5, s6])
             (refine tkN 16 rfl ?_); (try simp only [Act.put, s1, s2, s3, s4, s5, s6])
             (refine tkN 17 rfl ?_); (try simp only [Act.put, s1, s2, s3, s4, s5, s6])
             (refine tkN 18 rfl ?_); (try simp only [Act.put, s1, s2, s3, s4, s5, s6])
             (refine tkN 19 rfl ?_); (try simp only [Act.put, s1, s2, s3, s4, s5, s6])
             (refine tkN 20 rfl ?_); (try simp only [Act.put, s1, s2, s3, s4, s5, s6])
             (refine tkN 21 rfl ?_); (try simp only [Act.put, s1, s2, s3, s4, s5, s6])
             (refine tkN 22 rfl ?_); (try simp only [Act.put, s1, s2, s3, s4, s5, s6])
             (refine tkW 23 (v := ?_) rfl ?_ ?_; rotate_left 1; · (intro wz hSw; (try dsimp only at hSw); go_simp; try rfl)); (try simp only [Act.put, s1, s2, s3, s4, s5, s6])
             (refine tkW 24 (v := ?_) rfl ?_ ?_; rotate_left 1; · (intro wz hSw; (try dsimp only at hSw); go_simp; try rfl)); (try simp only [Act.put, s1, s2, s3, s4, s5, s6])
             refine wpAnyH_done (by kernel_rfl) ?_ _
             obtain ⟨wu, hwu⟩ : ∃ wu, wt.drew = wu := ⟨_, rfl⟩
             rw [hwu]
             have hdu : Ch No wt wu := by rw [← hwu]; exact (Ch.refl _ _).drew
             clear hwu
             have HCKU := hid (HCKT.out.no hdu)
             have HCU := hid (HCT.out.trans (hdu.mono (S' := fun k _ => k = b) (fun _ _ _ h => h.elim)))
             have hbu := hdu.keep _ _ HBT.out (fun h => h)
             have hbk := HCKU.out.blk
             have x2 := cellAt hbu 2
             have x3 := cellAt hbu 3
             have b4 := cellAt hbk 4
             have b5 := cellAt hbk 5
             have g4 := freeAt hbk 4
             have g5 := freeAt hbk 5
             obtain ⟨wf, hwf, hfb, hfc⟩ := set45 hbk (.int .i64 v.line) (.int .i64 v.col)
             have HFK := hid (HCKU.out.set hfc hfb (HCKU.out.vars.ch hfc (fun _ _ e => HVBN.out e)))
             have HFC := hid (HCU.out.trans hfc)
             clear hdu hbu hbk hfb hfc HSx
             go_wp2_with fail
             first | rw [hwf] | skip
             clear hwf
             go_ret
             rw [HSL.out, HS0E.out]
             exact MethOut.f HV.out hno.out HFC.out HFK.out
           | false =>
             have HTN := hid (show vsOf (sl.take k) v.nm = none from by have h2 := HTW.out; cases h3 : vsOf (sl.take k) v.nm with | none => rfl | some t => rw [h3] at h2; cases h2)
             by_cases ht : v.nm = sThis
             · have hno := hid (show ¬ varP cs sl s0 k v from fun h => (h HO.out).2.1 ht)
               have l1 := lit v.nm [116, 104, 105, 115] ht
               clear ht
               refine wp_region_held_drew (S := fun w' => w'.cell? ⟨wr.heap.size, 0, none⟩ = some (.string v.ty) ∧ w'.cell? ⟨wr.heap.size, 1, none⟩ = some (.string v.nm) ∧ w'.cell? ⟨b, 0, none⟩ = some xv) (by kernel_rfl) HSx.out (fun hHeld => ?_)
               (refine tkW 0 (v := ?_) rfl ?_ ?_; rotate_left 1; · (intro wz hSw; (try dsimp only at hSw); go_simp; try rfl)); (try simp only [Act.put, s1, s2, s3, s4, s5, s6])
               (refine tkW 1 (v := ?_) rfl ?_ ?_; rotate_left 1; · (intro wz hSw; (try dsimp only at hSw); go_simp; try rfl)); (try simp only [Act.put, s1, s2, s3, s4, s5, s6])
               (refine tkW 2 (v := ?_) rfl ?_ ?_; rotate_left 1; · (intro wz hSw; (try dsimp only at hSw); go_simp; try rfl)); (try simp only [Act.put, s1, s2, s3, s4, s5, s6])
               (refine tkW 3 (v := ?_) rfl ?_ ?_; rotate_left 1; · (intro wz hSw; (try dsimp only at hSw); go_simp; try rfl)); (try simp only [Act.put, s1, s2, s3, s4, s5, s6])
               (refine tkW 4 (v := ?_) rfl ?_ ?_; rotate_left 1; · (intro wz hSw; (try dsimp only at hSw); go_simp; try rfl)); (try simp only [Act.put, s1, s2, s3, s4, s5, s6])
               (refine tkW 5 (v := ?_) rfl ?_ ?_; rotate_left 1; · (intro wz hSw; (try dsimp only at hSw); go_simp; try rfl)); (try simp only [Act.put, s1, s2, s3, s4, s5, s6])
               (refine tkW 6 (v := ?_) rfl ?_ ?_; rotate_left 1; · (intro wz hSw; (try dsimp only at hSw); go_simp; try rfl)); (try simp only [Act.put, s1, s2, s3, s4, s5, s6])
               (refine tkW 7 (v := ?_) rfl ?_ ?_; rotate_left 1; · (intro wz hSw; (try dsimp only at hSw); go_simp; try rfl)); (try simp only [Act.put, s1, s2, s3, s4, s5, s6])
               (refine tkW 8 (v := ?_) rfl ?_ ?_; rotate_left 1; · (intro wz hSw; (try dsimp only at hSw); go_simp; try rfl)); (try simp only [Act.put, s1, s2, s3, s4, s5, s6])
               (refine tkN 9 rfl ?_); (try simp only [Act.put, s1, s2, s3, s4, s5, s6])
               (refine tkN 10 rfl ?_); (try simp only [Act.put, s1, s2, s3, s4, s5, s6])
               (refine tkN 11 rfl ?_); (try simp only [Act.put, s1, s2, s3, s4, s5, s6])
               (refine tkW 12 (v := ?_) rfl ?_ ?_; rotate_left 1; · (intro wz hSw; (try dsimp only at hSw); go_simp; try rfl)); (try simp only [Act.put, s1, s2, s3, s4, s5, s6])
               (refine tkW 13 (v := ?_) rfl ?_ ?_; rotate_left 1; · (intro wz hSw; (try dsimp only at hSw); go_simp; try rfl)); (try simp only [Act.put, s1, s2, s3, s4, s5, s6])
               (refine tkN 14 rfl ?_); (try simp only [Act.put, s1, s2, s3, s4, s5, s6])
               (refine tkN 15 rfl ?_); (try simp only [Act.put, s1, s2, s3, s4, s5, s6])
               (refine tkN 16 rfl ?_); (try simp only [Act.put, s1, s2, s3, s4, s5, s6])
               (refine tkN 17 rfl ?_); (try simp only [Act.put, s1, s2, s3, s4, s5, s6])
               (refine tkN 18 rfl ?_); (try simp only [Act.put, s1, s2, s3, s4, s5, s6])
               (refine tkN 19 rfl ?_); (try simp only [Act.put, s1, s2, s3, s4, s5, s6])
               (refine tkN 20 rfl ?_); (try simp only [Act.put, s1, s2, s3, s4, s5, s6])
               (refine tkN 21 rfl ?_); (try simp only [Act.put, s1, s2, s3, s4, s5, s6])
               (refine tkN 22 rfl ?_); (try simp only [Act.put, s1, s2, s3, s4, s5, s6])
               (refine tkW 23 (v := ?_) rfl ?_ ?_; rotate_left 1; · (intro wz hSw; (try dsimp only at hSw); go_simp; try rfl)); (try simp only [Act.put, s1, s2, s3, s4, s5, s6])
               (refine tkW 24 (v := ?_) rfl ?_ ?_; rotate_left 1; · (intro wz hSw; (try dsimp only at hSw); go_simp; try rfl)); (try simp only [Act.put, s1, s2, s3, s4, s5, s6])
               refine wpAnyH_done (by kernel_rfl) ?_ _
               obtain ⟨wu, hwu⟩ : ∃ wu, wt.drew = wu := ⟨_, rfl⟩
               rw [hwu]
               have hdu : Ch No wt wu := by rw [← hwu]; exact (Ch.refl _ _).drew
               clear hwu
               have HCKU := hid (HCKT.out.no hdu)
               have HCU := hid (HCT.out.trans (hdu.mono (S' := fun k _ => k = b) (fun _ _ _ h => h.elim)))
               have hbu := hdu.keep _ _ HBT.out (fun h => h)
               have hbk := HCKU.out.blk
               have x2 := cellAt hbu 2
               have x3 := cellAt hbu 3
               have b4 := cellAt hbk 4
               have b5 := cellAt hbk 5
               have g4 := freeAt hbk 4
               have g5 := freeAt hbk 5
               obtain ⟨wf, hwf, hfb, hfc⟩ := set45 hbk (.int .i64 v.line) (.int .i64 v.col)
               have HFK := hid (HCKU.out.set hfc hfb (HCKU.out.vars.ch hfc (fun _ _ e => HVBN.out e)))
               have HFC := hid (HCU.out.trans hfc)
               clear hdu hbu hbk hfb hfc HSx
               go_wp2_with fail
               first | rw [hwf] | skip
               clear hwf
               go_ret
               rw [HSL.out, HS0E.out]
               exact MethOut.f HV.out hno.out HFC.out HFK.out
             · have HTH := hid ht
               have l1 := litn v.nm [116, 104, 105, 115] ht
               clear ht
               by_cases hnl : v.ty = sNull
               · have hno := hid (show ¬ varP cs sl s0 k v from fun h => (h HO.out).2.2.1 hnl)
                 have l2 := lit v.ty [110, 117, 108, 108] hnl
                 clear hnl
                 refine wp_region_held_drew (S := fun w' => w'.cell? ⟨wr.heap.size, 0, none⟩ = some (.string v.ty) ∧ w'.cell? ⟨wr.heap.size, 1, none⟩ = some (.string v.nm) ∧ w'.cell? ⟨b, 0, none⟩ = some xv) (by kernel_rfl) HSx.out (fun hHeld => ?_)
                 (refine tkW 0 (v := ?_) rfl ?_ ?_; rotate_left 1; · (intro wz hSw; (try dsimp only at hSw); go_simp; try rfl)); (try simp only [Act.put, s1, s2, s3, s4, s5, s6])
                 (refine tkW 1 (v := ?_) rfl ?_ ?_; rotate_left 1; · (intro wz hSw; (try dsimp only at hSw); go_simp; try rfl)); (try simp only [Act.put, s1, s2, s3, s4, s5, s6])
                 (refine tkW 2 (v := ?_) rfl ?_ ?_; rotate_left 1; · (intro wz hSw; (try dsimp only at hSw); go_simp; try rfl)); (try simp only [Act.put, s1, s2, s3, s4, s5, s6])
                 (refine tkW 3 (v := ?_) rfl ?_ ?_; rotate_left 1; · (intro wz hSw; (try dsimp only at hSw); go_simp; try rfl)); (try simp only [Act.put, s1, s2, s3, s4, s5, s6])
                 (refine tkW 4 (v := ?_) rfl ?_ ?_; rotate_left 1; · (intro wz hSw; (try dsimp only at hSw); go_simp; try rfl)); (try simp only [Act.put, s1, s2, s3, s4, s5, s6])
                 (refine tkW 5 (v := ?_) rfl ?_ ?_; rotate_left 1; · (intro wz hSw; (try dsimp only at hSw); go_simp; try rfl)); (try simp only [Act.put, s1, s2, s3, s4, s5, s6])
                 (refine tkW 6 (v := ?_) rfl ?_ ?_; rotate_left 1; · (intro wz hSw; (try dsimp only at hSw); go_simp; try rfl)); (try simp only [Act.put, s1, s2, s3, s4, s5, s6])
                 (refine tkW 7 (v := ?_) rfl ?_ ?_; rotate_left 1; · (intro wz hSw; (try dsimp only at hSw); go_simp; try rfl)); (try simp only [Act.put, s1, s2, s3, s4, s5, s6])
                 (refine tkW 8 (v := ?_) rfl ?_ ?_; rotate_left 1; · (intro wz hSw; (try dsimp only at hSw); go_simp; try rfl)); (try simp only [Act.put, s1, s2, s3, s4, s5, s6])
                 (refine tkW 9 (v := ?_) rfl ?_ ?_; rotate_left 1; · (intro wz hSw; (try dsimp only at hSw); go_simp; try rfl)); (try simp only [Act.put, s1, s2, s3, s4, s5, s6])
                 (refine tkW 10 (v := ?_) rfl ?_ ?_; rotate_left 1; · (intro wz hSw; (try dsimp only at hSw); go_simp; try rfl)); (try simp only [Act.put, s1, s2, s3, s4, s5, s6])
                 (refine tkW 11 (v := ?_) rfl ?_ ?_; rotate_left 1; · (intro wz hSw; (try dsimp only at hSw); go_simp; try rfl)); (try simp only [Act.put, s1, s2, s3, s4, s5, s6])
                 (refine tkW 12 (v := ?_) rfl ?_ ?_; rotate_left 1; · (intro wz hSw; (try dsimp only at hSw); go_simp; try rfl)); (try simp only [Act.put, s1, s2, s3, s4, s5, s6])
                 (refine tkW 13 (v := ?_) rfl ?_ ?_; rotate_left 1; · (intro wz hSw; (try dsimp only at hSw); go_simp; try rfl)); (try simp only [Act.put, s1, s2, s3, s4, s5, s6])
                 (refine tkN 14 rfl ?_); (try simp only [Act.put, s1, s2, s3, s4, s5, s6])
                 (refine tkN 15 rfl ?_); (try simp only [Act.put, s1, s2, s3, s4, s5, s6])
                 (refine tkN 16 rfl ?_); (try simp only [Act.put, s1, s2, s3, s4, s5, s6])
                 (refine tkN 17 rfl ?_); (try simp only [Act.put, s1, s2, s3, s4, s5, s6])
                 (refine tkN 18 rfl ?_); (try simp only [Act.put, s1, s2, s3, s4, s5, s6])
                 (refine tkN 19 rfl ?_); (try simp only [Act.put, s1, s2, s3, s4, s5, s6])
                 (refine tkN 20 rfl ?_); (try simp only [Act.put, s1, s2, s3, s4, s5, s6])
                 (refine tkN 21 rfl ?_); (try simp only [Act.put, s1, s2, s3, s4, s5, s6])
                 (refine tkN 22 rfl ?_); (try simp only [Act.put, s1, s2, s3, s4, s5, s6])
                 (refine tkW 23 (v := ?_) rfl ?_ ?_; rotate_left 1; · (intro wz hSw; (try dsimp only at hSw); go_simp; try rfl)); (try simp only [Act.put, s1, s2, s3, s4, s5, s6])
                 (refine tkW 24 (v := ?_) rfl ?_ ?_; rotate_left 1; · (intro wz hSw; (try dsimp only at hSw); go_simp; try rfl)); (try simp only [Act.put, s1, s2, s3, s4, s5, s6])
                 refine wpAnyH_done (by kernel_rfl) ?_ _
                 obtain ⟨wu, hwu⟩ : ∃ wu, wt.drew = wu := ⟨_, rfl⟩
                 rw [hwu]
                 have hdu : Ch No wt wu := by rw [← hwu]; exact (Ch.refl _ _).drew
                 clear hwu
                 have HCKU := hid (HCKT.out.no hdu)
                 have HCU := hid (HCT.out.trans (hdu.mono (S' := fun k _ => k = b) (fun _ _ _ h => h.elim)))
                 have hbu := hdu.keep _ _ HBT.out (fun h => h)
                 have hbk := HCKU.out.blk
                 have x2 := cellAt hbu 2
                 have x3 := cellAt hbu 3
                 have b4 := cellAt hbk 4
                 have b5 := cellAt hbk 5
                 have g4 := freeAt hbk 4
                 have g5 := freeAt hbk 5
                 obtain ⟨wf, hwf, hfb, hfc⟩ := set45 hbk (.int .i64 v.line) (.int .i64 v.col)
                 have HFK := hid (HCKU.out.set hfc hfb (HCKU.out.vars.ch hfc (fun _ _ e => HVBN.out e)))
                 have HFC := hid (HCU.out.trans hfc)
                 clear hdu hbu hbk hfb hfc HSx
                 go_wp2_with fail
                 first | rw [hwf] | skip
                 clear hwf
                 go_ret
                 rw [HSL.out, HS0E.out]
                 exact MethOut.f HV.out hno.out HFC.out HFK.out
               · have HNL := hid hnl
                 have l2 := litn v.ty [110, 117, 108, 108] hnl
                 clear hnl
                 have hxs := xis ((HCKT.out.typ.no ((Ch.refl No wt).alloc (.cells #[.string v.ty] 9))).no ((Ch.refl No _).drew)) (StrsAt.no (StrsAt.one (w := wt) [v.ty] (Nat.le_of_ble_eq_true rfl)) ((Ch.refl No _).drew)) (fun t ht => by
                   have : t = v.ty := by simpa using ht
                   rw [this]; exact HVZ.out.2)
                 have HSd := hid (show wt.drew.cell? ⟨wr.heap.size, 0, none⟩ = some (.string v.ty) ∧ wt.drew.cell? ⟨wr.heap.size, 1, none⟩ = some (.string v.nm) ∧ wt.drew.cell? ⟨b, 0, none⟩ = some xv from HSx.out)
                 go_region_held3 (fun w' => w'.cell? ⟨wr.heap.size, 0, none⟩ = some (.string v.ty) ∧ w'.cell? ⟨wr.heap.size, 1, none⟩ = some (.string v.nm) ∧ w'.cell? ⟨b, 0, none⟩ = some xv) (first | with_reducible exact HSx.out | with_reducible exact HSd.out | with_reducible exact HS5.out | exact ⟨cellAt (w := (wt.alloc (.cells #[.string v.ty] 9)).drew) (heapOld HBT.out _) 0, cellAt (w := (wt.alloc (.cells #[.string v.ty] 9)).drew) (heapOld HBT.out _) 1, cellAt (w := (wt.alloc (.cells #[.string v.ty] 9)).drew) (heapOld HCKT.out.blk _) 0⟩ | go_keep) (first | (go_at_call 61; refine hxs.mono ?_; rintro e w5 ⟨⟨r5, hr5, hq5⟩, hw5⟩; subst hr5; have HS5 := hid (show w5.cell? ⟨wr.heap.size, 0, none⟩ = some (.string v.ty) ∧ w5.cell? ⟨wr.heap.size, 1, none⟩ = some (.string v.nm) ∧ w5.cell? ⟨b, 0, none⟩ = some xv from by rw [← hw5]; exact ⟨cellAt (heapOld HBT.out _) 0, cellAt (heapOld HBT.out _) 1, cellAt (heapOld HCKT.out.blk _) 0⟩); have HQ5 := hid hq5; have HW5 := hid hw5; clear hq5 hw5 hxs))
                 all_goals (
                   obtain ⟨wu, hwu⟩ : ∃ wu, wu = w5 := ⟨_, rfl⟩
                   subst hwu
                   have hdu : Ch No wt wu := by rw [← HW5.out]; exact ((Ch.refl _ _).alloc _).drew
                   clear l1 l2 HS5 HSd HW5
                   cases r5 with
                   | false =>
                     have hno := hid (show ¬ varP cs sl s0 k v from fun h => by
                       have h1 := HQ5.out.2 (fun t ht => by
                         have : t = v.ty := by simpa using ht
                         rw [this]; exact (h HO.out).2.2.2)
                       cases h1)
                     have HCKU := hid (HCKT.out.no hdu)
                     have HCU := hid (HCT.out.trans (hdu.mono (S' := fun k _ => k = b) (fun _ _ _ h => h.elim)))
                     have hbu := hdu.keep _ _ HBT.out (fun h => h)
                     have hbk := HCKU.out.blk
                     have x2 := cellAt hbu 2
                     have x3 := cellAt hbu 3
                     have b4 := cellAt hbk 4
                     have b5 := cellAt hbk 5
                     have g4 := freeAt hbk 4
                     have g5 := freeAt hbk 5
                     obtain ⟨wf, hwf, hfb, hfc⟩ := set45 hbk (.int .i64 v.line) (.int .i64 v.col)
                     have HFK := hid (HCKU.out.set hfc hfb (HCKU.out.vars.ch hfc (fun _ _ e => HVBN.out e)))
                     have HFC := hid (HCU.out.trans hfc)
                     clear hdu hbu hbk hfb hfc HSx
                     go_wp2_with fail
                     first | rw [hwf] | skip
                     clear hwf
                     go_ret
                     rw [HSL.out, HS0E.out]
                     exact MethOut.f HV.out hno.out HFC.out HFK.out
                   | true =>
                     have hok := hid (show varP cs sl s0 k v from fun _ => ⟨HTN.out, HTH.out, HNL.out, HQ5.out.1 rfl v.ty (by simp)⟩)
                     have HCKU := hid (HCKT.out.no hdu)
                     have HCU := hid (HCT.out.trans (hdu.mono (S' := fun k _ => k = b) (fun _ _ _ h => h.elim)))
                     have HOU := hid (ownsRow_ch HOT.out hdu (fun _ _ _ _ _ h => h))
                     have HBMU := hid (hdu.keep _ _ HBMT.out (fun h => h))
                     have hbu := hdu.keep _ _ HBT.out (fun h => h)
                     have hbk := HCKU.out.blk
                     have x0 := cellAt hbu 0
                     have x1 := cellAt hbu 1
                     have b2 := cellAt hbk 2
                     obtain ⟨wq, hrun, hm3, hg3⟩ := (HCKU.out.vars.drew).store lawS Tryz.underlying83 (by unfold maxLen; omega) (keyS HVZ.out.1) (.string v.ty)
                     have hrun' : (Instr.mapUpdate 83 (.map (some vbk)) (.string v.nm) (.string v.ty)).run Tryz.prog wu.drew = .ok () wq := hrun
                     have hgc : Ch (fun k _ => k = vbk) wu wq := ((Ch.refl _ wu).drew).trans ((Ch.refl _ _).grown hg3 (fun _ _ h _ => by cases h; rfl))
                     have hbq := hgc.keep _ _ hbk (fun e => HVBN.out e.symm)
                     have hmq : MapIs Tryz.prog 9 strK wq vbk (k + 1) (fun s => (vsOf (sl.take (k + 1)) s).map Value.string) := by
                       rw [take_snoc HV.out, vsOf_snoc]
                       have e : (fun s => ((fun x => if x = v.nm then some v.ty else vsOf (sl.take k) x) s).map Value.string) = fun l => if l = v.nm then some (.string v.ty) else (vsOf (sl.take k) l).map Value.string := by
                         funext x
                         by_cases h : x = v.nm <;> simp [h]
                       rw [e]
                       exact hm3
                     have HCKQ := hid (show CkIs w0 wq b cs ms xv mb vbk (k + 1) (vsOf (sl.take (k + 1))) m.ret l c from ⟨hbq, HCKU.out.typ0, HCKU.out.mem0, Ch.newOnly HCKU.out.ch hgc (fun q o _ e => by have e' : q = vbk := e; have := HCK0.out.ch.size; omega), HCKU.out.ge, hmq⟩)
                     have HCQ := hid (HCU.out.trans' hgc (fun q o ho e => by have e' : q = vbk := e; have := lt_size ho; omega))
                     have HOQ := hid (ownsRow_ch HOU.out hgc (fun g cur _ hgb _ e => by have e' : g = vbk := e; omega))
                     have HBMQ := hid (hgc.keep _ _ HBMU.out (fun e => hva e))
                     clear hdu hbu hbk hrun hm3 hg3 hgc hbq hmq HSx
                     go_wp2_with fail
                     go_region
                     all_goals (
                       clear hrun'
                       go_wp2_with fail
                       go_roundg (N - k - 1)
                       case rel => exact ⟨k + 1, by omega, by omega, by go_num, HCKQ, HCQ, HOQ, hid (fun j v' hj hv' => by
                         by_cases h1 : j < k
                         · exact HVR.out j v' h1 hv'
                         · obtain rfl : j = k := by omega
                           rw [HV.out] at hv'; cases hv'
                           exact hok.out), HBMQ⟩
                       case measure => omega)
                   ))
       · have d8 : decide ((N : Int) - ((m.ps.length : Int) + (m.s5.2.1 : Int)) ≤ (k : Int)) = false := decide_eq_false (by have := HNS.out; omega)
         have hok := hid (show varP cs sl s0 k v from fun h => absurd h ho)
         clear ho
         go_region
         all_goals (
           try rw [d8]
           go_wp2_with fail
           obtain ⟨wt, hwt⟩ : ∃ wt, wz.drew = wt := ⟨_, rfl⟩
           rw [hwt]
           have hdt : Ch No wz wt := by rw [← hwt]; exact (Ch.refl _ _).drew
           have HCKT := hid (HCKZ.out.no hdt)
           have HCT := hid (HCZ.out.trans (hdt.mono (S' := fun k _ => k = b) (fun _ _ _ h => h.elim)))
           have HOT := hid (ownsRow_ch HOZ.out hdt (fun _ _ _ _ _ h => h))
           have HBMT := hid (hdt.keep _ _ HBMZ.out (fun h => h))
           have HBT := hid (hdt.keep _ _ HBZ.out (fun h => h))
           clear hwt hlkd x0 x1 x2 x3 b0 b2 b4 b5 g4 g5 hdt
           have HSx := hid (show wt.cell? ⟨wr.heap.size, 0, none⟩ = some (.string v.ty) ∧ wt.cell? ⟨wr.heap.size, 1, none⟩ = some (.string v.nm) ∧ wt.cell? ⟨b, 0, none⟩ = some xv from ⟨cellAt HBT.out 0, cellAt HBT.out 1, cellAt HCKT.out.blk 0⟩)
           have HVBN := hid (show ¬ vbk = b from by omega)
           refine wp_region_held_drew (S := fun w' => w'.cell? ⟨wr.heap.size, 0, none⟩ = some (.string v.ty) ∧ w'.cell? ⟨wr.heap.size, 1, none⟩ = some (.string v.nm) ∧ w'.cell? ⟨b, 0, none⟩ = some xv) (by kernel_rfl) HSx.out (fun hHeld => ?_)
           (refine tkW 0 (v := ?_) rfl ?_ ?_; rotate_left 1; · (intro wz hSw; (try dsimp only at hSw); go_simp; try rfl)); (try simp only [Act.put, s1, s2, s3, s4, s5, s6])
           (refine tkW 1 (v := ?_) rfl ?_ ?_; rotate_left 1; · (intro wz hSw; (try dsimp only at hSw); go_simp; try rfl)); (try simp only [Act.put, s1, s2, s3, s4, s5, s6])
           (refine tkN 2 rfl ?_); (try simp only [Act.put, s1, s2, s3, s4, s5, s6])
           (refine tkN 3 rfl ?_); (try simp only [Act.put, s1, s2, s3, s4, s5, s6])
           (refine tkN 4 rfl ?_); (try simp only [Act.put, s1, s2, s3, s4, s5, s6])
           (refine tkN 5 rfl ?_); (try simp only [Act.put, s1, s2, s3, s4, s5, s6])
           (refine tkN 6 rfl ?_); (try simp only [Act.put, s1, s2, s3, s4, s5, s6])
           (refine tkN 7 rfl ?_); (try simp only [Act.put, s1, s2, s3, s4, s5, s6])
           (refine tkN 8 rfl ?_); (try simp only [Act.put, s1, s2, s3, s4, s5, s6])
           (refine tkN 9 rfl ?_); (try simp only [Act.put, s1, s2, s3, s4, s5, s6])
           (refine tkN 10 rfl ?_); (try simp only [Act.put, s1, s2, s3, s4, s5, s6])
           (refine tkN 11 rfl ?_); (try simp only [Act.put, s1, s2, s3, s4, s5, s6])
           (refine tkN 12 rfl ?_); (try simp only [Act.put, s1, s2, s3, s4, s5, s6])
           (refine tkN 13 rfl ?_); (try simp only [Act.put, s1, s2, s3, s4, s5, s6])
           (refine tkN 14 rfl ?_); (try simp only [Act.put, s1, s2, s3, s4, s5, s6])
           (refine tkN 15 rfl ?_); (try simp only [Act.put, s1, s2, s3, s4, s5, s6])
           (refine tkN 16 rfl ?_); (try simp only [Act.put, s1, s2, s3, s4, s5, s6])
           (refine tkN 17 rfl ?_); (try simp only [Act.put, s1, s2, s3, s4, s5, s6])
           (refine tkN 18 rfl ?_); (try simp only [Act.put, s1, s2, s3, s4, s5, s6])
           (refine tkN 19 rfl ?_); (try simp only [Act.put, s1, s2, s3, s4, s5, s6])
           (refine tkN 20 rfl ?_); (try simp only [Act.put, s1, s2, s3, s4, s5, s6])
           (refine tkN 21 rfl ?_); (try simp only [Act.put, s1, s2, s3, s4, s5, s6])
           (refine tkN 22 rfl ?_); (try simp only [Act.put, s1, s2, s3, s4, s5, s6])
           (refine tkN 23 rfl ?_); (try simp only [Act.put, s1, s2, s3, s4, s5, s6])
           (refine tkW 24 (v := ?_) rfl ?_ ?_; rotate_left 1; · (intro wz hSw; (try dsimp only at hSw); go_simp; try rfl)); (try simp only [Act.put, s1, s2, s3, s4, s5, s6])
           refine wpAnyH_done (by kernel_rfl) ?_ _
           obtain ⟨wu, hwu⟩ : ∃ wu, wt.drew = wu := ⟨_, rfl⟩
           rw [hwu]
           have hdu : Ch No wt wu := by rw [← hwu]; exact (Ch.refl _ _).drew
           clear hwu
           have HCKU := hid (HCKT.out.no hdu)
           have HCU := hid (HCT.out.trans (hdu.mono (S' := fun k _ => k = b) (fun _ _ _ h => h.elim)))
           have HOU := hid (ownsRow_ch HOT.out hdu (fun _ _ _ _ _ h => h))
           have HBMU := hid (hdu.keep _ _ HBMT.out (fun h => h))
           have hbu := hdu.keep _ _ HBT.out (fun h => h)
           have hbk := HCKU.out.blk
           have x0 := cellAt hbu 0
           have x1 := cellAt hbu 1
           have b2 := cellAt hbk 2
           obtain ⟨wq, hrun, hm3, hg3⟩ := (HCKU.out.vars.drew).store lawS Tryz.underlying83 (by unfold maxLen; omega) (keyS HVZ.out.1) (.string v.ty)
           have hrun' : (Instr.mapUpdate 83 (.map (some vbk)) (.string v.nm) (.string v.ty)).run Tryz.prog wu.drew = .ok () wq := hrun
           have hgc : Ch (fun k _ => k = vbk) wu wq := ((Ch.refl _ wu).drew).trans ((Ch.refl _ _).grown hg3 (fun _ _ h _ => by cases h; rfl))
           have hbq := hgc.keep _ _ hbk (fun e => HVBN.out e.symm)
           have hmq : MapIs Tryz.prog 9 strK wq vbk (k + 1) (fun s => (vsOf (sl.take (k + 1)) s).map Value.string) := by
             rw [take_snoc HV.out, vsOf_snoc]
             have e : (fun s => ((fun x => if x = v.nm then some v.ty else vsOf (sl.take k) x) s).map Value.string) = fun l => if l = v.nm then some (.string v.ty) else (vsOf (sl.take k) l).map Value.string := by
               funext x
               by_cases h : x = v.nm <;> simp [h]
             rw [e]
             exact hm3
           have HCKQ := hid (show CkIs w0 wq b cs ms xv mb vbk (k + 1) (vsOf (sl.take (k + 1))) m.ret l c from ⟨hbq, HCKU.out.typ0, HCKU.out.mem0, Ch.newOnly HCKU.out.ch hgc (fun q o _ e => by have e' : q = vbk := e; have := HCK0.out.ch.size; omega), HCKU.out.ge, hmq⟩)
           have HCQ := hid (HCU.out.trans' hgc (fun q o ho e => by have e' : q = vbk := e; have := lt_size ho; omega))
           have HOQ := hid (ownsRow_ch HOU.out hgc (fun g cur _ hgb _ e => by have e' : g = vbk := e; omega))
           have HBMQ := hid (hgc.keep _ _ HBMU.out (fun e => hva e))
           clear hdu hbu hbk hrun hm3 hg3 hgc hbq hmq HSx
           go_wp2_with fail
           go_region
           all_goals (
             clear hrun'
             go_wp2_with fail
             go_roundg (N - k - 1)
             case rel => exact ⟨k + 1, by omega, by omega, by go_num, HCKQ, HCQ, HOQ, hid (fun j v' hj hv' => by
               by_cases h1 : j < k
               · exact HVR.out j v' h1 hv'
               · obtain rfl : j = k := by omega
                 rw [HV.out] at hv'; cases hv'
                 exact hok.out), HBMQ⟩
             case measure => omega)
           )
     | false =>
       have hkl : ¬ k < N := by simpa using hd
       have hck2 := HCKR.out
       rw [List.take_of_length_le (by have := HNN.out; omega)] at hck2
       have hcall := HST.out wr vbk k l c hck2
       have hbr := HBR.out
       have r6 := cellAt hbr 6
       have HALL := hid (show varsP cs sl s0 from fun j v hv => HVR.out j v (by have := (List.getElem?_eq_some_iff.1 hv).1; have := HNN.out; omega) hv)
       clear hbr hck2
       go_wp2_with fail
       refine hcall.mono ?_
       rintro e w5 ⟨r, rfl, hr, hc5, vb5, n5, vs5, ret5, l5, c5, hck5, hA⟩
       have HR := hid hr
       have HC5 := hid (HCR.out.trans hc5)
       have HK5 := hid hck5
       have HA := hid hA
       clear hr hc5 hck5 hA hcall
       go_wp2_with fail
       go_ret
       rw [HSL.out, HS0E.out]
       exact ⟨r, rfl, ⟨fun h => ⟨HALL.out, HR.out.1 h⟩, fun h => HR.out.2 h.2⟩, HC5.out, vb5, n5, vs5, ret5, l5, c5, HK5.out, fun h _ => HA.out h⟩)
end Go.Proofs.YtgjpgfedlgdjhaaGreatDoor
end
