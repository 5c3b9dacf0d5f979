/- Part 42. -/
import Derived.Test.YtgjpgfedlgdjhaaGreatDoorYbn
import Derived.Test.YtgjpgfedlgdjhaaGreatDoorYbo
set_option linter.unusedVariables false
set_option linter.unusedSimpArgs false
set_option maxHeartbeats 64000000
set_option maxRecDepth 8192
section
namespace Go.Proofs.YtgjpgfedlgdjhaaGreatDoor
open Go.RowKit Go.W
def Dx (l : List Vr) : ByteArray → Option ByteArray := l.foldl (fun f v => fun x => if x = v.nm then some v.ty else f x) (fun _ => none)
theorem Sp (l : List Vr) (v : Vr) : Dx (l ++ [v]) = fun x => if x = v.nm then some v.ty else Dx l x := by unfold Dx; rw [List.foldl_append]; rfl
theorem Kl {x t : ByteArray} : ∀ (l : List Vr) (f : ByteArray → Option ByteArray), l.foldl (fun f v => fun x => if x = v.nm then some v.ty else f x) f x = some t → f x = some t ∨ ∃ v ∈ l, v.nm = x ∧ v.ty = t
 | [], f, h => .inl h
 | v :: r, f, h => by
  rcases Kl r _ h with h | ⟨u, hu, h1⟩
  {by_cases e : x = v.nm
   {simp only [if_pos e] at h
    exact .inr ⟨v, List.mem_cons_self .., e.symm, by simpa using h⟩}
   {simp only [if_neg e] at h
    exact .inl h}}
  {exact .inr ⟨u, List.mem_cons_of_mem _ hu, h1⟩}
theorem Oi {l : List Vr} {x t : ByteArray} (h : Dx l x = some t) : ∃ v ∈ l, v.nm = x ∧ v.ty = t := by
 rcases Kl l _ h with h | h
 {cases h}
 {exact h}
def Ky (cs : List Aj) (l : List Vr) (s k : Nat) (v : Vr) : Prop := s ≤ k → Dx (l.take k) v.nm = none ∧ v.nm ≠ F4 ∧ v.ty ≠ D9 ∧ Lj cs v.ty
def Hu (cs : List Aj) (l : List Vr) (s : Nat) : Prop := ∀ (k : Nat) (v : Vr), l[k]? = some v → Ky cs l s k v
theorem Sq {l : List Vr} {k : Nat} {v : Vr} (h : l[k]? = some v) : l.take (k + 1) = l.take k ++ [v] := by
 rw [List.take_add_one, h]; rfl
def Yu (P : Prop) (A : Int → Int → Prop) (w0 w : World) (b : Nat) (cs : List Aj) (ms : List Ba) (xv : Value) (mb : Nat) (e : Ending) (w' : World) : Prop :=
 ∃ r : Bool, e = .returned (.bool r) ∧ (r = true ↔ P) ∧ Ch (fun k _ => k = b) w w' ∧ ∃ vb n vs ret l c, Bl w0 w' b cs ms xv mb vb n vs ret l c ∧ (r = false → A l c)
structure M6 (w0 w : World) (b : Nat) (cs : List Aj) (ms : List Ba) (xv : Value) (mb : Nat) (mv : Option Nat) (ret : ByteArray) (l c : Int) : Prop where
 blk : w.heap[b]? = some (.cells #[xv, .pointer (some ⟨mb, 0, none⟩), .map mv, .string ret, .int .i64 l, .int .i64 c] 85 (0, 0))
 typ0 : Bv w0 xv cs
 mem0 : B3 w0 mb cs ms
 ch : Ch No w0 w
 ge : w0.heap.size ≤ b
theorem M6.no {w0 w w' : World} {b : Nat} {cs : List Aj} {ms : List Ba} {xv : Value} {mb : Nat} {mv : Option Nat} {ret : ByteArray} {l c : Int} (h : M6 w0 w b cs ms xv mb mv ret l c) (hc : Ch No w w') : M6 w0 w' b cs ms xv mb mv ret l c :=
 ⟨hc.keep _ _ h.blk (fun h => h), h.typ0, h.mem0, h.ch.trans hc, h.ge⟩
theorem M6.set {w0 w w' : World} {b : Nat} {cs : List Aj} {ms : List Ba} {xv : Value} {mb : Nat} {mv : Option Nat} {ret : ByteArray} {l c : Int} (h : M6 w0 w b cs ms xv mb mv ret l c) (hc : Ch (fun k _ => k = b) w w') {vb' n' : Nat} {vs' : ByteArray → Option ByteArray} {ret' : ByteArray} {l' c' : Int}
 (hb : w'.heap[b]? = some (.cells #[xv, .pointer (some ⟨mb, 0, none⟩), .map (some vb'), .string ret', .int .i64 l', .int .i64 c'] 85 (0, 0))) (hm : A1 Tryz.prog 9 Bx w' vb' n' (fun s => (vs' s).map Value.string)) : Bl w0 w' b cs ms xv mb vb' n' vs' ret' l' c' :=
 ⟨hb, h.typ0, h.mem0, Ch.newOnly h.ch hc (fun k o _ e => by have e' : k = b := e; have := h.ge; omega), h.ge, hm⟩
theorem Bl.z {w0 w : World} {b : Nat} {cs : List Aj} {ms : List Ba} {xv : Value} {mb vb n : Nat} {vs : ByteArray → Option ByteArray} {ret : ByteArray} {l c : Int} (h : Bl w0 w b cs ms xv mb vb n vs ret l c) : M6 w0 w b cs ms xv mb (some vb) ret l c := ⟨h.blk, h.typ0, h.mem0, h.ch, h.ge⟩
def Jp (P : Prop) (A : Int → Int → Prop) (w0 w : World) (b : Nat) (cs : List Aj) (ms : List Ba) (xv : Value) (mb : Nat) (sl : List Vr) (s : Nat) (e : Ending) (w' : World) : Prop := Yu (Hu cs sl s ∧ P) (fun l c => Hu cs sl s → A l c) w0 w b cs ms xv mb e w'
theorem Jp.f {P : Prop} {A : Int → Int → Prop} {w0 w w' : World} {b : Nat} {cs : List Aj} {ms : List Ba} {xv : Value} {mb : Nat} {sl : List Vr} {s k : Nat} {v : Vr} (hv : sl[k]? = some v) (hn : ¬ Ky cs sl s k v) (hc : Ch (fun k _ => k = b) w w') {vb n : Nat} {vs : ByteArray → Option ByteArray} {ret : ByteArray} {l c : Int} (h : Bl w0 w' b cs ms xv mb vb n vs ret l c) : Jp P A w0 w b cs ms xv mb sl s (.returned (.bool false)) w' :=
 ⟨false, rfl, ⟨(fun h => by cases h), fun h => absurd (h.1 k v hv) hn⟩, hc, vb, n, vs, ret, l, c, h, fun _ h => absurd (h k v hv) hn⟩
def Rj (P : Prop) (A : Int → Int → Prop) (w0 : World) (b : Nat) (cs : List Aj) (ms : List Ba) (xv : Value) (mb : Nat) (vs : ByteArray → Option ByteArray) (ret : ByteArray) (bv : Value) : Prop :=
 ∀ (w1 : World) (vb n : Nat) (l c : Int), Bl w0 w1 b cs ms xv mb vb n vs ret l c → Calls Tryz.prog 62 #[.pointer (some ⟨b, 0, none⟩), bv] w1 (Yu P A w0 w1 b cs ms xv mb)
theorem Yv {w : World} {vb n : Nat} {vs : ByteArray → Option ByteArray} (h : A1 Tryz.prog 9 Bx w vb n (fun s => (vs s).map Value.string)) {x : ByteArray} (hx : x.size ≤ maxLen) :
 (Instr.lookup 83 (.map (some vb)) (.string x) true).run Tryz.prog w = .ok (.tuple #[.string (Di vs x), .bool (vs x).isSome]) w := by
 have hrun := h.lookOk Gx Tryz.underlying83 (Yn w) (Gy hx)
 have e1 : (((vs x).map Value.string).getD (.string ⟨#[]⟩)) = .string (Di vs x) := by
  unfold Di; cases vs x <;> rfl
 have e2 : ((vs x).map Value.string).isSome = (vs x).isSome := by cases vs x <;> rfl
 rw [e1, e2] at hrun
 exact hrun
theorem Aeo {p : Prop} (h : p := by
 have HCKU := Aa (HCKT.out.no hdu)
 have HCU := Aa (HCT.out.trans (hdu.mono (S' := fun k _ => k = b) (fun _ _ _ h => h.elim)))
 have hbu := hdu.keep _ _ HBT.out (fun h => h)
 have hbk := HCKU.out.blk
 have x2 := Ab hbu 2
 have x3 := Ab hbu 3
 have b4 := Ab hbk 4
 have b5 := Ab hbk 5
 have g4 := Ad hbk 4
 have g5 := Ad hbk 5
 obtain ⟨wf, hwf, hfb, hfc⟩ := Vg hbk (.int .i64 v.line) (.int .i64 v.col)
 have HFK := Aa (HCKU.out.set hfc hfb (HCKU.out.vars.ch hfc (fun _ _ e => HVBN.out e)))
 have HFC := Aa (HCU.out.trans hfc)
 clear hdu hbu hbk hfb hfc HSx
 go_wp2_with fail
 first | rw [hwf] | skip
 clear hwf
 go_ret
 rw [HSL.out, HS0E.out]
 exact Jp.f HV.out hno.out HFC.out HFK.out
 ) : p := h
theorem Aa1 {p : Prop} (h : p := by
 refine tk 12 rfl ?_
 refine tk 13 rfl ?_
 refine tn 14 rfl ?_
 refine tn 15 rfl ?_
 refine tn 16 rfl ?_
 refine tn 17 rfl ?_
 refine tn 18 rfl ?_
 refine tn 19 rfl ?_
 refine tn 20 rfl ?_
 refine tn 21 rfl ?_
 refine tn 22 rfl ?_
 refine tk 23 rfl ?_
 refine tk 24 rfl ?_
 refine wpAnyH_done (by kernel_rfl) ?_ _
 obtain ⟨wu, hwu⟩ := Ax wt.drew
 rw [hwu]
 have hdu : Ch No wt wu := by rw [← hwu]; exact (Ch.refl _ _).drew
 clear hwu
 exact Aeo
 ) : p := h
theorem Aep {p : Prop} (h : p := by
 clear hrun'
 go_wp2
 go_roundg (N - k - 1)
 case rel => exact ⟨k + 1, by omega, by omega, by go_num, HCKQ, HCQ, HOQ, Aa (fun j v' hj hv' => by
  by_cases h1 : j < k
  {exact HVR.out j v' h1 hv'}
  · obtain rfl : j = k := by omega
    rw [HV.out] at hv'; cases hv'
    exact hok.out), HBMQ⟩
 case measure => omega
 ) : p := h
theorem Aeq {p : Prop} (h : p := by
 rw [Sq HV.out, Sp]
 have e : (fun s => ((fun x => if x = v.nm then some v.ty else Dx (sl.take k) x) s).map Value.string) = fun l => if l = v.nm then some (.string v.ty) else (Dx (sl.take k) l).map Value.string := by
  funext x
  by_cases h : x = v.nm <;> simp [h]
 rw [e]
 exact hm3
 ) : p := h
theorem Rk {w0 w : World} {b : Nat} {cs : List Aj} {ms : List Ba} {xv : Value} {mb : Nat} {mv : Option Nat} {ret : ByteArray} {l c : Int} (hck : M6 w0 w b cs ms xv mb mv ret l c) {pv : Value} (h0 : Cz w0 pv cs) (z : Int) (m : Mt) (ls : List Vr) (hps : Bc w0 (.slice m.pa m.ps.length m.pc) m.ps) (hls : Bc w0 (.slice m.s5.1 m.s5.2.1 m.s5.2.2) ls) (hp9 : m.ps.length ≤ 40000) (hl9 : ls.length ≤ 40000)
 (hsz : ∀ v ∈ Ck cs z m ls, v.nm.size ≤ maxLen ∧ v.ty.size ≤ maxLen) {P : Prop} {A : Int → Int → Prop} (hst : Rj P A w0 b cs ms xv mb (Dx (Ck cs z m ls)) m.ret (.slice m.s6.1 m.s6.2.1 m.s6.2.2)) :
 Calls Tryz.prog 33 #[.pointer (some ⟨b, 0, none⟩), pv, .int .i64 z, .agg #[.string m.ret, .string m.nm, .bool m.st, .bool m.ba, .slice m.pa m.ps.length m.pc, .slice m.s5.1 m.s5.2.1 m.s5.2.2, .slice m.s6.1 m.s6.2.1 m.s6.2.2, .int .i64 m.line, .int .i64 m.col]] w (Jp P A w0 w b cs ms xv mb (Ck cs z m ls) (C4 cs z m).length) := by
 have h := h0.no hck.ch
 have HP00 := Aa h0
 have HCK0 := Aa hck
 have HPS0 := Aa hps
 have HLS0 := Aa hls
 have HP9 := Aa hp9
 have HL9 := Aa hl9
 have HSZ := Aa hsz
 have HST := Aa hst
 have HS5 := Aa hls.shape.1
 have hs5b : m.s5.2.1 ≤ 40000 := by have := hls.shape.1; omega
 have hp5b := hp9
 clear hck hps hls hp9 hl9 hsz h0 hst
 have hp := h
 obtain ⟨cv, m0, m1, m2, m3, m4, m5, m6, m7, m8, rfl, h⟩ := h
 obtain ⟨ao, cap, rfl, hcap, hmax, _, _⟩ := h.row
 rw [List.length_map] at hcap h hp ⊢
 obtain ⟨len, Av⟩ := Ax cs.length
 rw [Av] at hcap h hp ⊢
 unfold maxLen at hmax
 obtain ⟨wa, hwa, hpb, hch⟩ := A2 w (.cells #[.slice ao len cap, m0, m1, m2, m3, m4, m5, m6, m7, m8] 31)
 have HL := Aa Av
 have HP := Aa (hp.no hch)
 have HC := Aa (h.no hch)
 have HPB := Aa hpb
 have HCH := Aa hch
 obtain ⟨p0, p1, p2, p3, p4, p5, p6, p7, p8, p9⟩ := Cp hpb
 have hz := Ac hpb
 clear Av h hp hpb hch
 obtain ⟨wx, hwx, hbx, hcx⟩ := A2 wa (.cells #[.string m.ret, .string m.nm, .bool m.st, .bool m.ba, .slice m.pa m.ps.length m.pc, .slice m.s5.1 m.s5.2.1 m.s5.2.2, .slice m.s6.1 m.s6.2.1 m.s6.2.2, .int .i64 m.line, .int .i64 m.col] 29)
 have HBX := Aa hbx
 have HCX := Aa (HCH.out.trans hcx)
 have hpx := hcx.keep _ _ HPB.out (fun h => h)
 have HPBX := Aa hpx
 have hbk := (HCK0.out.no HCX.out).blk
 have HBK := Aa hbk
 have b2 := Ab hbk 2
 have b3 := Ab hbk 3
 have g2 := Ad hbk 2
 have g3 := Ad hbk 3
 have r0 := Ab hbx 0
 have yb := Ac hbk
 have ybx := Ac hbx
 clear p0 p1 p2 p3 p4 p5 p6 p7 p8 p9 hcx hpx hbx hbk
 have hmm := @run_makeMap Tryz.prog
 go_in
 go_wp2_with fail
 clear hwa hwx
 go_region
 all_goals (
  obtain ⟨vbk, hvbk⟩ := Ax wx.heap.size
  rw [hvbk]
  obtain ⟨wy, hwy⟩ := Ax ((((wx.setCell ⟨b, 2, none⟩ (.map (some vbk))).setCell ⟨b, 3, none⟩ (.string m.ret)).alloc (.map #[] 0)).drew)
  rw [hwy]
  have hsw : ((wx.setCell ⟨b, 2, none⟩ (.map (some vbk))).setCell ⟨b, 3, none⟩ (.string m.ret)).heap.size = vbk := by rw [← hvbk]; simp
  have hcy : Ch (fun k _ => k = b) wx wy := by
   rw [← hwy]
   exact ((((Ch.refl _ _).setCell (fun _ _ => rfl) _).setCell (fun _ _ => rfl) _).alloc _).drew
  have hby : wy.heap[b]? = some (.cells #[xv, .pointer (some ⟨mb, 0, none⟩), .map (some vbk), .string m.ret, .int .i64 l, .int .i64 c] 85 (0, 0)) := by
   rw [← hwy]
   exact Bh (Af (Af HBK.out 2 (.map (some vbk))) 3 (.string m.ret)) _
  have hmy : A1 Tryz.prog 9 Bx wy vbk 0 (fun s => ((fun _ => none : ByteArray → Option ByteArray) s).map Value.string) := by
   rw [← hwy]
   have := A1.made Tryz.prog 9 Bx ((wx.setCell ⟨b, 2, none⟩ (.map (some vbk))).setCell ⟨b, 3, none⟩ (.string m.ret))
   rw [hsw] at this
   exact this.drew
  have HCKY := Aa ((HCK0.out.no HCX.out).set hcy hby hmy)
  have HCY := Aa ((HCX.out.mono (S' := fun k _ => k = b) (fun _ _ _ h => h.elim)).trans hcy)
  have ybw : b < w.heap.size := Ac HCK0.out.blk
  have HBY := Aa (hcy.keep _ _ HBX.out (fun e => by have e' : wa.heap.size = b := e; have := HCH.out.size; omega))
  have HPY := Aa (hcy.keep _ _ HPBX.out (Bm (by omega)))
  have HVBK := Aa (show wx.heap.size = vbk from hvbk)
  clear hsw hcy hby hmy hwy b2 b3 g2 g3 hvbk
  have hxy := HBY.out
  have hpy := HPY.out
  have r4 := Ab hxy 4
  have r5 := Ab hxy 5
  obtain ⟨r0, r1, r2, r3, r4, r5, r6, r7, r8⟩ := Y4 hxy
  obtain ⟨p0, p1, p2, p3, p4, p5, p6, p7, p8, p9⟩ := Cp hpy
  have hp0 := HP00.out
  rw [List.length_map, HL.out] at hp0
  have hsc := Aa0 (hp0.no HCKY.out.ch) z m ls (Bc.no HPS0.out HCKY.out.ch) (Bc.no HLS0.out HCKY.out.ch) HP9.out HL9.out
  clear hxy hpy hp0
  go_wp2_with fail
  refine hsc.mono ?_
  rintro e w1 ⟨v1, rfl, hown, hc1⟩
  obtain ⟨sa, sc, e1, _, hsc2⟩ := Fz hown
  subst e1
  obtain ⟨sl, hsl⟩ := Ax (Ck cs z m ls)
  obtain ⟨s0, hs0⟩ := Ax ((C4 cs z m).length)
  obtain ⟨N, hN⟩ := Ax sl.length
  have hNs : N = s0 + m.ps.length + m.s5.2.1 := by rw [← hN, ← hsl, ← hs0]; unfold Ck; rw [List.length_append, List.length_append, HS5.out]
  have hs01 : s0 ≤ 1 := by
   rw [← hs0]; unfold C4
   split
   {split <;> simp}
   {simp}
  have HSZ1 := HSZ.out
  have HST1 := HST.out
  rw [hsl] at hown HSZ1 HST1 ⊢
  rw [hs0]
  rw [hN] at hown ⊢
  have HOWN := Aa hown
  have HSZ := Aa HSZ1
  have HST := Aa HST1
  have HCK1 := Aa (HCKY.out.no hc1)
  have HC1 := Aa (HCY.out.trans (hc1.mono (fun _ _ _ h => h.elim)))
  have HB1 := Aa (hc1.keep _ _ HBY.out (fun h => h))
  have HNN := Aa hN
  have yvb : vbk < wy.heap.size := by obtain ⟨es, cc, hm⟩ := HCKY.out.vars.isMap; exact Ac hm
  have ybb : b < wy.heap.size := Ac HCKY.out.blk
  have yab : wa.heap.size < wy.heap.size := Ac HBY.out
  have hvw : w.heap.size ≤ vbk := by have h1 := HVBK.out; have h2 := HCX.out.size; omega
  have hva : ¬ wa.heap.size = vbk := by have h1 := HVBK.out; have h2 := Ac HBX.out; omega
  unfold maxLen at hsc2
  have HNS := Aa hNs
  have HSL := Aa hsl
  have HS0E := Aa hs0
  have hwy0 : w.heap.size ≤ wy.heap.size := HCY.out.size
  have hN9 : N ≤ 90000 := by omega
  clear hNs
  clear hown HSZ1 HST1 hN hc1 hsc r0 r1 r2 r3 r4 r5 r6 r7 r8 p0 p1 p2 p3 p4 p5 p6 p7 p8 p9
  clear HPS0 HLS0 HP00
  go_wp2
  go_loopg [8, 11, 12, 13, 14, 15, 38] N (fun gg s8 s11 s12 s13 s14 s15 s38 wr => ∃ k : Nat, k ≤ N ∧ N - k ≤ gg ∧ s38 = .int .i64 k ∧ Hid (Bl w0 wr b cs ms xv mb vbk k (Dx (sl.take k)) m.ret l c) ∧ Hid (Ch (fun k _ => k = b) w wr) ∧ Hid (wr.ownsRow wy.heap.size 64 4 (.slice sa N sc) N (sl.map Vr.cells).flatten) ∧ Hid (∀ (j : Nat) (v : Vr), j < k → sl[j]? = some v → Ky cs sl s0 j v) ∧ Hid (wr.heap[wa.heap.size]? = some (.cells #[.string m.ret, .string m.nm, .bool m.st, .bool m.ba, .slice m.pa m.ps.length m.pc, .slice m.s5.1 m.s5.2.1 m.s5.2.2, .slice m.s6.1 m.s6.2.1 m.s6.2.2, .int .i64 m.line, .int .i64 m.col] 29 (0, 0))))
  case atStart => exact ⟨0, Nat.zero_le _, by omega, rfl, Aa (HCK1.out), HC1, HOWN, Aa (fun j v hj => absurd hj (Nat.not_lt_zero _)), HB1⟩
  case round =>
   obtain ⟨k, hk, hg, rfl, HCKR, HCR, HOR, HVR, HBR⟩ := hrel
   cases hd : decide (k < N) with
   | true =>
    have hkl : k < N := by simpa using hd
    obtain ⟨v, hv⟩ := gE (l := sl) (i := k) (by have := HNN.out; omega)
    obtain ⟨bb, off, hsa, hcell⟩ := (Lr HOR.out HNN.out.symm).cell hv
    obtain ⟨q0, q1, q2, q3⟩ := hcell
    subst hsa
    obtain ⟨wz, hwz, hbz, hcz⟩ := A2 wr (.cells #[.string v.ty, .string v.nm, .int .i64 v.line, .int .i64 v.col] 64)
    have HBZ := Aa hbz
    have HCKZ := Aa (HCKR.out.no hcz)
    have HCZ := Aa (HCR.out.trans (hcz.mono (fun _ _ _ h => h.elim)))
    have HOZ := Aa (An HOR.out hcz (fun _ _ _ _ _ h => h))
    have HBMZ := Aa (hcz.keep _ _ HBR.out (fun h => h))
    have hvz := HSZ.out v (mG hv)
    have HVZ := Aa hvz
    have hbk := HCKZ.out.blk
    obtain ⟨x0, x1, x2, x3⟩ := F9 hbz
    have b0 := Ab hbk 0
    have b2 := Ab hbk 2
    have b4 := Ab hbk 4
    have b5 := Ab hbk 5
    have g4 := Ad hbk 4
    have g5 := Ad hbk 5
    have hlk := Yv HCKZ.out.vars hvz.1
    have hlkd : (Instr.lookup 83 (.map (some vbk)) (.string v.nm) true).run Tryz.prog wz.drew = .ok (.tuple #[.string (Di (Dx (sl.take k)) v.nm), .bool (Dx (sl.take k) v.nm).isSome]) wz.drew := Yv HCKZ.out.vars.drew hvz.1
    obtain ⟨tw, htw⟩ := Ax ((Dx (sl.take k) v.nm).isSome)
    obtain ⟨ov, hov⟩ := Ax (Di (Dx (sl.take k)) v.nm)
    rw [htw, hov] at hlk hlkd
    have HTW := Aa htw
    have HV := Aa hv
    have ybz : b < wz.heap.size := Ac hbk
    have yrz : wr.heap.size < wz.heap.size := Ac hbz
    clear hov htw hvz hv hbz hcz hbk
    go_upto_region 8 with fail
    clear hwz q0 q1 q2 q3 hlk
    by_cases ho : s0 ≤ k
    {have d8 : decide ((N : Int) - ((m.ps.length : Int) + (m.s5.2.1 : Int)) ≤ (k : Int)) = true := decide_eq_true (by have := HNS.out; omega)
     have HO := Aa ho
     clear ho
     go_region
     all_goals (
      try rw [d8]
      go_wp2_with fail
      obtain ⟨wt, hwt⟩ := Ax wz.drew
      rw [hwt]
      have hdt : Ch No wz wt := by rw [← hwt]; exact (Ch.refl _ _).drew
      have HCKT := Aa (HCKZ.out.no hdt)
      have HCT := Aa (HCZ.out.trans (hdt.mono (S' := fun k _ => k = b) (fun _ _ _ h => h.elim)))
      have HOT := Aa (An HOZ.out hdt (fun _ _ _ _ _ h => h))
      have HBMT := Aa (hdt.keep _ _ HBMZ.out (fun h => h))
      have HBT := Aa (hdt.keep _ _ HBZ.out (fun h => h))
      clear hwt hlkd x0 x1 x2 x3 b0 b2 b4 b5 g4 g5 hdt
      have HSx := Aa (show wt.cell? ⟨wr.heap.size, 0, none⟩ = some (.string v.ty) ∧ wt.cell? ⟨wr.heap.size, 1, none⟩ = some (.string v.nm) ∧ wt.cell? ⟨b, 0, none⟩ = some xv from ⟨Ab HBT.out 0, Ab HBT.out 1, Ab HCKT.out.blk 0⟩)
      have HVBN := Aa (show ¬ vbk = b from by omega)
      cases tw with
      | true =>
       have hno := Aa (show ¬ Ky cs sl s0 k v from fun h => by have h1 := (h HO.out).1; have h2 := HTW.out; rw [h1] at h2; cases h2)
       refine wp_region_held_drew (S := fun w' => w'.cell? ⟨wr.heap.size, 0, none⟩ = some (.string v.ty) ∧ w'.cell? ⟨wr.heap.size, 1, none⟩ = some (.string v.nm) ∧ w'.cell? ⟨b, 0, none⟩ = some xv) (by kernel_rfl) HSx.out (fun hHeld => ?_)
       refine tk 0 rfl ?_
       refine tk 1 rfl ?_
       refine tk 2 rfl ?_
       refine tk 3 rfl ?_
       refine tn 4 rfl ?_
       refine tn 5 rfl ?_
       refine tn 6 rfl ?_
       refine tk 7 rfl ?_
       refine tk 8 rfl ?_
       refine tn 9 rfl ?_
       refine tn 10 rfl ?_
       refine tn 11 rfl ?_
       exact Aa1
      | false =>
       have HTN := Aa (show Dx (sl.take k) v.nm = none from by have h2 := HTW.out; cases h3 : Dx (sl.take k) v.nm with | none => rfl | some t => rw [h3] at h2; cases h2)
       by_cases ht : v.nm = F4
       {have hno := Aa (show ¬ Ky cs sl s0 k v from fun h => (h HO.out).2.1 ht)
        have l1 := lit v.nm [116, 104, 105, 115] ht
        clear ht
        refine wp_region_held_drew (S := fun w' => w'.cell? ⟨wr.heap.size, 0, none⟩ = some (.string v.ty) ∧ w'.cell? ⟨wr.heap.size, 1, none⟩ = some (.string v.nm) ∧ w'.cell? ⟨b, 0, none⟩ = some xv) (by kernel_rfl) HSx.out (fun hHeld => ?_)
        refine tk 0 rfl ?_
        refine tk 1 rfl ?_
        refine tk 2 rfl ?_
        refine tk 3 rfl ?_
        refine tk 4 rfl ?_
        refine tk 5 rfl ?_
        refine tk 6 rfl ?_
        refine tk 7 rfl ?_
        refine tk 8 rfl ?_
        refine tn 9 rfl ?_
        refine tn 10 rfl ?_
        refine tn 11 rfl ?_
        exact Aa1}
       {have HTH := Aa ht
        have l1 := Bf v.nm [116, 104, 105, 115] ht
        clear ht
        by_cases hnl : v.ty = D9
        {have hno := Aa (show ¬ Ky cs sl s0 k v from fun h => (h HO.out).2.2.1 hnl)
         have l2 := lit v.ty [110, 117, 108, 108] hnl
         clear hnl
         refine wp_region_held_drew (S := fun w' => w'.cell? ⟨wr.heap.size, 0, none⟩ = some (.string v.ty) ∧ w'.cell? ⟨wr.heap.size, 1, none⟩ = some (.string v.nm) ∧ w'.cell? ⟨b, 0, none⟩ = some xv) (by kernel_rfl) HSx.out (fun hHeld => ?_)
         refine tk 0 rfl ?_
         refine tk 1 rfl ?_
         refine tk 2 rfl ?_
         refine tk 3 rfl ?_
         refine tk 4 rfl ?_
         refine tk 5 rfl ?_
         refine tk 6 rfl ?_
         refine tk 7 rfl ?_
         refine tk 8 rfl ?_
         refine tk 9 rfl ?_
         refine tk 10 rfl ?_
         refine tk 11 rfl ?_
         exact Aa1}
        {have HNL := Aa hnl
         have l2 := Bf v.ty [110, 117, 108, 108] hnl
         clear hnl
         have hxs := xis ((HCKT.out.typ.no ((Ch.refl No wt).alloc (.cells #[.string v.ty] 9))).no ((Ch.refl No _).drew)) (Ah.no (Ah.one (w := wt) [v.ty] (lb rfl)) ((Ch.refl No _).drew)) (fun t ht => by
          have : t = v.ty := by simpa using ht
          rw [this]; exact HVZ.out.2)
         have HSd := Aa (dr3 HSx.out)
         go_region_held3 (fun w' => w'.cell? ⟨wr.heap.size, 0, none⟩ = some (.string v.ty) ∧ w'.cell? ⟨wr.heap.size, 1, none⟩ = some (.string v.nm) ∧ w'.cell? ⟨b, 0, none⟩ = some xv) (first | with_reducible exact HSx.out | with_reducible exact HSd.out | with_reducible exact HS5.out | exact ⟨Ab (w := (wt.alloc (.cells #[.string v.ty] 9)).drew) (Bh HBT.out _) 0, Ab (w := (wt.alloc (.cells #[.string v.ty] 9)).drew) (Bh HBT.out _) 1, Ab (w := (wt.alloc (.cells #[.string v.ty] 9)).drew) (Bh HCKT.out.blk _) 0⟩ | go_keep) (first | (go_at_call 61; refine hxs.mono ?_; rintro e w5 ⟨⟨r5, hr5, hq5⟩, hw5⟩; subst hr5; have HS5 := Aa (show w5.cell? ⟨wr.heap.size, 0, none⟩ = some (.string v.ty) ∧ w5.cell? ⟨wr.heap.size, 1, none⟩ = some (.string v.nm) ∧ w5.cell? ⟨b, 0, none⟩ = some xv from by rw [← hw5]; exact ⟨Ab (Bh HBT.out _) 0, Ab (Bh HBT.out _) 1, Ab (Bh HCKT.out.blk _) 0⟩); have HQ5 := Aa hq5; have HW5 := Aa hw5; clear hq5 hw5 hxs))
         all_goals (
          obtain ⟨wu, hwu⟩ : ∃ wu, wu = w5 := ⟨_, rfl⟩
          subst hwu
          have hdu : Ch No wt wu := by rw [← HW5.out]; exact ((Ch.refl _ _).alloc _).drew
          clear l1 l2 HS5 HSd HW5
          cases r5 with
          | false =>
           have hno := Aa (show ¬ Ky cs sl s0 k v from fun h => by
            have h1 := HQ5.out.2 (fun t ht => by
             have : t = v.ty := by simpa using ht
             rw [this]; exact (h HO.out).2.2.2)
            cases h1)
           exact Aeo
          | true =>
           have hok := Aa (show Ky cs sl s0 k v from fun _ => ⟨HTN.out, HTH.out, HNL.out, HQ5.out.1 rfl v.ty (by simp)⟩)
           have HCKU := Aa (HCKT.out.no hdu)
           have HCU := Aa (HCT.out.trans (hdu.mono (S' := fun k _ => k = b) (fun _ _ _ h => h.elim)))
           have HOU := Aa (An HOT.out hdu (fun _ _ _ _ _ h => h))
           have HBMU := Aa (hdu.keep _ _ HBMT.out (fun h => h))
           have hbu := hdu.keep _ _ HBT.out (fun h => h)
           have hbk := HCKU.out.blk
           obtain ⟨x0, x1⟩ := Co hbu
           have b2 := Ab hbk 2
           obtain ⟨wq, hrun, hm3, hg3⟩ := (HCKU.out.vars.drew).store Gx Tryz.underlying83 (by unfold maxLen; omega) (Gy HVZ.out.1) (.string v.ty)
           have hrun' : (Instr.mapUpdate 83 (.map (some vbk)) (.string v.nm) (.string v.ty)).run Tryz.prog wu.drew = .ok () wq := hrun
           have hgc : Ch (fun k _ => k = vbk) wu wq := ((Ch.refl _ wu).drew).trans ((Ch.refl _ _).grown hg3 (fun _ _ h _ => by cases h; rfl))
           have hbq := hgc.keep _ _ hbk (fun e => HVBN.out e.symm)
           have hmq : A1 Tryz.prog 9 Bx wq vbk (k + 1) (fun s => (Dx (sl.take (k + 1)) s).map Value.string) := by
            exact Aeq
           have HCKQ := Aa (show Bl w0 wq b cs ms xv mb vbk (k + 1) (Dx (sl.take (k + 1))) m.ret l c from ⟨hbq, HCKU.out.typ0, HCKU.out.mem0, Ch.newOnly HCKU.out.ch hgc (fun q o _ e => by have e' : q = vbk := e; have := HCK0.out.ch.size; omega), HCKU.out.ge, hmq⟩)
           have HCQ := Aa (HCU.out.trans' hgc (fun q o ho e => by have e' : q = vbk := e; have := Ac ho; omega))
           have HOQ := Aa (An HOU.out hgc (fun g cur _ hgb _ e => by have e' : g = vbk := e; omega))
           have HBMQ := Aa (hgc.keep _ _ HBMU.out (fun e => hva e))
           clear hdu hbu hbk hrun hm3 hg3 hgc hbq hmq HSx
           go_wp2_with fail
           go_region
           all_goals (
            exact Aep)
          )}})}
    {have d8 : decide ((N : Int) - ((m.ps.length : Int) + (m.s5.2.1 : Int)) ≤ (k : Int)) = false := decide_eq_false (by have := HNS.out; omega)
     have hok := Aa (show Ky cs sl s0 k v from fun h => absurd h ho)
     clear ho
     go_region
     all_goals (
      try rw [d8]
      go_wp2_with fail
      obtain ⟨wt, hwt⟩ := Ax wz.drew
      rw [hwt]
      have hdt : Ch No wz wt := by rw [← hwt]; exact (Ch.refl _ _).drew
      have HCKT := Aa (HCKZ.out.no hdt)
      have HCT := Aa (HCZ.out.trans (hdt.mono (S' := fun k _ => k = b) (fun _ _ _ h => h.elim)))
      have HOT := Aa (An HOZ.out hdt (fun _ _ _ _ _ h => h))
      have HBMT := Aa (hdt.keep _ _ HBMZ.out (fun h => h))
      have HBT := Aa (hdt.keep _ _ HBZ.out (fun h => h))
      clear hwt hlkd x0 x1 x2 x3 b0 b2 b4 b5 g4 g5 hdt
      have HSx := Aa (show wt.cell? ⟨wr.heap.size, 0, none⟩ = some (.string v.ty) ∧ wt.cell? ⟨wr.heap.size, 1, none⟩ = some (.string v.nm) ∧ wt.cell? ⟨b, 0, none⟩ = some xv from ⟨Ab HBT.out 0, Ab HBT.out 1, Ab HCKT.out.blk 0⟩)
      have HVBN := Aa (show ¬ vbk = b from by omega)
      refine wp_region_held_drew (S := fun w' => w'.cell? ⟨wr.heap.size, 0, none⟩ = some (.string v.ty) ∧ w'.cell? ⟨wr.heap.size, 1, none⟩ = some (.string v.nm) ∧ w'.cell? ⟨b, 0, none⟩ = some xv) (by kernel_rfl) HSx.out (fun hHeld => ?_)
      refine tk 0 rfl ?_
      refine tk 1 rfl ?_
      refine tn 2 rfl ?_
      refine tn 3 rfl ?_
      refine tn 4 rfl ?_
      refine tn 5 rfl ?_
      refine tn 6 rfl ?_
      refine tn 7 rfl ?_
      refine tn 8 rfl ?_
      refine tn 9 rfl ?_
      refine tn 10 rfl ?_
      refine tn 11 rfl ?_
      refine tn 12 rfl ?_
      refine tn 13 rfl ?_
      refine tn 14 rfl ?_
      refine tn 15 rfl ?_
      refine tn 16 rfl ?_
      refine tn 17 rfl ?_
      refine tn 18 rfl ?_
      refine tn 19 rfl ?_
      refine tn 20 rfl ?_
      refine tn 21 rfl ?_
      refine tn 22 rfl ?_
      refine tn 23 rfl ?_
      refine tk 24 rfl ?_
      refine wpAnyH_done (by kernel_rfl) ?_ _
      obtain ⟨wu, hwu⟩ := Ax wt.drew
      rw [hwu]
      have hdu : Ch No wt wu := by rw [← hwu]; exact (Ch.refl _ _).drew
      clear hwu
      have HCKU := Aa (HCKT.out.no hdu)
      have HCU := Aa (HCT.out.trans (hdu.mono (S' := fun k _ => k = b) (fun _ _ _ h => h.elim)))
      have HOU := Aa (An HOT.out hdu (fun _ _ _ _ _ h => h))
      have HBMU := Aa (hdu.keep _ _ HBMT.out (fun h => h))
      have hbu := hdu.keep _ _ HBT.out (fun h => h)
      have hbk := HCKU.out.blk
      obtain ⟨x0, x1⟩ := Co hbu
      have b2 := Ab hbk 2
      obtain ⟨wq, hrun, hm3, hg3⟩ := (HCKU.out.vars.drew).store Gx Tryz.underlying83 (by unfold maxLen; omega) (Gy HVZ.out.1) (.string v.ty)
      have hrun' : (Instr.mapUpdate 83 (.map (some vbk)) (.string v.nm) (.string v.ty)).run Tryz.prog wu.drew = .ok () wq := hrun
      have hgc : Ch (fun k _ => k = vbk) wu wq := ((Ch.refl _ wu).drew).trans ((Ch.refl _ _).grown hg3 (fun _ _ h _ => by cases h; rfl))
      have hbq := hgc.keep _ _ hbk (fun e => HVBN.out e.symm)
      have hmq : A1 Tryz.prog 9 Bx wq vbk (k + 1) (fun s => (Dx (sl.take (k + 1)) s).map Value.string) := by
       exact Aeq
      have HCKQ := Aa (show Bl w0 wq b cs ms xv mb vbk (k + 1) (Dx (sl.take (k + 1))) m.ret l c from ⟨hbq, HCKU.out.typ0, HCKU.out.mem0, Ch.newOnly HCKU.out.ch hgc (fun q o _ e => by have e' : q = vbk := e; have := HCK0.out.ch.size; omega), HCKU.out.ge, hmq⟩)
      have HCQ := Aa (HCU.out.trans' hgc (fun q o ho e => by have e' : q = vbk := e; have := Ac ho; omega))
      have HOQ := Aa (An HOU.out hgc (fun g cur _ hgb _ e => by have e' : g = vbk := e; omega))
      have HBMQ := Aa (hgc.keep _ _ HBMU.out (fun e => hva e))
      clear hdu hbu hbk hrun hm3 hg3 hgc hbq hmq HSx
      go_wp2_with fail
      go_region
      all_goals (
       exact Aep)
      )}
   | false =>
    have hkl : ¬ k < N := by simpa using hd
    have hck2 := HCKR.out
    rw [List.take_of_length_le (by have := HNN.out; omega)] at hck2
    have hcall := HST.out wr vbk k l c hck2
    have hbr := HBR.out
    have r6 := Ab hbr 6
    have HALL := Aa (show Hu cs sl s0 from fun j v hv => HVR.out j v (by have := (gL hv); have := HNN.out; omega) hv)
    clear hbr hck2
    go_wp2_with fail
    refine hcall.mono ?_
    rintro e w5 ⟨r, rfl, hr, hc5, vb5, n5, vs5, ret5, l5, c5, hck5, hA⟩
    have HR := Aa hr
    have HC5 := Aa (HCR.out.trans hc5)
    have HK5 := Aa hck5
    have HA := Aa hA
    clear hr hc5 hck5 hA hcall
    go_wp2
    go_ret
    rw [HSL.out, HS0E.out]
    exact ⟨r, rfl, ⟨fun h => ⟨HALL.out, HR.out.1 h⟩, fun h => HR.out.2 h.2⟩, HC5.out, vb5, n5, vs5, ret5, l5, c5, HK5.out, fun h _ => HA.out h⟩)
end Go.Proofs.YtgjpgfedlgdjhaaGreatDoor
end
