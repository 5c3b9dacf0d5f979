/- Part 5. -/
import Derived.Test.YtgjpgfedlgdjhaaGreatDoorYac
set_option linter.unusedVariables false
set_option linter.unusedSimpArgs false
set_option maxHeartbeats 64000000
set_option maxRecDepth 8192
section
namespace Go.Proofs.YtgjpgfedlgdjhaaGreatDoor
open Go.RowKit Go.W
theorem Ya {w : World} {mb n : Nat} {cs : List Aj} (h : A1 Tryz.prog 9 Bx w mb n (Ec (As cs))) {nm : ByteArray} (hn : nm.size ≤ maxLen) :
 (Instr.lookup 142 (.map (some mb)) (.string nm) true).run Tryz.prog w = .ok (.tuple #[.int .i64 (G5 (As cs) nm), .bool (Cd (As cs) nm)]) w := by
 have hrun := h.lookOk Gx Tryz.underlying142 (Th w) (Gy hn)
 have e1 : ((Ec (As cs) nm).getD (.int .i64 0)) = .int .i64 (G5 (As cs) nm) := by
  unfold Ec G5; cases As cs nm <;> rfl
 have e2 : (Ec (As cs) nm).isSome = Cd (As cs) nm := by
  unfold Ec Cd; cases As cs nm <;> rfl
 rw [e1, e2] at hrun
 exact hrun
theorem L4 {w : World} {mb n : Nat} {cs : List Aj} (h : A1 Tryz.prog 9 Bx w mb n (Ec (As cs))) {nm : ByteArray} (hn : nm.size ≤ maxLen) (hf : As cs nm = none) :
 (Instr.lookup 142 (.map (some mb)) (.string nm) true).run Tryz.prog w = .ok (.tuple #[.int .i64 0, .bool false]) w := by
 rw [Ya h hn]; simp [G5, Cd, hf]
theorem Jk {w : World} {mb n : Nat} {cs : List Aj} (h : A1 Tryz.prog 9 Bx w mb n (Ec (As cs))) {nm : ByteArray} (hn : nm.size ≤ maxLen) {i : Nat} (hf : As cs nm = some i) :
 (Instr.lookup 142 (.map (some mb)) (.string nm) true).run Tryz.prog w = .ok (.tuple #[.int .i64 (i : Int), .bool true]) w := by
 rw [Ya h hn]; simp [G5, Cd, hf]
theorem zt2 {p : Prop} (h : p := by
 rw [hin] at hco
 have HIN := Aa hin
 clear hin
 have hlen1 : (O1 cs c k).length + [(j : Int)].length ≤ 10000000 := by rw [Pb hk, List.length_singleton]; omega
 go_wp2_with (first | (go_at_call 106; refine hco.mono ?_; rintro e w6 ⟨rfl, rfl⟩) | (at_builtin; go_must (refine Js rfl _ _ rfl (wc.heap.size + 1) _ (O1 cs c k) [(j : Int)] rfl (HOW.out.alloc _) (.slice (some ⟨wr.heap.size, 0, none⟩) 1 1) rfl (Ga wr _) Nat.zero_lt_one hlen1 (by (simp; omega)) ?_)))
 intro v4 w4 hown4 hgrow4 _
 obtain ⟨fa4, fc4, rfl⟩ := hown4.shape
 rw [List.length_append, Pb hk, List.length_singleton] at hown4
 rw [List.length_append, Pb hk, List.length_singleton]
 have hch4 := Na hgrow4
 have hlt : ∀ j, (Value.slice fa k fcp).ownBlock = some j → wc.heap.size + 1 ≤ j := fun j hj => (HOW.out.lt j hj).1
 have hkb4 := hch4.keep _ _ HKB.out (fun h => by have := hlt _ h; omega)
 have hc4 : Ch No wc w4 := HC2.out.trans' hch4 (fun j o ho h => by have := hlt _ h; have := Ac ho; omega)
 have kc3 := Ab hkb4 3
 have kg3 := Ad hkb4 3
 have hkz4 := Ac hkb4
 have HG := Aa hkb4
 have HO4 := Aa hown4
 have HC4 := Aa hc4
 clear hgrow4 hch4 hlt hkb4 hown4 hc4 R Z FR kb0 kb1 kb2 kb3 kf0 kf1 kf2 kf3
 go_wp2
 go_roundg (c.faces.length - k - 1)
 case rel =>
  refine ⟨k + 1, fa4, fc4, by omega, by omega, by go_num, Aa (Wq HN.out HX.out HF.out HD.out hfd ?_), ?_, ?_, HC4.out.setNew (Nat.le_refl _) _⟩
  {intro hm
   have := (Tm HN.out HF.out).2 hm
   have h2 := HIN.out
   simp only [decide_eq_false_iff_not] at h2
   exact h2 this}
  {rw [Af HG.out]; rfl}
  {rw [Wp HX.out HF.out]
   refine Al.ch (S := fun k _ => k = wc.heap.size) ?_ ((Ch.refl _ _).setCell (fun _ _ => rfl) _) (fun g o hg hbg ho e => by have e' : g = wc.heap.size := e; omega)
   exact HO4.out}
 case measure => omega
 ) : p := h
theorem zt3 {p : Prop} (h : p := by
 refine ⟨((HCH.out.trans HCC.out).trans HC2.out).trans' hfc (fun j o ho e => by have e' : j = wb.heap.size := e; have := Ac ho; omega), .inr ⟨fun h => ?_, _, _, _, _, rfl⟩⟩
 obtain ⟨⟨j', d', h5, h6, h7⟩, _⟩ := h.faces k x hkl HX.out
 rw [HF.out] at h5; cases h5
 rw [HD.out] at h6; cases h6
 rw [hfd] at h7; cases h7
 ) : p := h
theorem zt4 {p : Prop} (h : p := by
 refine ⟨((HCH.out.trans HCC.out).trans HC2.out).trans' hfc (fun j o ho e => by have e' : j = wb.heap.size := e; have := Ac ho; omega), .inr ⟨fun h => ?_, _, _, _, _, rfl⟩⟩
 have hm : (j : Int) ∈ O1 cs c k := by simpa using HIN.out
 exact Zi HX.out ((Tm HN.out HF.out).1 hm) h.faces
 ) : p := h
theorem zt5 {p : Prop} (h : p := by
 refine ⟨((HCH.out.trans HCC.out).trans HC2.out).trans' hfc (fun j o ho e => by have e' : j = wb.heap.size := e; have := Ac ho; omega), .inr ⟨fun h => ?_, _, _, _, _, rfl⟩⟩
 obtain ⟨⟨j, d, h5, _⟩, _⟩ := h.faces k x hkl HX.out
 rw [HF.out] at h5; cases h5
 ) : p := h
set_option maxRecDepth 100000 in
theorem Abe {w : World} {pv tv : Value} {cs : List Aj} {mb mn : Nat} (h : Cz w pv cs) (hm : A1 Tryz.prog 9 Bx w mb mn (Ec (As cs))) (hsz : Sv cs) {i : Nat} {c : Aj} (hi : cs[i]? = some c) (hl : c.faces.length ≤ 1000) :
 Calls Tryz.prog 71 #[tv, pv, .map (some mb), .agg #[.string c.name, .string c.sup, .bool c.face, .slice c.fa c.faces.length c.fc, .slice c.s4.1 c.s4.2.1 c.s4.2.2, .slice c.s5.1 c.s5.2.1 c.s5.2.2, .slice c.s6.1 c.s6.2.1 c.s6.2.2, .pointer c.p7, .int .i64 c.line, .int .i64 c.col]] w (Wo cs c w) := by
 have hst := h.clss c hi
 obtain ⟨fa0, hfa0⟩ := Ax c.fa
 rw [hfa0] at hst ⊢
 clear hfa0
 have HM := Aa hm
 obtain ⟨z1, z2, z3⟩ := hsz c (mG hi)
 have HZ3 := Aa z3
 clear z3 hsz hm
 have hp := h
 obtain ⟨cv, m0, m1, m2, m3, m4, m5, m6, m7, m8, rfl, h⟩ := h
 obtain ⟨ao, cap, rfl, hcap, hmax, _, _⟩ := h.row
 rw [List.length_map] at hcap h hp ⊢
 obtain ⟨len, Av⟩ := Ax cs.length
 rw [Av] at hcap h hp ⊢
 unfold maxLen at hmax
 obtain ⟨wa, hwa, hpb, hch⟩ := A2 w (.cells #[.slice ao len cap, m0, m1, m2, m3, m4, m5, m6, m7, m8] 31)
 have HL := Aa Av
 have HP := Aa (hp.no hch)
 have HC := Aa (h.no hch)
 have HPB := Aa hpb
 have HCH := Aa hch
 obtain ⟨p0, p1, p2, p3, p4, p5, p6, p7, p8, p9⟩ := Cp hpb
 have hz := Ac hpb
 clear Av h hp hpb hch
 have HST := Aa (hst.no HCH.out)
 obtain ⟨wb, hwb, hcb, hcc⟩ := A2 wa (.cells #[.string c.name, .string c.sup, .bool c.face, .slice fa0 c.faces.length c.fc, .slice c.s4.1 c.s4.2.1 c.s4.2.2, .slice c.s5.1 c.s5.2.1 c.s5.2.2, .slice c.s6.1 c.s6.2.1 c.s6.2.2, .pointer c.p7, .int .i64 c.line, .int .i64 c.col] 50)
 obtain ⟨wc, hwc, hrb, hcr⟩ := A2 wb (.cells #[.string { data := #[] }, .bool false, .int .i64 0, .slice none 0 0] 147)
 have HCC := Aa (hcc.trans hcr)
 have hpc := (hcc.trans hcr).keep _ _ HPB.out (fun h => h)
 have hdc := hcr.keep _ _ hcb (fun h => h)
 have HRB := Aa hrb
 clear p0 p1 p2 p3 p4 p5 p6 p7 p8 p9
 obtain ⟨p0, p1, p2, p3, p4, p5, p6, p7, p8, p9⟩ := Cp hpc
 obtain ⟨d0, d1, d2, d3, d4, d5, d6, d7, d8, d9⟩ := Cp hdc
 obtain ⟨r0, r1, r2, r3⟩ := F9 hrb
 obtain ⟨f0, f1, f2, f3⟩ := Y5 hrb
 have z5 := Ac hpc
 have z6 := Ac hdc
 have z7 := Ac hrb
 have z8 := Ac hcb
 have HM1 := Aa (HM.out.ch (HCH.out.trans HCC.out) (fun _ _ h => h))
 have HS1 := Aa (HST.out.no HCC.out)
 have HP1 := Aa (HP.out.no HCC.out)
 have HC1 := Aa (HC.out.no HCC.out)
 clear hcb hcc hrb hcr hpc hdc
 go_in
 have HBR := Aa (((Ch.refl No wc).alloc (.cells #[.string c.name, .bool c.face, .int .i64 (-1), .slice none 0 0] 147)).keep _ _ HRB.out (fun h => h))
 cases hs : c.sup.toList.isEmpty with
 | true =>
  go_wp2_with fail
  clear hwa hwb hwc
  have HKB0 := Aa (heap_alloc_new wc (.cells #[.string c.name, .bool c.face, .int .i64 (-1), .slice none 0 0] 147))
  go_loopg [48] c.faces.length (fun g s48 wr => ∃ (k : Nat) (fa : Option Addr) (fc : Nat), k ≤ c.faces.length ∧ c.faces.length - k ≤ g ∧ s48 = .int .i64 k ∧ Hid (X7 cs c k) ∧ wr.heap[wc.heap.size]? = some (.cells #[.string c.name, .bool c.face, .int .i64 (-1), .slice fa k fc] 147 (0, 0)) ∧ Al wr (wc.heap.size + 1) (.slice fa k fc) (O1 cs c k) ∧ Ch No wc wr)
  case atStart => exact ⟨0, _, _, Nat.zero_le _, by omega, rfl, Aa (fun k f h => absurd h (Nat.not_lt_zero _)), HKB0.out, Al.nil _ _, (Ch.refl _ _).alloc _⟩
  case round =>
   obtain ⟨k, fa, fcp, hk, hg, rfl, HN, hkb, hown, hc⟩ := hrel
   obtain ⟨R, Z⟩ := Qd hc
   have FR := Ti hc
   have hkz := Ac hkb
   obtain ⟨kb0, kb1, kb2, kb3⟩ := F9 hkb
   obtain ⟨kf0, kf1, kf2, kf3⟩ := Y5 hkb
   have HKB := Aa hkb
   have HOW := Aa hown
   have HC2 := Aa hc
   clear hkb hown hc
   cases hd : decide (k < c.faces.length) with
   | false =>
    have hkl : ¬ k < c.faces.length := by simpa using hd
    go_wp2_with fail
    obtain ⟨wf, hwf, hfb, hfc⟩ := Jw (HC2.out.keep _ _ HRB.out (fun h => h)) (.string c.name) (.bool c.face) (.int .i64 (-1)) (.slice fa k fcp)
    rw [hwf]
    obtain ⟨k0, k1, k2, k3⟩ := F9 hfb
    refine bodyPost_ret (v := .tuple #[.agg #[.string c.name, .bool c.face, .int .i64 (-1), .slice fa k fcp], .bool true]) (by simp [results, Tryz.results71, go_sem, k0, k1, k2, k3]) rfl ?_
    have hlast := HOW.out
    rw [Tj (by omega)] at hlast
    have ekl : k = c.faces.length := by omega
    refine ⟨((HCH.out.trans HCC.out).trans HC2.out).trans' hfc (fun j o ho e => by have e' : j = wb.heap.size := e; have := Ac ho; omega), .inl ⟨⟨(fun h => by rw [hs] at h; cases h), by rw [← ekl]; exact HN.out⟩, fa, fcp, by rw [Qe hs, ekl], ?_⟩⟩
    rw [ekl] at hlast
    refine (hlast.ch hfc (fun g o hg hbg ho e => by have e' : g = wb.heap.size := e; omega)).base (by omega)
   | true =>
    have hkl : k < c.faces.length := by simpa using hd
    obtain ⟨x, hx⟩ : ∃ x, c.faces[k]? = some x := ⟨_, List.getElem?_eq_getElem hkl⟩
    obtain ⟨_, fb, fo, hfa, hq⟩ := (HS1.out.no HC2.out).cell hx
    have hxs := HZ3.out x (mG hx)
    subst hfa
    have HX := Aa hx
    clear hx
    have hmr := HM1.out.ch HC2.out (fun _ _ h => h)
    cases hf : As cs x with
    | none =>
     have hlk := L4 hmr hxs hf
     have HF := Aa hf
     clear hf hmr
     go_wp2_with fail
     obtain ⟨wf, hwf, hfb, hfc⟩ := Jw (HC2.out.keep _ _ HRB.out (fun h => h)) (.string c.name) (.bool c.face) (.int .i64 (-1)) (.slice fa k fcp)
     rw [hwf]
     obtain ⟨k0, k1, k2, k3⟩ := F9 hfb
     refine bodyPost_ret (v := .tuple #[.agg #[.string c.name, .bool c.face, .int .i64 (-1), .slice fa k fcp], .bool false]) (by simp [results, Tryz.results71, go_sem, k0, k1, k2, k3]) rfl ?_
     exact zt5
    | some j =>
     obtain ⟨d, hdj, _⟩ := C5 hf
     have hlk := Jk hmr hxs hf
     have hfc0 := HC1.out.cell hdj
     obtain ⟨cb, co, cc, ecs, hcell, _, _⟩ := hfc0
     rw [HL.out] at ecs
     cases ecs
     have q2 := hcell.q2
     have qzz := block_lt_of_cell q2
     have hjl : j < len := by have := (gL hdj); have := HL.out; omega
     have HF := Aa hf
     have HD := Aa hdj
     clear hf hmr hdj hcell
     cases hfd : d.face with
     | false =>
      rw [hfd] at q2
      go_wp2_with fail
      obtain ⟨wf, hwf, hfb, hfc⟩ := Jw (HC2.out.keep _ _ HRB.out (fun h => h)) (.string c.name) (.bool c.face) (.int .i64 (-1)) (.slice fa k fcp)
      rw [hwf]
      obtain ⟨k0, k1, k2, k3⟩ := F9 hfb
      refine bodyPost_ret (v := .tuple #[.agg #[.string c.name, .bool c.face, .int .i64 (-1), .slice fa k fcp], .bool false]) (by simp [results, Tryz.results71, go_sem, k0, k1, k2, k3]) rfl ?_
      exact zt3
     | true =>
      rw [hfd] at q2
      have hco := Jv HOW.out.at_ (j : Int)
      cases hin : decide ((j : Int) ∈ O1 cs c k) with
      | true =>
       rw [hin] at hco
       have HIN := Aa hin
       clear hin
       go_wp2_with fail
       refine hco.mono ?_
       rintro e w6 ⟨rfl, rfl⟩
       go_wp2_with fail
       obtain ⟨wf, hwf, hfb, hfc⟩ := Jw (HC2.out.keep _ _ HRB.out (fun h => h)) (.string c.name) (.bool c.face) (.int .i64 (-1)) (.slice fa k fcp)
       rw [hwf]
       obtain ⟨k0, k1, k2, k3⟩ := F9 hfb
       refine bodyPost_ret (v := .tuple #[.agg #[.string c.name, .bool c.face, .int .i64 (-1), .slice fa k fcp], .bool false]) (by simp [results, Tryz.results71, go_sem, k0, k1, k2, k3]) rfl ?_
       exact zt4
      | false =>
       exact zt2
 | false =>
  cases hfs : As cs c.sup with
  | none =>
   have hlk := L4 (HM1.out.ch ((Ch.refl No wc).alloc (.cells #[.string c.name, .bool c.face, .int .i64 (-1), .slice none 0 0] 147)) (fun _ _ h => h)) z2 hfs
   have HF := Aa hfs
   clear hfs
   go_wp2_with fail
   obtain ⟨wf, hwf, hfb, hfc⟩ := Jw (HRB.out) (.string c.name) (.bool c.face) (.int .i64 (-1)) (.slice none 0 0)
   rw [hwf]
   obtain ⟨k0, k1, k2, k3⟩ := F9 hfb
   have kz := Ac hfb
   refine bodyPost_ret (v := .tuple #[.agg #[.string c.name, .bool c.face, .int .i64 (-1), .slice none 0 0], .bool false]) (by simp [results, Tryz.results71, go_sem, k0, k1, k2, k3, kz]) rfl ?_
   refine ⟨((HCH.out.trans HCC.out).trans' hfc (fun j o ho e => by have e' : j = wb.heap.size := e; have := Ac ho; omega)).alloc _, .inr ⟨fun h => ?_, _, _, _, _, rfl⟩⟩
   obtain ⟨s, d, h5, _⟩ := h.sup hs
   rw [HF.out] at h5; cases h5
  | some s =>
   obtain ⟨ds, hds, _⟩ := C5 hfs
   have hlk := Jk (HM1.out.ch ((Ch.refl No wc).alloc (.cells #[.string c.name, .bool c.face, .int .i64 (-1), .slice none 0 0] 147)) (fun _ _ h => h)) z2 hfs
   obtain ⟨cb, co, cc, ecs, hcell, _, _⟩ := HC1.out.cell hds
   rw [HL.out] at ecs
   cases ecs
   have qs2 := hcell.q2
   have qz := block_lt_of_cell qs2
   have hjl : s < len := by have := (gL hds); have := HL.out; omega
   have HFS := Aa hfs
   have HDS := Aa hds
   clear hfs hds hcell
   cases hsf : ds.face with
   | true =>
    rw [hsf] at qs2
    go_wp2_with fail
    obtain ⟨wf, hwf, hfb, hfc⟩ := Jw (HRB.out) (.string c.name) (.bool c.face) (.int .i64 (-1)) (.slice none 0 0)
    rw [hwf]
    obtain ⟨k0, k1, k2, k3⟩ := F9 hfb
    have kz := Ac hfb
    refine bodyPost_ret (v := .tuple #[.agg #[.string c.name, .bool c.face, .int .i64 (-1), .slice none 0 0], .bool false]) (by simp [results, Tryz.results71, go_sem, k0, k1, k2, k3, kz]) rfl ?_
    refine ⟨((HCH.out.trans HCC.out).trans' hfc (fun j o ho e => by have e' : j = wb.heap.size := e; have := Ac ho; omega)).alloc _, .inr ⟨fun h => ?_, _, _, _, _, rfl⟩⟩
    obtain ⟨s', d', h5, h6, h7⟩ := h.sup hs
    rw [HFS.out] at h5; cases h5
    rw [HDS.out] at h6; cases h6
    rw [hsf] at h7; cases h7
   | false =>
    rw [hsf] at qs2
    go_wp2_with fail
    clear hwa hwb hwc
    have HKB0 := Aa (heap_alloc_new wc (.cells #[.string c.name, .bool c.face, .int .i64 (s : Int), .slice none 0 0] 147))
    go_loopg [48] c.faces.length (fun g s48 wr => ∃ (k : Nat) (fa : Option Addr) (fc : Nat), k ≤ c.faces.length ∧ c.faces.length - k ≤ g ∧ s48 = .int .i64 k ∧ Hid (X7 cs c k) ∧ wr.heap[wc.heap.size]? = some (.cells #[.string c.name, .bool c.face, .int .i64 (s), .slice fa k fc] 147 (0, 0)) ∧ Al wr (wc.heap.size + 1) (.slice fa k fc) (O1 cs c k) ∧ Ch No wc wr)
    case atStart => exact ⟨0, _, _, Nat.zero_le _, by omega, rfl, Aa (fun k f h => absurd h (Nat.not_lt_zero _)), HKB0.out, Al.nil _ _, (Ch.refl _ _).alloc _⟩
    case round =>
     obtain ⟨k, fa, fcp, hk, hg, rfl, HN, hkb, hown, hc⟩ := hrel
     obtain ⟨R, Z⟩ := Qd hc
     have FR := Ti hc
     have hkz := Ac hkb
     obtain ⟨kb0, kb1, kb2, kb3⟩ := F9 hkb
     obtain ⟨kf0, kf1, kf2, kf3⟩ := Y5 hkb
     have HKB := Aa hkb
     have HOW := Aa hown
     have HC2 := Aa hc
     clear hkb hown hc
     cases hd : decide (k < c.faces.length) with
     | false =>
      have hkl : ¬ k < c.faces.length := by simpa using hd
      go_wp2_with fail
      obtain ⟨wf, hwf, hfb, hfc⟩ := Jw (HC2.out.keep _ _ HRB.out (fun h => h)) (.string c.name) (.bool c.face) (.int .i64 (s)) (.slice fa k fcp)
      rw [hwf]
      obtain ⟨k0, k1, k2, k3⟩ := F9 hfb
      refine bodyPost_ret (v := .tuple #[.agg #[.string c.name, .bool c.face, .int .i64 (s), .slice fa k fcp], .bool true]) (by simp [results, Tryz.results71, go_sem, k0, k1, k2, k3]) rfl ?_
      have hlast := HOW.out
      rw [Tj (by omega)] at hlast
      have ekl : k = c.faces.length := by omega
      refine ⟨((HCH.out.trans HCC.out).trans HC2.out).trans' hfc (fun j o ho e => by have e' : j = wb.heap.size := e; have := Ac ho; omega), .inl ⟨⟨(fun _ => ⟨s, ds, HFS.out, HDS.out, hsf⟩), by rw [← ekl]; exact HN.out⟩, fa, fcp, by rw [Nd hs, Dg HFS.out, ekl], ?_⟩⟩
      rw [ekl] at hlast
      refine (hlast.ch hfc (fun g o hg hbg ho e => by have e' : g = wb.heap.size := e; omega)).base (by omega)
     | true =>
      have hkl : k < c.faces.length := by simpa using hd
      obtain ⟨x, hx⟩ : ∃ x, c.faces[k]? = some x := ⟨_, List.getElem?_eq_getElem hkl⟩
      obtain ⟨_, fb, fo, hfa, hq⟩ := (HS1.out.no HC2.out).cell hx
      have hxs := HZ3.out x (mG hx)
      subst hfa
      have HX := Aa hx
      clear hx
      have hmr := HM1.out.ch HC2.out (fun _ _ h => h)
      cases hf : As cs x with
      | none =>
       have hlk := L4 hmr hxs hf
       have HF := Aa hf
       clear hf hmr
       go_wp2_with fail
       obtain ⟨wf, hwf, hfb, hfc⟩ := Jw (HC2.out.keep _ _ HRB.out (fun h => h)) (.string c.name) (.bool c.face) (.int .i64 (s)) (.slice fa k fcp)
       rw [hwf]
       obtain ⟨k0, k1, k2, k3⟩ := F9 hfb
       refine bodyPost_ret (v := .tuple #[.agg #[.string c.name, .bool c.face, .int .i64 (s), .slice fa k fcp], .bool false]) (by simp [results, Tryz.results71, go_sem, k0, k1, k2, k3]) rfl ?_
       exact zt5
      | some j =>
       obtain ⟨d, hdj, _⟩ := C5 hf
       have hlk := Jk hmr hxs hf
       have hfc0 := HC1.out.cell hdj
       obtain ⟨cb, co, cc, ecs, hcell, _, _⟩ := hfc0
       rw [HL.out] at ecs
       cases ecs
       have q2 := hcell.q2
       have qzz := block_lt_of_cell q2
       have hjl : j < len := by have := (gL hdj); have := HL.out; omega
       have HF := Aa hf
       have HD := Aa hdj
       clear hf hmr hdj hcell
       cases hfd : d.face with
       | false =>
        rw [hfd] at q2
        go_wp2_with fail
        obtain ⟨wf, hwf, hfb, hfc⟩ := Jw (HC2.out.keep _ _ HRB.out (fun h => h)) (.string c.name) (.bool c.face) (.int .i64 (s)) (.slice fa k fcp)
        rw [hwf]
        obtain ⟨k0, k1, k2, k3⟩ := F9 hfb
        refine bodyPost_ret (v := .tuple #[.agg #[.string c.name, .bool c.face, .int .i64 (s), .slice fa k fcp], .bool false]) (by simp [results, Tryz.results71, go_sem, k0, k1, k2, k3]) rfl ?_
        exact zt3
       | true =>
        rw [hfd] at q2
        have hco := Jv HOW.out.at_ (j : Int)
        cases hin : decide ((j : Int) ∈ O1 cs c k) with
        | true =>
         rw [hin] at hco
         have HIN := Aa hin
         clear hin
         go_wp2_with fail
         refine hco.mono ?_
         rintro e w6 ⟨rfl, rfl⟩
         go_wp2_with fail
         obtain ⟨wf, hwf, hfb, hfc⟩ := Jw (HC2.out.keep _ _ HRB.out (fun h => h)) (.string c.name) (.bool c.face) (.int .i64 (s)) (.slice fa k fcp)
         rw [hwf]
         obtain ⟨k0, k1, k2, k3⟩ := F9 hfb
         refine bodyPost_ret (v := .tuple #[.agg #[.string c.name, .bool c.face, .int .i64 (s), .slice fa k fcp], .bool false]) (by simp [results, Tryz.results71, go_sem, k0, k1, k2, k3]) rfl ?_
         exact zt4
        | false =>
         exact zt2
end Go.Proofs.YtgjpgfedlgdjhaaGreatDoor
end
