/- Part 10. -/
import Derived.Test.YtgjpgfedlgdjhaaGreatDoorYai
import Derived.Deep.RegionHeld3
import Derived.Test.YtgjpgfedlgdjhaaGreatDoorYag
set_option linter.unusedVariables false
set_option linter.unusedSimpArgs false
set_option maxHeartbeats 64000000
set_option maxRecDepth 8192
section
namespace Go.Proofs.YtgjpgfedlgdjhaaGreatDoor
open Go.RowKit Go.W
theorem noS {w : World} {e : TypeId} {v : Value} {base : Nat} : ∀ g cur, v.ownBlock = some g → base ≤ g → w.heap[g]? = some (.cells cur e (0, 0)) → ¬ No g (.cells cur e (0, 0)) := fun _ _ _ _ _ h => h
theorem Qx {S : Nat → Obj → Prop} {n : Nat} {a b : World} (h : n ≤ a.heap.size) (hc : Ch S a b) : n ≤ b.heap.size := Nat.le_trans h hc.size
theorem Us {w : World} {base base' sz n : Nat} {e : TypeId} {v : Value} {xs : List Value} (h : w.ownsRow base e sz v n xs) (hb : base' ≤ base) : w.ownsRow base' e sz v n xs := by
 refine ⟨h.1, ?_⟩
 rcases h.2 with h | ⟨g, cap, cur, h1, h2, h3⟩
 {exact .inl h}
 {exact .inr ⟨g, cap, cur, h1, Nat.le_trans hb h2, h3⟩}
structure Tk where
 kind : Int
 text : ByteArray
 line : Int
 col : Int
def Tk.cells (t : Tk) : List Value := [.int .i64 t.kind, .string t.text, .int .i64 t.line, .int .i64 t.col]
theorem Acm (t : Tk) : ∀ u ∈ t.cells, u.oneCell' = true := by
 intro u hu
 simp [Tk.cells] at hu
 rcases hu with rfl | rfl | rfl | rfl <;> rfl
theorem Xf {l : List UInt8} {a : Nat} (h : a < l.length) : a < (C3 l a).1 ∧ (C3 l a).1 ≤ l.length := by
 have h1 := Me Kv l (a + 1) h
 have h2 := Me Kw l (a + 1) h
 have h3 := Me Nx l (a + 1) h
 unfold C3
 simp only
 repeat' split
 all_goals (try simp only; try omega)
 rename_i h5
 have := (List.getElem?_eq_some_iff.1 h5.2).1
 omega
def Lp (s : ByteArray) (a : Nat) : Tk := ⟨(C3 s.data.toList a).2.1, s.extract a (C3 s.data.toList a).1, (Bs s.data.toList a).1, (Bs s.data.toList a).2⟩
def Cm (s : ByteArray) : Nat → Nat → Option (List Tk)
 | 0, _ => some []
 | f + 1, a => if a < s.size then (if (C3 s.data.toList a).2.2 = 0 then (Cm s f (C3 s.data.toList a).1).map (fun r => if 0 ≤ (C3 s.data.toList a).2.1 then Lp s a :: r else r) else none) else some []
theorem Tryz.infoTok : (Tryz.prog.info? 116).map (fun i => (i.zero.map (fun z => z.cells.size), i.size, i.bytes)) = some (some 4, 4, 40) := by kernel_rfl
theorem Tryz.sliceTok : Tryz.prog.underlying 77 = some (.slice 116) := by kernel_rfl
def Xg (s : ByteArray) (w : World) (e : Ending) (w' : World) : Prop :=
 Ch No w w' ∧ ((∃ L v, s.size ≤ 20000 ∧ Cm s (s.size + 1) 0 = some L ∧ L.length ≤ s.size ∧ e = .returned (.tuple #[v, .agg #[.int .i64 (Bs s.data.toList s.size).1, .int .i64 (Bs s.data.toList s.size).2], .agg #[.int .i64 0, .int .i64 0, .int .i64 0]]) ∧ w'.ownsRow w.heap.size 116 4 v L.length (L.map Tk.cells).flatten) ∨
  (∃ er l c, (s.size ≤ 20000 → Cm s (s.size + 1) 0 = none) ∧ er ≠ 0 ∧ e = .returned (.tuple #[.slice none 0 0, .agg #[.int .i64 0, .int .i64 0], .agg #[.int .i64 er, .int .i64 l, .int .i64 c]])))
theorem Xh (w : World) (s : ByteArray) (hs : s.size ≤ maxLen) : Calls Tryz.prog 53 #[.string s] w (Xg s w) := by
 obtain ⟨wa, hwa, hba, hca⟩ := A2 w (.cells #[.int .i64 0, .int .i64 0] 27)
 obtain ⟨wb, hwb, hbb, hcb⟩ := A2 wa (.cells #[.int .i64 0, .int .i64 0, .int .i64 0] 34)
 have HA := Aa (hcb.keep _ _ hba (fun h => h))
 have HB := Aa hbb
 have HC := Aa (hca.trans hcb)
 have y1 := Ac hba
 have y2 := Ac hbb
 unfold maxLen at hs
 by_cases hbig : s.size ≤ 20000
 {clear hba hbb hca hcb
  go_in
  go_wp2_with fail
  clear hwa hwb
  go_loopg [2, 5, 6, 7, 8, 9, 10] s.size (fun gg s2 s5 s6 s7 s8 s9 s10 wr => ∃ (k f : Nat) (acc : List Tk) (ta : Option Addr) (tc : Nat), k ≤ s.size ∧ s.size - k ≤ gg ∧ s6 = .int .i64 k ∧ acc.length ≤ k ∧ s.size + 1 ≤ f + k ∧ s5 = .slice ta acc.length tc ∧ Hid (Cm s (s.size + 1) 0 = (Cm s f k).map (acc ++ ·)) ∧ Hid (wr.heap[w.heap.size]? = some (.cells #[.int .i64 0, .int .i64 0] 27 (0, 0)) ∧ wr.heap[wa.heap.size]? = some (.cells #[.int .i64 0, .int .i64 0, .int .i64 0] 34 (0, 0)) ∧ Ch No w wr ∧ wb.heap.size ≤ wr.heap.size) ∧ Hid (wr.ownsRow wb.heap.size 116 4 (.slice ta acc.length tc) acc.length (acc.map Tk.cells).flatten))
  case atStart => exact ⟨0, s.size + 1, [], none, 0, Nat.zero_le _, by omega, rfl, Nat.zero_le _, by omega, rfl, Aa (by simp), Aa ⟨HA.out, HB.out, HC.out, Nat.le_refl _⟩, Aa (World.ownsRow_nil _ _ _ _)⟩
  case round =>
   obtain ⟨k, f, acc, ta, tc, hk, hg, rfl, hak, hf, rfl, HTK, HW, HO⟩ := hrel
   obtain ⟨n, hn⟩ := Ax acc.length
   rw [hn] at hak HO ⊢
   have HN := Aa hn
   clear hn
   cases hd : decide (k < s.size) with
   | true =>
    have hks : k < s.size := by simpa using hd
    obtain ⟨f, rfl⟩ : ∃ f', f = f' + 1 := ⟨f - 1, by omega⟩
    have hlt := Xf (l := s.data.toList) (a := k) (by rw [show s.data.toList.length = s.size from Array.length_toList]; exact hks)
    rw [show s.data.toList.length = s.size from Array.length_toList] at hlt
    have hend := Afm wr s k hks (by omega)
    have htk : Cm s (f + 1) k = if (C3 s.data.toList k).2.2 = 0 then (Cm s f (C3 s.data.toList k).1).map (fun r => if 0 ≤ (C3 s.data.toList k).2.1 then Lp s k :: r else r) else none := by
     show (if k < s.size then _ else _) = _
     rw [if_pos hks]
    have htA : Lp s k = ⟨(C3 s.data.toList k).2.1, s.extract k (C3 s.data.toList k).1, (Bs s.data.toList k).1, (Bs s.data.toList k).2⟩ := rfl
    obtain ⟨E, hE⟩ := Ax (C3 s.data.toList k)
    obtain ⟨tt, kd, er⟩ := E
    rw [hE] at hlt hend htk htA
    simp only at hlt hend htk htA
    have HTKK := Aa htk
    have HTA := Aa htA
    clear htk hE htA
    by_cases her : er = 0
    {subst her
     by_cases hkd : 0 ≤ kd
     {have HTQ := Aa (show Cm s (s.size + 1) 0 = (Cm s f tt).map ((acc ++ [Lp s k]) ++ ·) from by rw [HTK.out, HTKK.out, if_pos rfl]; cases Cm s f tt <;> simp [hkd])
      have d2 : decide (kd ≥ 0) = true := decide_eq_true hkd
      have hn1 : n + 1 ≤ 100000 := by omega
      have hkt : k ≤ tt := by omega
      go_wp2_with fail
      refine hend.mono ?_
      rintro e w1 ⟨rfl, rfl⟩
      go_wp2_with fail
      clear hend
      have hpl := Pk wr.drew s k (by omega) (by omega)
      have HWR := HW
      go_region_law (first | (refine Dr rfl _ _ rfl Tryz.sliceTok Tryz.infoTok (lb rfl) (lb rfl) wb.heap.size (.slice ta n tc) n _ rfl HROW.out w1.heap.size 1 1 (Tk.cells ⟨kd, s.extract k tt, (Bs s.data.toList k).1, (Bs s.data.toList k).2⟩) rfl rfl (heap_alloc_new w1 _) (Acm _) hn1 hbase ?_; intro v7 w7 hr7 hc7; obtain ⟨a7, c7, e7, _, _⟩ := Ik hr7; subst e7; have HR7 := Aa hr7; have HC7 := Aa hc7; clear hr7 hc7) | (go_simp; go_at_call 94; refine hpl.mono ?_; rintro e w1 ⟨rfl, hc1⟩; have HC1 := Aa (((Ch.refl No wr).drew).trans hc1); have HROW := Aa (An HO.out (HC1.out.alloc (.cells (Tk.cells ⟨kd, s.extract k tt, (Bs s.data.toList k).1, (Bs s.data.toList k).2⟩).toArray 116)) noS); have hbase := Qx HWR.out.2.2.2 (HC1.out.alloc (.cells (Tk.cells ⟨kd, s.extract k tt, (Bs s.data.toList k).1, (Bs s.data.toList k).2⟩).toArray 116)); clear hc1 hpl))
      all_goals (
       go_wp2
       go_roundg (s.size - tt)
       case rel =>
        have hA := Bh (HC1.out.keep _ _ HW.out.1 (fun h => h)) (.cells (Tk.cells ⟨kd, s.extract k tt, (Bs s.data.toList k).1, (Bs s.data.toList k).2⟩).toArray 116)
        have hB := Bh (HC1.out.keep _ _ HW.out.2.1 (fun h => h)) (.cells (Tk.cells ⟨kd, s.extract k tt, (Bs s.data.toList k).1, (Bs s.data.toList k).2⟩).toArray 116)
        have hcw := (HW.out.2.2.1).trans (HC1.out.alloc (.cells (Tk.cells ⟨kd, s.extract k tt, (Bs s.data.toList k).1, (Bs s.data.toList k).2⟩).toArray 116))
        refine ⟨tt, f, acc ++ [Lp s k], a7, c7, by omega, by omega, rfl, by rw [List.length_append, HN.out]; simp; omega, by omega, by rw [List.length_append, HN.out]; rfl, HTQ, Aa ⟨HC7.out.keep _ _ hA (Bu HROW.out hA (by decide)), HC7.out.keep _ _ hB (Bu HROW.out hB (by decide)), Ch.newOnly (by first | exact hcw | exact hcw.drew) HC7.out (fun q o _ e => by have := (Aw HROW.out q e).1; omega), Qx hbase HC7.out⟩, Aa ?_⟩
        have h7 := HR7.out
        rw [List.length_append, HN.out, List.map_append, List.flatten_append]
        show w7.ownsRow wb.heap.size 116 4 (.slice a7 (n + 1) c7) (n + 1) ((acc.map Tk.cells).flatten ++ ((Lp s k).cells ++ []))
        rw [HTA.out, List.append_nil]
        exact h7
       case measure => omega)}
     {have HTQ := Aa (show Cm s (s.size + 1) 0 = (Cm s f tt).map (acc ++ ·) from by rw [HTK.out, HTKK.out, if_pos rfl]; simp [hkd])
      have d2 : decide (kd ≥ 0) = false := decide_eq_false (by omega)
      go_wp2_with fail
      refine hend.mono ?_
      rintro e w1 ⟨rfl, rfl⟩
      go_wp2
      go_roundg (s.size - tt)
      case rel => exact ⟨tt, f, acc, ta, tc, by omega, by omega, rfl, by have := HN.out; omega, by omega, by rw [HN.out], HTQ, HW, Aa (by rw [HN.out]; exact HO.out)⟩
      case measure => omega}}
    {have d1 : (er != 0) = true := by simpa using her
     have HER := Aa her
     clear her
     go_wp2_with fail
     refine hend.mono ?_
     rintro e w1 ⟨rfl, rfl⟩
     go_wp2_with fail
     refine (Pk wr s k (by omega) (by omega)).mono ?_
     rintro e w1 ⟨rfl, hc1⟩
     have HTQ := Aa (show Cm s (s.size + 1) 0 = none from by rw [HTK.out, HTKK.out, if_neg (by simpa using HER.out)]; rfl)
     obtain ⟨pl, hpl⟩ : ∃ q, Bs s.data.toList k = q := ⟨_, rfl⟩
     rw [hpl]
     have hA1 := Aa (hc1.keep _ _ HW.out.1 (fun h => h))
     have hB1 := Aa (hc1.keep _ _ HW.out.2.1 (fun h => h))
     have HC1 := Aa ((HW.out.2.2.1).trans hc1)
     clear hc1 hpl hend
     go_upto_region 9 with fail
     obtain ⟨w2, hw2, hb2, hc2⟩ := A2 w1 (.cells #[.int .i64 pl.1, .int .i64 pl.2] 27)
     rw [hw2]
     have HA2 := Aa (hc2.keep _ _ hA1.out (fun h => h))
     have HB2 := Aa (hc2.keep _ _ hB1.out (fun h => h))
     have HC2 := Aa (HC1.out.trans hc2)
     have ha := HA2.out
     have hb := HB2.out
     obtain ⟨p0, p1⟩ := Co hb2
     obtain ⟨a0, a1⟩ := Co ha
     obtain ⟨f0, f1⟩ := Lb ha
     obtain ⟨b0, b1, b2⟩ := Dy hb
     obtain ⟨g0, g1, g2⟩ := I5 hb
     have y3 := Ac hA1.out
     have y4 := Ac hB1.out
     clear hw2 hb2 hc2 ha hb
     go_region
     all_goals (
      go_wp2_with fail
      obtain ⟨wf, hwf, hfb, hfc⟩ := Lo HA2.out (.int .i64 0) (.int .i64 0)
      rw [hwf]
      have hb' := hfc.keep _ _ HB2.out (Bm (by omega))
      obtain ⟨wg, hwg, hgb, hgc⟩ := Ev hb' (.int .i64 er) (.int .i64 pl.1) (.int .i64 pl.2)
      rw [hwg]
      have hfb' := hgc.keep _ _ hfb (Bm (by omega))
      obtain ⟨k0, k1⟩ := Co hfb'
      obtain ⟨j0, j1, j2⟩ := Dy hgb
      refine bodyPost_ret (v := .tuple #[.slice none 0 0, .agg #[.int .i64 0, .int .i64 0], .agg #[.int .i64 er, .int .i64 pl.1, .int .i64 pl.2]]) (by simp [results, Tryz.results53, go_sem, k0, k1, j0, j1, j2]) rfl ?_
      exact ⟨Ch.newOnly (Ch.newOnly HC2.out hfc (Eb (by omega))) (by first | exact hgc | exact hgc.drew) (Eb (by omega)), .inr ⟨er, pl.1, pl.2, fun _ => HTQ.out, by simpa using HER.out, rfl⟩⟩)}
   | false =>
    have hks : ¬ k < s.size := by simpa using hd
    have ek : k = s.size := by omega
    have HTQ := Aa (show Cm s (s.size + 1) 0 = some acc from by
     rw [HTK.out]
     obtain ⟨f', rfl⟩ : ∃ f', f = f' + 1 := ⟨f - 1, by omega⟩
     rw [show Cm s (f' + 1) k = some [] from if_neg hks]
     simp)
    have hpl := Pk wr s s.size (Nat.le_refl _) (by omega)
    go_wp2_with fail
    refine hpl.mono ?_
    rintro e w1 ⟨rfl, hc1⟩
    obtain ⟨pl, hpe⟩ : ∃ q, Bs s.data.toList s.size = q := ⟨_, rfl⟩
    rw [hpe]
    have HPE := Aa hpe
    have HA2 := Aa (hc1.keep _ _ HW.out.1 (fun h => h))
    have HB2 := Aa (hc1.keep _ _ HW.out.2.1 (fun h => h))
    have HC2 := Aa ((HW.out.2.2.1).trans hc1)
    have HO2 := Aa (An HO.out hc1 noS)
    have ha := HA2.out
    have hb := HB2.out
    obtain ⟨a0, a1⟩ := Co ha
    obtain ⟨f0, f1⟩ := Lb ha
    obtain ⟨b0, b1, b2⟩ := Dy hb
    obtain ⟨g0, g1, g2⟩ := I5 hb
    clear hc1 hpe hpl ha hb
    go_wp2_with fail
    obtain ⟨wf, hwf, hfb, hfc⟩ := Lo HA2.out (.int .i64 pl.1) (.int .i64 pl.2)
    rw [hwf]
    have hb' := hfc.keep _ _ HB2.out (Bm (by omega))
    obtain ⟨wg, hwg, hgb, hgc⟩ := Ev hb' (.int .i64 0) (.int .i64 0) (.int .i64 0)
    rw [hwg]
    have hfb' := hgc.keep _ _ hfb (Bm (by omega))
    obtain ⟨k0, k1⟩ := Co hfb'
    obtain ⟨j0, j1, j2⟩ := Dy hgb
    refine bodyPost_ret (v := .tuple #[.slice ta n tc, .agg #[.int .i64 pl.1, .int .i64 pl.2], .agg #[.int .i64 0, .int .i64 0, .int .i64 0]]) (by simp [results, Tryz.results53, go_sem, k0, k1, j0, j1, j2]) rfl ?_
    refine ⟨Ch.newOnly (Ch.newOnly HC2.out hfc (Eb (by omega))) hgc (Eb (by omega)), .inl ⟨acc, .slice ta n tc, hbig, HTQ.out, by have := HN.out; omega, by rw [HPE.out], ?_⟩⟩
    rw [HN.out]
    exact Us (An (An HO2.out hfc (fun q cur _ hb2 hq e => by
     have e' : q = w.heap.size := e
     subst e'
     have h1 := HA2.out
     rw [hq] at h1; cases h1)) hgc (fun q cur _ hb2 hq e => by
     have e' : q = wa.heap.size := e
     subst e'
     rw [hq] at hb'; cases hb')) (by omega)}
 {obtain ⟨a0, a1⟩ := Co HA.out
  obtain ⟨b0, b1, b2⟩ := Dy hbb
  obtain ⟨f0, f1⟩ := Lb HA.out
  obtain ⟨g0, g1, g2⟩ := I5 hbb
  clear hba hbb hca hcb
  go_in
  go_wp2_with fail
  obtain ⟨wf, hwf, hfb, hfc⟩ := Lo HA.out (.int .i64 0) (.int .i64 0)
  rw [hwf]
  have hb' := hfc.keep _ _ HB.out (Bm (by omega))
  obtain ⟨wg, hwg, hgb, hgc⟩ := Ev hb' (.int .i64 13) (.int .i64 1) (.int .i64 1)
  rw [hwg]
  have hfb' := hgc.keep _ _ hfb (Bm (by omega))
  obtain ⟨k0, k1⟩ := Co hfb'
  obtain ⟨j0, j1, j2⟩ := Dy hgb
  refine bodyPost_ret (v := .tuple #[.slice none 0 0, .agg #[.int .i64 0, .int .i64 0], .agg #[.int .i64 13, .int .i64 1, .int .i64 1]]) (by simp [results, Tryz.results53, go_sem, k0, k1, j0, j1, j2]) rfl ?_
  exact ⟨Ch.newOnly (Ch.newOnly HC.out hfc (Eb (by omega))) hgc (Eb (by omega)), .inr ⟨13, 1, 1, fun h => absurd h hbig, by decide, rfl⟩⟩}
def Gl : List ByteArray := [⟨#[99, 108, 97, 115, 115]⟩, ⟨#[101, 120, 116, 101, 110, 100, 115]⟩, ⟨#[105, 109, 112, 108, 101, 109, 101, 110, 116, 115]⟩, ⟨#[105, 110, 116, 101, 114, 102, 97, 99, 101]⟩, ⟨#[102, 105, 101, 108, 100]⟩, ⟨#[115, 116, 97, 116, 105, 99]⟩, ⟨#[109, 101, 116, 104, 111, 100]⟩, ⟨#[105, 110, 105, 116]⟩, ⟨#[109, 97, 105, 110]⟩, ⟨#[118, 97, 114]⟩, ⟨#[110, 101, 119]⟩, ⟨#[110, 117, 108, 108]⟩, ⟨#[105, 110, 112, 117, 116]⟩, ⟨#[116, 104, 114, 111, 119]⟩, ⟨#[116, 114, 121]⟩, ⟨#[99, 97, 116, 99, 104]⟩, ⟨#[105, 102]⟩, ⟨#[101, 108, 115, 101]⟩, ⟨#[119, 104, 105, 108, 101]⟩, ⟨#[114, 101, 116, 117, 114, 110]⟩, ⟨#[105, 110, 116]⟩, ⟨#[118, 111, 105, 100]⟩]
def kwB (s : ByteArray) : Bool := Gl.any (fun x => decide (x = s))
theorem Aab {s x : ByteArray} {j : Nat} (h : Gl[j]? = some x) (e : x = s) : kwB s = true := List.any_eq_true.2 ⟨x, mG h, decide_eq_true e⟩
theorem Acn {s : ByteArray} (h : ∀ (j : Nat) (x : ByteArray), Gl[j]? = some x → x ≠ s) : kwB s = false := by
 unfold kwB
 rw [List.any_eq_false]
 intro x hx
 obtain ⟨j, hj, e⟩ := List.getElem_of_mem hx
 have := h j x (by rw [List.getElem?_eq_getElem hj, e])
 simpa using this
theorem Aac (w : World) : Calls Tryz.prog 156 #[] w fun e w' => ∃ v, e = .returned v ∧ Ah w' v Gl ∧ Ch No w w' := by
 go_in
 go_wp2
 go_ret
 exact ⟨_, rfl, Ah.one (w := w) Gl (lb rfl), (Ch.refl _ _).alloc _⟩
theorem Nz (w : World) (s : ByteArray) : Calls Tryz.prog 128 #[.string s] w fun e w' => e = .returned (.bool (kwB s)) ∧ Ch No w w' := by
 obtain ⟨N, hN⟩ := Ax Gl.length
 have HN := Aa hN
 have hN9 : N ≤ 100 := by rw [← hN]; exact lb rfl
 clear hN
 go_in
 go_wp2_with fail
 refine (Aac w).mono ?_
 rintro e w1 ⟨v, rfl, hv, hc1⟩
 have hv' := hv
 obtain ⟨ao, cap, rfl, hcap, hmax, _⟩ := hv'
 rw [HN.out] at hcap hv ⊢
 have HV := Aa hv
 unfold maxLen at hmax
 clear hv
 go_wp2
 go_loopg [2, 4] N (fun gg s2 s4 wr => ∃ k : Nat, k ≤ N ∧ N - k ≤ gg ∧ s4 = .int .i64 k ∧ Hid (∀ (j : Nat) (x : ByteArray), j < k → Gl[j]? = some x → x ≠ s) ∧ w1 = wr)
 case atStart => exact ⟨0, Nat.zero_le _, by omega, rfl, Aa (fun j x h => absurd h (Nat.not_lt_zero _)), rfl⟩
 case round =>
  obtain ⟨k, hk, hg, rfl, HA, rfl⟩ := hrel
  cases hd : decide (k < N) with
  | true =>
   have hkN : k < N := by simpa using hd
   obtain ⟨x, hx⟩ := gE (l := Gl) (i := k) (by have := HN.out; omega)
   obtain ⟨ao2, cap2, e2, _, _, hcell⟩ := HV.out
   rw [HN.out] at e2 hcell
   cases e2
   obtain ⟨b, off, rfl, hcell2⟩ := hcell (by omega)
   have q0 := hcell2 k x hx
   have HX := Aa hx
   clear hx hcell2
   by_cases he : x = s
   {have e1 := toL x s he
    have HE := Aa he
    clear he
    go_wp2
    go_ret
    exact ⟨by rw [Aab HX.out HE.out]; rfl, hc1⟩}
   {have e1 := Wy x s he
    have HE := Aa he
    clear he
    go_wp2
    go_roundg (N - k - 1)
    case rel => exact ⟨k + 1, by omega, by omega, by go_num, Aa (fun j y hj hy => by
     by_cases h1 : j < k
     {exact HA.out j y h1 hy}
     · obtain rfl : j = k := by omega
       rw [HX.out] at hy; cases hy
       exact HE.out), rfl⟩
    case measure => omega}
  | false =>
   have hkN : ¬ k < N := by simpa using hd
   go_wp2
   go_ret
   refine ⟨?_, hc1⟩
   rw [Acn (fun j x hj => HA.out j x (by have := HN.out; have := (gL hj); omega) hj)]
   rfl
def Sf (c : UInt8) : Bool := decide (B1 (c.toNat : Int) ≤ 1)
def Cw (s : ByteArray) : Bool := decide (0 < s.size) && decide (s.size ≤ 32) && (B1 ((s.data.toList.getD 0 0).toNat : Int) == 0) && !kwB s && s.data.toList.all Sf
theorem Aco {s : ByteArray} : s = ⟨#[]⟩ ↔ s.size = 0 := by
 constructor
 {rintro rfl; rfl}
 {intro h
  obtain ⟨a⟩ := s
  have h2 : a.size = 0 := h
  congr 1
  exact Array.eq_empty_of_size_eq_zero h2}
theorem Qy (w : World) (s : ByteArray) (hs : s.size ≤ maxLen) : Calls Tryz.prog 95 #[.string s] w fun e w' => e = .returned (.bool (Cw s)) ∧ Ch No w w' := by
 unfold maxLen at hs
 have e1 : (s.toList == []) = decide (s.size = 0) := by rw [J4]; simp only [Aco]
 by_cases h0 : s.size = 0
 {have e2 : (s.toList == []) = true := by rw [e1]; exact decide_eq_true h0
  have HN := Aa (show Cw s = false from by unfold Cw; simp [h0])
  clear e1 h0
  go_in
  go_wp2
  go_ret
  exact ⟨by rw [HN.out]; rfl, Ch.refl _ _⟩}
 {have e2 : (s.toList == []) = false := by rw [e1]; exact decide_eq_false h0
  clear e1
  by_cases h32 : s.size ≤ 32
  {have hp : 0 < s.size := by omega
   have hb := E0 hp
   have hgd : s.data.toList.getD 0 0 = s[0] := by rw [List.getD_eq_getElem?_getD, hb]; rfl
   have HGD := Aa hgd
   clear hb hgd
   by_cases hk : B1 (s[0].toNat : Int) = 0
   {have d1 : (B1 (s[0].toNat : Int) != 0) = false := by simpa using hk
    have HK := Aa hk
    clear hk
    cases hkw : kwB s with
    | true =>
     have HN := Aa (show Cw s = false from by unfold Cw; simp [hkw])
     have hkk := Nz w s
     rw [hkw] at hkk
     clear hkw
     go_in
     go_wp2_with fail
     refine (Hr _ _).mono ?_
     rintro e w1 ⟨rfl, rfl⟩
     go_wp2_with fail
     refine hkk.mono ?_
     rintro e w1 ⟨rfl, hc1⟩
     go_wp2
     go_ret
     exact ⟨by rw [HN.out]; rfl, hc1⟩
    | false =>
     have HN := Aa (show Cw s = s.data.toList.all Sf from by unfold Cw; rw [HGD.out, HK.out, hkw, decide_eq_true hp, decide_eq_true h32]; rfl)
     have hkk := Nz w s
     rw [hkw] at hkk
     clear hkw
     go_in
     go_wp2_with fail
     refine (Hr _ _).mono ?_
     rintro e w1 ⟨rfl, rfl⟩
     go_wp2_with fail
     refine hkk.mono ?_
     rintro e w1 ⟨rfl, hc1⟩
     go_wp2
     go_loopg [2, 3] s.size (fun gg s2 s3 wr => ∃ k : Nat, k ≤ s.size ∧ s.size - k ≤ gg ∧ s3 = .int .i64 k ∧ Hid (∀ (j : Nat) (c : UInt8), j < k → s.data.toList[j]? = some c → Sf c = true) ∧ w1 = wr)
     case atStart => exact ⟨0, Nat.zero_le _, by omega, rfl, Aa (fun j c h => absurd h (Nat.not_lt_zero _)), rfl⟩
     case round =>
      obtain ⟨k, hk, hg, rfl, HA, rfl⟩ := hrel
      cases hd : decide (k < s.size) with
      | true =>
       have hks : k < s.size := by simpa using hd
       have HBY := Aa (E0 hks)
       obtain ⟨lb, hlb⟩ : ∃ b, Sf s[k] = b := ⟨_, rfl⟩
       have HLB := Aa hlb
       cases lb with
       | true =>
        have d3 : decide (1 < B1 (s[k].toNat : Int)) = false := by
         have := of_decide_eq_true hlb
         exact decide_eq_false (by omega)
        clear hlb
        go_wp2_with fail
        refine (Hr _ _).mono ?_
        rintro e w2 ⟨rfl, rfl⟩
        go_wp2
        go_roundg (s.size - k - 1)
        case rel => exact ⟨k + 1, by omega, by omega, by go_num, Aa (fun j c hj hc => by
         by_cases h1 : j < k
         {exact HA.out j c h1 hc}
         · obtain rfl : j = k := by omega
           rw [HBY.out] at hc; cases hc
           exact HLB.out), rfl⟩
        case measure => omega
       | false =>
        have d3 : decide (1 < B1 (s[k].toNat : Int)) = true := by
         have := of_decide_eq_false hlb
         exact decide_eq_true (by omega)
        clear hlb
        go_wp2_with fail
        refine (Hr _ _).mono ?_
        rintro e w2 ⟨rfl, rfl⟩
        go_wp2
        go_ret
        refine ⟨?_, hc1⟩
        rw [HN.out, show s.data.toList.all Sf = false from by
         rw [List.all_eq_false]
         exact ⟨_, mG HBY.out, by rw [HLB.out]; simp⟩]
        rfl
      | false =>
       have hks : ¬ k < s.size := by simpa using hd
       go_wp2
       go_ret
       refine ⟨?_, hc1⟩
       rw [HN.out, show s.data.toList.all Sf = true from by
        rw [List.all_eq_true]
        intro c hc
        obtain ⟨j, hj, e⟩ := List.getElem_of_mem hc
        have hj2 : j < s.size := by rw [show s.data.toList.length = s.size from Array.length_toList] at hj; exact hj
        exact HA.out j c (by omega) (by rw [List.getElem?_eq_getElem hj, e])]
       rfl}
   {have d1 : (B1 (s[0].toNat : Int) != 0) = true := by simpa using hk
    have HN := Aa (show Cw s = false from by unfold Cw; rw [HGD.out]; simp [hk])
    clear hk
    go_in
    go_wp2_with fail
    refine (Hr _ _).mono ?_
    rintro e w1 ⟨rfl, rfl⟩
    go_wp2
    go_ret
    exact ⟨by rw [HN.out]; rfl, Ch.refl _ _⟩}}
  {have HN := Aa (show Cw s = false from by unfold Cw; simp [h32])
   go_in
   go_wp2
   go_ret
   exact ⟨by rw [HN.out]; rfl, Ch.refl _ _⟩}}
def Tb (g : Nat) : Nat → Obj → Prop := fun k _ => k = g
theorem Ao {S : Nat → Obj → Prop} {a b c : World} {x : Nat} (h : Ch S a b) (h' : Ch (Tb x) b c) (hx : a.heap.size ≤ x) : Ch S a c :=
 h.trans' h' (fun k o ho e => absurd (Ac ho) (by have e' : k = x := e; omega))
theorem Ce {S : Nat → Obj → Prop} {a b : World} (h : Ch No a b) : Ch S a b := h.mono (fun _ _ _ h => h.elim)
structure Tx (w0 w : World) (g : Nat) (L : List Tk) (a b c d : Int) : Prop where
 at_ : ∃ A0 c0, w.heap[g]? = some (.cells #[.slice A0 L.length c0, .int .i64 a, .int .i64 b, .int .i64 c, .int .i64 d] 79 (0, 0)) ∧ B5 w0 (.slice A0 L.length c0) 4 (L.map Tk.cells)
 ge : w0.heap.size ≤ g
 ch : Ch No w0 w
section
variable {w0 w w' w'' : World} {g : Nat} {L : List Tk} {a b c d : Int}
theorem Tx.keep (h : Tx w0 w g L a b c d) {S : Nat → Obj → Prop} (hc : Ch S w w') (hS : ∀ o, w.heap[g]? = some o → ¬ S g o) (h0 : Ch No w0 w') : Tx w0 w' g L a b c d := by
 obtain ⟨⟨A0, c0, hb, hr⟩, hg, _⟩ := h
 exact ⟨⟨A0, c0, hc.keep _ _ hb (hS _ hb), hr⟩, hg, h0⟩
theorem Tx.no (h : Tx w0 w g L a b c d) (hc : Ch No w w') : Tx w0 w' g L a b c d := h.keep hc (fun _ _ h => h) (h.ch.trans hc)
theorem Tx.new {x : Nat} (h : Tx w0 w' g L a b c d) (hc : Ch (Tb x) w' w'') (hx : w0.heap.size ≤ x) (hg : g ≠ x) : Tx w0 w'' g L a b c d :=
 h.keep hc (fun _ _ e => hg e) (Ch.newOnly h.ch hc (Eb (by omega)))
theorem Tx.blk (h : Tx w0 w g L a b c d) : ∃ cs, w.heap[g]? = some (.cells cs 79 (0, 0)) := by
 obtain ⟨⟨A0, c0, hb, _⟩, _, _⟩ := h
 exact ⟨_, hb⟩
theorem Tx.lt (h : Tx w0 w g L a b c d) : g < w.heap.size := by
 obtain ⟨cs, hb⟩ := h.blk
 exact Ac hb
end
def Io (w0 w : World) (g : Nat) (L : List Tk) (a b c d : Int) (w' : World) : Prop := Tx w0 w' g L a b c d ∧ Ch (Tb g) w w'
def Xi (w0 w : World) (g : Nat) (L : List Tk) (a b : Int) (w' : World) : Prop := ∃ c d, Tx w0 w' g L a b c d ∧ Ch (Tb g) w w'
def Ar (L : List Tk) (z : Int) : ByteArray := if 0 ≤ z then ((L[z.toNat]?).map Tk.text).getD ⟨#[]⟩ else ⟨#[]⟩
def Fx (L : List Tk) (a b z : Int) : Int × Int := if 0 ≤ z then ((L[z.toNat]?).map (fun t => (t.line, t.col))).getD (a, b) else (a, b)
theorem Pl {w : World} {A0 : Option Addr} {n c0 : Nat} {L : List Tk} (h : B5 w (.slice A0 n c0) 4 (L.map Tk.cells)) {k : Nat} {t : Tk} (hk : L[k]? = some t) : ∃ b off, A0 = some ⟨b, off, none⟩ ∧ w.cell? ⟨b, off + k * 4, none⟩ = some (.int .i64 t.kind) ∧ w.cell? ⟨b, off + k * 4 + 1, none⟩ = some (.string t.text) ∧ w.cell? ⟨b, off + k * 4 + 2, none⟩ = some (.int .i64 t.line) ∧ w.cell? ⟨b, off + k * 4 + 3, none⟩ = some (.int .i64 t.col) := by
 obtain ⟨ao', cap', e, h1, h2, h3, h4⟩ := h
 have hl : k < L.length := (gL hk)
 obtain ⟨b, off, rfl, h5⟩ := h4 (by rw [List.length_map]; omega)
 have h6 := fun j hj => h5 k t.cells (by rw [List.getElem?_map, hk]; rfl) j hj
 cases e
 exact ⟨b, off, rfl, h6 0 (by omega), h6 1 (by omega), h6 2 (by omega), h6 3 (by omega)⟩
section
variable {w0 w : World} {g : Nat} {L : List Tk} {a b c d : Int}
theorem A6 (h : Tx w0 w g L a b c d) (z : Int) : Calls Tryz.prog 25 #[.pointer (some ⟨g, 0, none⟩), .int .i64 z] w fun e w' => e = .returned (.string (Ar L z)) ∧ w = w' := by
 obtain ⟨⟨A0, c0, hb, hr⟩, hg, hch⟩ := h
 have hr' := hr.no hch
 have HR := Aa hr'
 have g0 := Ab hb 0
 obtain ⟨n, hn⟩ := Ax L.length
 rw [hn] at g0 HR
 have HN := Aa hn
 clear hr hr' hb hn
 by_cases z0 : z < 0
 {have HW := Aa (show Ar L z = ⟨#[]⟩ from if_neg (by omega))
  go_in
  go_wp2
  go_ret
  exact ⟨by rw [HW.out]; rfl, rfl⟩}
 {by_cases z1 : z < (n : Int)
  {obtain ⟨k, rfl⟩ : ∃ k : Nat, z = k := ⟨z.toNat, by omega⟩
   have hk : k < n := by omega
   obtain ⟨t, ht⟩ := gE (l := L) (i := k) (by have := HN.out; omega)
   obtain ⟨bb, off, rfl, q0, q1, q2, q3⟩ := Pl HR.out ht
   have HW := Aa (show Ar L k = t.text from by unfold Ar; rw [if_pos (by omega)]; simp [ht])
   clear ht
   go_in
   go_wp2
   go_ret
   exact ⟨by rw [HW.out]; rfl, rfl⟩}
  {have HW := Aa (show Ar L z = ⟨#[]⟩ from by unfold Ar; rw [if_pos (by omega), List.getElem?_eq_none (by have := HN.out; omega)]; rfl)
   go_in
   go_wp2
   go_ret
   exact ⟨by rw [HW.out]; rfl, rfl⟩}}
theorem Acp {p : Prop} (h : p := by
 obtain ⟨wf, hwf, hfb, hfc⟩ := Lo HBA.out (.int .i64 a) (.int .i64 b)
 rw [hwf]
 obtain ⟨k0, k1⟩ := Co hfb
 refine bodyPost_ret (v := .agg #[.int .i64 a, .int .i64 b]) (by simp [results, Tryz.results28, go_sem, k0, k1]) rfl ?_
 exact ⟨by rw [HW.out], Ch.newOnly HCA.out hfc (Eb (by omega))⟩
 ) : p := h
theorem Ds (h : Tx w0 w g L a b c d) (z : Int) : Calls Tryz.prog 28 #[.pointer (some ⟨g, 0, none⟩), .int .i64 z] w fun e w' => e = .returned (.agg #[.int .i64 (Fx L a b z).1, .int .i64 (Fx L a b z).2]) ∧ Ch No w w' := by
 obtain ⟨⟨A0, c0, hb, hr⟩, hg, hch⟩ := h
 obtain ⟨wa, hwa, hba, hca⟩ := A2 w (.cells #[.int .i64 0, .int .i64 0] 27)
 have HBA := Aa hba
 have HCA := Aa hca
 have HR := Aa ((hr.no hch).no hca)
 have hb1 := hca.keep _ _ hb (fun h => h)
 obtain ⟨g0, g1, g2⟩ := Dy hb1
 obtain ⟨a0, a1⟩ := Co hba
 obtain ⟨f0, f1⟩ := Lb hba
 obtain ⟨n, hn⟩ := Ax L.length
 rw [hn] at g0 HR
 have HN := Aa hn
 clear hr hb hb1 hn hba hca hch
 by_cases hz : 0 ≤ z ∧ z < (n : Int)
 {obtain ⟨z0, z1⟩ := hz
  obtain ⟨k, rfl⟩ : ∃ k : Nat, z = k := ⟨z.toNat, by omega⟩
  have hk : k < n := by omega
  obtain ⟨t, ht⟩ := gE (l := L) (i := k) (by have := HN.out; omega)
  obtain ⟨bb, off, rfl, q0, q1, q2, q3⟩ := Pl HR.out ht
  have HW := Aa (show Fx L a b k = (t.line, t.col) from by unfold Fx; rw [if_pos (by omega)]; simp [ht])
  clear ht
  go_in
  go_wp2_with fail
  obtain ⟨wf, hwf, hfb, hfc⟩ := Lo HBA.out (.int .i64 t.line) (.int .i64 t.col)
  rw [hwf]
  obtain ⟨k0, k1⟩ := Co hfb
  refine bodyPost_ret (v := .agg #[.int .i64 t.line, .int .i64 t.col]) (by simp [results, Tryz.results28, go_sem, k0, k1]) rfl ?_
  exact ⟨by rw [HW.out], Ch.newOnly HCA.out hfc (Eb (by omega))⟩}
 {have HW := Aa (show Fx L a b z = (a, b) from by
   unfold Fx
   by_cases z0 : 0 ≤ z
   {rw [if_pos z0, List.getElem?_eq_none (by have := HN.out; omega)]; rfl}
   {rw [if_neg z0]})
  go_in
  by_cases z0 : 0 ≤ z
  {have d1 : decide (z < (n : Int)) = false := decide_eq_false (by omega)
   go_wp2_with fail
   exact Acp}
  {go_wp2_with fail
   exact Acp}}
theorem B9 (h : Tx w0 w g L a b c d) (z er : Int) : Calls Tryz.prog 26 #[.pointer (some ⟨g, 0, none⟩), .int .i64 z, .int .i64 er] w fun e w' => e = .returned (.int .i64 (-1)) ∧ Xi w0 w g L a b w' := by
 have H := Aa h
 obtain ⟨⟨A0, c0, hb, hr⟩, hg, hch⟩ := h
 have HB := Aa hb
 have HR := Aa hr
 have g3 := Ab hb 3
 have g4 := Ab hb 4
 have f3 := Ad hb 3
 have f4 := Ad hb 4
 have HCH := Aa hch
 clear hb hr hch
 by_cases hc : c = 0
 {have d1 : (c == 0) = true := by simpa using hc
  clear hc
  go_in
  go_wp2
  go_ret
  have hb2 := Af (Af HB.out 3 (.int .i64 er)) 4 (.int .i64 z)
  have hc2 : Ch (Tb g) w ((w.setCell ⟨g, 3, none⟩ (.int .i64 er)).setCell ⟨g, 4, none⟩ (.int .i64 z)) := ((Ch.refl _ _).setCell (fun _ _ => rfl) _).setCell (fun _ _ => rfl) _
  exact ⟨rfl, er, z, ⟨⟨A0, c0, hb2, HR.out⟩, hg, Ch.newOnly HCH.out hc2 (Eb (by omega))⟩, hc2⟩}
 {have d1 : (c == 0) = false := by simpa using hc
  clear hc
  go_in
  go_wp2
  go_ret
  exact ⟨rfl, c, d, H.out, Ch.refl _ _⟩}
end
def Gq (L : List Tk) : Prop := L.length ≤ 20000 ∧ ∀ t ∈ L, t.text.size ≤ 20000
theorem Gq.word {L : List Tk} (h : Gq L) (z : Int) : (Ar L z).size ≤ maxLen := by
 have hm : (20000 : Nat) ≤ maxLen := by unfold maxLen; omega
 unfold Ar
 split
 {cases ht : L[z.toNat]? with
  | none => exact Nat.zero_le _
  | some t => exact Nat.le_trans (h.2 t (mG ht)) hm}
 {exact Nat.zero_le _}
theorem Be {L : List Tk} {z : Int} (h : Ar L z ≠ ⟨#[]⟩) : 0 ≤ z ∧ z < L.length := by
 unfold Ar at h
 by_cases z0 : 0 ≤ z
 {rw [if_pos z0] at h
  refine ⟨z0, ?_⟩
  cases ht : L[z.toNat]? with
  | none => rw [ht] at h; exact absurd rfl h
  | some t => have := (gL ht); omega}
 {rw [if_neg z0] at h; exact absurd rfl h}
def Kf (L : List Tk) (z : Int) (ws : List ByteArray) : Prop := 0 ≤ z ∧ ∀ (j : Nat) (s : ByteArray), ws[j]? = some s → Ar L (z + j) = s
def Mf (w0 w : World) (g : Nat) (L : List Tk) (a b c d z : Int) (ws : List ByteArray) (e : Ending) (w' : World) : Prop :=
 (Kf L z ws ∧ e = .returned (.int .i64 (z + ws.length)) ∧ Io w0 w g L a b c d w') ∨ (¬ Kf L z ws ∧ e = .returned (.int .i64 (-1)) ∧ Xi w0 w g L a b w')
section
variable {w0 w : World} {g : Nat} {L : List Tk} {a b c d : Int}
theorem Mf.f {w' : World} {z : Int} {ws : List ByteArray} (h : ¬ Kf L z ws) (hw : Xi w0 w g L a b w') : Mf w0 w g L a b c d z ws (.returned (.int .i64 (-1))) w' := .inr ⟨h, rfl, hw⟩
theorem Acq {p : Prop} (h : p := by
 go_ret
 exact .f (fun h => by have := h.1; omega) ⟨c, d, by rw [← HE.out]; exact H.out, by rw [← HE.out]; exact Ch.refl _ _⟩
 ) : p := h
theorem Ut (h : Tx w0 w g L a b c d) {z : Int} (hz : -1 ≤ z) (hz9 : z ≤ 100000) {v : Value} {ws : List ByteArray} (hv : Ah w v ws) (hw : ws.length ≤ 100) :
 Calls Tryz.prog 58 #[.pointer (some ⟨g, 0, none⟩), .int .i64 z, v] w (Mf w0 w g L a b c d z ws) := by
 have H := Aa h
 clear h
 have hv' := hv
 obtain ⟨ao, cap, rfl, hcap, hmax, _⟩ := hv'
 obtain ⟨N, hN⟩ := Ax ws.length
 rw [hN] at hcap hw hv ⊢
 have HN := Aa hN
 have HV := Aa hv
 unfold maxLen at hmax
 clear hv hN
 by_cases z0 : 0 ≤ z
 {go_in
  go_wp2
  go_loopg [6, 7, 1] N (fun gg s6 s7 s1 wr => ∃ k : Nat, k ≤ N ∧ N - k ≤ gg ∧ s7 = .int .i64 k ∧ s1 = .int .i64 (z + k) ∧ Hid (∀ (j : Nat) (s : ByteArray), j < k → ws[j]? = some s → Ar L (z + j) = s) ∧ Hid (Ch No w wr))
  case atStart => exact ⟨0, Nat.zero_le _, by omega, rfl, by simp, Aa (fun j s h => absurd h (Nat.not_lt_zero _)), Aa (Ch.refl _ _)⟩
  case round =>
   obtain ⟨k, hk, hg, rfl, rfl, HA, HCR⟩ := hrel
   cases hd : decide (k < N) with
   | true =>
    have hkN : k < N := by simpa using hd
    obtain ⟨x, hx⟩ := gE (l := ws) (i := k) (by have := HN.out; omega)
    obtain ⟨ao2, cap2, e2, _, _, hcell⟩ := (Ah.no HV.out HCR.out)
    rw [HN.out] at e2 hcell
    cases e2
    obtain ⟨bb, off, rfl, hcell2⟩ := hcell (by omega)
    have q0 := hcell2 k x hx
    have HX := Aa hx
    have HQ := Aa q0
    have HQd := Aa (show wr.drew.cell? ⟨bb, off + k, none⟩ = some (.string x) from q0)
    have HTR := Aa ((H.out.no HCR.out).no ((Ch.refl No wr).drew))
    have dz : decide (z + (k : Int) ≥ 0) = true := decide_eq_true (by omega)
    obtain ⟨y, hy⟩ := Ax (Ar L (z + k))
    have HY := Aa hy
    have htw := A6 HTR.out (z + k)
    rw [hy] at htw
    clear hx hcell2 hy
    by_cases he : y = x
    {have e1 := toL y x he
     have HE := Aa he
     clear he
     go_wp2_with fail
     go_region_held3 (fun w' => w'.cell? ⟨bb, off + k, none⟩ = some (.string x)) (first | with_reducible exact HQ.out | with_reducible exact HQd.out | go_keep) (first | (go_at_call 25; refine htw.mono ?_; rintro e w2 ⟨rfl, rfl⟩; clear htw))
     all_goals (
      go_wp2
      go_roundg (N - k - 1)
      case rel => exact ⟨k + 1, by omega, by omega, by go_num, by congr 1; omega, Aa (fun j s hj hs => by
       by_cases h1 : j < k
       {exact HA.out j s h1 hs}
       · obtain rfl : j = k := by omega
         rw [HX.out] at hs; cases hs
         rw [HY.out]; exact HE.out), Aa HCR.out.drew⟩
      case measure => omega)}
    {have e1 := Wy y x he
     have HE := Aa he
     clear he
     go_wp2_with fail
     go_region_held3 (fun w' => w'.cell? ⟨bb, off + k, none⟩ = some (.string x)) (first | with_reducible exact HQ.out | with_reducible exact HQd.out | go_keep) (first | (go_at_call 25; refine htw.mono ?_; rintro e w2 ⟨rfl, rfl⟩; clear htw))
     all_goals (
      go_wp2_with fail
      refine (B9 HTR.out _ _).mono ?_
      rintro e w3 ⟨rfl, c3, d3, hT3, hc3⟩
      have HT3 := Aa hT3
      have HC3 := Aa ((Ce (S := Tb g) HCR.out.drew).trans hc3)
      clear hT3 hc3
      go_wp2
      go_ret
      exact .f (fun h => HE.out (by rw [← HY.out]; exact h.2 k x HX.out)) ⟨c3, d3, HT3.out, HC3.out⟩)}
   | false =>
    have hkN : ¬ k < N := by simpa using hd
    have ek : k = N := by omega
    go_wp2
    go_ret
    refine .inl ⟨⟨z0, fun j s hs => HA.out j s (by have := HN.out; have := (gL hs); omega) hs⟩, by rw [HN.out, ← ek]; rfl, H.out.no HCR.out, Ce HCR.out⟩}
 {obtain rfl : z = -1 := by omega
  go_in
  go_wp2
  go_loopg [6, 7, 1] 0 (fun gg s6 s7 s1 wr => s7 = .int .i64 0 ∧ s1 = .int .i64 (-1) ∧ Hid (w = wr))
  case atStart => exact ⟨rfl, rfl, Aa rfl⟩
  case round =>
   obtain ⟨rfl, rfl, HE⟩ := hrel
   by_cases h0 : 0 < N
   {go_wp2
    exact Acq}
   {go_wp2
    exact Acq}}
def Pm (w0 w : World) (g : Nat) (L : List Tk) (a b c d z : Int) (s : ByteArray) (e : Ending) (w' : World) : Prop :=
 ((0 ≤ z ∧ Ar L z = s) ∧ e = .returned (.int .i64 (z + 1)) ∧ Io w0 w g L a b c d w') ∨ (¬ (0 ≤ z ∧ Ar L z = s) ∧ e = .returned (.int .i64 (-1)) ∧ Xi w0 w g L a b w')
theorem Uu {z : Int} {s : ByteArray} : Kf L z [s] ↔ 0 ≤ z ∧ Ar L z = s := by
 constructor
 {rintro ⟨h, h1⟩
  exact ⟨h, by simpa using h1 0 s rfl⟩}
 {rintro ⟨h, h1⟩
  refine ⟨h, fun j x hx => ?_⟩
  match j, hx with
  | 0, hx => cases hx; simpa using h1
  | j + 1, hx => simp at hx}
theorem Yk (h : Tx w0 w g L a b c d) {z : Int} (hz : -1 ≤ z) (hz9 : z ≤ 100000) (s : ByteArray) : Calls Tryz.prog 29 #[.pointer (some ⟨g, 0, none⟩), .int .i64 z, .string s] w (Pm w0 w g L a b c d z s) := by
 have hc := (Ch.refl No w).alloc (.cells #[.string s] 9)
 have hm := Ut (h.no hc) hz hz9 (Ah.one (w := w) [s] (lb rfl)) (lb rfl)
 have H := Aa h
 have HC := Aa hc
 clear h hc
 go_in
 go_wp2_with fail
 refine hm.mono ?_
 rintro e w1 (⟨h1, rfl, hT, hc1⟩ | ⟨h1, rfl, c1, d1, hT, hc1⟩)
 {have HO := Aa (show Pm w0 w g L a b c d z s (.returned (.int .i64 (z + 1))) w1 from .inl ⟨Uu.1 h1, rfl, hT, (Ce HC.out).trans hc1⟩)
  clear h1 hT hc1
  go_wp2
  go_ret
  exact HO.out}
 {have HO := Aa (show Pm w0 w g L a b c d z s (.returned (.int .i64 (-1))) w1 from .inr ⟨fun h => h1 (Uu.2 h), rfl, c1, d1, hT, (Ce HC.out).trans hc1⟩)
  clear h1 hT hc1
  go_wp2
  go_ret
  exact HO.out}
def Jm (w0 w : World) (g : Nat) (L : List Tk) (a b c d z : Int) (e : Ending) (w' : World) : Prop :=
 ((0 ≤ z ∧ Cw (Ar L z) = true) ∧ e = .returned (.tuple #[.string (Ar L z), .int .i64 (z + 1)]) ∧ Io w0 w g L a b c d w') ∨ (¬ (0 ≤ z ∧ Cw (Ar L z) = true) ∧ e = .returned (.tuple #[.string ⟨#[]⟩, .int .i64 (-1)]) ∧ Xi w0 w g L a b w')
theorem Acr {p : Prop} (h : p := by
 go_wp2
 refine bodyPost_ret (v := .tuple #[.string ⟨#[]⟩, .int .i64 (-1)]) (by simp [results, Tryz.results54, go_sem]) rfl ?_
 exact HO.out
 ) : p := h
theorem Uv (h : Tx w0 w g L a b c d) (hL : Gq L) {z : Int} (hz9 : z ≤ 100000) : Calls Tryz.prog 54 #[.pointer (some ⟨g, 0, none⟩), .int .i64 z] w (Jm w0 w g L a b c d z) := by
 have H := Aa h
 have htw := A6 h z
 have hnm := Qy w (Ar L z) (hL.word z)
 clear h
 by_cases z0 : 0 ≤ z
 {have d0 : decide (z < 0) = false := decide_eq_false (by omega)
  cases hb : Cw (Ar L z) with
  | true =>
   have HB := Aa hb
   rw [hb] at hnm
   clear hb
   go_in
   go_wp2_with fail
   refine htw.mono ?_
   rintro e w1 ⟨rfl, rfl⟩
   go_wp2_with fail
   refine hnm.mono ?_
   rintro e w2 ⟨rfl, hc2⟩
   have HC2 := Aa hc2
   have HT2 := Aa (H.out.no hc2)
   clear hc2 hnm htw
   go_wp2_with fail
   refine (A6 HT2.out z).mono ?_
   rintro e w3 ⟨rfl, rfl⟩
   have HO := Aa (show Jm w0 w g L a b c d z (.returned (.tuple #[.string (Ar L z), .int .i64 (z + 1)])) w2 from .inl ⟨⟨z0, HB.out⟩, rfl, HT2.out, Ce HC2.out⟩)
   go_wp2
   refine bodyPost_ret (v := .tuple #[.string (Ar L z), .int .i64 (z + 1)]) (by simp [results, Tryz.results54, go_sem]) rfl ?_
   exact HO.out
  | false =>
   have HB := Aa hb
   rw [hb] at hnm
   clear hb
   go_in
   go_wp2_with fail
   refine htw.mono ?_
   rintro e w1 ⟨rfl, rfl⟩
   go_wp2_with fail
   refine hnm.mono ?_
   rintro e w2 ⟨rfl, hc2⟩
   have HC2 := Aa hc2
   have HT2 := Aa (H.out.no hc2)
   clear hc2 hnm htw
   go_wp2_with fail
   refine (B9 HT2.out z 10).mono ?_
   rintro e w3 ⟨rfl, c3, d3, hT3, hc3⟩
   have HO := Aa (show Jm w0 w g L a b c d z (.returned (.tuple #[.string ⟨#[]⟩, .int .i64 (-1)])) w3 from .inr ⟨fun h => (by have := h.2; rw [HB.out] at this; cases this), rfl, c3, d3, hT3, (Ce HC2.out).trans hc3⟩)
   clear hT3 hc3
   exact Acr}
 {have HO := Aa (show Jm w0 w g L a b c d z (.returned (.tuple #[.string ⟨#[]⟩, .int .i64 (-1)])) w from .inr ⟨fun h => z0 h.1, rfl, c, d, H.out, Ch.refl _ _⟩)
  clear htw hnm
  go_in
  exact Acr}
end
def He (w0 w : World) (g : Nat) (L : List Tk) (a b c d z r : Int) (w' : World) : Prop :=
 ∃ c' d', Tx w0 w' g L a b c' d' ∧ Ch (Tb g) w w' ∧ (r = -1 ∨ (0 ≤ z ∧ z < r ∧ r ≤ L.length ∧ c' = c ∧ d' = d))
theorem He.f {w0 w w' : World} {g : Nat} {L : List Tk} {a b c d z : Int} (h : Xi w0 w g L a b w') : He w0 w g L a b c d z (-1) w' := by
 obtain ⟨c', d', h1, h2⟩ := h
 exact ⟨c', d', h1, h2, .inl rfl⟩
theorem He.o {w0 w w' : World} {g : Nat} {L : List Tk} {a b c d z r : Int} (h0 : 0 ≤ z) (h1 : z < r) (h2 : r ≤ L.length) (h : Io w0 w g L a b c d w') : He w0 w g L a b c d z r w' := ⟨c, d, h.1, h.2, .inr ⟨h0, h1, h2, rfl, rfl⟩⟩
theorem He.then {w0 w w1 w' : World} {g : Nat} {L : List Tk} {a b c d c1 d1 z r r' : Int} (hc : Ch (Tb g) w w1) (h1 : r = -1 ∨ (0 ≤ z ∧ z < r ∧ r ≤ L.length ∧ c1 = c ∧ d1 = d)) (h : He w0 w1 g L a b c1 d1 r r' w') : He w0 w g L a b c d z r' w' := by
 obtain ⟨c', d', h2, h3, h4⟩ := h
 refine ⟨c', d', h2, hc.trans h3, ?_⟩
 rcases h4 with h4 | ⟨h4, h5, h6, rfl, rfl⟩
 {exact .inl h4}
 {rcases h1 with h1 | ⟨h7, h8, _, rfl, rfl⟩
  {omega}
  {exact .inr ⟨h7, by omega, h6, rfl, rfl⟩}}
theorem Xi.pre {w0 w w1 w' : World} {g : Nat} {L : List Tk} {a b : Int} (hc : Ch (Tb g) w w1) (h : Xi w0 w1 g L a b w') : Xi w0 w g L a b w' := by
 obtain ⟨c, d, hT, h2⟩ := h
 exact ⟨c, d, hT, hc.trans h2⟩
theorem Io.pre {w0 w w1 w' : World} {g : Nat} {L : List Tk} {a b c d : Int} (hc : Ch (Tb g) w w1) (h : Io w0 w1 g L a b c d w') : Io w0 w g L a b c d w' := ⟨h.1, hc.trans h.2⟩
theorem Uw {s : ByteArray} (h : Cw s = true) : s ≠ ⟨#[]⟩ := by
 rintro rfl
 revert h
 decide +kernel
theorem Gq.word2 {L : List Tk} (h : Gq L) (z : Int) : (Ar L z).size ≤ 20000 := by
 unfold Ar
 split
 {cases ht : L[z.toNat]? with
  | none => exact Nat.zero_le _
  | some t => exact h.2 t (mG ht)}
 {exact Nat.zero_le _}
theorem Kg {L : List Tk} {z : Int} (h : 0 ≤ z ∧ Cw (Ar L z) = true) : z < L.length := (Be (Uw h.2)).2
def F5 (L : List Tk) (z : Int) : ByteArray × Int :=
 if 0 ≤ z ∧ Cw (Ar L z) = true then (if Ar L (z + 1) = ⟨#[91]⟩ then (Ar L z ++ ⟨#[91, 93]⟩, if Ar L (z + 1 + 1) = ⟨#[93]⟩ then z + 1 + 1 + 1 else -1) else (Ar L z, z + 1)) else (⟨#[]⟩, -1)
def Dt (w0 w : World) (g : Nat) (L : List Tk) (a b c d z : Int) (q : ByteArray × Int) (e : Ending) (w' : World) : Prop :=
 e = .returned (.tuple #[.string q.1, .int .i64 q.2]) ∧ He w0 w g L a b c d z q.2 w'
section
variable {w0 w : World} {g : Nat} {L : List Tk} {a b c d : Int}
theorem Qz (h : Tx w0 w g L a b c d) (hL : Gq L) {z : Int} (hz9 : z ≤ 50000) : Calls Tryz.prog 129 #[.pointer (some ⟨g, 0, none⟩), .int .i64 z] w (Dt w0 w g L a b c d z (F5 L z)) := by
 have H := Aa h
 have HL := Aa hL.1
 have hz2 : (ByteArray.mk #[91, 93]).size = 2 := rfl
 have hadd : ¬ 9223372036854775807 < (Ar L z).size + 2 := by have := hL.word2 z; omega
 have hnm := Uv h hL (z := z) (by omega)
 clear h hL
 go_in
 go_wp2_with fail
 refine hnm.mono ?_
 rintro e w1 (⟨hn, rfl, hT1, hc1⟩ | ⟨hn, rfl, hG⟩)
 {have HN := Aa hn
  have HT1 := Aa hT1
  have HC1 := Aa hc1
  have hlt := Kg hn
  have hz0 := hn.1
  have htw := A6 hT1 (z + 1)
  have hLL := HL.out
  clear hn hT1 hc1 hnm
  have d1 : decide (z + 1 ≥ 0) = true := decide_eq_true (by omega)
  have wz : IntKind.i64.wrap (z + 1 + 1) = z + 1 + 1 := by rw [IntKind.wrap_i64]; omega
  by_cases hb : Ar L (z + 1) = ⟨#[91]⟩
  {have e1 := lit _ [91] hb
   have hlt2 := (Be (L := L) (z := z + 1) (by rw [hb]; decide)).2
   have HB := Aa hb
   clear hb
   go_wp2_with fail
   refine htw.mono ?_
   rintro e w2 ⟨rfl, rfl⟩
   go_wp2_with fail
   refine (Yk HT1.out (z := z + 1 + 1) (by omega) (by omega) _).mono ?_
   rintro e w3 (⟨h3, rfl, hO⟩ | ⟨h3, rfl, hG⟩)
   {have hlt3 := (Be (L := L) (z := z + 1 + 1) (by rw [h3.2]; decide)).2
    have HO := Aa (show Dt w0 w g L a b c d z (F5 L z) (.returned (.tuple #[.string (Ar L z ++ ⟨#[91, 93]⟩), .int .i64 (z + 1 + 1 + 1)])) w3 from by
     unfold F5 Dt
     rw [if_pos HN.out, if_pos HB.out, if_pos h3.2]
     exact ⟨rfl, (He.o hz0 (by omega) (by omega) (hO.pre HC1.out))⟩)
    clear h3 hO htw
    go_wp2
    refine bodyPost_ret (v := .tuple #[.string (Ar L z ++ ⟨#[91, 93]⟩), .int .i64 (z + 1 + 1 + 1)]) (by simp [results, Tryz.results129, go_sem]) rfl ?_
    exact HO.out}
   {have HO := Aa (show Dt w0 w g L a b c d z (F5 L z) (.returned (.tuple #[.string (Ar L z ++ ⟨#[91, 93]⟩), .int .i64 (-1)])) w3 from by
     unfold F5 Dt
     rw [if_pos HN.out, if_pos HB.out, if_neg (fun h => h3 ⟨by omega, h⟩)]
     exact ⟨rfl, .f (hG.pre HC1.out)⟩)
    clear h3 hG htw
    go_wp2
    refine bodyPost_ret (v := .tuple #[.string (Ar L z ++ ⟨#[91, 93]⟩), .int .i64 (-1)]) (by simp [results, Tryz.results129, go_sem]) rfl ?_
    exact HO.out}}
  {have e1 := Bf _ [91] hb
   have HO := Aa (show Dt w0 w g L a b c d z (F5 L z) (.returned (.tuple #[.string (Ar L z), .int .i64 (z + 1)])) w1 from by
    unfold F5 Dt
    rw [if_pos HN.out, if_neg hb]
    exact ⟨rfl, .o hz0 (by omega) (by omega) ⟨HT1.out, HC1.out⟩⟩)
   clear hb
   go_wp2_with fail
   refine htw.mono ?_
   rintro e w2 ⟨rfl, rfl⟩
   go_wp2
   refine bodyPost_ret (v := .tuple #[.string (Ar L z), .int .i64 (z + 1)]) (by simp [results, Tryz.results129, go_sem]) rfl ?_
   exact HO.out}}
 {have HO := Aa (show Dt w0 w g L a b c d z (F5 L z) (.returned (.tuple #[.string ⟨#[]⟩, .int .i64 (-1)])) w1 from by
   unfold F5 Dt
   rw [if_neg hn]
   exact ⟨rfl, .f hG⟩)
  clear hn hG hnm
  go_wp2
  refine bodyPost_ret (v := .tuple #[.string ⟨#[]⟩, .int .i64 (-1)]) (by simp [results, Tryz.results129, go_sem]) rfl ?_
  exact HO.out}
def Q0 (L : List Tk) (z : Int) : ByteArray × Int := if 0 ≤ z ∧ Ar L z = ⟨#[105, 110, 116]⟩ then (⟨#[105, 110, 116]⟩, z + 1) else F5 L z
theorem Acs {p : Prop} (h : p := by
 go_wp2_with fail
 refine har.mono ?_
 rintro e w2 ⟨rfl, hp⟩
 have HP := Aa hp
 clear hp
 go_wp2
 refine bodyPost_ret (v := .tuple #[.string q.1, .int .i64 q.2]) (by simp [results, Tryz.results96, go_sem]) rfl ?_
 rw [HE.out, HQ.out]
 exact ⟨rfl, HP.out⟩
 ) : p := h
theorem Ux (h : Tx w0 w g L a b c d) (hL : Gq L) {z : Int} (hz9 : z ≤ 50000) : Calls Tryz.prog 96 #[.pointer (some ⟨g, 0, none⟩), .int .i64 z] w (Dt w0 w g L a b c d z (Q0 L z)) := by
 have H := Aa h
 have har := Qz h hL hz9
 have htw := A6 h z
 have wz0 : IntKind.i64.wrap (z + 1) = z + 1 ∨ z < 0 := by rw [IntKind.wrap_i64]; omega
 clear h hL
 by_cases z0 : 0 ≤ z
 {have d1 : decide (z ≥ 0) = true := decide_eq_true z0
  by_cases hi : Ar L z = ⟨#[105, 110, 116]⟩
  {have e1 := lit _ [105, 110, 116] hi
   have hlt := (Be (L := L) (z := z) (by rw [hi]; decide)).2
   have HO := Aa (show Dt w0 w g L a b c d z (Q0 L z) (.returned (.tuple #[.string ⟨#[105, 110, 116]⟩, .int .i64 (z + 1)])) w from by
    unfold Q0 Dt
    rw [if_pos ⟨z0, hi⟩]
    exact ⟨rfl, .o z0 (by omega) (by omega) ⟨H.out, Ch.refl _ _⟩⟩)
   clear hi har
   go_in
   go_wp2_with fail
   refine htw.mono ?_
   rintro e w2 ⟨rfl, rfl⟩
   go_wp2
   refine bodyPost_ret (v := .tuple #[.string ⟨#[105, 110, 116]⟩, .int .i64 (z + 1)]) (by simp [results, Tryz.results96, go_sem]) rfl ?_
   exact HO.out}
  {have e1 := Bf _ [105, 110, 116] hi
   have HE := Aa (show Q0 L z = F5 L z from if_neg (fun h => hi h.2))
   clear hi
   obtain ⟨q, hq⟩ := Ax (F5 L z)
   rw [hq] at har
   have HQ := Aa hq
   clear hq
   go_in
   go_wp2_with fail
   refine htw.mono ?_
   rintro e w2 ⟨rfl, rfl⟩
   exact Acs}}
 {have d1 : decide (z ≥ 0) = false := decide_eq_false z0
  have HE := Aa (show Q0 L z = F5 L z from if_neg (fun h => z0 h.1))
  obtain ⟨q, hq⟩ := Ax (F5 L z)
  rw [hq] at har
  have HQ := Aa hq
  clear hq
  go_in
  exact Acs}
end
def Gm (L : List Tk) (z : Int) : ByteArray × Int := if 0 ≤ z ∧ Cw (Ar L z) = true then (Ar L z, z + 1) else (⟨#[]⟩, -1)
def Gs (L : List Tk) (z : Int) (s : ByteArray) : Int := if 0 ≤ z ∧ Ar L z = s then z + 1 else -1
def muN (L : List Tk) (z : Int) (s t : ByteArray) : Int := if 0 ≤ z ∧ Ar L z = s ∧ Ar L (z + 1) = t then z + 2 else -1
def Q1 (w0 w : World) (g : Nat) (L : List Tk) (a b c d z r : Int) (e : Ending) (w' : World) : Prop := e = .returned (.int .i64 r) ∧ He w0 w g L a b c d z r w'
theorem Bw {L : List Tk} (hL : Gq L) (z : Int) : (Gm L z).1.size ≤ 20000 := by
 unfold Gm
 split
 {exact hL.word2 z}
 {exact Nat.zero_le _}
theorem Q2 {L : List Tk} (hL : Gq L) (z : Int) : (F5 L z).1.size ≤ 20002 := by
 unfold F5
 have h := hL.word2 z
 split
 {split
  {rw [ByteArray.size_append]; exact Nat.add_le_add h (Nat.le_refl _)}
  {exact Nat.le_trans h (by omega)}}
 {exact Nat.zero_le _}
theorem Uy {L : List Tk} (hL : Gq L) (z : Int) : (Q0 L z).1.size ≤ 20002 := by
 unfold Q0
 split
 {exact lb rfl}
 {exact Q2 hL z}
section
variable {w0 w : World} {g : Nat} {L : List Tk} {a b c d : Int}
theorem He.le {w' : World} {z r : Int} (h : He w0 w g L a b c d z r w') : -1 ≤ r ∧ r ≤ L.length := by
 obtain ⟨c', d', h1, h2, h3⟩ := h
 omega
theorem Dz (h : Tx w0 w g L a b c d) (hL : Gq L) {z : Int} (hz9 : z ≤ 100000) : Calls Tryz.prog 54 #[.pointer (some ⟨g, 0, none⟩), .int .i64 z] w (Dt w0 w g L a b c d z (Gm L z)) := by
 refine (Uv h hL hz9).mono ?_
 unfold Gm Dt
 rintro e w1 (⟨h1, rfl, hO⟩ | ⟨h1, rfl, hG⟩)
 {rw [if_pos h1]
  have := Kg h1
  exact ⟨rfl, .o h1.1 (show z < z + 1 by omega) (show z + 1 ≤ L.length by omega) hO⟩}
 {rw [if_neg h1]
  exact ⟨rfl, .f hG⟩}
theorem Da (h : Tx w0 w g L a b c d) {z : Int} (hz : -1 ≤ z) (hz9 : z ≤ 100000) (s : ByteArray) (hs : s ≠ ⟨#[]⟩) : Calls Tryz.prog 29 #[.pointer (some ⟨g, 0, none⟩), .int .i64 z, .string s] w (Q1 w0 w g L a b c d z (Gs L z s)) := by
 refine (Yk h hz hz9 s).mono ?_
 unfold Gs Q1
 rintro e w1 (⟨h1, rfl, hO⟩ | ⟨h1, rfl, hG⟩)
 {rw [if_pos h1]
  have := (Be (L := L) (z := z) (by rw [h1.2]; exact hs)).2
  exact ⟨rfl, .o h1.1 (by omega) (by omega) hO⟩}
 {rw [if_neg h1]
  exact ⟨rfl, .f hG⟩}
theorem Acu (h : Tx w0 w g L a b c d) {z : Int} (hz : -1 ≤ z) (hz9 : z ≤ 100000) {v : Value} {s t : ByteArray} (hv : Ah w v [s, t]) (ht : t ≠ ⟨#[]⟩) : Calls Tryz.prog 58 #[.pointer (some ⟨g, 0, none⟩), .int .i64 z, v] w (Q1 w0 w g L a b c d z (muN L z s t)) := by
 have e : Kf L z [s, t] ↔ (0 ≤ z ∧ Ar L z = s ∧ Ar L (z + 1) = t) := by
  constructor
  {rintro ⟨h0, h1⟩
   exact ⟨h0, by simpa using h1 0 s rfl, by simpa using h1 1 t rfl⟩}
  {rintro ⟨h0, h1, h2⟩
   refine ⟨h0, fun j x hx => ?_⟩
   match j, hx with
   | 0, hx => cases hx; simpa using h1
   | 1, hx => cases hx; simpa using h2
   | j + 2, hx => simp at hx}
 refine (Ut h hz hz9 hv (lb rfl)).mono ?_
 unfold muN Q1
 rintro e w1 (⟨h1, rfl, hO⟩ | ⟨h1, rfl, hG⟩)
 {rw [if_pos (e.1 h1)]
  have := (Be (L := L) (z := z + 1) (by rw [(e.1 h1).2.2]; exact ht)).2
  exact ⟨rfl, .o h1.1 (by omega) (by omega) hO⟩}
 {rw [if_neg (fun h => h1 (e.2 h))]
  exact ⟨rfl, .f hG⟩}
def Sw (L : List Tk) (a b z : Int) : Vr × Int := ({ ty := (Q0 L z).1, nm := (Gm L (Q0 L z).2).1, line := (Fx L a b z).1, col := (Fx L a b z).2 }, (Gm L (Q0 L z).2).2)
def Uz (w0 w : World) (g : Nat) (L : List Tk) (a b c d z : Int) (q : Vr × Int) (e : Ending) (w' : World) : Prop :=
 e = .returned (.tuple #[.agg #[.string q.1.ty, .string q.1.nm, .int .i64 q.1.line, .int .i64 q.1.col], .int .i64 q.2]) ∧ He w0 w g L a b c d z q.2 w'
theorem N0 (h : Tx w0 w g L a b c d) (hL : Gq L) {z : Int} (hz9 : z ≤ 50000) : Calls Tryz.prog 59 #[.pointer (some ⟨g, 0, none⟩), .int .i64 z] w (Uz w0 w g L a b c d z (Sw L a b z)) := by
 obtain ⟨wa, hwa, hba, hca⟩ := A2 w (.cells #[.string ⟨#[]⟩, .string ⟨#[]⟩, .int .i64 0, .int .i64 0] 64)
 have HBA := Aa hba
 have HT := Aa (h.no hca)
 have HCA := Aa hca
 have HLL := Aa hL
 have hLL := hL.1
 have hgw := h.lt
 have h0w := h.ch.size
 clear h hba hca hL
 obtain ⟨p, hp⟩ := Ax (Fx L a b z)
 have hpl := Ds HT.out z
 rw [hp] at hpl
 obtain ⟨q, hq⟩ := Ax (Q0 L z)
 obtain ⟨n, hn⟩ := Ax (Gm L q.2)
 have HV := Aa (show Sw L a b z = ({ ty := q.1, nm := n.1, line := p.1, col := p.2 }, n.2) from by unfold Sw; rw [hp, hq, hn])
 have HQ := Aa hq
 have HN := Aa hn
 clear hp hq hn
 go_in
 go_wp2_with fail
 refine hpl.mono ?_
 rintro e w1 ⟨rfl, hc1⟩
 have HB1 := Aa (hc1.keep _ _ HBA.out (fun h => h))
 have HT1 := Aa (HT.out.no hc1)
 have HC1 := Aa (HCA.out.trans hc1)
 clear hc1 hpl hwa
 go_upto_region 2 with fail
 obtain ⟨w2, hw2, hb2, hc2⟩ := A2 w1 (.cells #[.int .i64 p.1, .int .i64 p.2] 27)
 try rw [hw2]
 have Jj : w.heap.size < w1.heap.size := Ac HB1.out
 have HP2 := Aa hb2
 have HB2 := Aa (hc2.keep _ _ HB1.out (fun h => h))
 have HT2 := Aa (HT1.out.no hc2)
 have HC2 := Aa (HC1.out.trans hc2)
 clear hb2 hc2 hw2
 have hkd := Ux HT2.out HLL.out (z := z) hz9
 rw [HQ.out] at hkd
 go_wp2_with fail
 refine hkd.mono ?_
 rintro e w3 ⟨rfl, c3, d3, hT3, hc3, hr3⟩
 have HP3 := Aa (hc3.keep _ _ HP2.out (Bm (by omega)))
 have HB3 := Aa (hc3.keep _ _ HB2.out (Bm (by omega)))
 have HC3 := Aa ((Ce HC2.out).trans hc3)
 have HT3 := Aa hT3
 have HR3 := Aa hr3
 have hnm := Dz HT3.out HLL.out (z := q.2) (by omega)
 rw [HN.out] at hnm
 clear hT3 hc3 hr3 hkd
 go_wp2_with fail
 refine hnm.mono ?_
 rintro e w4 ⟨rfl, hp4⟩
 have hP := He.then HC3.out HR3.out hp4
 obtain ⟨c4, d4, hT4, hc4, hr4⟩ := hp4
 have HP4 := hc4.keep _ _ HP3.out (Bm (by omega))
 have HB4 := Aa (hc4.keep _ _ HB3.out (Bm (by omega)))
 obtain ⟨q0, q1⟩ := Co HP4
 have hb4 := HB4.out
 obtain ⟨p0, p1, p2, p3⟩ := F9 hb4
 obtain ⟨f0, f1, f2, f3⟩ := Y5 hb4
 obtain ⟨wf, hwf, hfb, hfc⟩ := Jw hb4 (.string q.1) (.string n.1) (.int .i64 p.1) (.int .i64 p.2)
 have HO := Aa (show Uz w0 w g L a b c d z (Sw L a b z) (.returned (.tuple #[.agg #[.string q.1, .string n.1, .int .i64 p.1, .int .i64 p.2], .int .i64 n.2])) wf from by
  rw [HV.out]
  obtain ⟨c5, d5, hT5, hc5, hr5⟩ := hP
  exact ⟨rfl, c5, d5, hT5.new hfc h0w (by omega), Ao hc5 hfc (Nat.le_refl _), hr5⟩)
 clear hP hT4 hc4 hr4 hb4 HP4 hnm
 go_wp2_with fail
 obtain ⟨k0, k1, k2, k3⟩ := F9 hfb
 refine bodyPost_ret (v := .tuple #[.agg #[.string q.1, .string n.1, .int .i64 p.1, .int .i64 p.2], .int .i64 n.2]) (by simp [results, Tryz.results59, go_sem, k0, k1, k2, k3]) rfl ?_
 exact HO.out
end
theorem Dh {w : World} {base sz n : Nat} {e : TypeId} {v : Value} {xs : List Value} (h : w.ownsRow base e sz v n xs) : ∃ ao cap, v = .slice ao n cap ∧ n ≤ cap ∧ cap ≤ maxLen := by
 rcases h.2 with ⟨rfl, h0⟩ | ⟨g, cap, cur, rfl, _, _, h4, h5, _⟩
 {rw [h0]; exact ⟨_, _, rfl, Nat.le_refl _, Nat.zero_le _⟩}
 {exact ⟨_, _, rfl, h4, h5⟩}
theorem Cg {w : World} {base base' sz n : Nat} {e : TypeId} {v : Value} {xs : List Value} (h : w.ownsRow base e sz v n xs) (hb : base' ≤ base) : w.ownsRow base' e sz v n xs := by
 refine ⟨h.1, ?_⟩
 rcases h.2 with h | ⟨g, cap, cur, h1, h2, h3⟩
 {exact .inl h}
 {exact .inr ⟨g, cap, cur, h1, Nat.le_trans hb h2, h3⟩}
theorem Bd {w w' : World} {g base sz n : Nat} {e : TypeId} {v : Value} {xs : List Value} (h : w.ownsRow base e sz v n xs) (hc : Ch (Tb g) w w') {cs : Array Value} {t : TypeId} (hg : w.heap[g]? = some (.cells cs t (0, 0))) (hne : t ≠ e) : w'.ownsRow base e sz v n xs :=
 An h hc (fun k cur hk _ _ e1 => by
  have e2 : k = g := e1
  subst e2
  exact Bu h hg hne hk)
theorem Cn {w0 w w' : World} {g : Nat} {L : List Tk} {a b c d : Int} (hT : Tx w0 w g L a b c d) {base sz n : Nat} {e : TypeId} {v : Value} {xs : List Value} (h : w.ownsRow base e sz v n xs) (hc : Ch (Tb g) w w') (hne : 79 ≠ e) : w'.ownsRow base e sz v n xs := by
 obtain ⟨cs, hb⟩ := hT.blk
 exact Bd h hc hb hne
theorem Tx.app {w0 w w' : World} {g : Nat} {L : List Tk} {a b c d : Int} (hT : Tx w0 w g L a b c d) {base sz n : Nat} {e : TypeId} {v : Value} {xs : List Value} (h : w.ownsRow base e sz v n xs) (hc : Ch (fun k _ => v.ownBlock = some k) w w') (hne : 79 ≠ e) (hb : w0.heap.size ≤ base) : Tx w0 w' g L a b c d := by
 obtain ⟨cs, hg⟩ := hT.blk
 exact hT.keep hc (fun o ho => Bu h hg hne) (Ch.newOnly hT.ch hc (fun k o ho e1 => by have := (Aw h k e1).1; omega))
theorem Q3 {S : Nat → Obj → Prop} {w w1 w2 : World} {base sz n : Nat} {e : TypeId} {v : Value} {xs : List Value} (h : Ch S w w1) (own : w1.ownsRow base e sz v n xs) (hb : w.heap.size ≤ base) (h' : Ch (fun k _ => v.ownBlock = some k) w1 w2) : Ch S w w2 :=
 h.trans' h' (fun k o ho e => absurd (Ac ho) (by have := (Aw own k e).1; omega))
theorem Afn (s : ByteArray) : ∀ u ∈ [Value.string s], u.oneCell' = true := by
 intro u hu
 simp at hu
 rw [hu]; rfl
section
variable {w0 w : World} {g : Nat} {L : List Tk} {a b c d : Int}
def Pn (w : World) (s : ByteArray) (e : Ending) (w' : World) : Prop := ∃ r : Bool, e = .returned (.bool r) ∧ (Cw s = true → r = true) ∧ Ch No w w'
theorem Yl (h : Tx w0 w g L a b c d) (hL : Gq L) (z : Int) : Calls Tryz.prog 98 #[.pointer (some ⟨g, 0, none⟩), .int .i64 z] w (Pn w (Ar L z)) := by
 have htw := A6 h z
 have hnm := Qy w (Ar L z) (hL.word z)
 obtain ⟨s, hs⟩ := Ax (Ar L z)
 rw [hs] at htw hnm ⊢
 obtain ⟨nb, hnb⟩ := Ax (Cw s)
 have HNB := Aa hnb
 rw [hnb] at hnm
 clear h hL hs hnb
 have hT : Pn w s (.returned (.bool true)) w := ⟨true, rfl, fun _ => rfl, Ch.refl _ _⟩
 go_in
 go_wp2_with fail
 refine htw.mono ?_
 rintro e w1 ⟨rfl, rfl⟩
 go_wp2_with fail
 all_goals first
  | (go_ret; exact hT)
  | (refine htw.mono ?_
     rintro e w2 ⟨rfl, rfl⟩
     go_wp2_with fail
     refine hnm.mono ?_
     rintro e w3 ⟨rfl, hc3⟩
     have HO := Aa (show Pn w s (.returned (.bool nb)) w3 from ⟨nb, rfl, fun h => by rw [← HNB.out]; exact h, hc3⟩)
     clear hc3
     go_wp2
     go_ret
     exact HO.out)
def Hb (w0 w : World) (g : Nat) (L : List Tk) (a b c d z : Int) (e : Ending) (w' : World) : Prop :=
 ∃ (ao : Option Addr) (cap : Nat) (l : List ByteArray) (r : Int), e = .returned (.tuple #[.slice ao l.length cap, .int .i64 r]) ∧ Aq w' w.heap.size (.slice ao l.length cap) l ∧ l.length ≤ 41 ∧ (∀ s ∈ l, s.size ≤ 20000) ∧ He w0 w g L a b c d z r w'
structure Acv (w0 w : World) (g : Nat) (L : List Tk) (a b c d z : Int) (ao : Option Addr) (k cap : Nat) (l : List ByteArray) (zc : Int) (wr : World) : Prop where
 tx : Io w0 w g L a b c d wr
 own : Aq wr w.heap.size (.slice ao k cap) l
 len : l.length = k
 sz : ∀ s ∈ l, s.size ≤ 20000
theorem Mh (h : Tx w0 w g L a b c d) (hL : Gq L) {z : Int} (hz : -1 ≤ z) (hz9 : z ≤ 50000) : Calls Tryz.prog 55 #[.pointer (some ⟨g, 0, none⟩), .int .i64 z] w (Hb w0 w g L a b c d z) := by
 have H := Aa h
 have HL := Aa hL
 have hLL := hL.1
 have h0w := h.ch.size
 clear h hL
 by_cases z0 : 0 ≤ z
 {go_in
  go_wp2
  go_loopg [1, 6, 7, 8] 60000 (fun gg s1 s6 s7 s8 wr => ∃ (zc : Int) (ao : Option Addr) (k cap : Nat) (l : List ByteArray), z ≤ zc ∧ zc ≤ 50000 ∧ 60000 - zc ≤ gg ∧ s1 = .int .i64 zc ∧ s6 = .slice ao k cap ∧ k ≤ 40 ∧ k ≤ cap ∧ cap ≤ 9223372036854775807 ∧ Hid (Acv w0 w g L a b c d z ao k cap l zc wr))
  case atStart => exact ⟨z, none, 0, 0, [], by omega, by omega, by omega, rfl, rfl, by omega, by omega, by omega, Aa ⟨⟨H.out, Ch.refl _ _⟩, Aq.nil _ _, rfl, (fun s hs => by cases hs)⟩⟩
  case round =>
   obtain ⟨zc, ao, k, cap, l, z1, z2, z3, rfl, rfl, hk, hkc, hcm, HA⟩ := hrel
   have dz : decide (zc ≥ 0) = true := decide_eq_true (by omega)
   have wzc : IntKind.i64.wrap (zc + 1) = zc + 1 := by rw [IntKind.wrap_i64]; omega
   have htw := A6 HA.out.tx.1 zc
   have hnm := Qy wr (Ar L zc) (HL.out.word zc)
   obtain ⟨nb, hnb⟩ := Ax (Cw (Ar L zc))
   rw [hnb] at hnm
   have HNB := Aa hnb
   clear hnb
   obtain ⟨n, hn⟩ := Ax (Gm L zc)
   have hsz := Bw HL.out zc
   rw [hn] at hsz
   have HSZ := Aa hsz
   have HN := Aa hn
   clear hn hsz
   rcases Nat.lt_or_eq_of_le hk with hk4 | hk4
   rotate_left
   have d40 : ((k : Int) == 40) = true := by simpa using (show (k : Int) = 40 by omega)
   have HK := Aa hk4
   clear hk4
   go_wp2_with fail
   refine htw.mono ?_
   rintro e w2 ⟨rfl, rfl⟩
   go_wp2_with fail
   refine hnm.mono ?_
   rintro e w3 ⟨rfl, hc3⟩
   cases nb
   rotate_left
   {have HC3 := Aa hc3
    clear hc3
    go_wp2_with fail
    refine (B9 (HA.out.tx.1.no HC3.out) zc 13).mono ?_
    rintro e w4 ⟨rfl, hG⟩
    have hO : Hb w0 w g L a b c d z (.returned (.tuple #[.slice ao k cap, .int .i64 (-1)])) w4 := by
     obtain ⟨c4, d4, hT4, hc4⟩ := hG
     refine ⟨ao, cap, l, -1, by rw [HA.out.len], ?_, by rw [HA.out.len]; omega, HA.out.sz, .f ⟨c4, d4, hT4, (HA.out.tx.2.trans (Ce HC3.out)).trans hc4⟩⟩
     rw [HA.out.len]
     exact Cn (HA.out.tx.1.no HC3.out) (HA.out.own.no HC3.out) hc4 (by decide)
    have HO := Aa hO
    clear hG hO
    go_wp2
    refine bodyPost_ret (v := .tuple #[.slice ao k cap, .int .i64 (-1)]) (by simp [results, Tryz.results55, go_sem]) rfl ?_
    exact HO.out}
   have hkn : k < 40 ∨ n.2 = -1 := .inl hk4
   have d40 : ((k : Int) == 40) = false := by simpa using (show ¬ (k : Int) = 40 by omega)
   have hc3 := Ch.refl No wr
   clear hk4
   rotate_left
   have hkn : k < 40 ∨ n.2 = -1 := .inr (by rw [← HN.out, Gm, if_neg (fun h => by have := h.2; rw [HNB.out] at this; cases this)])
   all_goals (
    have HC3 := Aa hc3
    have HKN := Aa hkn
    clear hc3 hkn
    have HT3 := Aa (HA.out.tx.1.no HC3.out)
    have HO3 := Aa (HA.out.own.no HC3.out)
    have hnm := Dz HT3.out HL.out (z := zc) (by omega)
    rw [HN.out] at hnm
    go_wp2_with fail
    refine hnm.mono ?_
    rintro e w4 ⟨rfl, c4, d4, hT4, hc4, hr4⟩
    have HO4 := Aa (Cn HT3.out HO3.out hc4 (by decide))
    have HT4 := Aa hT4
    have HC4 := Aa ((HA.out.tx.2.trans (Ce HC3.out)).trans hc4)
    clear hT4 hc4 hnm
    have hcA := (Ch.refl No w4).alloc (.cells #[.string n.1] 9)
    have HCA := Aa hcA
    have hbase : w.heap.size ≤ (w4.alloc (.cells #[.string n.1] 9)).heap.size := (HC4.out.trans (Ce hcA)).size
    have hownA := Aq.no HO4.out hcA
    rw [Aq, HA.out.len] at hownA
    have HOA := Aa hownA
    clear hownA hcA
    go_wp2_with (at_builtin; go_must (refine C1 rfl _ _ rfl Tryz.sliceStr Tryz.infoStr Nat.zero_lt_one (lb rfl) w.heap.size (.slice ao k cap) k (l.map Value.string) rfl HOA.out w4.heap.size 1 1 [.string n.1] rfl rfl (heap_alloc_new w4 _) (Afn _) (by omega) hbase ?_))
    intro v6 w6 hr6 hc6
    obtain ⟨a6, p6, e6, hp6, hp7⟩ := Dh hr6
    subst e6
    unfold maxLen at hp7
    have HT6 := Aa ((HT4.out.no HCA.out).app HOA.out hc6 (by decide) h0w)
    have HC6 := Aa (Q3 (HC4.out.trans (Ce HCA.out)) HOA.out (Nat.le_refl _) hc6)
    have HL6 := Aa (show ∀ s ∈ l ++ [n.1], s.size ≤ 20000 from fun s hs => by
     rcases List.mem_append.1 hs with h | h
     {exact HA.out.sz s h}
     {simp at h; rw [h]; exact HSZ.out})
    have HLN := Aa (show (l ++ [n.1]).length = k + 1 from by rw [List.length_append, HA.out.len]; rfl)
    have hr6' : Aq w6 w.heap.size (.slice a6 (k + 1) p6) (l ++ [n.1]) := by
     unfold Aq
     rw [HLN.out, List.map_append]
     exact hr6
    have HR6 := Aa hr6'
    clear hr6 hr6' hc6 hbase
    have hfin : ∀ (w7 : World), w6 = w7 → (n.2 = -1 ∨ z < n.2 ∧ n.2 ≤ L.length ∧ c4 = c ∧ d4 = d) → Hb w0 w g L a b c d z (.returned (.tuple #[.slice a6 (k + 1) p6, .int .i64 n.2])) w7 := by
     rintro w7 rfl h
     refine ⟨a6, p6, l ++ [n.1], n.2, by rw [HLN.out], by rw [HLN.out]; exact HR6.out, by rw [HLN.out]; omega, HL6.out, c4, d4, HT6.out, HC6.out, ?_⟩
     rcases h with h | ⟨h1, h2, h3, h4⟩
     {exact .inl h}
     {exact .inr ⟨z0, h1, h2, h3, h4⟩}
    have HF := Aa hfin
    clear hfin
    rcases hr4 with hr4 | ⟨y0, y1, y2, rfl, rfl⟩
    {have dn : decide (n.2 < 0) = true := decide_eq_true (by omega)
     have HR4 := Aa hr4
     clear hr4
     go_wp2
     refine bodyPost_ret (v := .tuple #[.slice a6 (k + 1) p6, .int .i64 n.2]) (by simp [results, Tryz.results55, go_sem]) rfl ?_
     exact HF.out _ rfl (.inl HR4.out)}
    {have dn : decide (n.2 < 0) = false := decide_eq_false (by omega)
     have htw6 := A6 HT6.out n.2
     by_cases hk2 : Ar L n.2 = ⟨#[44]⟩
     {have e1 := lit _ [44] hk2
      have hlt := (Be (L := L) (z := n.2) (by rw [hk2]; decide)).2
      have wn : IntKind.i64.wrap (n.2 + 1) = n.2 + 1 := by rw [IntKind.wrap_i64]; omega
      clear hk2
      go_wp2_with fail
      refine htw6.mono ?_
      rintro e w7 ⟨rfl, rfl⟩
      go_wp2
      go_roundg (60000 - (n.2 + 1)).toNat
      case rel =>
       have hkn := HKN.out
       exact ⟨n.2 + 1, a6, k + 1, p6, l ++ [n.1], by omega, by omega, by omega, by go_num, rfl, by omega, by omega, by omega, Aa ⟨⟨HT6.out, HC6.out⟩, HR6.out, HLN.out, HL6.out⟩⟩
      case measure => omega}
     {have e1 := Bf _ [44] hk2
      clear hk2
      go_wp2_with fail
      refine htw6.mono ?_
      rintro e w7 ⟨rfl, rfl⟩
      go_wp2
      refine bodyPost_ret (v := .tuple #[.slice a6 (k + 1) p6, .int .i64 n.2]) (by simp [results, Tryz.results55, go_sem]) rfl ?_
      exact HF.out _ rfl (.inr ⟨by omega, by omega, by simp⟩)}})}
 {obtain rfl : z = -1 := by omega
  have HO := Aa (show Hb w0 w g L a b c d (-1) (.returned (.tuple #[.slice none 0 0, .int .i64 (-1)])) w from ⟨none, 0, [], -1, rfl, Aq.nil _ _, by simp, (fun s hs => by cases hs), .f ⟨c, d, H.out, Ch.refl _ _⟩⟩)
  go_in
  go_wp2
  go_loopg [1, 6, 7, 8] 0 (fun gg s1 s6 s7 s8 wr => s1 = .int .i64 (-1) ∧ s6 = .slice none 0 0 ∧ Hid (w = wr))
  case atStart => exact ⟨rfl, rfl, Aa rfl⟩
  case round =>
   obtain ⟨rfl, rfl, HE⟩ := hrel
   go_wp2
   refine bodyPost_ret (v := .tuple #[.slice none 0 0, .int .i64 (-1)]) (by simp [results, Tryz.results55, go_sem]) rfl ?_
   rw [← HE.out]
   exact HO.out}
end
section
variable {w0 w : World} {g : Nat} {L : List Tk} {a b c d : Int}
theorem Po (h : Tx w0 w g L a b c d) (hL : Gq L) {z : Int} (hz : -1 ≤ z) (hz9 : z ≤ 50000) : Calls Tryz.prog 169 #[.pointer (some ⟨g, 0, none⟩), .int .i64 z] w (Hb w0 w g L a b c d z) := by
 have HL := Aa hL
 have hLL := hL.1
 have hon := Da h hz (by omega) ⟨#[40]⟩ (by decide)
 obtain ⟨r1, hr1⟩ : ∃ r, Gs L z ⟨#[40]⟩ = r := ⟨_, rfl⟩
 rw [hr1] at hon
 clear hr1 h hL
 go_in
 go_wp2_with fail
 refine hon.mono ?_
 rintro e w1 ⟨rfl, hP1⟩
 have hle := hP1.le
 have HP1 := Aa hP1
 obtain ⟨c1, d1, hT1, hc1, hq1⟩ := hP1
 have HT1 := Aa hT1
 have HC1 := Aa hc1
 have HQ1 := Aa hq1
 have htw := A6 hT1 r1
 have Jj := hc1.size
 clear hT1 hc1 hq1 hon
 have hfin : ∀ (e : Ending) (w' : World), Hb w0 w1 g L a b c1 d1 r1 e w' → ∃ (ao : Option Addr) (n cap : Nat) (r2 c2 d2 : Int) (l : List ByteArray), e = .returned (.tuple #[.slice ao n cap, .int .i64 r2]) ∧ Tx w0 w' g L a b c2 d2 ∧ -1 ≤ r2 ∧ r2 ≤ L.length ∧ ∀ (r3 : Int) (w'' : World), He w0 w' g L a b c2 d2 r2 r3 w'' → Hb w0 w g L a b c d z (.returned (.tuple #[.slice ao n cap, .int .i64 r3])) w'' := by
  rintro e w' ⟨ao, cap, l, r2, rfl, ho, h1, h2, hP⟩
  have hl := hP.le
  obtain ⟨c2, d2, hT2, hc2, hq2⟩ := hP
  refine ⟨ao, l.length, cap, r2, c2, d2, l, rfl, hT2, hl.1, hl.2, fun r3 w'' hP3 => ⟨ao, cap, l, r3, rfl, ?_, h1, h2, ?_⟩⟩
  {obtain ⟨c3, d3, hT3, hc3, hq3⟩ := hP3
   exact Cg (Cn hT2 ho hc3 (by decide)) Jj}
  {exact He.then HC1.out HQ1.out (He.then hc2 hq2 hP3)}
 have HF := Aa hfin
 clear hfin
 by_cases r0 : 0 ≤ r1 ∧ Ar L r1 = ⟨#[41]⟩
 {obtain ⟨r0, hw⟩ := r0
  have d1 : decide (r1 ≥ 0) = true := decide_eq_true r0
  have e1 := lit _ [41] hw
  have hlt := (Be (L := L) (z := r1) (by rw [hw]; decide)).2
  have wz : IntKind.i64.wrap (r1 + 1) = r1 + 1 := by rw [IntKind.wrap_i64]; omega
  clear hw
  go_wp2_with fail
  refine htw.mono ?_
  rintro e w2 ⟨rfl, rfl⟩
  go_wp2
  refine bodyPost_ret (v := .tuple #[.slice none 0 0, .int .i64 (r1 + 1)]) (by simp [results, Tryz.results169, go_sem]) rfl ?_
  exact ⟨none, 0, [], r1 + 1, rfl, Aq.nil _ _, by simp, (fun s hs => by cases hs), He.then HC1.out HQ1.out (.o r0 (by omega) (by omega) ⟨HT1.out, Ch.refl _ _⟩)⟩}
 {have hns := Mh HT1.out HL.out (z := r1) hle.1 (by omega)
  have hd : decide (r1 ≥ 0) = false ∨ (decide (r1 ≥ 0) = true ∧ ((Ar L r1).toList == [41]) = false) := by
   by_cases h : 0 ≤ r1
   {exact .inr ⟨decide_eq_true h, Bf _ [41] (fun h2 => r0 ⟨h, h2⟩)⟩}
   {exact .inl (decide_eq_false h)}
  clear r0
  rcases hd with d1 | ⟨d1, e1⟩
  rotate_left
  go_wp2_with fail
  refine htw.mono ?_
  rintro e w2 ⟨rfl, rfl⟩
  all_goals (
   go_wp2_with fail
   refine hns.mono ?_
   intro e w3 hO3
   obtain ⟨ao, n, cap, r2, c2, d2, l, rfl, hT2, l2, l3, hK⟩ := HF.out _ _ hO3
   have HK := Aa hK
   clear hO3 hK hns htw
   have hon2 := Da hT2 l2 (by omega) ⟨#[41]⟩ (by decide)
   clear hT2
   obtain ⟨r3, hr3⟩ : ∃ r, Gs L r2 ⟨#[41]⟩ = r := ⟨_, rfl⟩
   rw [hr3] at hon2
   clear hr3
   go_wp2_with fail
   refine hon2.mono ?_
   rintro e w4 ⟨rfl, hP3⟩
   have HO := Aa (HK.out _ _ hP3)
   clear hP3
   go_wp2
   refine bodyPost_ret (v := .tuple #[.slice ao n cap, .int .i64 r3]) (by simp [results, Tryz.results169, go_sem]) rfl ?_
   exact HO.out)}
end
theorem Tryz.infoVar : (Tryz.prog.info? 64).map (fun i => (i.zero.map (fun z => z.cells.size), i.size, i.bytes)) = some (some 4, 4, 48) := by kernel_rfl
theorem Tryz.sliceVar : Tryz.prog.underlying 24 = some (.slice 64) := by kernel_rfl
theorem Vr.one (x : Vr) : ∀ u ∈ x.cells, u.oneCell' = true := by
 intro u hu
 simp [Vr.cells] at hu
 rcases hu with rfl | rfl | rfl | rfl <;> rfl
def Bp (w : World) (base : Nat) (v : Value) (l : List Vr) : Prop := w.ownsRow base 64 4 v l.length (l.flatMap Vr.cells)
theorem Bp.nil (w : World) (base : Nat) : Bp w base (.slice none 0 0) [] := World.ownsRow_nil _ _ _ _
theorem Bp.no {w w' : World} {base : Nat} {v : Value} {l : List Vr} (h : Bp w base v l) (hc : Ch No w w') : Bp w' base v l := An h hc (fun _ _ _ _ _ h => h)
def G0 (v : Vr) : Prop := v.nm.size ≤ 20000 ∧ v.ty.size ≤ 20002
theorem Mi {L : List Tk} (hL : Gq L) (a b z : Int) : G0 (Sw L a b z).1 := ⟨Bw hL _, Uy hL _⟩
theorem Aad {L : List Tk} {a b z : Int} (h1 : Ar L z ≠ ⟨#[105, 110, 116]⟩) (h2 : Cw (Ar L z) = false) : (Sw L a b z).2 = -1 := by
 have e : Q0 L z = (⟨#[]⟩, -1) := by
  unfold Q0
  rw [if_neg (fun h => h1 h.2)]
  unfold F5
  rw [if_neg (fun h => by have := h.2; rw [h2] at this; cases this)]
 unfold Sw
 rw [e]
 rfl
section
variable {w0 w : World} {g : Nat} {L : List Tk} {a b c d : Int}
def Pq (w0 w : World) (g : Nat) (L : List Tk) (a b c d z : Int) (e : Ending) (w' : World) : Prop :=
 ∃ (ao : Option Addr) (cap : Nat) (l : List Vr) (r : Int), e = .returned (.tuple #[.slice ao l.length cap, .int .i64 r]) ∧ Bp w' w.heap.size (.slice ao l.length cap) l ∧ l.length ≤ 41 ∧ (∀ s ∈ l, G0 s) ∧ He w0 w g L a b c d z r w'
structure Acw (w0 w : World) (g : Nat) (L : List Tk) (a b c d z : Int) (ao : Option Addr) (k cap : Nat) (l : List Vr) (zc : Int) (wr : World) : Prop where
 tx : Io w0 w g L a b c d wr
 own : Bp wr w.heap.size (.slice ao k cap) l
 len : l.length = k
 sz : ∀ s ∈ l, G0 s
theorem Acx {p : Prop} (h : p := by
 go_wp2_with fail
 refine hon.mono ?_
 rintro e w8 ⟨rfl, hP⟩
 have HO := Aa (HF.out _ _ hP)
 clear hP hon
 obtain ⟨r, hr⟩ := Ax (Gs L n.2 ⟨#[41]⟩)
 rw [hr] at HO ⊢
 clear hr
 go_wp2
 refine bodyPost_ret (v := .tuple #[.slice a6 (k + 1) p6, .int .i64 r]) (by simp [results, Tryz.results97, go_sem]) rfl ?_
 exact HO.out
 ) : p := h
theorem Acy {p : Prop} (h : p := by
 have HC3 := Aa hc3
 have HKN := Aa hkn
 clear hc3 hkn htw
 have HT3 := Aa (HA.out.tx.1.no HC3.out)
 have HO3 := Aa (Bp.no HA.out.own HC3.out)
 have hvr := N0 HT3.out HL.out (z := zc) (by omega)
 rw [HN.out] at hvr
 go_wp2_with fail
 refine hvr.mono ?_
 rintro e w4 ⟨rfl, c4, d4, hT4, hc4, hr4⟩
 have HO4 := Aa (Cn HT3.out HO3.out hc4 (by decide))
 have HC4 := Aa ((HA.out.tx.2.trans (Ce HC3.out)).trans hc4)
 have HT4 := Aa hT4
 clear hT4 hc4 hvr
 go_upto_region 9 with fail
 obtain ⟨w5, hw5, hb5, hcA⟩ := A2 w4 (.cells n.1.cells.toArray 64)
 unfold Vr.cells at hw5 hb5
 obtain ⟨m0, m1, m2, m3⟩ := F9 hb5
 have HT5 := Aa (HT4.out.no hcA)
 have HC5 := Aa (HC4.out.trans (Ce hcA))
 have HO5 := Aa (Bp.no HO4.out hcA)
 clear hb5 hcA
 have hcB := (Ch.refl No w5).alloc (.cells n.1.cells.toArray 64)
 have HCB := Aa hcB
 have hbase : w.heap.size ≤ (w5.alloc (.cells n.1.cells.toArray 64)).heap.size := (HC5.out.trans (Ce hcB)).size
 have hownA := Bp.no HO5.out hcB
 rw [Bp, HA.out.len] at hownA
 have HOA := Aa hownA
 clear hownA hcB
 go_wp2_with (at_builtin; go_must (refine C1 rfl _ _ rfl Tryz.sliceVar Tryz.infoVar (lb rfl) (lb rfl) w.heap.size (.slice ao k cap) k (l.flatMap Vr.cells) rfl HOA.out w5.heap.size 1 1 n.1.cells rfl rfl (heap_alloc_new w5 _) (Vr.one _) (by omega) hbase ?_))
 intro v6 w6 hr6 hc6
 obtain ⟨a6, p6, e6, hp6, hp7⟩ := Dh hr6
 subst e6
 unfold maxLen at hp7
 have HT6 := Aa ((HT5.out.no HCB.out).app HOA.out hc6 (by decide) h0w)
 have HC6 := Aa (Q3 (HC5.out.trans (Ce HCB.out)) HOA.out (Nat.le_refl _) hc6)
 have HL6 := Aa (show ∀ s ∈ l ++ [n.1], G0 s from fun s hs => by
  rcases List.mem_append.1 hs with h | h
  {exact HA.out.sz s h}
  {simp at h; rw [h]; exact HSZ.out})
 have HLN := Aa (show (l ++ [n.1]).length = k + 1 from by rw [List.length_append, HA.out.len]; rfl)
 have hr6' : Bp w6 w.heap.size (.slice a6 (k + 1) p6) (l ++ [n.1]) := by
  unfold Bp
  rw [HLN.out, List.flatMap_append, List.flatMap_singleton]
  exact hr6
 have HR6 := Aa hr6'
 clear hr6 hr6' hc6 hbase hw5 m0 m1 m2 m3
 have hfin : ∀ (r : Int) (w7 : World), He w0 w6 g L a b c4 d4 n.2 r w7 → Pq w0 w g L a b c d z (.returned (.tuple #[.slice a6 (k + 1) p6, .int .i64 r])) w7 := by
  intro r w7 hP
  refine ⟨a6, p6, l ++ [n.1], r, by rw [HLN.out], ?_, by rw [HLN.out]; omega, HL6.out, He.then HC6.out (?_ : n.2 = -1 ∨ (0 ≤ z ∧ z < n.2 ∧ n.2 ≤ L.length ∧ c4 = c ∧ d4 = d)) hP⟩
  {obtain ⟨c7, d7, hT7, hc7, _⟩ := hP
   rw [HLN.out]
   exact Cn HT6.out HR6.out hc7 (by decide)}
  {rcases hr4 with h | ⟨h1, h2, h3, h4, h5⟩
   {exact .inl h}
   {exact .inr ⟨z0, by omega, h3, h4, h5⟩}}
 have HF := Aa hfin
 clear hfin
 rcases hr4 with hr4 | ⟨y0, y1, y2, rfl, rfl⟩
 {have dn : decide (n.2 < 0) = true := decide_eq_true (by omega)
  have hon := Da HT6.out (z := n.2) (by omega) (by omega) ⟨#[41]⟩ (by decide)
  clear hr4
  exact Acx}
 {have dn : decide (n.2 < 0) = false := decide_eq_false (by omega)
  have htw6 := A6 HT6.out n.2
  by_cases hk2 : Ar L n.2 = ⟨#[44]⟩
  {have e2 := lit _ [44] hk2
   have hlt := (Be (L := L) (z := n.2) (by rw [hk2]; decide)).2
   have wn : IntKind.i64.wrap (n.2 + 1) = n.2 + 1 := by rw [IntKind.wrap_i64]; omega
   clear hk2
   go_wp2_with fail
   refine htw6.mono ?_
   rintro e w7 ⟨rfl, rfl⟩
   go_wp2
   go_roundg (60000 - (n.2 + 1)).toNat
   case rel =>
    have hkn := HKN.out
    exact ⟨n.2 + 1, a6, k + 1, p6, l ++ [n.1], by omega, by omega, by omega, by go_num, rfl, by omega, by omega, by omega, Aa ⟨⟨HT6.out, HC6.out⟩, HR6.out, HLN.out, HL6.out⟩⟩
   case measure => omega}
  {have e2 := Bf _ [44] hk2
   have hon := Da HT6.out (z := n.2) (by omega) (by omega) ⟨#[41]⟩ (by decide)
   clear hk2
   go_wp2_with fail
   refine htw6.mono ?_
   rintro e w7 ⟨rfl, rfl⟩
   exact Acx}}
 ) : p := h
theorem Acz {p : Prop} (h : p := by
 have HC3 := Aa hc3
 clear hc3 htw hnm
 go_wp2_with fail
 refine (B9 (HA.out.tx.1.no HC3.out) zc 13).mono ?_
 rintro e w4 ⟨rfl, hG⟩
 have hO : Pq w0 w g L a b c d z (.returned (.tuple #[.slice ao k cap, .int .i64 (-1)])) w4 := by
  obtain ⟨c4, d4, hT4, hc4⟩ := hG
  refine ⟨ao, cap, l, -1, by rw [HA.out.len], ?_, by rw [HA.out.len]; omega, HA.out.sz, .f ⟨c4, d4, hT4, (HA.out.tx.2.trans (Ce HC3.out)).trans hc4⟩⟩
  rw [HA.out.len]
  exact Cn (HA.out.tx.1.no HC3.out) (Bp.no HA.out.own HC3.out) hc4 (by decide)
 have HO := Aa hO
 clear hG hO
 go_wp2
 refine bodyPost_ret (v := .tuple #[.slice ao k cap, .int .i64 (-1)]) (by simp [results, Tryz.results97, go_sem]) rfl ?_
 exact HO.out
 ) : p := h
theorem U0 (h : Tx w0 w g L a b c d) (hL : Gq L) {z : Int} (hz : -1 ≤ z) (hz9 : z ≤ 50000) : Calls Tryz.prog 97 #[.pointer (some ⟨g, 0, none⟩), .int .i64 z] w (Pq w0 w g L a b c d z) := by
 have H := Aa h
 have HL := Aa hL
 have hLL := hL.1
 have h0w := h.ch.size
 clear h hL
 by_cases z0 : 0 ≤ z
 {have dz0 : decide (z ≥ 0) = true := decide_eq_true z0
  have htw0 := A6 H.out z
  by_cases hcl : Ar L z = ⟨#[41]⟩
  {have e1 := lit _ [41] hcl
   have hlt := (Be (L := L) (z := z) (by rw [hcl]; decide)).2
   have wz : IntKind.i64.wrap (z + 1) = z + 1 := by rw [IntKind.wrap_i64]; omega
   clear hcl
   go_in
   go_wp2_with fail
   refine htw0.mono ?_
   rintro e w2 ⟨rfl, rfl⟩
   go_wp2
   refine bodyPost_ret (v := .tuple #[.slice none 0 0, .int .i64 (z + 1)]) (by simp [results, Tryz.results97, go_sem]) rfl ?_
   exact ⟨none, 0, [], z + 1, rfl, Bp.nil _ _, by simp, (fun s hs => by cases hs), .o z0 (by omega) (by omega) ⟨H.out, Ch.refl _ _⟩⟩}
  have e1 := Bf _ [41] hcl
  clear hcl
  go_in
  go_wp2_with fail
  refine htw0.mono ?_
  rintro e w2 ⟨rfl, rfl⟩
  go_wp2_with fail
  clear e1 htw0
  go_loopg [1, 6, 7, 8, 9] 60000 (fun gg s1 s6 s7 s8 s9 wr => ∃ (zc : Int) (ao : Option Addr) (k cap : Nat) (l : List Vr), z ≤ zc ∧ zc ≤ 50000 ∧ 60000 - zc ≤ gg ∧ s1 = .int .i64 zc ∧ s6 = .slice ao k cap ∧ k ≤ 40 ∧ k ≤ cap ∧ cap ≤ 9223372036854775807 ∧ Hid (Acw w0 w g L a b c d z ao k cap l zc wr))
  case atStart => exact ⟨z, none, 0, 0, [], by omega, by omega, by omega, rfl, rfl, by omega, by omega, by omega, Aa ⟨⟨H.out, Ch.refl _ _⟩, Bp.nil _ _, rfl, (fun s hs => by cases hs)⟩⟩
  case round =>
   obtain ⟨zc, ao, k, cap, l, z1, z2, z3, rfl, rfl, hk, hkc, hcm, HA⟩ := hrel
   have dz : decide (zc ≥ 0) = true := decide_eq_true (by omega)
   have htw := A6 HA.out.tx.1 zc
   have hnm := Qy wr (Ar L zc) (HL.out.word zc)
   obtain ⟨nb, hnb⟩ := Ax (Cw (Ar L zc))
   rw [hnb] at hnm
   have HNB := Aa hnb
   clear hnb
   obtain ⟨n, hn⟩ := Ax (Sw L a b zc)
   have hsz := Mi HL.out a b zc
   rw [hn] at hsz
   have HSZ := Aa hsz
   have HN := Aa hn
   clear hn hsz
   go_wp2_with fail
   refine htw.mono ?_
   rintro e w2 ⟨rfl, rfl⟩
   rcases Nat.lt_or_eq_of_le hk with hk4 | hk4
   {have hkn : k < 40 ∨ n.2 = -1 := .inl hk4
    have d40 : ((k : Int) == 40) = false := by simpa using (show ¬ (k : Int) = 40 by omega)
    have hc3 := Ch.refl No wr
    clear hk4 hnm
    exact Acy}
   {have d40 : ((k : Int) == 40) = true := by simpa using (show (k : Int) = 40 by omega)
    have HK := Aa hk4
    clear hk4
    by_cases hi : Ar L zc = ⟨#[105, 110, 116]⟩
    {have e1 := lit _ [105, 110, 116] hi
     have hc3 := Ch.refl No wr
     clear hi
     exact Acz}
    {have e1 := Bf _ [105, 110, 116] hi
     have HI := Aa hi
     clear hi
     cases nb with
     | true =>
      go_wp2_with fail
      refine hnm.mono ?_
      rintro e w3 ⟨rfl, hc3⟩
      exact Acz
     | false =>
      have hkn : k < 40 ∨ n.2 = -1 := .inr (by rw [← HN.out]; exact Aad HI.out HNB.out)
      go_wp2_with fail
      refine hnm.mono ?_
      rintro e w3 ⟨rfl, hc3⟩
      clear hnm
      exact Acy}}}
 {obtain rfl : z = -1 := by omega
  have dz0 : decide ((-1 : Int) ≥ 0) = false := rfl
  go_in
  go_wp2
  go_loopg [1, 6, 7, 8, 9] 0 (fun gg s1 s6 s7 s8 s9 wr => s1 = .int .i64 (-1) ∧ s6 = .slice none 0 0 ∧ Hid (w = wr))
  case atStart => exact ⟨rfl, rfl, Aa rfl⟩
  case round =>
   obtain ⟨rfl, rfl, HE⟩ := hrel
   have hT := H.out
   rw [HE.out] at hT
   have hon := Da hT (z := -1) (by omega) (by omega) ⟨#[41]⟩ (by decide)
   go_wp2_with fail
   refine hon.mono ?_
   rintro e w2 ⟨rfl, hP⟩
   have HP := Aa hP
   clear hon hP hT
   go_wp2
   refine bodyPost_ret (v := .tuple #[.slice none 0 0, .int .i64 (-1)]) (by simp [results, Tryz.results97, go_sem, Gs]) rfl ?_
   refine ⟨none, 0, [], -1, rfl, Bp.nil _ _, by simp, (fun s hs => by cases hs), ?_⟩
   rw [HE.out]
   exact HP.out}
end
theorem Ai {w : World} {b : Nat} {cs : Array Value} {t : TypeId} (h : w.heap[b]? = some (.cells cs t (0, 0))) (i : Nat) (u : Value) :
 ∃ wf, w.setCell ⟨b, i, none⟩ u = wf ∧ wf.heap[b]? = some (.cells (cs.setIfInBounds i u) t (0, 0)) ∧ Ch (Tb b) w wf :=
 ⟨_, rfl, Af h i u, (Ch.refl _ _).setCell (fun _ _ => rfl) _⟩
theorem Eq {w : World} {b : Nat} {cs : Array Value} {t : TypeId} (h : w.heap[b]? = some (.cells cs t (0, 0))) (i : Nat) (u : Value) (j : Nat) (v : Value) :
 ∃ wf, (w.setCell ⟨b, i, none⟩ u).setCell ⟨b, j, none⟩ v = wf ∧ wf.heap[b]? = some (.cells ((cs.setIfInBounds i u).setIfInBounds j v) t (0, 0)) ∧ Ch (Tb b) w wf :=
 ⟨_, rfl, Af (Af h i u) j v, ((Ch.refl _ _).setCell (fun _ _ => rfl) _).setCell (fun _ _ => rfl) _⟩
theorem Pr {w : World} {b : Nat} {cs : Array Value} {t : TypeId} (h : w.heap[b]? = some (.cells cs t (0, 0))) (i : Nat) (u : Value) (j : Nat) (v : Value) (k : Nat) (x : Value) :
 ∃ wf, ((w.setCell ⟨b, i, none⟩ u).setCell ⟨b, j, none⟩ v).setCell ⟨b, k, none⟩ x = wf ∧ wf.heap[b]? = some (.cells (((cs.setIfInBounds i u).setIfInBounds j v).setIfInBounds k x) t (0, 0)) ∧ Ch (Tb b) w wf :=
 ⟨_, rfl, Af (Af (Af h i u) j v) k x, (((Ch.refl _ _).setCell (fun _ _ => rfl) _).setCell (fun _ _ => rfl) _).setCell (fun _ _ => rfl) _⟩
theorem Bj {w : World} {b : Nat} {x0 x1 x2 x3 x4 x5 x6 x7 x8 x9 x10 x11 : Value} {t : TypeId} (h : w.heap[b]? = some (.cells #[x0, x1, x2, x3, x4, x5, x6, x7, x8, x9, x10, x11] t (0, 0))) (v0 v1 v2 v3 v4 v5 v6 v7 v8 v9 v10 v11 : Value) :
 ∃ wf, (((((((((((w.setCell ⟨b, 0, none⟩ v0).setCell ⟨b, 1, none⟩ v1).setCell ⟨b, 2, none⟩ v2).setCell ⟨b, 3, none⟩ v3).setCell ⟨b, 4, none⟩ v4).setCell ⟨b, 5, none⟩ v5).setCell ⟨b, 6, none⟩ v6).setCell ⟨b, 7, none⟩ v7).setCell ⟨b, 8, none⟩ v8).setCell ⟨b, 9, none⟩ v9).setCell ⟨b, 10, none⟩ v10).setCell ⟨b, 11, none⟩ v11 = wf ∧ wf.heap[b]? = some (.cells #[v0, v1, v2, v3, v4, v5, v6, v7, v8, v9, v10, v11] t (0, 0)) ∧ Ch (Tb b) w wf := by
 obtain ⟨a0, e0, h0, c0⟩ := Ai h 0 v0
 obtain ⟨a1, e1, h1, c1⟩ := Ai h0 1 v1
 obtain ⟨a2, e2, h2, c2⟩ := Ai h1 2 v2
 obtain ⟨a3, e3, h3, c3⟩ := Ai h2 3 v3
 obtain ⟨a4, e4, h4, c4⟩ := Ai h3 4 v4
 obtain ⟨a5, e5, h5, c5⟩ := Ai h4 5 v5
 obtain ⟨a6, e6, h6, c6⟩ := Ai h5 6 v6
 obtain ⟨a7, e7, h7, c7⟩ := Ai h6 7 v7
 obtain ⟨a8, e8, h8, c8⟩ := Ai h7 8 v8
 obtain ⟨a9, e9, h9, c9⟩ := Ai h8 9 v9
 obtain ⟨a10, e10, h10, c10⟩ := Ai h9 10 v10
 obtain ⟨a11, e11, h11, c11⟩ := Ai h10 11 v11
 exact ⟨a11, by rw [e0, e1, e2, e3, e4, e5, e6, e7, e8, e9, e10, e11], by simpa using h11, (((((((((((c0.trans c1).trans c2).trans c3).trans c4).trans c5).trans c6).trans c7).trans c8).trans c9).trans c10).trans c11)⟩
def O2 : Array Value := #[.int .i64 0, .string ⟨#[]⟩, .string ⟨#[]⟩, .string ⟨#[]⟩, .string ⟨#[]⟩, .string ⟨#[]⟩, .slice none 0 0, .int .i64 0, .slice none 0 0, .slice none 0 0, .int .i64 0, .int .i64 0]
structure St where
 k : Int
 x : ByteArray
 y : ByteArray
 z : ByteArray
 t : ByteArray
 f : ByteArray
 n : Int
 l : Int
 c : Int
def Bb (x y z t f : ByteArray) : Prop := x.size ≤ 20002 ∧ y.size ≤ 20002 ∧ z.size ≤ 20002 ∧ t.size ≤ 20002 ∧ f.size ≤ 20002
def B8 (w0 w : World) (g : Nat) (L : List Tk) (a b c d z : Int) (e : Ending) (w' : World) : Prop :=
 ∃ (s : St) (ao : Option Addr) (cap : Nat) (l : List ByteArray) (r : Int), e = .returned (.tuple #[.agg #[.int .i64 s.k, .string s.x, .string s.y, .string s.z, .string s.t, .string s.f, .slice ao l.length cap, .int .i64 s.n, .slice none 0 0, .slice none 0 0, .int .i64 s.l, .int .i64 s.c], .int .i64 r]) ∧ Aq w' w.heap.size (.slice ao l.length cap) l ∧ l.length ≤ 41 ∧ (∀ s ∈ l, s.size ≤ 20000) ∧ Bb s.x s.y s.z s.t s.f ∧ He w0 w g L a b c d z r w'
section
variable {w0 w : World} {g : Nat} {L : List Tk} {a b c d : Int}
theorem Mj (h : Tx w0 w g L a b c d) (hL : Gq L) {z : Int} (hz0 : 0 ≤ z) (hz9 : z ≤ 40000) (s : St) (hs : Bb s.x s.y s.z s.t s.f) (A : ByteArray) (hA : A.size ≤ 20002) (left : Bool) :
 Calls Tryz.prog 158 #[.pointer (some ⟨g, 0, none⟩), .agg #[.int .i64 s.k, .string s.x, .string s.y, .string s.z, .string s.t, .string s.f, .slice none 0 0, .int .i64 s.n, .slice none 0 0, .slice none 0 0, .int .i64 s.l, .int .i64 s.c], .string A, .int .i64 z, .bool left] w (B8 w0 w g L a b c d z) := by
 by_cases hd : Ar L z = ⟨#[46]⟩
 {have ed := lit _ [46] hd
  clear hd
  obtain ⟨hsx, hsy, hsz, hst, hsf⟩ := hs
  obtain ⟨wa, hwa, hba, hca⟩ := A2 w (.cells #[.int .i64 s.k, .string s.x, .string s.y, .string s.z, .string s.t, .string s.f, .slice none 0 0, .int .i64 s.n, .slice none 0 0, .slice none 0 0, .int .i64 s.l, .int .i64 s.c] 128)
  obtain ⟨wb, hwb, hbb, hcb⟩ := A2 wa (.cells O2 128)
  unfold O2 at hwb hbb
  have HTb := Aa ((h.no hca).no hcb)
  have HAb := Aa (hcb.keep _ _ hba (fun h => h))
  have HBb := Aa hbb
  have HCb := Aa (Ce (S := Tb g) (hca.trans hcb))
  have HL := Aa hL
  have hLL := hL.1
  have hgl := h.lt
  have h0w := h.ch.size
  have hsw := hca.size
  have hlt := Ac hba
  have ne1 : w.heap.size ≠ g := by omega
  have HN2 : Hid (wa.heap.size ≠ g) := Aa (by omega)
  clear h hL hba hbb hca hcb hgl
  go_in
  go_wp2_with fail
  clear hwa hwb
  have wz1 : IntKind.i64.wrap (z + 1) = z + 1 := by rw [IntKind.wrap_i64]; omega
  go_wp2_with fail
  refine (A6 HTb.out z).mono ?_
  rintro e wx2 ⟨rfl, rfl⟩
  have hk := Dz HTb.out HL.out (z := z + 1) (by omega)
  have hz3 := Bw HL.out (z + 1)
  obtain ⟨n3, hn⟩ : ∃ n, Gm L (z + 1) = n := ⟨_, rfl⟩
  rw [hn] at hk hz3
  clear hn
  go_wp2_with fail
  refine hk.mono ?_
  rintro e w3 ⟨rfl, c3, d3, hT3, hc, hq⟩
  have HA3 := Aa (hc.keep _ _ HAb.out (fun e => ne1 e))
  have HB3 := Aa (hc.keep _ _ HBb.out (fun e => HN2.out e))
  have HC3 := Aa (HCb.out.trans hc)
  have HT3 := Aa hT3
  have HQ3 := Aa (show n3.2 = -1 ∨ (0 ≤ z ∧ z < n3.2 ∧ n3.2 ≤ L.length ∧ c3 = c ∧ d3 = d) from by omega)
  have hb3 : -1 ≤ n3.2 ∧ n3.2 ≤ L.length := by have h1 := HQ3.out; omega
  clear hc hq hk hT3
  by_cases hq0 : n3.2 < 0
  {have dq : decide (n3.2 < 0) = true := decide_eq_true hq0
   have ha := HA3.out
   have hb := HB3.out
   obtain ⟨p0, p1, p2, p3, p4, p5, p6, p7, p8, p9, p10, p11⟩ := Ay ha
   obtain ⟨f0, f1, f2, f3, f4, f5, f6, f7, f8, f9, f10, f11⟩ := De hb
   obtain ⟨q0, q1, q2, q3, q4, q5, q6, q7, q8, q9, q10, q11⟩ := Ay hb
   obtain ⟨w4, hwf, hfb, hfc⟩ := Bj hb (.int .i64 s.k) (.string s.x) (.string s.y) (.string s.z) (.string s.t) (.string s.f) (.slice none 0 0) (.int .i64 s.n) (.slice none 0 0) (.slice none 0 0) (.int .i64 s.l) (.int .i64 s.c)
   obtain ⟨k0, k1, k2, k3, k4, k5, k6, k7, k8, k9, k10, k11⟩ := Ay hfb
   have HO := Aa (show B8 w0 w g L a b c d z (.returned (.tuple #[.agg #[.int .i64 s.k, .string s.x, .string s.y, .string s.z, .string s.t, .string s.f, .slice none 0 0, .int .i64 s.n, .slice none 0 0, .slice none 0 0, .int .i64 s.l, .int .i64 s.c], .int .i64 n3.2])) w4 from
    ⟨⟨s.k, s.x, s.y, s.z, s.t, s.f, s.n, s.l, s.c⟩, none, 0, [], n3.2, rfl, Aq.nil _ _, (Nat.zero_le _), (fun x hx => by cases hx), (show Bb s.x s.y s.z s.t s.f from ⟨by omega, by omega, by omega, by omega, by omega⟩), c3, d3, HT3.out.new hfc (by omega) (fun e => HN2.out e.symm), Ao HC3.out hfc (by omega), HQ3.out⟩)
   clear ha hb hfb
   go_wp2_with fail
   try rw [hwf]
   refine bodyPost_ret (v := .tuple #[.agg #[.int .i64 s.k, .string s.x, .string s.y, .string s.z, .string s.t, .string s.f, .slice none 0 0, .int .i64 s.n, .slice none 0 0, .slice none 0 0, .int .i64 s.l, .int .i64 s.c], .int .i64 n3.2]) (by simp [results, Tryz.results158, go_sem, k0, k1, k2, k3, k4, k5, k6, k7, k8, k9, k10, k11]) rfl ?_
   exact HO.out}
  have dq : decide (n3.2 < 0) = false := decide_eq_false hq0
  have wz5 : IntKind.i64.wrap (n3.2 + 1) = n3.2 + 1 := by rw [IntKind.wrap_i64]; omega
  by_cases hcc : Ar L n3.2 = ⟨#[58, 58]⟩
  {have ec := lit _ [58, 58] hcc
   clear hcc
   go_wp2_with fail
   refine (A6 HT3.out n3.2).mono ?_
   rintro e wx6 ⟨rfl, rfl⟩
   have p0 := Ab HA3.out 0
   have f0 := Ad HA3.out 0
   have p2 := Ab HA3.out 2
   have f2 := Ad HA3.out 2
   have p4 := Ab HA3.out 4
   have f4 := Ad HA3.out 4
   obtain ⟨w7, hw7, hb, hc⟩ := Pr HA3.out 0 (.int .i64 12) 2 (.string A) 4 (.string n3.1)
   have HA7 : Hid (w7.heap[w.heap.size]? = some (.cells #[.int .i64 12, .string s.x, .string A, .string s.z, .string n3.1, .string s.f, .slice none 0 0, .int .i64 s.n, .slice none 0 0, .slice none 0 0, .int .i64 s.l, .int .i64 s.c] 128 (0, 0))) := Aa hb
   have HT7 := Aa (HT3.out.new hc h0w (fun e => ne1 e.symm))
   have HB7 := Aa (hc.keep _ _ HB3.out (Bm (by omega)))
   have HC7 := Aa (Ao HC3.out hc (Nat.le_refl _))
   have HQ7 := Aa (show n3.2 = -1 ∨ (0 ≤ z ∧ z < n3.2 ∧ n3.2 ≤ L.length ∧ c3 = c ∧ d3 = d) from HQ3.out)
   clear hb hc
   have hk := Dz HT7.out HL.out (z := n3.2 + 1) (by omega)
   have hz8 := Bw HL.out (n3.2 + 1)
   obtain ⟨n8, hn⟩ : ∃ n, Gm L (n3.2 + 1) = n := ⟨_, rfl⟩
   rw [hn] at hk hz8
   clear hn
   go_wp2_with fail
   refine hk.mono ?_
   rintro e w8 ⟨rfl, c8, d8, hT8, hc, hq⟩
   have HA8 := Aa (hc.keep _ _ HA7.out (fun e => ne1 e))
   have HB8 := Aa (hc.keep _ _ HB7.out (fun e => HN2.out e))
   have HC8 := Aa (HC7.out.trans hc)
   have HT8 := Aa hT8
   have HQ8 := Aa (show n8.2 = -1 ∨ (0 ≤ z ∧ z < n8.2 ∧ n8.2 ≤ L.length ∧ c8 = c ∧ d8 = d) from by have h1 := HQ7.out; omega)
   have hb8 : -1 ≤ n8.2 ∧ n8.2 ≤ L.length := by have h1 := HQ8.out; omega
   clear hc hq hk hT8
   clear hw7 p0 f0 p2 f2 p4 f4
   have p5 := Ab HA8.out 5
   have f5 := Ad HA8.out 5
   obtain ⟨w9, hw9, hb, hc⟩ := Ai HA8.out 5 (.string n8.1)
   simp only [s4, s5, s6] at hb
   have HA9 := Aa hb
   have HT9 := Aa (HT8.out.new hc h0w (fun e => ne1 e.symm))
   have HB9 := Aa (hc.keep _ _ HB8.out (Bm (by omega)))
   have HC9 := Aa (Ao HC8.out hc (Nat.le_refl _))
   have HQ9 := Aa (show n8.2 = -1 ∨ (0 ≤ z ∧ z < n8.2 ∧ n8.2 ≤ L.length ∧ c8 = c ∧ d8 = d) from HQ8.out)
   clear hb hc
   have hk := Po HT9.out HL.out (z := n8.2) (by omega) (by omega)
   go_wp2_with fail
   refine hk.mono ?_
   rintro e w10 ⟨ga10, gc10, gs10, r10, rfl, ho10, hl10, hs10, c10, d10, hT10, hc, hq⟩
   have HA10 := Aa (hc.keep _ _ HA9.out (fun e => ne1 e))
   have HB10 := Aa (hc.keep _ _ HB9.out (fun e => HN2.out e))
   have HC10 := Aa (HC9.out.trans hc)
   have HT10 := Aa hT10
   have HQ10 := Aa (show r10 = -1 ∨ (0 ≤ z ∧ z < r10 ∧ r10 ≤ L.length ∧ c10 = c ∧ d10 = d) from by have h1 := HQ9.out; omega)
   have hb10 : -1 ≤ r10 ∧ r10 ≤ L.length := by have h1 := HQ10.out; omega
   have HG10 := Aa (Cg ho10 (HC9.out.size))
   have HS10 := Aa hs10
   clear ho10 hs10
   clear hc hq hk hT10
   clear hw9 p5 f5
   have p6 := Ab HA10.out 6
   have f6 := Ad HA10.out 6
   obtain ⟨w11, hw11, hb, hc⟩ := Ai HA10.out 6 (.slice ga10 gs10.length gc10)
   simp only [s4, s5, s6] at hb
   have HA11 := Aa hb
   have HT11 := Aa (HT10.out.new hc h0w (fun e => ne1 e.symm))
   have HB11 := Aa (hc.keep _ _ HB10.out (Bm (by omega)))
   have HC11 := Aa (Ao HC10.out hc (Nat.le_refl _))
   have HQ11 := Aa (show r10 = -1 ∨ (0 ≤ z ∧ z < r10 ∧ r10 ≤ L.length ∧ c10 = c ∧ d10 = d) from HQ10.out)
   have HG11 := Aa (Bd (HG10.out) hc HA10.out (by decide : (128 : TypeId) ≠ 9))
   clear hb hc
   go_upto_region 11 with fail
   clear hw11 p6 f6
   have ha := HA11.out
   have hb := HB11.out
   obtain ⟨p0, p1, p2, p3, p4, p5, p6, p7, p8, p9, p10, p11⟩ := Ay ha
   obtain ⟨f0, f1, f2, f3, f4, f5, f6, f7, f8, f9, f10, f11⟩ := De hb
   obtain ⟨q0, q1, q2, q3, q4, q5, q6, q7, q8, q9, q10, q11⟩ := Ay hb
   obtain ⟨w12, hwf, hfb, hfc⟩ := Bj hb (.int .i64 12) (.string s.x) (.string A) (.string s.z) (.string n3.1) (.string n8.1) (.slice ga10 gs10.length gc10) (.int .i64 s.n) (.slice none 0 0) (.slice none 0 0) (.int .i64 s.l) (.int .i64 s.c)
   obtain ⟨k0, k1, k2, k3, k4, k5, k6, k7, k8, k9, k10, k11⟩ := Ay hfb
   have HO := Aa (show B8 w0 w g L a b c d z (.returned (.tuple #[.agg #[.int .i64 12, .string s.x, .string A, .string s.z, .string n3.1, .string n8.1, .slice ga10 gs10.length gc10, .int .i64 s.n, .slice none 0 0, .slice none 0 0, .int .i64 s.l, .int .i64 s.c], .int .i64 r10])) w12 from
    ⟨⟨12, s.x, A, s.z, n3.1, n8.1, s.n, s.l, s.c⟩, ga10, gc10, gs10, r10, rfl, Bd (HG11.out) hfc HB11.out (by decide : (128 : TypeId) ≠ 9), hl10, HS10.out, (show Bb s.x A s.z n3.1 n8.1 from ⟨by omega, by omega, by omega, by omega, by omega⟩), c10, d10, HT11.out.new hfc (by omega) (fun e => HN2.out e.symm), Ao HC11.out hfc (by omega), HQ11.out⟩)
   clear ha hb hfb
   go_wp2_with fail
   try rw [hwf]
   refine bodyPost_ret (v := .tuple #[.agg #[.int .i64 12, .string s.x, .string A, .string s.z, .string n3.1, .string n8.1, .slice ga10 gs10.length gc10, .int .i64 s.n, .slice none 0 0, .slice none 0 0, .int .i64 s.l, .int .i64 s.c], .int .i64 r10]) (by simp [results, Tryz.results158, go_sem, k0, k1, k2, k3, k4, k5, k6, k7, k8, k9, k10, k11]) rfl ?_
   exact HO.out}
  have ec := Bf _ [58, 58] hcc
  clear hcc
  go_wp2_with fail
  refine (A6 HT3.out n3.2).mono ?_
  rintro e wx13 ⟨rfl, rfl⟩
  have p5 := Ab HA3.out 5
  have f5 := Ad HA3.out 5
  have p2 := Ab HA3.out 2
  have f2 := Ad HA3.out 2
  obtain ⟨w14, hw14, hb, hc⟩ := Eq HA3.out 5 (.string n3.1) 2 (.string A)
  have HA14 : Hid (w14.heap[w.heap.size]? = some (.cells #[.int .i64 s.k, .string s.x, .string A, .string s.z, .string s.t, .string n3.1, .slice none 0 0, .int .i64 s.n, .slice none 0 0, .slice none 0 0, .int .i64 s.l, .int .i64 s.c] 128 (0, 0))) := Aa hb
  have HT14 := Aa (HT3.out.new hc h0w (fun e => ne1 e.symm))
  have HB14 := Aa (hc.keep _ _ HB3.out (Bm (by omega)))
  have HC14 := Aa (Ao HC3.out hc (Nat.le_refl _))
  have HQ14 := Aa (show n3.2 = -1 ∨ (0 ≤ z ∧ z < n3.2 ∧ n3.2 ≤ L.length ∧ c3 = c ∧ d3 = d) from HQ3.out)
  clear hb hc
  go_upto_region 16 with fail
  clear hw14 p2 f2 p5 f5
  by_cases hpp : Ar L n3.2 = ⟨#[40]⟩
  {have ep := lit _ [40] hpp
   clear hpp
   go_wp2_with fail
   refine (A6 HT14.out n3.2).mono ?_
   rintro e wx15 ⟨rfl, rfl⟩
   have p0 := Ab HA14.out 0
   have f0 := Ad HA14.out 0
   obtain ⟨w16, hw16, hb, hc⟩ := Eq HA14.out 0 (.int .i64 13) 0 (.int .i64 11)
   have HA16 : Hid (w16.heap[w.heap.size]? = some (.cells #[.int .i64 11, .string s.x, .string A, .string s.z, .string s.t, .string n3.1, .slice none 0 0, .int .i64 s.n, .slice none 0 0, .slice none 0 0, .int .i64 s.l, .int .i64 s.c] 128 (0, 0))) := Aa hb
   have HT16 := Aa (HT14.out.new hc h0w (fun e => ne1 e.symm))
   have HB16 := Aa (hc.keep _ _ HB14.out (Bm (by omega)))
   have HC16 := Aa (Ao HC14.out hc (Nat.le_refl _))
   have HQ16 := Aa (show n3.2 = -1 ∨ (0 ≤ z ∧ z < n3.2 ∧ n3.2 ≤ L.length ∧ c3 = c ∧ d3 = d) from HQ14.out)
   clear hb hc
   have hk := Po HT16.out HL.out (z := n3.2) (by omega) (by omega)
   go_wp2_with fail
   refine hk.mono ?_
   rintro e w17 ⟨ga17, gc17, gs17, r17, rfl, ho17, hl17, hs17, c17, d17, hT17, hc, hq⟩
   have HA17 := Aa (hc.keep _ _ HA16.out (fun e => ne1 e))
   have HB17 := Aa (hc.keep _ _ HB16.out (fun e => HN2.out e))
   have HC17 := Aa (HC16.out.trans hc)
   have HT17 := Aa hT17
   have HQ17 := Aa (show r17 = -1 ∨ (0 ≤ z ∧ z < r17 ∧ r17 ≤ L.length ∧ c17 = c ∧ d17 = d) from by have h1 := HQ16.out; omega)
   have hb17 : -1 ≤ r17 ∧ r17 ≤ L.length := by have h1 := HQ17.out; omega
   have HG17 := Aa (Cg ho17 (HC16.out.size))
   have HS17 := Aa hs17
   clear ho17 hs17
   clear hc hq hk hT17
   clear hw16 p0 f0
   have p6 := Ab HA17.out 6
   have f6 := Ad HA17.out 6
   obtain ⟨w18, hw18, hb, hc⟩ := Ai HA17.out 6 (.slice ga17 gs17.length gc17)
   simp only [s4, s5, s6] at hb
   have HA18 := Aa hb
   have HT18 := Aa (HT17.out.new hc h0w (fun e => ne1 e.symm))
   have HB18 := Aa (hc.keep _ _ HB17.out (Bm (by omega)))
   have HC18 := Aa (Ao HC17.out hc (Nat.le_refl _))
   have HQ18 := Aa (show r17 = -1 ∨ (0 ≤ z ∧ z < r17 ∧ r17 ≤ L.length ∧ c17 = c ∧ d17 = d) from HQ17.out)
   have HG18 := Aa (Bd (HG17.out) hc HA17.out (by decide : (128 : TypeId) ≠ 9))
   clear hb hc
   go_upto_region 21 with fail
   clear hw18 p6 f6
   have ha := HA18.out
   have hb := HB18.out
   obtain ⟨p0, p1, p2, p3, p4, p5, p6, p7, p8, p9, p10, p11⟩ := Ay ha
   obtain ⟨f0, f1, f2, f3, f4, f5, f6, f7, f8, f9, f10, f11⟩ := De hb
   obtain ⟨q0, q1, q2, q3, q4, q5, q6, q7, q8, q9, q10, q11⟩ := Ay hb
   obtain ⟨w19, hwf, hfb, hfc⟩ := Bj hb (.int .i64 11) (.string s.x) (.string A) (.string s.z) (.string s.t) (.string n3.1) (.slice ga17 gs17.length gc17) (.int .i64 s.n) (.slice none 0 0) (.slice none 0 0) (.int .i64 s.l) (.int .i64 s.c)
   obtain ⟨k0, k1, k2, k3, k4, k5, k6, k7, k8, k9, k10, k11⟩ := Ay hfb
   have HO := Aa (show B8 w0 w g L a b c d z (.returned (.tuple #[.agg #[.int .i64 11, .string s.x, .string A, .string s.z, .string s.t, .string n3.1, .slice ga17 gs17.length gc17, .int .i64 s.n, .slice none 0 0, .slice none 0 0, .int .i64 s.l, .int .i64 s.c], .int .i64 r17])) w19 from
    ⟨⟨11, s.x, A, s.z, s.t, n3.1, s.n, s.l, s.c⟩, ga17, gc17, gs17, r17, rfl, Bd (HG18.out) hfc HB18.out (by decide : (128 : TypeId) ≠ 9), hl17, HS17.out, (show Bb s.x A s.z s.t n3.1 from ⟨by omega, by omega, by omega, by omega, by omega⟩), c17, d17, HT18.out.new hfc (by omega) (fun e => HN2.out e.symm), Ao HC18.out hfc (by omega), HQ18.out⟩)
   clear ha hb hfb
   go_wp2_with fail
   try rw [hwf]
   refine bodyPost_ret (v := .tuple #[.agg #[.int .i64 11, .string s.x, .string A, .string s.z, .string s.t, .string n3.1, .slice ga17 gs17.length gc17, .int .i64 s.n, .slice none 0 0, .slice none 0 0, .int .i64 s.l, .int .i64 s.c], .int .i64 r17]) (by simp [results, Tryz.results158, go_sem, k0, k1, k2, k3, k4, k5, k6, k7, k8, k9, k10, k11]) rfl ?_
   exact HO.out}
  have ep := Bf _ [40] hpp
  clear hpp
  go_wp2_with fail
  refine (A6 HT14.out n3.2).mono ?_
  rintro e wx20 ⟨rfl, rfl⟩
  cases left with
  | true =>
   have hk := Da HT14.out (z := n3.2) (by omega) (by omega) ⟨#[61]⟩ (by decide)
   obtain ⟨r21, hn⟩ : ∃ n, Gs L (n3.2) ⟨#[61]⟩ = n := ⟨_, rfl⟩
   rw [hn] at hk
   clear hn
   go_wp2_with fail
   refine hk.mono ?_
   rintro e w21 ⟨rfl, c21, d21, hT21, hc, hq⟩
   have HA21 := Aa (hc.keep _ _ HA14.out (fun e => ne1 e))
   have HB21 := Aa (hc.keep _ _ HB14.out (fun e => HN2.out e))
   have HC21 := Aa (HC14.out.trans hc)
   have HT21 := Aa hT21
   have HQ21 := Aa (show r21 = -1 ∨ (0 ≤ z ∧ z < r21 ∧ r21 ≤ L.length ∧ c21 = c ∧ d21 = d) from by have h1 := HQ14.out; omega)
   have hb21 : -1 ≤ r21 ∧ r21 ≤ L.length := by have h1 := HQ21.out; omega
   clear hc hq hk hT21
   have p0 := Ab HA21.out 0
   have f0 := Ad HA21.out 0
   have p1 := Ab HA21.out 1
   have f1 := Ad HA21.out 1
   obtain ⟨w22, hw22, hb, hc⟩ := Pr HA21.out 0 (.int .i64 8) 0 (.int .i64 6) 1 (.string A)
   have HA22 : Hid (w22.heap[w.heap.size]? = some (.cells #[.int .i64 6, .string A, .string A, .string s.z, .string s.t, .string n3.1, .slice none 0 0, .int .i64 s.n, .slice none 0 0, .slice none 0 0, .int .i64 s.l, .int .i64 s.c] 128 (0, 0))) := Aa hb
   have HT22 := Aa (HT21.out.new hc h0w (fun e => ne1 e.symm))
   have HB22 := Aa (hc.keep _ _ HB21.out (Bm (by omega)))
   have HC22 := Aa (Ao HC21.out hc (Nat.le_refl _))
   have HQ22 := Aa (show r21 = -1 ∨ (0 ≤ z ∧ z < r21 ∧ r21 ≤ L.length ∧ c21 = c ∧ d21 = d) from HQ21.out)
   clear hb hc
   have hk := Dz HT22.out HL.out (z := r21) (by omega)
   have hz23 := Bw HL.out (r21)
   obtain ⟨n23, hn⟩ : ∃ n, Gm L (r21) = n := ⟨_, rfl⟩
   rw [hn] at hk hz23
   clear hn
   go_wp2_with fail
   refine hk.mono ?_
   rintro e w23 ⟨rfl, c23, d23, hT23, hc, hq⟩
   have HA23 := Aa (hc.keep _ _ HA22.out (fun e => ne1 e))
   have HB23 := Aa (hc.keep _ _ HB22.out (fun e => HN2.out e))
   have HC23 := Aa (HC22.out.trans hc)
   have HT23 := Aa hT23
   have HQ23 := Aa (show n23.2 = -1 ∨ (0 ≤ z ∧ z < n23.2 ∧ n23.2 ≤ L.length ∧ c23 = c ∧ d23 = d) from by have h1 := HQ22.out; omega)
   have hb23 : -1 ≤ n23.2 ∧ n23.2 ≤ L.length := by have h1 := HQ23.out; omega
   clear hc hq hk hT23
   clear hw22 p0 f0 p1 f1
   have p2 := Ab HA23.out 2
   have f2 := Ad HA23.out 2
   obtain ⟨w24, hw24, hb, hc⟩ := Ai HA23.out 2 (.string n23.1)
   simp only [s4, s5, s6] at hb
   have HA24 := Aa hb
   have HT24 := Aa (HT23.out.new hc h0w (fun e => ne1 e.symm))
   have HB24 := Aa (hc.keep _ _ HB23.out (Bm (by omega)))
   have HC24 := Aa (Ao HC23.out hc (Nat.le_refl _))
   have HQ24 := Aa (show n23.2 = -1 ∨ (0 ≤ z ∧ z < n23.2 ∧ n23.2 ≤ L.length ∧ c23 = c ∧ d23 = d) from HQ23.out)
   clear hb hc
   go_upto_region 29 with fail
   clear hw24 p2 f2
   have ha := HA24.out
   have hb := HB24.out
   obtain ⟨p0, p1, p2, p3, p4, p5, p6, p7, p8, p9, p10, p11⟩ := Ay ha
   obtain ⟨f0, f1, f2, f3, f4, f5, f6, f7, f8, f9, f10, f11⟩ := De hb
   obtain ⟨q0, q1, q2, q3, q4, q5, q6, q7, q8, q9, q10, q11⟩ := Ay hb
   obtain ⟨w25, hwf, hfb, hfc⟩ := Bj hb (.int .i64 6) (.string A) (.string n23.1) (.string s.z) (.string s.t) (.string n3.1) (.slice none 0 0) (.int .i64 s.n) (.slice none 0 0) (.slice none 0 0) (.int .i64 s.l) (.int .i64 s.c)
   obtain ⟨k0, k1, k2, k3, k4, k5, k6, k7, k8, k9, k10, k11⟩ := Ay hfb
   have HO := Aa (show B8 w0 w g L a b c d z (.returned (.tuple #[.agg #[.int .i64 6, .string A, .string n23.1, .string s.z, .string s.t, .string n3.1, .slice none 0 0, .int .i64 s.n, .slice none 0 0, .slice none 0 0, .int .i64 s.l, .int .i64 s.c], .int .i64 n23.2])) w25 from
    ⟨⟨6, A, n23.1, s.z, s.t, n3.1, s.n, s.l, s.c⟩, none, 0, [], n23.2, rfl, Aq.nil _ _, (Nat.zero_le _), (fun x hx => by cases hx), (show Bb A n23.1 s.z s.t n3.1 from ⟨by omega, by omega, by omega, by omega, by omega⟩), c23, d23, HT24.out.new hfc (by omega) (fun e => HN2.out e.symm), Ao HC24.out hfc (by omega), HQ24.out⟩)
   clear ha hb hfb
   go_wp2_with fail
   try rw [hwf]
   refine bodyPost_ret (v := .tuple #[.agg #[.int .i64 6, .string A, .string n23.1, .string s.z, .string s.t, .string n3.1, .slice none 0 0, .int .i64 s.n, .slice none 0 0, .slice none 0 0, .int .i64 s.l, .int .i64 s.c], .int .i64 n23.2]) (by simp [results, Tryz.results158, go_sem, k0, k1, k2, k3, k4, k5, k6, k7, k8, k9, k10, k11]) rfl ?_
   exact HO.out
  | false =>
   have p0 := Ab HA14.out 0
   have f0 := Ad HA14.out 0
   obtain ⟨w26, hw26, hb, hc⟩ := Eq HA14.out 0 (.int .i64 7) 0 (.int .i64 5)
   have HA26 : Hid (w26.heap[w.heap.size]? = some (.cells #[.int .i64 5, .string s.x, .string A, .string s.z, .string s.t, .string n3.1, .slice none 0 0, .int .i64 s.n, .slice none 0 0, .slice none 0 0, .int .i64 s.l, .int .i64 s.c] 128 (0, 0))) := Aa hb
   have HT26 := Aa (HT14.out.new hc h0w (fun e => ne1 e.symm))
   have HB26 := Aa (hc.keep _ _ HB14.out (Bm (by omega)))
   have HC26 := Aa (Ao HC14.out hc (Nat.le_refl _))
   have HQ26 := Aa (show n3.2 = -1 ∨ (0 ≤ z ∧ z < n3.2 ∧ n3.2 ≤ L.length ∧ c3 = c ∧ d3 = d) from HQ14.out)
   clear hb hc
   go_upto_region 33 with fail
   clear hw26 p0 f0
   have ha := HA26.out
   have hb := HB26.out
   obtain ⟨p0, p1, p2, p3, p4, p5, p6, p7, p8, p9, p10, p11⟩ := Ay ha
   obtain ⟨f0, f1, f2, f3, f4, f5, f6, f7, f8, f9, f10, f11⟩ := De hb
   obtain ⟨q0, q1, q2, q3, q4, q5, q6, q7, q8, q9, q10, q11⟩ := Ay hb
   obtain ⟨w27, hwf, hfb, hfc⟩ := Bj hb (.int .i64 5) (.string s.x) (.string A) (.string s.z) (.string s.t) (.string n3.1) (.slice none 0 0) (.int .i64 s.n) (.slice none 0 0) (.slice none 0 0) (.int .i64 s.l) (.int .i64 s.c)
   obtain ⟨k0, k1, k2, k3, k4, k5, k6, k7, k8, k9, k10, k11⟩ := Ay hfb
   have HO := Aa (show B8 w0 w g L a b c d z (.returned (.tuple #[.agg #[.int .i64 5, .string s.x, .string A, .string s.z, .string s.t, .string n3.1, .slice none 0 0, .int .i64 s.n, .slice none 0 0, .slice none 0 0, .int .i64 s.l, .int .i64 s.c], .int .i64 n3.2])) w27 from
    ⟨⟨5, s.x, A, s.z, s.t, n3.1, s.n, s.l, s.c⟩, none, 0, [], n3.2, rfl, Aq.nil _ _, (Nat.zero_le _), (fun x hx => by cases hx), (show Bb s.x A s.z s.t n3.1 from ⟨by omega, by omega, by omega, by omega, by omega⟩), c3, d3, HT26.out.new hfc (by omega) (fun e => HN2.out e.symm), Ao HC26.out hfc (by omega), HQ26.out⟩)
   clear ha hb hfb
   go_wp2_with fail
   try rw [hwf]
   refine bodyPost_ret (v := .tuple #[.agg #[.int .i64 5, .string s.x, .string A, .string s.z, .string s.t, .string n3.1, .slice none 0 0, .int .i64 s.n, .slice none 0 0, .slice none 0 0, .int .i64 s.l, .int .i64 s.c], .int .i64 n3.2]) (by simp [results, Tryz.results158, go_sem, k0, k1, k2, k3, k4, k5, k6, k7, k8, k9, k10, k11]) rfl ?_
   exact HO.out}
 {have ed := Bf _ [46] hd
  clear hd
  obtain ⟨hsx, hsy, hsz, hst, hsf⟩ := hs
  obtain ⟨wa, hwa, hba, hca⟩ := A2 w (.cells #[.int .i64 s.k, .string s.x, .string s.y, .string s.z, .string s.t, .string s.f, .slice none 0 0, .int .i64 s.n, .slice none 0 0, .slice none 0 0, .int .i64 s.l, .int .i64 s.c] 128)
  obtain ⟨wb, hwb, hbb, hcb⟩ := A2 wa (.cells O2 128)
  unfold O2 at hwb hbb
  have HTb := Aa ((h.no hca).no hcb)
  have HAb := Aa (hcb.keep _ _ hba (fun h => h))
  have HBb := Aa hbb
  have HCb := Aa (Ce (S := Tb g) (hca.trans hcb))
  have HL := Aa hL
  have hLL := hL.1
  have hgl := h.lt
  have h0w := h.ch.size
  have hsw := hca.size
  have hlt := Ac hba
  have ne1 : w.heap.size ≠ g := by omega
  have HN2 : Hid (wa.heap.size ≠ g) := Aa (by omega)
  clear h hL hba hbb hca hcb hgl
  go_in
  go_wp2_with fail
  clear hwa hwb
  have wz28 : IntKind.i64.wrap (z + 1) = z + 1 := by rw [IntKind.wrap_i64]; omega
  go_wp2_with fail
  refine (A6 HTb.out z).mono ?_
  rintro e wx29 ⟨rfl, rfl⟩
  have hk := Dz HTb.out HL.out (z := z + 1) (by omega)
  have hz30 := Bw HL.out (z + 1)
  obtain ⟨n30, hn⟩ : ∃ n, Gm L (z + 1) = n := ⟨_, rfl⟩
  rw [hn] at hk hz30
  clear hn
  go_wp2_with fail
  refine hk.mono ?_
  rintro e w30 ⟨rfl, c30, d30, hT30, hc, hq⟩
  have HA30 := Aa (hc.keep _ _ HAb.out (fun e => ne1 e))
  have HB30 := Aa (hc.keep _ _ HBb.out (fun e => HN2.out e))
  have HC30 := Aa (HCb.out.trans hc)
  have HT30 := Aa hT30
  have HQ30 := Aa (show n30.2 = -1 ∨ (0 ≤ z ∧ z < n30.2 ∧ n30.2 ≤ L.length ∧ c30 = c ∧ d30 = d) from by omega)
  have hb30 : -1 ≤ n30.2 ∧ n30.2 ≤ L.length := by have h1 := HQ30.out; omega
  clear hc hq hk hT30
  by_cases hq0 : n30.2 < 0
  {have dq : decide (n30.2 < 0) = true := decide_eq_true hq0
   have ha := HA30.out
   have hb := HB30.out
   obtain ⟨p0, p1, p2, p3, p4, p5, p6, p7, p8, p9, p10, p11⟩ := Ay ha
   obtain ⟨f0, f1, f2, f3, f4, f5, f6, f7, f8, f9, f10, f11⟩ := De hb
   obtain ⟨q0, q1, q2, q3, q4, q5, q6, q7, q8, q9, q10, q11⟩ := Ay hb
   obtain ⟨w31, hwf, hfb, hfc⟩ := Bj hb (.int .i64 s.k) (.string s.x) (.string s.y) (.string s.z) (.string s.t) (.string s.f) (.slice none 0 0) (.int .i64 s.n) (.slice none 0 0) (.slice none 0 0) (.int .i64 s.l) (.int .i64 s.c)
   obtain ⟨k0, k1, k2, k3, k4, k5, k6, k7, k8, k9, k10, k11⟩ := Ay hfb
   have HO := Aa (show B8 w0 w g L a b c d z (.returned (.tuple #[.agg #[.int .i64 s.k, .string s.x, .string s.y, .string s.z, .string s.t, .string s.f, .slice none 0 0, .int .i64 s.n, .slice none 0 0, .slice none 0 0, .int .i64 s.l, .int .i64 s.c], .int .i64 n30.2])) w31 from
    ⟨⟨s.k, s.x, s.y, s.z, s.t, s.f, s.n, s.l, s.c⟩, none, 0, [], n30.2, rfl, Aq.nil _ _, (Nat.zero_le _), (fun x hx => by cases hx), (show Bb s.x s.y s.z s.t s.f from ⟨by omega, by omega, by omega, by omega, by omega⟩), c30, d30, HT30.out.new hfc (by omega) (fun e => HN2.out e.symm), Ao HC30.out hfc (by omega), HQ30.out⟩)
   clear ha hb hfb
   go_wp2_with fail
   try rw [hwf]
   refine bodyPost_ret (v := .tuple #[.agg #[.int .i64 s.k, .string s.x, .string s.y, .string s.z, .string s.t, .string s.f, .slice none 0 0, .int .i64 s.n, .slice none 0 0, .slice none 0 0, .int .i64 s.l, .int .i64 s.c], .int .i64 n30.2]) (by simp [results, Tryz.results158, go_sem, k0, k1, k2, k3, k4, k5, k6, k7, k8, k9, k10, k11]) rfl ?_
   exact HO.out}
  have dq : decide (n30.2 < 0) = false := decide_eq_false hq0
  have wz32 : IntKind.i64.wrap (n30.2 + 1) = n30.2 + 1 := by rw [IntKind.wrap_i64]; omega
  have p5 := Ab HA30.out 5
  have f5 := Ad HA30.out 5
  have p4 := Ab HA30.out 4
  have f4 := Ad HA30.out 4
  obtain ⟨w33, hw33, hb, hc⟩ := Eq HA30.out 5 (.string n30.1) 4 (.string A)
  have HA33 : Hid (w33.heap[w.heap.size]? = some (.cells #[.int .i64 s.k, .string s.x, .string s.y, .string s.z, .string A, .string n30.1, .slice none 0 0, .int .i64 s.n, .slice none 0 0, .slice none 0 0, .int .i64 s.l, .int .i64 s.c] 128 (0, 0))) := Aa hb
  have HT33 := Aa (HT30.out.new hc h0w (fun e => ne1 e.symm))
  have HB33 := Aa (hc.keep _ _ HB30.out (Bm (by omega)))
  have HC33 := Aa (Ao HC30.out hc (Nat.le_refl _))
  have HQ33 := Aa (show n30.2 = -1 ∨ (0 ≤ z ∧ z < n30.2 ∧ n30.2 ≤ L.length ∧ c30 = c ∧ d30 = d) from HQ30.out)
  clear hb hc
  go_upto_region 16 with fail
  clear hw33 p4 f4 p5 f5
  by_cases hpp : Ar L n30.2 = ⟨#[40]⟩
  {have ep := lit _ [40] hpp
   clear hpp
   go_wp2_with fail
   refine (A6 HT33.out n30.2).mono ?_
   rintro e wx34 ⟨rfl, rfl⟩
   have p0 := Ab HA33.out 0
   have f0 := Ad HA33.out 0
   obtain ⟨w35, hw35, hb, hc⟩ := Ai HA33.out 0 (.int .i64 13)
   simp only [s4, s5, s6] at hb
   have HA35 := Aa hb
   have HT35 := Aa (HT33.out.new hc h0w (fun e => ne1 e.symm))
   have HB35 := Aa (hc.keep _ _ HB33.out (Bm (by omega)))
   have HC35 := Aa (Ao HC33.out hc (Nat.le_refl _))
   have HQ35 := Aa (show n30.2 = -1 ∨ (0 ≤ z ∧ z < n30.2 ∧ n30.2 ≤ L.length ∧ c30 = c ∧ d30 = d) from HQ33.out)
   clear hb hc
   have hk := Po HT35.out HL.out (z := n30.2) (by omega) (by omega)
   go_wp2_with fail
   refine hk.mono ?_
   rintro e w36 ⟨ga36, gc36, gs36, r36, rfl, ho36, hl36, hs36, c36, d36, hT36, hc, hq⟩
   have HA36 := Aa (hc.keep _ _ HA35.out (fun e => ne1 e))
   have HB36 := Aa (hc.keep _ _ HB35.out (fun e => HN2.out e))
   have HC36 := Aa (HC35.out.trans hc)
   have HT36 := Aa hT36
   have HQ36 := Aa (show r36 = -1 ∨ (0 ≤ z ∧ z < r36 ∧ r36 ≤ L.length ∧ c36 = c ∧ d36 = d) from by have h1 := HQ35.out; omega)
   have hb36 : -1 ≤ r36 ∧ r36 ≤ L.length := by have h1 := HQ36.out; omega
   have HG36 := Aa (Cg ho36 (HC35.out.size))
   have HS36 := Aa hs36
   clear ho36 hs36
   clear hc hq hk hT36
   clear hw35 p0 f0
   have p6 := Ab HA36.out 6
   have f6 := Ad HA36.out 6
   obtain ⟨w37, hw37, hb, hc⟩ := Ai HA36.out 6 (.slice ga36 gs36.length gc36)
   simp only [s4, s5, s6] at hb
   have HA37 := Aa hb
   have HT37 := Aa (HT36.out.new hc h0w (fun e => ne1 e.symm))
   have HB37 := Aa (hc.keep _ _ HB36.out (Bm (by omega)))
   have HC37 := Aa (Ao HC36.out hc (Nat.le_refl _))
   have HQ37 := Aa (show r36 = -1 ∨ (0 ≤ z ∧ z < r36 ∧ r36 ≤ L.length ∧ c36 = c ∧ d36 = d) from HQ36.out)
   have HG37 := Aa (Bd (HG36.out) hc HA36.out (by decide : (128 : TypeId) ≠ 9))
   clear hb hc
   go_upto_region 21 with fail
   clear hw37 p6 f6
   have ha := HA37.out
   have hb := HB37.out
   obtain ⟨p0, p1, p2, p3, p4, p5, p6, p7, p8, p9, p10, p11⟩ := Ay ha
   obtain ⟨f0, f1, f2, f3, f4, f5, f6, f7, f8, f9, f10, f11⟩ := De hb
   obtain ⟨q0, q1, q2, q3, q4, q5, q6, q7, q8, q9, q10, q11⟩ := Ay hb
   obtain ⟨w38, hwf, hfb, hfc⟩ := Bj hb (.int .i64 13) (.string s.x) (.string s.y) (.string s.z) (.string A) (.string n30.1) (.slice ga36 gs36.length gc36) (.int .i64 s.n) (.slice none 0 0) (.slice none 0 0) (.int .i64 s.l) (.int .i64 s.c)
   obtain ⟨k0, k1, k2, k3, k4, k5, k6, k7, k8, k9, k10, k11⟩ := Ay hfb
   have HO := Aa (show B8 w0 w g L a b c d z (.returned (.tuple #[.agg #[.int .i64 13, .string s.x, .string s.y, .string s.z, .string A, .string n30.1, .slice ga36 gs36.length gc36, .int .i64 s.n, .slice none 0 0, .slice none 0 0, .int .i64 s.l, .int .i64 s.c], .int .i64 r36])) w38 from
    ⟨⟨13, s.x, s.y, s.z, A, n30.1, s.n, s.l, s.c⟩, ga36, gc36, gs36, r36, rfl, Bd (HG37.out) hfc HB37.out (by decide : (128 : TypeId) ≠ 9), hl36, HS36.out, (show Bb s.x s.y s.z A n30.1 from ⟨by omega, by omega, by omega, by omega, by omega⟩), c36, d36, HT37.out.new hfc (by omega) (fun e => HN2.out e.symm), Ao HC37.out hfc (by omega), HQ37.out⟩)
   clear ha hb hfb
   go_wp2_with fail
   try rw [hwf]
   refine bodyPost_ret (v := .tuple #[.agg #[.int .i64 13, .string s.x, .string s.y, .string s.z, .string A, .string n30.1, .slice ga36 gs36.length gc36, .int .i64 s.n, .slice none 0 0, .slice none 0 0, .int .i64 s.l, .int .i64 s.c], .int .i64 r36]) (by simp [results, Tryz.results158, go_sem, k0, k1, k2, k3, k4, k5, k6, k7, k8, k9, k10, k11]) rfl ?_
   exact HO.out}
  have ep := Bf _ [40] hpp
  clear hpp
  go_wp2_with fail
  refine (A6 HT33.out n30.2).mono ?_
  rintro e wx39 ⟨rfl, rfl⟩
  cases left with
  | true =>
   have hk := Da HT33.out (z := n30.2) (by omega) (by omega) ⟨#[61]⟩ (by decide)
   obtain ⟨r40, hn⟩ : ∃ n, Gs L (n30.2) ⟨#[61]⟩ = n := ⟨_, rfl⟩
   rw [hn] at hk
   clear hn
   go_wp2_with fail
   refine hk.mono ?_
   rintro e w40 ⟨rfl, c40, d40, hT40, hc, hq⟩
   have HA40 := Aa (hc.keep _ _ HA33.out (fun e => ne1 e))
   have HB40 := Aa (hc.keep _ _ HB33.out (fun e => HN2.out e))
   have HC40 := Aa (HC33.out.trans hc)
   have HT40 := Aa hT40
   have HQ40 := Aa (show r40 = -1 ∨ (0 ≤ z ∧ z < r40 ∧ r40 ≤ L.length ∧ c40 = c ∧ d40 = d) from by have h1 := HQ33.out; omega)
   have hb40 : -1 ≤ r40 ∧ r40 ≤ L.length := by have h1 := HQ40.out; omega
   clear hc hq hk hT40
   have p0 := Ab HA40.out 0
   have f0 := Ad HA40.out 0
   obtain ⟨w41, hw41, hb, hc⟩ := Ai HA40.out 0 (.int .i64 8)
   simp only [s4, s5, s6] at hb
   have HA41 := Aa hb
   have HT41 := Aa (HT40.out.new hc h0w (fun e => ne1 e.symm))
   have HB41 := Aa (hc.keep _ _ HB40.out (Bm (by omega)))
   have HC41 := Aa (Ao HC40.out hc (Nat.le_refl _))
   have HQ41 := Aa (show r40 = -1 ∨ (0 ≤ z ∧ z < r40 ∧ r40 ≤ L.length ∧ c40 = c ∧ d40 = d) from HQ40.out)
   clear hb hc
   have hk := Dz HT41.out HL.out (z := r40) (by omega)
   have hz42 := Bw HL.out (r40)
   obtain ⟨n42, hn⟩ : ∃ n, Gm L (r40) = n := ⟨_, rfl⟩
   rw [hn] at hk hz42
   clear hn
   go_wp2_with fail
   refine hk.mono ?_
   rintro e w42 ⟨rfl, c42, d42, hT42, hc, hq⟩
   have HA42 := Aa (hc.keep _ _ HA41.out (fun e => ne1 e))
   have HB42 := Aa (hc.keep _ _ HB41.out (fun e => HN2.out e))
   have HC42 := Aa (HC41.out.trans hc)
   have HT42 := Aa hT42
   have HQ42 := Aa (show n42.2 = -1 ∨ (0 ≤ z ∧ z < n42.2 ∧ n42.2 ≤ L.length ∧ c42 = c ∧ d42 = d) from by have h1 := HQ41.out; omega)
   have hb42 : -1 ≤ n42.2 ∧ n42.2 ≤ L.length := by have h1 := HQ42.out; omega
   clear hc hq hk hT42
   clear hw41 p0 f0
   have p2 := Ab HA42.out 2
   have f2 := Ad HA42.out 2
   obtain ⟨w43, hw43, hb, hc⟩ := Ai HA42.out 2 (.string n42.1)
   simp only [s4, s5, s6] at hb
   have HA43 := Aa hb
   have HT43 := Aa (HT42.out.new hc h0w (fun e => ne1 e.symm))
   have HB43 := Aa (hc.keep _ _ HB42.out (Bm (by omega)))
   have HC43 := Aa (Ao HC42.out hc (Nat.le_refl _))
   have HQ43 := Aa (show n42.2 = -1 ∨ (0 ≤ z ∧ z < n42.2 ∧ n42.2 ≤ L.length ∧ c42 = c ∧ d42 = d) from HQ42.out)
   clear hb hc
   go_upto_region 29 with fail
   clear hw43 p2 f2
   have ha := HA43.out
   have hb := HB43.out
   obtain ⟨p0, p1, p2, p3, p4, p5, p6, p7, p8, p9, p10, p11⟩ := Ay ha
   obtain ⟨f0, f1, f2, f3, f4, f5, f6, f7, f8, f9, f10, f11⟩ := De hb
   obtain ⟨q0, q1, q2, q3, q4, q5, q6, q7, q8, q9, q10, q11⟩ := Ay hb
   obtain ⟨w44, hwf, hfb, hfc⟩ := Bj hb (.int .i64 8) (.string s.x) (.string n42.1) (.string s.z) (.string A) (.string n30.1) (.slice none 0 0) (.int .i64 s.n) (.slice none 0 0) (.slice none 0 0) (.int .i64 s.l) (.int .i64 s.c)
   obtain ⟨k0, k1, k2, k3, k4, k5, k6, k7, k8, k9, k10, k11⟩ := Ay hfb
   have HO := Aa (show B8 w0 w g L a b c d z (.returned (.tuple #[.agg #[.int .i64 8, .string s.x, .string n42.1, .string s.z, .string A, .string n30.1, .slice none 0 0, .int .i64 s.n, .slice none 0 0, .slice none 0 0, .int .i64 s.l, .int .i64 s.c], .int .i64 n42.2])) w44 from
    ⟨⟨8, s.x, n42.1, s.z, A, n30.1, s.n, s.l, s.c⟩, none, 0, [], n42.2, rfl, Aq.nil _ _, (Nat.zero_le _), (fun x hx => by cases hx), (show Bb s.x n42.1 s.z A n30.1 from ⟨by omega, by omega, by omega, by omega, by omega⟩), c42, d42, HT43.out.new hfc (by omega) (fun e => HN2.out e.symm), Ao HC43.out hfc (by omega), HQ43.out⟩)
   clear ha hb hfb
   go_wp2_with fail
   try rw [hwf]
   refine bodyPost_ret (v := .tuple #[.agg #[.int .i64 8, .string s.x, .string n42.1, .string s.z, .string A, .string n30.1, .slice none 0 0, .int .i64 s.n, .slice none 0 0, .slice none 0 0, .int .i64 s.l, .int .i64 s.c], .int .i64 n42.2]) (by simp [results, Tryz.results158, go_sem, k0, k1, k2, k3, k4, k5, k6, k7, k8, k9, k10, k11]) rfl ?_
   exact HO.out
  | false =>
   have p0 := Ab HA33.out 0
   have f0 := Ad HA33.out 0
   obtain ⟨w45, hw45, hb, hc⟩ := Ai HA33.out 0 (.int .i64 7)
   simp only [s4, s5, s6] at hb
   have HA45 := Aa hb
   have HT45 := Aa (HT33.out.new hc h0w (fun e => ne1 e.symm))
   have HB45 := Aa (hc.keep _ _ HB33.out (Bm (by omega)))
   have HC45 := Aa (Ao HC33.out hc (Nat.le_refl _))
   have HQ45 := Aa (show n30.2 = -1 ∨ (0 ≤ z ∧ z < n30.2 ∧ n30.2 ≤ L.length ∧ c30 = c ∧ d30 = d) from HQ33.out)
   clear hb hc
   go_upto_region 33 with fail
   clear hw45 p0 f0
   have ha := HA45.out
   have hb := HB45.out
   obtain ⟨p0, p1, p2, p3, p4, p5, p6, p7, p8, p9, p10, p11⟩ := Ay ha
   obtain ⟨f0, f1, f2, f3, f4, f5, f6, f7, f8, f9, f10, f11⟩ := De hb
   obtain ⟨q0, q1, q2, q3, q4, q5, q6, q7, q8, q9, q10, q11⟩ := Ay hb
   obtain ⟨w46, hwf, hfb, hfc⟩ := Bj hb (.int .i64 7) (.string s.x) (.string s.y) (.string s.z) (.string A) (.string n30.1) (.slice none 0 0) (.int .i64 s.n) (.slice none 0 0) (.slice none 0 0) (.int .i64 s.l) (.int .i64 s.c)
   obtain ⟨k0, k1, k2, k3, k4, k5, k6, k7, k8, k9, k10, k11⟩ := Ay hfb
   have HO := Aa (show B8 w0 w g L a b c d z (.returned (.tuple #[.agg #[.int .i64 7, .string s.x, .string s.y, .string s.z, .string A, .string n30.1, .slice none 0 0, .int .i64 s.n, .slice none 0 0, .slice none 0 0, .int .i64 s.l, .int .i64 s.c], .int .i64 n30.2])) w46 from
    ⟨⟨7, s.x, s.y, s.z, A, n30.1, s.n, s.l, s.c⟩, none, 0, [], n30.2, rfl, Aq.nil _ _, (Nat.zero_le _), (fun x hx => by cases hx), (show Bb s.x s.y s.z A n30.1 from ⟨by omega, by omega, by omega, by omega, by omega⟩), c30, d30, HT45.out.new hfc (by omega) (fun e => HN2.out e.symm), Ao HC45.out hfc (by omega), HQ45.out⟩)
   clear ha hb hfb
   go_wp2_with fail
   try rw [hwf]
   refine bodyPost_ret (v := .tuple #[.agg #[.int .i64 7, .string s.x, .string s.y, .string s.z, .string A, .string n30.1, .slice none 0 0, .int .i64 s.n, .slice none 0 0, .slice none 0 0, .int .i64 s.l, .int .i64 s.c], .int .i64 n30.2]) (by simp [results, Tryz.results158, go_sem, k0, k1, k2, k3, k4, k5, k6, k7, k8, k9, k10, k11]) rfl ?_
   exact HO.out}
end
end Go.Proofs.YtgjpgfedlgdjhaaGreatDoor
end
