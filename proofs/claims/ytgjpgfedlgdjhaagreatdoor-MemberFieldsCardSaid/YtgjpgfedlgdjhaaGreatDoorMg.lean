/- Members: Method of the reference 10. -/
import Derived.Test.YtgjpgfedlgdjhaaGreatDoorMf
set_option linter.unusedVariables false
set_option linter.unusedSimpArgs false
set_option maxRecDepth 8192
namespace Go.Proofs.YtgjpgfedlgdjhaaGreatDoor
open Go.RowKit Go.W

def methV (r : Option (Nat × Nat)) : Value := match r with | some (c, q) => .tuple #[.int .i64 (c : Int), .int .i64 (q : Int)] | none => .tuple #[.int .i64 (-1), .int .i64 (-1)]
def methO (cs : List Cls) (ms : List Mem) (nm : ByteArray) (o : Option Nat) : Option (Nat × Nat) := match o with | some i => methN cs ms nm i | none => none
theorem optZ_neg {o : Option Nat} : decide (0 ≤ optZ o) = o.isSome := by
  cases o with
  | none => rfl
  | some k => exact decide_eq_true (Int.natCast_nonneg k)
theorem facesAll {cs : List Cls} {i : Nat} {c : Cls} (hc : cs[i]? = some c) (ho : okC cs i c) {k : Nat} {x : ByteArray} (hx : c.faces[k]? = some x) : ∃ j, find cs x = some j ∧ j ∈ upsN cs i := by
  obtain ⟨j, hj⟩ := ho.up x (by unfold Cls.ups; exact List.mem_append.2 (.inr (List.mem_of_getElem? hx)))
  refine ⟨j, hj, ?_⟩
  unfold upsN
  rw [hc]
  exact List.mem_filterMap.2 ⟨x, by unfold Cls.ups; exact List.mem_append.2 (.inr (List.mem_of_getElem? hx)), hj⟩
/-- those faces tell nothing that came so far -/
def NoFace (cs : List Cls) (ms : List Mem) (nm : ByteArray) (l : List ByteArray) : Prop := ∀ x ∈ l, ∀ j, find cs x = some j → methN cs ms nm j = none
theorem faces_first {cs : List Cls} {ms : List Mem} {nm : ByteArray} {r : Nat × Nat} : ∀ (l : List ByteArray) (k : Nat) (x : ByteArray) (j : Nat), l[k]? = some x → find cs x = some j → NoFace cs ms nm (l.take k) → methN cs ms nm j = some r → (l.filterMap (find cs)).findSome? (methN cs ms nm) = some r
  | [], k, x, j, h, _, _, _ => by simp at h
  | y :: l, 0, x, j, h, hf, _, hr => by
    obtain rfl : y = x := by simpa using h
    rw [List.filterMap_cons, hf]
    simp [hr]
  | y :: l, k + 1, x, j, h, hf, hn, hr => by
    have h' : l[k]? = some x := by simpa using h
    have ih := faces_first l k x j h' hf (fun u hu => hn u (by rw [List.take_succ_cons]; exact List.mem_cons_of_mem _ hu)) hr
    rw [List.filterMap_cons]
    cases hy : find cs y with
    | none => exact ih
    | some q =>
      simp only [List.findSome?_cons]
      rw [hn y (by rw [List.take_succ_cons]; exact List.mem_cons_self) q hy]
      exact ih
theorem faces_none {cs : List Cls} {ms : List Mem} {nm : ByteArray} {l : List ByteArray} (h : NoFace cs ms nm l) : (l.filterMap (find cs)).findSome? (methN cs ms nm) = none := by
  rw [List.findSome?_eq_none_iff]
  intro j hj
  obtain ⟨x, hx, hf⟩ := List.mem_filterMap.1 hj
  exact h x hx j hf
theorem methO_up {cs : List Cls} {ms : List Mem} (hno : NoRing cs) {nm : ByteArray} {o : Option Nat} {r : Nat × Nat} (h : methUp cs ms nm o = some r) : methO cs ms nm o = some r := by
  cases o with
  | none => cases h
  | some i =>
    show methN cs ms nm i = _
    rw [methN_step hno, h]
theorem methO_plain {cs : List Cls} {ms : List Mem} (hno : NoRing cs) {nm : ByteArray} {i : Nat} {c : Cls} (hc : cs[i]? = some c) (h : methUp cs ms nm (some i) = none) (hf : c.face = false) : methO cs ms nm (some i) = none := by
  show methN cs ms nm i = _
  rw [methN_step hno, h]
  have : faceB cs i = false := by unfold faceB; rw [hc]; exact hf
  simp [this]
theorem methO_face {cs : List Cls} {ms : List Mem} (hno : NoRing cs) {nm : ByteArray} {i : Nat} {c : Cls} (hc : cs[i]? = some c) (h : methUp cs ms nm (some i) = none) (hf : c.face = true) : methO cs ms nm (some i) = (c.faces.filterMap (find cs)).findSome? (methN cs ms nm) := by
  show methN cs ms nm i = _
  rw [methN_step hno, h]
  have h1 : faceB cs i = true := by unfold faceB; rw [hc]; exact hf
  have h2 : facesN cs i = c.faces.filterMap (find cs) := by unfold facesN; rw [hc]
  simp [h1, h2]

set_option maxHeartbeats 8000000 in
theorem rmeth {cs : List Cls} {ms : List Mem} (hS0 : SoundP cs) (hno0 : NoRing cs) (nm : ByteArray) : ∀ (N : Nat) {w : World} {pv : Value} (z : Int) (o : Option Nat), ProgAt w pv cs → MemsAt w cs ms → AtZ cs z o → (∀ i, o = some i → rankN cs i ≤ N) →
    Calls Tryz.prog 70 #[pv, .int .i64 z, .string nm] w fun e w' => e = .returned (methV (methO cs ms nm o)) ∧ Ch No w w' := by
  intro N
  induction N using Nat.strongRecOn with
  | ind N ih =>
  intro w pv z o h hm hz0 hrk
  have HM0 := hid hm
  have HS := hid hS0
  have HNO := hid hno0
  have HIH := hid ih
  have HZ0 := hid hz0
  have HRK := hid hrk
  clear hm ih hz0 hrk
  have hp := h
  obtain ⟨cv, m0, m1, m2, m3, m4, m5, m6, m7, m8, rfl, h⟩ := h
  obtain ⟨ao, cap, rfl, hcap, hmax, _, _⟩ := h.row
  rw [List.length_map] at hcap h hp ⊢
  obtain ⟨len, hlen⟩ : ∃ len, cs.length = len := ⟨_, rfl⟩
  rw [hlen] at hcap h hp ⊢
  unfold maxLen at hmax
  obtain ⟨wa, hwa⟩ : ∃ wa, w.alloc (.cells #[.slice ao len cap, m0, m1, m2, m3, m4, m5, m6, m7, m8] 31) = wa := ⟨_, rfl⟩
  have hpb := heap_alloc_new w (.cells #[.slice ao len cap, m0, m1, m2, m3, m4, m5, m6, m7, m8] 31)
  have hch := (Ch.refl No w).alloc (.cells #[.slice ao len cap, m0, m1, m2, m3, m4, m5, m6, m7, m8] 31)
  rw [hwa] at hch hpb
  have HL := hid hlen
  have HP := hid (hp.no hch)
  have HC := hid (h.no hch)
  have HPB := hid hpb
  have HCH := hid hch
  have p0 := cellAt hpb 0
  have p1 := cellAt hpb 1
  have p2 := cellAt hpb 2
  have p3 := cellAt hpb 3
  have p4 := cellAt hpb 4
  have p5 := cellAt hpb 5
  have p6 := cellAt hpb 6
  have p7 := cellAt hpb 7
  have p8 := cellAt hpb 8
  have p9 := cellAt hpb 9
  have hz := lt_size hpb
  clear hlen h hp hpb hch
  have HM := hid (HM0.out.no HCH.out)
  obtain ⟨r0, hr0⟩ : ∃ r, methUp cs ms nm o = r := ⟨_, rfl⟩
  obtain ⟨L0, hL0⟩ : ∃ L0, (chainO cs o).length = L0 := ⟨_, rfl⟩
  have HR0 := hid hr0
  have HL0 := hid hL0
  clear hr0 hL0
  go_enter Tryz.func70, Tryz.ntmps70
  go_wp2_with fail
  clear hwa
  go_loopg [8, 9] L0 (fun g s8 s9 wr => ∃ (z1 : Int) (L : Nat), L ≤ g ∧ s8 = .int .i64 z1 ∧ Hid (∃ o, AtZ cs z1 o ∧ methUp cs ms nm o = r0 ∧ (chainO cs o).length ≤ L) ∧ Ch No wa wr)
  case atStart => exact ⟨z, L0, Nat.le_refl _, rfl, hid ⟨_, HZ0.out, HR0.out, by have := HL0.out; omega⟩, Ch.refl _ _⟩
  case round =>
    obtain ⟨z1, L, hL, rfl, HO, hc⟩ := hrel
    obtain ⟨w1, hw1⟩ : ∃ w1, w1 = wr := ⟨_, rfl⟩
    subst hw1
    have HC1 := hid hc
    have hb1 := hc.keep _ _ HPB.out (fun h => h)
    clear p0 p1 p2 p3 p4 p5 p6 p7 p8 p9 hc
    have p0 := cellAt hb1 0
    have p1 := cellAt hb1 1
    have p2 := cellAt hb1 2
    have p3 := cellAt hb1 3
    have p4 := cellAt hb1 4
    have p5 := cellAt hb1 5
    have p6 := cellAt hb1 6
    have p7 := cellAt hb1 7
    have p8 := cellAt hb1 8
    have p9 := cellAt hb1 9
    have HB1 := hid hb1
    have HP1 := hid (HP.out.no HC1.out)
    have HM1 := hid (HM.out.no HC1.out)
    clear hb1
    have ho := HO.out
    obtain ⟨o1, hz, hv, hln⟩ := ho
    rcases hz with ⟨k, rfl, hk, rfl⟩ | ⟨rfl, hz⟩
    · have hkl : k < len := by have := HL.out; omega
      obtain ⟨c, hcs⟩ : ∃ c, cs[k]? = some c := ⟨_, List.getElem?_eq_getElem hk⟩
      obtain ⟨m, hmk, hma⟩ := HM1.out.get hcs
      have how := rown HP1.out HM1.out hcs hmk nm
      have hstep := methUp_step (ms := ms) HNO.out nm k
      have hok : ownK ms nm k = mtK m.ms nm := by unfold ownK; rw [hmk]
      rw [hv, hok] at hstep
      have HSTEP := hid hstep
      have HLN := hid hln
      have HCS := hid hcs
      clear hv hln hcs hmk hma hstep hok HO
      cases hq : mtK m.ms nm with
      | some q =>
        rw [hq] at how HSTEP
        have hres : r0 = some (k, q) := HSTEP.out
        have HRES := hid hres
        clear hres hq
        have hqq : optZ (some q) = (q : Int) := rfl
        rw [hqq] at how
        go_wp2_with fail
        refine how.mono ?_
        rintro e w5 ⟨rfl, hc5⟩
        have HC5 := hid (HC1.out.trans hc5)
        clear hc5 how hqq
        go_wp2_with fail
        refine bodyPost_ret (v := methV (some (k, q))) (by simp [results, Tryz.results70, go_sem, methV]) rfl ?_
        refine ⟨?_, HCH.out.trans HC5.out⟩
        rw [methO_up HNO.out (HR0.out.trans HRES.out)]
      | none =>
        rw [hq] at how HSTEP
        have hres : r0 = methUp cs ms nm (supN cs k) := HSTEP.out
        have HRES := hid hres
        clear hres hq
        have hqq : optZ (none : Option Nat) = -1 := rfl
        rw [hqq] at how
        go_wp2_with fail
        refine how.mono ?_
        rintro e w5 ⟨rfl, hc5⟩
        have HC5 := hid (HC1.out.trans hc5)
        have hsu := rsuper (HP1.out.no hc5) HCS.out
        have hb5 := hc5.keep _ _ HB1.out (fun h => h)
        clear p0 p1 p2 p3 p4 p5 p6 p7 p8 p9
        have p0 := cellAt hb5 0
        have p1 := cellAt hb5 1
        have p2 := cellAt hb5 2
        have p3 := cellAt hb5 3
        have p4 := cellAt hb5 4
        have p5 := cellAt hb5 5
        have p6 := cellAt hb5 6
        have p7 := cellAt hb5 7
        have p8 := cellAt hb5 8
        have p9 := cellAt hb5 9
        clear hc5 how hqq hb5
        go_wp2_with fail
        refine hsu.mono ?_
        rintro e w6 ⟨rfl, hc6⟩
        have HC6 := hid (HC5.out.trans hc6)
        clear hc6 hsu
        go_wp2_with fail
        go_roundg (L - 1)
        case rel => exact ⟨_, L - 1, Nat.le_refl _, rfl, hid ⟨_, supAtZ HCS.out (HS.out k c HCS.out), HRES.out.symm, by have h1 := chainO_len HNO.out k; have h2 := HLN.out; omega⟩, HC6.out⟩
        case measure => have h1 := chainO_len HNO.out k; have h2 := HLN.out; omega
    · have hz' : ¬ (0 ≤ z1 ∧ z1 < len) := by have := HL.out; omega
      have hres : r0 = none := by rw [← hv]; rfl
      have HUP := hid (HR0.out.trans hres)
      clear hv hln HO hres hz
      have hzz : (0 ≤ z1 ∧ ¬ z1 < len) ∨ ¬ 0 ≤ z1 := by omega
      rcases hzz with ⟨hzz, hzy⟩ | hzz
      all_goals (
        have hz0 := HZ0.out
        rcases hz0 with ⟨i, rfl, hi, rfl⟩ | ⟨rfl, hz0⟩
        · have hil : i < len := by have := HL.out; omega
          obtain ⟨c, hcs⟩ : ∃ c, cs[i]? = some c := ⟨_, List.getElem?_eq_getElem hi⟩
          obtain ⟨b, off, cap', e, hcell, _, _⟩ := (HC.out.no HC1.out).cell hcs
          rw [HL.out] at e
          cases e
          have q2 := hcell.q2
          have q3 := hcell.q3
          have HCS := hid hcs
          have hfa := (HC.out.no HC1.out).faces c (List.mem_of_getElem? hcs)
          have HFA := hid hfa
          clear hcell hcs hi hfa
          cases hf : c.face with
          | false =>
            rw [hf] at q2
            have HF := hid hf
            clear hf
            go_wp2_with fail
            refine bodyPost_ret (v := methV none) (by simp [results, Tryz.results70, go_sem, methV]) rfl ?_
            refine ⟨?_, HCH.out.trans HC1.out⟩
            rw [methO_plain HNO.out HCS.out HUP.out HF.out]
          | true =>
            rw [hf] at q2
            have HF := hid hf
            clear hf
            obtain ⟨fn, hfn⟩ : ∃ fn, c.faces.length = fn := ⟨_, rfl⟩
            obtain ⟨fao, hfao⟩ : ∃ a, c.fa = a := ⟨_, rfl⟩
            obtain ⟨fcc, hfcc⟩ : ∃ a, c.fc = a := ⟨_, rfl⟩
            have hfs := HFA.out
            rw [hfao, hfn, hfcc] at hfs
            rw [hfao, hfn, hfcc] at q3
            obtain ⟨_, _, e3, hfl, hfm, _⟩ := HFA.out
            cases e3
            rw [hfn, hfcc] at hfl
            rw [hfcc] at hfm
            unfold maxLen at hfm
            have HFS := hid hfs
            have HFN := hid hfn
            have HQ3 := hid q3
            clear HFA hfao hfcc hfn hfs
            go_wp2_with fail
            go_loopg [10, 11, 12] fn (fun g s10 s11 s12 wr => ∃ k : Nat, k ≤ fn ∧ fn - k ≤ g ∧ s10 = .int .i64 k ∧ Hid (NoFace cs ms nm (c.faces.take k)) ∧ Ch No w1 wr)
            case atStart => exact ⟨0, Nat.zero_le _, by omega, rfl, hid (by intro x hx; simp at hx), Ch.refl _ _⟩
            case round =>
              obtain ⟨k, hk, hg, rfl, HN, hcr⟩ := hrel
              have HCR := hid hcr
              have HB2 := hid (hcr.keep _ _ HB1.out (fun h => h))
              have HP2 := hid (HP1.out.no hcr)
              have HM2 := hid (HM1.out.no hcr)
              have HFS2 := hid (HFS.out.no hcr)
              have q3' := cell_ch HQ3.out hcr (fun _ _ h => h)
              clear p0 p1 p2 p3 p4 p5 p6 p7 p8 p9 q2 q3 hcr
              have p0 := cellAt HB2.out 0
              have p1 := cellAt HB2.out 1
              have p2 := cellAt HB2.out 2
              have p3 := cellAt HB2.out 3
              have p4 := cellAt HB2.out 4
              have p5 := cellAt HB2.out 5
              have p6 := cellAt HB2.out 6
              have p7 := cellAt HB2.out 7
              have p8 := cellAt HB2.out 8
              have p9 := cellAt HB2.out 9
              cases hd : decide (k < fn) with
              | false =>
                have hkl : ¬ k < fn := by simpa using hd
                have hn := HN.out
                rw [List.take_of_length_le (by have := HFN.out; omega)] at hn
                have HNN := hid hn
                clear hn
                go_wp2_with fail
                refine bodyPost_ret (v := methV none) (by simp [results, Tryz.results70, go_sem, methV]) rfl ?_
                refine ⟨?_, HCH.out.trans (HC1.out.trans HCR.out)⟩
                rw [methO_face HNO.out HCS.out HUP.out HF.out, faces_none HNN.out]
              | true =>
                have hkl : k < fn := by simpa using hd
                obtain ⟨x, hx⟩ : ∃ x, c.faces[k]? = some x := ⟨_, List.getElem?_eq_getElem (by have := HFN.out; omega)⟩
                obtain ⟨j, hj, hju⟩ := facesAll HCS.out (HS.out i c HCS.out) hx
                obtain ⟨_, fb, fo, hfa, hq⟩ := HFS2.out.cell hx
                have hq0 : wr.cell? ⟨fb, fo + k, none⟩ = some (.string x) := hq
                have hjl := upsN_lt cs i j hju
                have hrj := rank_lt HNO.out i j hju
                have hri := HRK.out i rfl
                have hfi := rfind (HP2.out.no ((Ch.refl No wr).drew)) x
                rw [findZ_some hj] at hfi
                subst hfa
                have hme := fun (w5 : World) (h5 : Ch No wr w5) => HIH.out (rankN cs j) (by omega) (j : Int) (some j) (HP2.out.no h5) (HM2.out.no h5) (AtZ.some hjl) (fun i' e => by cases e; exact Nat.le_refl _)
                have hmo : methO cs ms nm (some j) = methN cs ms nm j := rfl
                rw [hmo] at hme
                have HX := hid hx
                have HJ := hid hj
                have HSx := hid (show wr.cell? ⟨fb, fo + k, none⟩ = some (.string x) ∧ wr.cell? ⟨b, off + i * 10 + 3, none⟩ = some (.slice (some ⟨fb, fo, none⟩) fn fcc) ∧ _ from ⟨hq0, q3', progCells9 HB2.out⟩)
                have HSd := hid (show wr.drew.cell? ⟨fb, fo + k, none⟩ = some (.string x) ∧ wr.drew.cell? ⟨b, off + i * 10 + 3, none⟩ = some (.slice (some ⟨fb, fo, none⟩) fn fcc) ∧ _ from ⟨hq0, q3', progCells9 (((Ch.refl No wr).drew).keep _ _ HB2.out (fun h => h))⟩)
                have HQ0 := hid hq0
                have HQ3' := hid q3'
                clear hx hj hju hq hmo
                cases hr : methN cs ms nm j with
                | some r =>
                  obtain ⟨c', q'⟩ := r
                  rw [hr] at hme
                  have HR := hid hr
                  have hmv : methV (some (c', q')) = .tuple #[.int .i64 (c' : Int), .int .i64 (q' : Int)] := rfl
                  rw [hmv] at hme
                  clear hr hmv
                  go_wp2_with fail
                  go_region_held3 (fun w' => w'.cell? ⟨fb, fo + k, none⟩ = some (.string x) ∧ w'.cell? ⟨b, off + i * 10 + 3, none⟩ = some (.slice (some ⟨fb, fo, none⟩) fn fcc) ∧ w'.cell? ⟨w.heap.size, 0, none⟩ = some (.slice (some ⟨b, off, none⟩) len cap) ∧ w'.cell? ⟨w.heap.size, 1, none⟩ = some m0 ∧ w'.cell? ⟨w.heap.size, 2, none⟩ = some m1 ∧ w'.cell? ⟨w.heap.size, 3, none⟩ = some m2 ∧ w'.cell? ⟨w.heap.size, 4, none⟩ = some m3 ∧ w'.cell? ⟨w.heap.size, 5, none⟩ = some m4 ∧ w'.cell? ⟨w.heap.size, 6, none⟩ = some m5 ∧ w'.cell? ⟨w.heap.size, 7, none⟩ = some m6 ∧ w'.cell? ⟨w.heap.size, 8, none⟩ = some m7 ∧ w'.cell? ⟨w.heap.size, 9, none⟩ = some m8) (first | with_reducible exact HSx.out | with_reducible exact HSd.out | with_reducible exact HS5.out | with_reducible exact HS6.out | go_keep) (first | (go_at_call 92; refine hfi.mono ?_; rintro e w5 ⟨rfl, hc5⟩; have K5 := hid (((Ch.refl No wr).drew).trans hc5); have HS5 := hid (show w5.cell? ⟨fb, fo + k, none⟩ = some (.string x) ∧ w5.cell? ⟨b, off + i * 10 + 3, none⟩ = some (.slice (some ⟨fb, fo, none⟩) fn fcc) ∧ _ from ⟨cell_ch HQ0.out K5.out (fun _ _ h => h), cell_ch HQ3'.out K5.out (fun _ _ h => h), progCells9 (K5.out.keep _ _ HB2.out (fun h => h))⟩); clear hc5 hfi) | (go_at_call 70; refine (hme _ K5.out).mono ?_; rintro e w6 ⟨rfl, hc6⟩; have K6 := hid (K5.out.trans hc6); have HS6 := hid (show w6.cell? ⟨fb, fo + k, none⟩ = some (.string x) ∧ w6.cell? ⟨b, off + i * 10 + 3, none⟩ = some (.slice (some ⟨fb, fo, none⟩) fn fcc) ∧ _ from ⟨cell_ch HQ0.out K6.out (fun _ _ h => h), cell_ch HQ3'.out K6.out (fun _ _ h => h), progCells9 (K6.out.keep _ _ HB2.out (fun h => h))⟩); clear hc6 hme))
                  go_wp2_with fail
                  refine bodyPost_ret (v := methV (some (c', q'))) (by simp [results, Tryz.results70, go_sem, methV]) rfl ?_
                  refine ⟨?_, HCH.out.trans (HC1.out.trans (HCR.out.trans K6.out))⟩
                  rw [methO_face HNO.out HCS.out HUP.out HF.out, faces_first _ k x j HX.out HJ.out HN.out HR.out]
                | none =>
                  rw [hr] at hme
                  have HR := hid hr
                  have hmv : methV none = .tuple #[.int .i64 (-1), .int .i64 (-1)] := rfl
                  rw [hmv] at hme
                  clear hr hmv
                  go_wp2_with fail
                  go_region_held3 (fun w' => w'.cell? ⟨fb, fo + k, none⟩ = some (.string x) ∧ w'.cell? ⟨b, off + i * 10 + 3, none⟩ = some (.slice (some ⟨fb, fo, none⟩) fn fcc) ∧ w'.cell? ⟨w.heap.size, 0, none⟩ = some (.slice (some ⟨b, off, none⟩) len cap) ∧ w'.cell? ⟨w.heap.size, 1, none⟩ = some m0 ∧ w'.cell? ⟨w.heap.size, 2, none⟩ = some m1 ∧ w'.cell? ⟨w.heap.size, 3, none⟩ = some m2 ∧ w'.cell? ⟨w.heap.size, 4, none⟩ = some m3 ∧ w'.cell? ⟨w.heap.size, 5, none⟩ = some m4 ∧ w'.cell? ⟨w.heap.size, 6, none⟩ = some m5 ∧ w'.cell? ⟨w.heap.size, 7, none⟩ = some m6 ∧ w'.cell? ⟨w.heap.size, 8, none⟩ = some m7 ∧ w'.cell? ⟨w.heap.size, 9, none⟩ = some m8) (first | with_reducible exact HSx.out | with_reducible exact HSd.out | with_reducible exact HS5.out | with_reducible exact HS6.out | go_keep) (first | (go_at_call 92; refine hfi.mono ?_; rintro e w5 ⟨rfl, hc5⟩; have K5 := hid (((Ch.refl No wr).drew).trans hc5); have HS5 := hid (show w5.cell? ⟨fb, fo + k, none⟩ = some (.string x) ∧ w5.cell? ⟨b, off + i * 10 + 3, none⟩ = some (.slice (some ⟨fb, fo, none⟩) fn fcc) ∧ _ from ⟨cell_ch HQ0.out K5.out (fun _ _ h => h), cell_ch HQ3'.out K5.out (fun _ _ h => h), progCells9 (K5.out.keep _ _ HB2.out (fun h => h))⟩); clear hc5 hfi) | (go_at_call 70; refine (hme _ K5.out).mono ?_; rintro e w6 ⟨rfl, hc6⟩; have K6 := hid (K5.out.trans hc6); have HS6 := hid (show w6.cell? ⟨fb, fo + k, none⟩ = some (.string x) ∧ w6.cell? ⟨b, off + i * 10 + 3, none⟩ = some (.slice (some ⟨fb, fo, none⟩) fn fcc) ∧ _ from ⟨cell_ch HQ0.out K6.out (fun _ _ h => h), cell_ch HQ3'.out K6.out (fun _ _ h => h), progCells9 (K6.out.keep _ _ HB2.out (fun h => h))⟩); clear hc6 hme))
                  go_wp2_with fail
                  go_roundg (fn - k - 1)
                  case rel =>
                    refine ⟨k + 1, by omega, by omega, by go_num, hid ?_, HCR.out.trans K6.out⟩
                    intro y hy j' hj'
                    rw [List.take_add_one, HX.out] at hy
                    rcases List.mem_append.1 hy with hy | hy
                    · exact HN.out y hy j' hj'
                    · simp at hy; subst hy
                      rw [HJ.out] at hj'; cases hj'
                      exact HR.out
                  case measure => omega
        · have hz0' : ¬ (0 ≤ z ∧ z < len) := by have := HL.out; omega
          have hzc : (0 ≤ z ∧ ¬ z < len) ∨ ¬ 0 ≤ z := by omega
          clear hz0
          rcases hzc with ⟨hza, hzb⟩ | hza
          all_goals (
            go_wp2_with fail
            refine bodyPost_ret (v := methV none) (by simp [results, Tryz.results70, go_sem, methV]) rfl ?_
            exact ⟨rfl, HCH.out.trans HC1.out⟩))
end Go.Proofs.YtgjpgfedlgdjhaaGreatDoor
