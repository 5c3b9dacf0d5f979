/- Members: sound of the reference 10. -/
import Derived.Test.YtgjpgfedlgdjhaaGreatDoorMh
import Derived.Deep.CutRange
set_option linter.unusedVariables false
set_option linter.unusedSimpArgs false
set_option maxRecDepth 8192
namespace Go.Proofs.YtgjpgfedlgdjhaaGreatDoor
open Go.RowKit Go.W

/-- an answer that, where it is yes, tells P -/
def BoolIf (P : Prop) (e : Ending) : Prop := ∃ r : Bool, e = .returned (.bool r) ∧ (r = true → P)
theorem BoolIf.f {P : Prop} : BoolIf P (.returned (.bool false)) := ⟨false, rfl, fun h => by cases h⟩
theorem BoolIf.t {P : Prop} (h : P) : BoolIf P (.returned (.bool true)) := ⟨true, rfl, fun _ => h⟩
theorem mtCellsB {w : World} {a : Nat} {x0 x1 x2 x3 x4 x5 x6 x7 x8 : Value} {t : TypeId} (ha : w.heap[a]? = some (.cells #[x0, x1, x2, x3, x4, x5, x6, x7, x8] t (0, 0))) :
    w.cell? ⟨a, 0, none⟩ = some x0 ∧ w.cell? ⟨a, 1, none⟩ = some x1 ∧ w.cell? ⟨a, 2, none⟩ = some x2 ∧ w.cell? ⟨a, 3, none⟩ = some x3 ∧ w.cell? ⟨a, 4, none⟩ = some x4 ∧ w.cell? ⟨a, 5, none⟩ = some x5 ∧ w.cell? ⟨a, 6, none⟩ = some x6 ∧ w.cell? ⟨a, 7, none⟩ = some x7 ∧ w.cell? ⟨a, 8, none⟩ = some x8 := ⟨cellAt ha 0, cellAt ha 1, cellAt ha 2, cellAt ha 3, cellAt ha 4, cellAt ha 5, cellAt ha 6, cellAt ha 7, cellAt ha 8⟩
theorem MtCells.all {w : World} {b a : Nat} {x : Mt} (h : MtCells w b a x) : w.cell? ⟨b, a, none⟩ = some (.string x.ret) ∧ w.cell? ⟨b, a + 1, none⟩ = some (.string x.nm) ∧ w.cell? ⟨b, a + 2, none⟩ = some (.bool x.st) ∧ w.cell? ⟨b, a + 3, none⟩ = some (.bool x.ba) ∧ w.cell? ⟨b, a + 4, none⟩ = some (.slice x.pa x.ps.length x.pc) ∧ w.cell? ⟨b, a + 5, none⟩ = some (.slice x.s5.1 x.s5.2.1 x.s5.2.2) ∧ w.cell? ⟨b, a + 6, none⟩ = some (.slice x.s6.1 x.s6.2.1 x.s6.2.2) ∧ w.cell? ⟨b, a + 7, none⟩ = some (.int .i64 x.line) ∧ w.cell? ⟨b, a + 8, none⟩ = some (.int .i64 x.col) := ⟨h.q0, h.q1, h.q2, h.q3, h.q4, h.q5, h.q6, h.q7, h.q8⟩

/-- the parameters are few -/
def FewPs (ms : List Mem) : Prop := ∀ m ∈ ms, ∀ x ∈ m.ms, x.ps.length ≤ 1000
theorem mtAt_get {ms : List Mem} {c q : Nat} {m : Mem} (hm : ms[c]? = some m) : mtAt ms c q = m.ms[q]? := by unfold mtAt; rw [hm]
theorem ownK_get {ms : List Mem} {c : Nat} {nm : ByteArray} {m : Mem} (hm : ms[c]? = some m) : ownK ms nm c = mtK m.ms nm := by unfold ownK; rw [hm]

set_option maxRecDepth 100000 in
set_option maxHeartbeats 32000000 in
theorem rsound10 {w : World} {pv : Value} {cs : List Cls} {ms : List Mem} (h : ProgAt w pv cs) (hm : MemsAt w cs ms) (hpl : PlainP cs) (hS : SoundP cs) (hsm : SmallP cs) (hsz : SzM ms) (hfp : FewPs ms) {i : Nat} {c : Cls} {m : Mem} (hi : cs[i]? = some c) (hmi : ms[i]? = some m) {k : Nat} {x : Mt} (hk : m.ms[k]? = some x) :
    Calls Tryz.prog 40 #[pv, .int .i64 i, .int .i64 k] w fun e w' => BoolIf (SoundM cs ms i c.face m.ms k x) e ∧ Ch No w w' := by
  have HM0 := hid hm
  have HS := hid hS
  have HSM := hid hsm
  have HPL := hid hpl
  have HCS := hid hi
  have HMI := hid hmi
  have HXK := hid hk
  have HFP := hid hfp
  have HXS := hid (show x.nm.size ≤ maxLen ∧ x.ret.size ≤ maxLen ∧ ∀ v ∈ x.ps, v.ty.size ≤ maxLen from (hsz m (List.mem_of_getElem? hmi)).ms x (List.mem_of_getElem? hk))
  have HMT0 := hid ((hm.at_ i c m hi hmi).ms)
  clear hm hS hsm hpl hmi hk hfp hsz
  have hp := h
  obtain ⟨cv, m0, m1, m2, m3, m4, m5, m6, m7, m8, rfl, h⟩ := h
  obtain ⟨ao, cap, rfl, hcap, hmax, _, _⟩ := h.row
  rw [List.length_map] at hcap h hp ⊢
  obtain ⟨len, hlen⟩ : ∃ len, cs.length = len := ⟨_, rfl⟩
  rw [hlen] at hcap h hp ⊢
  unfold maxLen at hmax
  obtain ⟨wa, hwa⟩ : ∃ wa, w.alloc (.cells #[.slice ao len cap, m0, m1, m2, m3, m4, m5, m6, m7, m8] 31) = wa := ⟨_, rfl⟩
  have hpb := heap_alloc_new w (.cells #[.slice ao len cap, m0, m1, m2, m3, m4, m5, m6, m7, m8] 31)
  have hch := (Ch.refl No w).alloc (.cells #[.slice ao len cap, m0, m1, m2, m3, m4, m5, m6, m7, m8] 31)
  rw [hwa] at hch hpb
  have HL := hid hlen
  have HP := hid (hp.no hch)
  have HC := hid (h.no hch)
  have HPB := hid hpb
  have HCH := hid hch
  have p0 := cellAt hpb 0
  have p1 := cellAt hpb 1
  have p2 := cellAt hpb 2
  have p3 := cellAt hpb 3
  have p4 := cellAt hpb 4
  have p5 := cellAt hpb 5
  have p6 := cellAt hpb 6
  have p7 := cellAt hpb 7
  have p8 := cellAt hpb 8
  have p9 := cellAt hpb 9
  have hz := lt_size hpb
  clear hlen h hp hpb hch
  have HM := hid (HM0.out.no HCH.out)
  have HMT := hid (HMT0.out.no HCH.out)
  obtain ⟨b, off, cap', e, hcell, _, _⟩ := HC.out.cell hi
  rw [HL.out] at e
  cases e
  have hil : i < len := by have := (List.getElem?_eq_some_iff.1 hi).1; have := HL.out; omega
  have q6 := hcell.q6
  have HQ2 := hid hcell.q2
  obtain ⟨ma, mn, mc, hs6⟩ : ∃ ma mn mc, c.s6 = (ma, mn, mc) := ⟨_, _, _, rfl⟩
  rw [hs6] at q6 HMT
  obtain ⟨hmn, hmc, hmm⟩ := HMT.out.shape
  unfold maxLen at hmm
  have hmx : mn ≤ mc := by have h1 : mn = m.ms.length := hmn; have h2 : m.ms.length ≤ mc := hmc; omega
  have hkl : k < mn := by have h1 : mn = m.ms.length := hmn; have := (List.getElem?_eq_some_iff.1 HXK.out).1; omega
  obtain ⟨mb, mo, hma, hxc⟩ := HMT.out.cell HXK.out
  subst hma
  obtain ⟨x0, x1, x2, x3, x4, x5, x6, x7, x8⟩ := hxc
  have hpsA := HMT.out.ps x (List.mem_of_getElem? HXK.out)
  have hpl6 := HFP.out m (List.mem_of_getElem? HMI.out) x (List.mem_of_getElem? HXK.out)
  obtain ⟨-, hpc, hpm⟩ := hpsA.shape
  unfold maxLen at hpm
  clear hcell hs6 HMT0 hi hmn hmc
  obtain ⟨wb, hwb⟩ : ∃ wb, wa.alloc (.cells #[.string x.ret, .string x.nm, .bool x.st, .bool x.ba, .slice x.pa x.ps.length x.pc, .slice x.s5.1 x.s5.2.1 x.s5.2.2, .slice x.s6.1 x.s6.2.1 x.s6.2.2, .int .i64 x.line, .int .i64 x.col] 29) = wb := ⟨_, rfl⟩
  have hbb := heap_alloc_new wa (.cells #[.string x.ret, .string x.nm, .bool x.st, .bool x.ba, .slice x.pa x.ps.length x.pc, .slice x.s5.1 x.s5.2.1 x.s5.2.2, .slice x.s6.1 x.s6.2.1 x.s6.2.2, .int .i64 x.line, .int .i64 x.col] 29)
  have hcb := (Ch.refl No wa).alloc (.cells #[.string x.ret, .string x.nm, .bool x.st, .bool x.ba, .slice x.pa x.ps.length x.pc, .slice x.s5.1 x.s5.2.1 x.s5.2.2, .slice x.s6.1 x.s6.2.1 x.s6.2.2, .int .i64 x.line, .int .i64 x.col] 29)
  rw [hwb] at hbb hcb
  have HCHB := hid (HCH.out.trans hcb)
  have HPBB := hid (hcb.keep _ _ HPB.out (fun h => h))
  have HP1 := hid (HP.out.no hcb)
  have HM1 := hid (HM.out.no hcb)
  have HC1 := hid (HC.out.no hcb)
  have HPS := hid (hpsA.no hcb)
  have HXB := hid hbb
  have HQ2B := hid (cell_ch HQ2.out hcb (fun _ _ h => h))
  have hza := hcb.size
  have hzw := lt_size hbb
  clear hpsA hcb
  clear p0 p1 p2 p3 p4 p5 p6 p7 p8 p9
  go_enter Tryz.func40, Tryz.ntmps40
  have p0 := cellAt HPB.out 0
  go_upto_region 2 with fail
  clear hwa hwb p0 q6 x0 x1 x2 x3 x4 x5 x6 x7 x8
  have p0 := cellAt HPBB.out 0
  have p1 := cellAt HPBB.out 1
  have p2 := cellAt HPBB.out 2
  have p3 := cellAt HPBB.out 3
  have p4 := cellAt HPBB.out 4
  have p5 := cellAt HPBB.out 5
  have p6 := cellAt HPBB.out 6
  have p7 := cellAt HPBB.out 7
  have p8 := cellAt HPBB.out 8
  have p9 := cellAt HPBB.out 9
  have d0 := cellAt HXB.out 0
  have d1 := cellAt HXB.out 1
  have d2 := cellAt HXB.out 2
  have d3 := cellAt HXB.out 3
  have d4 := cellAt HXB.out 4
  have d5 := cellAt HXB.out 5
  have d6 := cellAt HXB.out 6
  have d7 := cellAt HXB.out 7
  have d8 := cellAt HXB.out 8
  go_cut [52] from 21 to 52 (fun s52 wx => ∃ rb : Bool, s52 = .bool rb ∧ Hid (rb = false → (x.ret = sVoid ∨ typedP cs x.ret) ∧ mtK m.ms x.nm = some k ∧ (c.face = true → x.ba = true)) ∧ Ch No wb wx)
  case first =>
    have q2 := HQ2B.out
    by_cases hv : x.ret = sVoid
    · have e0 := lit x.ret [118, 111, 105, 100] hv
      have HV := hid (show x.ret = sVoid ∨ typedP cs x.ret from .inl hv)
      have hown := rown HP1.out HM1.out HCS.out HMI.out x.nm
      clear hv
      by_cases hf : mtK m.ms x.nm = some k
      · have HF := hid hf
        rw [hf, show optZ (some k) = (k : Int) from rfl] at hown
        clear hf
        go_wp2_with fail
        refine hown.mono ?_
        rintro e w6 ⟨rfl, hc6⟩
        have HC6 := hid ((Ch.refl No wb).trans hc6)
        have q2' := cell_ch HQ2B.out HC6.out (fun _ _ h => h)
        have HB6 := hid (HC6.out.keep _ _ HPBB.out (fun h => h))
        have HX6 := hid (HC6.out.keep _ _ HXB.out (fun h => h))
        clear p0 p1 p2 p3 p4 p5 p6 p7 p8 p9 d0 d1 d2 d3 d4 d5 d6 d7 d8 q2 hc6 hown
        have p0 := cellAt HB6.out 0
        have p1 := cellAt HB6.out 1
        have p2 := cellAt HB6.out 2
        have p3 := cellAt HB6.out 3
        have p4 := cellAt HB6.out 4
        have p5 := cellAt HB6.out 5
        have p6 := cellAt HB6.out 6
        have p7 := cellAt HB6.out 7
        have p8 := cellAt HB6.out 8
        have p9 := cellAt HB6.out 9
        have d0 := cellAt HX6.out 0
        have d1 := cellAt HX6.out 1
        have d2 := cellAt HX6.out 2
        have d3 := cellAt HX6.out 3
        have d4 := cellAt HX6.out 4
        have d5 := cellAt HX6.out 5
        have d6 := cellAt HX6.out 6
        have d7 := cellAt HX6.out 7
        have d8 := cellAt HX6.out 8
        obtain ⟨fc, hfc⟩ : ∃ fc, c.face = fc := ⟨_, rfl⟩
        obtain ⟨xb, hxb⟩ : ∃ xb, x.ba = xb := ⟨_, rfl⟩
        rw [hfc] at q2'
        rw [hxb] at d3
        have HFC := hid hfc
        have HXB' := hid hxb
        clear hfc hxb
        cases fc with
        | false =>
          go_wp2_with fail
          go_meet
          exact ⟨false, rfl, hid (fun _ => ⟨HV.out, HF.out, fun h => by rw [HFC.out] at h; cases h⟩), HC6.out⟩
        | true =>
          cases xb with
          | false =>
            go_wp2_with fail
            go_meet
            exact ⟨true, rfl, hid (fun h => by cases h), HC6.out⟩
          | true =>
            go_wp2_with fail
            go_meet
            exact ⟨false, rfl, hid (fun _ => ⟨HV.out, HF.out, fun _ => HXB'.out⟩), HC6.out⟩
      · obtain ⟨z, hz⟩ : ∃ z, optZ (mtK m.ms x.nm) = z := ⟨_, rfl⟩
        have hzk : ¬ z = (k : Int) := by
          rw [← hz]
          intro e
          apply hf
          cases ho : mtK m.ms x.nm with
          | none => rw [ho] at e; exact absurd e (by show ¬ ((-1 : Int) = _); omega)
          | some j => rw [ho] at e; have : (j : Int) = k := e; congr 1; omega
        rw [hz] at hown
        clear hz hf
        go_wp2_with fail
        refine hown.mono ?_
        rintro e w6 ⟨rfl, hc6⟩
        have HC6 := hid ((Ch.refl No wb).trans hc6)
        clear hc6 hown
        go_wp2_with fail
        go_meet
        exact ⟨true, rfl, hid (fun h => by cases h), HC6.out⟩
    · have e0 := litn x.ret [118, 111, 105, 100] hv
      have hty := rtyped HP1.out HPL.out HXS.out.2.1
      clear hv
      go_wp2_with fail
      refine hty.mono ?_
      rintro e w5 ⟨⟨r5, rfl, hr5⟩, hc5⟩
      have K5 := hid hc5
      have HR5 := hid hr5
      have HB5 := hid (hc5.keep _ _ HPBB.out (fun h => h))
      have HX5 := hid (hc5.keep _ _ HXB.out (fun h => h))
      have q2 := cell_ch HQ2B.out hc5 (fun _ _ h => h)
      clear p0 p1 p2 p3 p4 p5 p6 p7 p8 p9 d0 d1 d2 d3 d4 d5 d6 d7 d8 hty hc5 hr5 e0
      have p0 := cellAt HB5.out 0
      have p1 := cellAt HB5.out 1
      have p2 := cellAt HB5.out 2
      have p3 := cellAt HB5.out 3
      have p4 := cellAt HB5.out 4
      have p5 := cellAt HB5.out 5
      have p6 := cellAt HB5.out 6
      have p7 := cellAt HB5.out 7
      have p8 := cellAt HB5.out 8
      have p9 := cellAt HB5.out 9
      have d0 := cellAt HX5.out 0
      have d1 := cellAt HX5.out 1
      have d2 := cellAt HX5.out 2
      have d3 := cellAt HX5.out 3
      have d4 := cellAt HX5.out 4
      have d5 := cellAt HX5.out 5
      have d6 := cellAt HX5.out 6
      have d7 := cellAt HX5.out 7
      have d8 := cellAt HX5.out 8
      cases r5 with
      | false =>
        go_wp2_with fail
        go_meet
        exact ⟨true, rfl, hid (fun h => by cases h), K5.out⟩
      | true =>
        have HV := hid (show x.ret = sVoid ∨ typedP cs x.ret from .inr (HR5.out.1 rfl))
        have hown := rown (HP1.out.no K5.out) (HM1.out.no K5.out) HCS.out HMI.out x.nm
        by_cases hf : mtK m.ms x.nm = some k
        · have HF := hid hf
          rw [hf, show optZ (some k) = (k : Int) from rfl] at hown
          clear hf
          go_wp2_with fail
          refine hown.mono ?_
          rintro e w6 ⟨rfl, hc6⟩
          have HC6 := hid (K5.out.trans hc6)
          have q2' := cell_ch HQ2B.out HC6.out (fun _ _ h => h)
          have HB6 := hid (HC6.out.keep _ _ HPBB.out (fun h => h))
          have HX6 := hid (HC6.out.keep _ _ HXB.out (fun h => h))
          clear p0 p1 p2 p3 p4 p5 p6 p7 p8 p9 d0 d1 d2 d3 d4 d5 d6 d7 d8 q2 hc6 hown
          have p0 := cellAt HB6.out 0
          have p1 := cellAt HB6.out 1
          have p2 := cellAt HB6.out 2
          have p3 := cellAt HB6.out 3
          have p4 := cellAt HB6.out 4
          have p5 := cellAt HB6.out 5
          have p6 := cellAt HB6.out 6
          have p7 := cellAt HB6.out 7
          have p8 := cellAt HB6.out 8
          have p9 := cellAt HB6.out 9
          have d0 := cellAt HX6.out 0
          have d1 := cellAt HX6.out 1
          have d2 := cellAt HX6.out 2
          have d3 := cellAt HX6.out 3
          have d4 := cellAt HX6.out 4
          have d5 := cellAt HX6.out 5
          have d6 := cellAt HX6.out 6
          have d7 := cellAt HX6.out 7
          have d8 := cellAt HX6.out 8
          obtain ⟨fc, hfc⟩ : ∃ fc, c.face = fc := ⟨_, rfl⟩
          obtain ⟨xb, hxb⟩ : ∃ xb, x.ba = xb := ⟨_, rfl⟩
          rw [hfc] at q2'
          rw [hxb] at d3
          have HFC := hid hfc
          have HXB' := hid hxb
          clear hfc hxb
          cases fc with
          | false =>
            go_wp2_with fail
            go_meet
            exact ⟨false, rfl, hid (fun _ => ⟨HV.out, HF.out, fun h => by rw [HFC.out] at h; cases h⟩), HC6.out⟩
          | true =>
            cases xb with
            | false =>
              go_wp2_with fail
              go_meet
              exact ⟨true, rfl, hid (fun h => by cases h), HC6.out⟩
            | true =>
              go_wp2_with fail
              go_meet
              exact ⟨false, rfl, hid (fun _ => ⟨HV.out, HF.out, fun _ => HXB'.out⟩), HC6.out⟩
        · obtain ⟨z, hz⟩ : ∃ z, optZ (mtK m.ms x.nm) = z := ⟨_, rfl⟩
          have hzk : ¬ z = (k : Int) := by
            rw [← hz]
            intro e
            apply hf
            cases ho : mtK m.ms x.nm with
            | none => rw [ho] at e; exact absurd e (by show ¬ ((-1 : Int) = _); omega)
            | some j => rw [ho] at e; have : (j : Int) = k := e; congr 1; omega
          rw [hz] at hown
          clear hz hf
          go_wp2_with fail
          refine hown.mono ?_
          rintro e w6 ⟨rfl, hc6⟩
          have HC6 := hid (K5.out.trans hc6)
          clear hc6 hown
          go_wp2_with fail
          go_meet
          exact ⟨true, rfl, hid (fun h => by cases h), HC6.out⟩
  case rest =>
    obtain ⟨rb, rfl, HCUT, hcc⟩ := hcut
    have HCC := hid hcc
    have HPC := hid (hcc.keep _ _ HPBB.out (fun h => h))
    have HXC := hid (hcc.keep _ _ HXB.out (fun h => h))
    clear p0 p1 p2 p3 p4 p5 p6 p7 p8 p9 d0 d1 d2 d3 d4 d5 d6 d7 d8 hcc
    have p0 := cellAt HPC.out 0
    have p1 := cellAt HPC.out 1
    have p2 := cellAt HPC.out 2
    have p3 := cellAt HPC.out 3
    have p4 := cellAt HPC.out 4
    have p5 := cellAt HPC.out 5
    have p6 := cellAt HPC.out 6
    have p7 := cellAt HPC.out 7
    have p8 := cellAt HPC.out 8
    have p9 := cellAt HPC.out 9
    have d0 := cellAt HXC.out 0
    have d1 := cellAt HXC.out 1
    have d2 := cellAt HXC.out 2
    have d3 := cellAt HXC.out 3
    have d4 := cellAt HXC.out 4
    have d5 := cellAt HXC.out 5
    have d6 := cellAt HXC.out 6
    have d7 := cellAt HXC.out 7
    have d8 := cellAt HXC.out 8
    cases rb with
    | true =>
      go_wp2_with fail
      go_ret
      exact ⟨BoolIf.f, HCHB.out.trans HCC.out⟩
    | false =>
      have HFA := hid (HCUT.out rfl)
      obtain ⟨pn, hpn⟩ : ∃ pn, x.ps.length = pn := ⟨_, rfl⟩
      have HPN := hid hpn
      have d4' := d4
      rw [hpn] at d4' hpc
      have hpcm : x.pc ≤ 9223372036854775807 := by omega
      obtain ⟨ppa, hppa⟩ : ∃ a, x.pa = a := ⟨_, rfl⟩
      obtain ⟨ppc, hppc⟩ : ∃ a, x.pc = a := ⟨_, rfl⟩
      rw [hppc] at hpc hpcm
      rw [hppa, hppc] at d4'
      have HPSC := hid (HPS.out.no HCC.out)
      have hpss := HPSC.out
      rw [hpn, hppa, hppc] at hpss
      have HPSS := hid hpss
      have hxd := HXC.out
      rw [hpn, hppa, hppc] at hxd
      have HXD := hid hxd
      clear d4 hpn hppa hppc hpss hxd
      go_wp2_with fail
      go_loopg [8] pn (fun g s8 wr => ∃ q : Nat, q ≤ pn ∧ pn - q ≤ g ∧ s8 = .int .i64 q ∧ Hid (∀ v ∈ x.ps.take q, typedP cs v.ty) ∧ Ch No wc wr)
      case atStart => exact ⟨0, Nat.zero_le _, by omega, rfl, hid (by simp), Ch.refl _ _⟩
      case round =>
        obtain ⟨q, hq, hg, rfl, HT, hcr⟩ := hrel
        obtain ⟨w1, hw1⟩ : ∃ w1, w1 = wr := ⟨_, rfl⟩
        subst hw1
        have HCR := hid hcr
        have HB1 := hid (hcr.keep _ _ HPC.out (fun h => h))
        have HX1 := hid (hcr.keep _ _ HXD.out (fun h => h))
        have HCW := hid (HCC.out.trans hcr)
        clear p0 p1 p2 p3 p4 p5 p6 p7 p8 p9 d0 d1 d2 d3 d4' d5 d6 d7 d8 hcr
        have p0 := cellAt HB1.out 0
        have p1 := cellAt HB1.out 1
        have p2 := cellAt HB1.out 2
        have p3 := cellAt HB1.out 3
        have p4 := cellAt HB1.out 4
        have p5 := cellAt HB1.out 5
        have p6 := cellAt HB1.out 6
        have p7 := cellAt HB1.out 7
        have p8 := cellAt HB1.out 8
        have p9 := cellAt HB1.out 9
        have d0 := cellAt HX1.out 0
        have d1 := cellAt HX1.out 1
        have d2 := cellAt HX1.out 2
        have d3 := cellAt HX1.out 3
        have d4 := cellAt HX1.out 4
        have d5 := cellAt HX1.out 5
        have d6 := cellAt HX1.out 6
        have d7 := cellAt HX1.out 7
        have d8 := cellAt HX1.out 8
        cases hd : decide (q < pn) with
        | true =>
          have hql : q < pn := by simpa using hd
          obtain ⟨v, hv⟩ : ∃ v, x.ps[q]? = some v := ⟨_, List.getElem?_eq_getElem (by have := HPN.out; omega)⟩
          obtain ⟨vb, vo, hva, hvcell⟩ := (HPSS.out.no HCR.out).cell hv
          subst hva
          have HVK := hid hv
          have hvz := HXS.out.2.2 v (List.mem_of_getElem? hv)
          have r0 := hvcell.q0
          have hty := rtyped ((HP1.out.no HCW.out).no ((Ch.refl No w1).drew)) HPL.out hvz
          have HSx := hid (show w1.cell? ⟨vb, vo + q * 4, none⟩ = some (.string v.ty) ∧ w1.cell? ⟨wa.heap.size, 4, none⟩ = some (.slice (some ⟨vb, vo, none⟩) pn ppc) ∧ w1.cell? ⟨w.heap.size, 0, none⟩ = some (.slice (some ⟨b, off, none⟩) len cap) ∧ w1.cell? ⟨w.heap.size, 1, none⟩ = some m0 ∧ w1.cell? ⟨w.heap.size, 2, none⟩ = some m1 ∧ w1.cell? ⟨w.heap.size, 3, none⟩ = some m2 ∧ w1.cell? ⟨w.heap.size, 4, none⟩ = some m3 ∧ w1.cell? ⟨w.heap.size, 5, none⟩ = some m4 ∧ w1.cell? ⟨w.heap.size, 6, none⟩ = some m5 ∧ w1.cell? ⟨w.heap.size, 7, none⟩ = some m6 ∧ w1.cell? ⟨w.heap.size, 8, none⟩ = some m7 ∧ w1.cell? ⟨w.heap.size, 9, none⟩ = some m8 from ⟨r0, d4, progCells9 HB1.out⟩)
          clear hv hvz hvcell
          go_wp2_with fail
          have HSd := hid (show w1.drew.cell? ⟨vb, vo + q * 4, none⟩ = some (.string v.ty) ∧ w1.drew.cell? ⟨wa.heap.size, 4, none⟩ = some (.slice (some ⟨vb, vo, none⟩) pn ppc) ∧ w1.drew.cell? ⟨w.heap.size, 0, none⟩ = some (.slice (some ⟨b, off, none⟩) len cap) ∧ w1.drew.cell? ⟨w.heap.size, 1, none⟩ = some m0 ∧ w1.drew.cell? ⟨w.heap.size, 2, none⟩ = some m1 ∧ w1.drew.cell? ⟨w.heap.size, 3, none⟩ = some m2 ∧ w1.drew.cell? ⟨w.heap.size, 4, none⟩ = some m3 ∧ w1.drew.cell? ⟨w.heap.size, 5, none⟩ = some m4 ∧ w1.drew.cell? ⟨w.heap.size, 6, none⟩ = some m5 ∧ w1.drew.cell? ⟨w.heap.size, 7, none⟩ = some m6 ∧ w1.drew.cell? ⟨w.heap.size, 8, none⟩ = some m7 ∧ w1.drew.cell? ⟨w.heap.size, 9, none⟩ = some m8 from HSx.out)
          go_region_held3 (fun w' => w'.cell? ⟨vb, vo + q * 4, none⟩ = some (.string v.ty) ∧ w'.cell? ⟨wa.heap.size, 4, none⟩ = some (.slice (some ⟨vb, vo, none⟩) pn ppc) ∧ w'.cell? ⟨w.heap.size, 0, none⟩ = some (.slice (some ⟨b, off, none⟩) len cap) ∧ w'.cell? ⟨w.heap.size, 1, none⟩ = some m0 ∧ w'.cell? ⟨w.heap.size, 2, none⟩ = some m1 ∧ w'.cell? ⟨w.heap.size, 3, none⟩ = some m2 ∧ w'.cell? ⟨w.heap.size, 4, none⟩ = some m3 ∧ w'.cell? ⟨w.heap.size, 5, none⟩ = some m4 ∧ w'.cell? ⟨w.heap.size, 6, none⟩ = some m5 ∧ w'.cell? ⟨w.heap.size, 7, none⟩ = some m6 ∧ w'.cell? ⟨w.heap.size, 8, none⟩ = some m7 ∧ w'.cell? ⟨w.heap.size, 9, none⟩ = some m8) (first | with_reducible exact HSx.out | with_reducible exact HSd.out | with_reducible exact HS5.out | go_keep) (first | (go_at_call 65; refine (hty).mono ?_; rintro e w5 ⟨⟨r5, rfl, hr5⟩, hc5⟩; have K5 := hid (((Ch.refl No w1).drew).trans hc5); have HS5 := hid (show w5.cell? ⟨vb, vo + q * 4, none⟩ = some (.string v.ty) ∧ w5.cell? ⟨wa.heap.size, 4, none⟩ = some (.slice (some ⟨vb, vo, none⟩) pn ppc) ∧ w5.cell? ⟨w.heap.size, 0, none⟩ = some (.slice (some ⟨b, off, none⟩) len cap) ∧ w5.cell? ⟨w.heap.size, 1, none⟩ = some m0 ∧ w5.cell? ⟨w.heap.size, 2, none⟩ = some m1 ∧ w5.cell? ⟨w.heap.size, 3, none⟩ = some m2 ∧ w5.cell? ⟨w.heap.size, 4, none⟩ = some m3 ∧ w5.cell? ⟨w.heap.size, 5, none⟩ = some m4 ∧ w5.cell? ⟨w.heap.size, 6, none⟩ = some m5 ∧ w5.cell? ⟨w.heap.size, 7, none⟩ = some m6 ∧ w5.cell? ⟨w.heap.size, 8, none⟩ = some m7 ∧ w5.cell? ⟨w.heap.size, 9, none⟩ = some m8 from ⟨cell_ch HSx.out.1 K5.out (fun _ _ h => h), cell_ch HSx.out.2.1 K5.out (fun _ _ h => h), cell_ch HSx.out.2.2.1 K5.out (fun _ _ h => h), cell_ch HSx.out.2.2.2.1 K5.out (fun _ _ h => h), cell_ch HSx.out.2.2.2.2.1 K5.out (fun _ _ h => h), cell_ch HSx.out.2.2.2.2.2.1 K5.out (fun _ _ h => h), cell_ch HSx.out.2.2.2.2.2.2.1 K5.out (fun _ _ h => h), cell_ch HSx.out.2.2.2.2.2.2.2.1 K5.out (fun _ _ h => h), cell_ch HSx.out.2.2.2.2.2.2.2.2.1 K5.out (fun _ _ h => h), cell_ch HSx.out.2.2.2.2.2.2.2.2.2.1 K5.out (fun _ _ h => h), cell_ch HSx.out.2.2.2.2.2.2.2.2.2.2.1 K5.out (fun _ _ h => h), cell_ch HSx.out.2.2.2.2.2.2.2.2.2.2.2 K5.out (fun _ _ h => h)⟩); clear hc5; clear hty; have HR5 := hid hr5; clear hr5))
          cases r5 with
          | false =>
            go_wp2_with fail
            go_ret
            exact ⟨BoolIf.f, HCHB.out.trans (HCW.out.trans K5.out)⟩
          | true =>
            have HTY := hid (HR5.out.1 rfl)
            go_wp2_with fail
            go_roundg (pn - q - 1)
            case rel =>
              refine ⟨q + 1, by omega, by omega, by go_num, hid fun y hy => ?_, HCR.out.trans K5.out⟩
              rw [List.take_add_one, HVK.out] at hy
              rcases List.mem_append.1 hy with hy | hy
              · exact HT.out y hy
              · simp at hy; subst hy; exact HTY.out
            case measure => omega
        | false =>
          have hql : ¬ q < pn := by simpa using hd
          have HALL := hid (show ∀ v ∈ x.ps, typedP cs v.ty from by
            have h1 := HT.out
            rw [List.take_of_length_le (by have := HPN.out; omega)] at h1
            exact h1)
          have hmk := rmarks (HP1.out.no HCW.out) HS.out HSM.out (i := i) (by have := HL.out; omega)
          clear HT
          go_wp2_with fail
          refine hmk.mono ?_
          rintro e w5 ⟨g5, m5, he, hb5, hg5, hmk5, hc5⟩
          rw [HL.out] at he
          subst he
          have K5 := hid (HCW.out.trans hc5)
          have HBB := hid hb5
          have HMK := hid hmk5
          have hlen20 : len ≤ 1000 := by have := HSM.out.1; have := HL.out; omega
          clear hc5 hb5 hmk5 hg5 hmk
          go_wp2_with fail
          go_loopg [10, 11] len (fun g s10 s11 wr' => ∃ j : Nat, j ≤ len ∧ len - j ≤ g ∧ s10 = .int .i64 j ∧ Hid (∀ t, t < j → Gr.Reach (upsN cs) i t → UpP cs ms x t) ∧ Ch No w5 wr')
          case atStart => exact ⟨0, Nat.zero_le _, by omega, rfl, hid (fun t ht => absurd ht (Nat.not_lt_zero t)), Ch.refl _ _⟩
          case round =>
            obtain ⟨j, hj, hgj, rfl, HU, hc6⟩ := hrel
            obtain ⟨w6, hw6⟩ : ∃ w6, w6 = wr := ⟨_, rfl⟩
            subst hw6
            have HC6 := hid hc6
            have K6 := hid (K5.out.trans hc6)
            have HB6 := hid (K6.out.keep _ _ HPBB.out (fun h => h))
            have HX6 := hid (K6.out.keep _ _ HXB.out (fun h => h))
            clear p0 p1 p2 p3 p4 p5 p6 p7 p8 p9 d0 d1 d2 d3 d4 d5 d6 d7 d8 hc6
            have p0 := cellAt HB6.out 0
            have p1 := cellAt HB6.out 1
            have p2 := cellAt HB6.out 2
            have p3 := cellAt HB6.out 3
            have p4 := cellAt HB6.out 4
            have p5 := cellAt HB6.out 5
            have p6 := cellAt HB6.out 6
            have p7 := cellAt HB6.out 7
            have p8 := cellAt HB6.out 8
            have p9 := cellAt HB6.out 9
            have d1 := cellAt HX6.out 1
            cases hdj : decide (j < len) with
            | false =>
              have hjl : ¬ j < len := by simpa using hdj
              go_wp2_with fail
              go_ret
              refine ⟨BoolIf.t ⟨HFA.out.1, HFA.out.2.1, HFA.out.2.2, HALL.out, fun t ht => HU.out t ?_ ht⟩, HCHB.out.trans K6.out⟩
              have := ht.lt (upsN_lt cs)
              have := HL.out
              omega
            | true =>
              have hjl : j < len := by simpa using hdj
              obtain ⟨bj, hbj⟩ : ∃ bj, m5[j]? = some bj := ⟨_, List.getElem?_eq_getElem (by have := HMK.out.1; have := HL.out; omega)⟩
              have u0 := (HBB.out.no HC6.out).cell hbj
              have HBJ := hid hbj
              clear hbj
              cases bj with
              | false =>
                go_wp2_with fail
                go_roundg (len - j - 1)
                case rel =>
                  refine ⟨j + 1, by omega, by omega, by go_num, hid fun t ht hr => ?_, HC6.out⟩
                  by_cases h1 : t < j
                  · exact HU.out t h1 hr
                  · obtain rfl : t = j := by omega
                    have := (HMK.out.2 t).2 hr
                    rw [HBJ.out] at this; cases this
                case measure => omega
              | true =>
                obtain ⟨cj, hcj⟩ : ∃ cj, cs[j]? = some cj := ⟨_, List.getElem?_eq_getElem (by have := HL.out; omega)⟩
                obtain ⟨mj, hmj, hmaj⟩ := (HM1.out.no K6.out).get hcj
                have hown := rown (HP1.out.no K6.out) (HM1.out.no K6.out) hcj hmj x.nm
                have HMJ := hid hmj
                have HCJ := hid hcj
                have HMAJ := hid hmaj
                clear hcj hmj hmaj
                cases hoq : mtK mj.ms x.nm with
                | none =>
                  rw [hoq, show optZ (none : Option Nat) = -1 from rfl] at hown
                  have HOQ := hid hoq
                  clear hoq
                  go_wp2_with fail
                  refine hown.mono ?_
                  rintro e w7 ⟨rfl, hc7⟩
                  have HC7 := hid (HC6.out.trans hc7)
                  clear hc7 hown
                  go_wp2_with fail
                  go_quiet (fail)
                  go_wp2_with fail
                  go_roundg (len - j - 1)
                  case rel =>
                    refine ⟨j + 1, by omega, by omega, by go_num, hid fun t ht hr => ?_, HC7.out.trans (by first | exact (Ch.refl No _).drew | exact (Ch.refl No _).drewN _ | exact Ch.refl No _)⟩
                    by_cases h1 : t < j
                    · exact HU.out t h1 hr
                    · obtain rfl : t = j := by omega
                      intro q' y' hq' hy'
                      rw [ownK_get HMJ.out, HOQ.out] at hq'; cases hq'
                  case measure => omega
                | some q1 =>
                  rw [hoq, show optZ (some q1) = (q1 : Int) from rfl] at hown
                  obtain ⟨y, hyq, -, -⟩ := mtK_some hoq
                  have HOQ := hid hoq
                  have HYQ := hid hyq
                  clear hoq hyq
                  go_wp2_with fail
                  refine hown.mono ?_
                  rintro e w7 ⟨rfl, hc7⟩
                  have HC7 := hid (HC6.out.trans hc7)
                  have K7 := hid (K6.out.trans hc7)
                  have HB7 := hid (K7.out.keep _ _ HPBB.out (fun h => h))
                  have hx7 := K7.out.keep _ _ HXB.out (fun h => h)
                  obtain ⟨b', off', cap', e', hcell', _, _⟩ := (HC1.out.no K7.out).cell HCJ.out
                  rw [HL.out] at e'
                  cases e'
                  have u6 := hcell'.q6
                  have hmts := (HMAJ.out.no hc7).ms
                  obtain ⟨a2, mn2, mc2, hs6⟩ : ∃ ma mn mc, cj.s6 = (ma, mn, mc) := ⟨_, _, _, rfl⟩
                  rw [hs6] at u6 hmts
                  obtain ⟨hmn, hmc, hmm⟩ := hmts.shape
                  unfold maxLen at hmm
                  have hmx2 : mn2 ≤ mc2 := by have h1 : mn2 = mj.ms.length := hmn; have h2 : mj.ms.length ≤ mc2 := hmc; omega
                  have hq1 : q1 < mn2 := by have h1 : mn2 = mj.ms.length := hmn; have := (List.getElem?_eq_some_iff.1 HYQ.out).1; omega
                  obtain ⟨mb2, mo2, hma2, hyc⟩ := hmts.cell HYQ.out
                  subst hma2
                  have hyc9 := hyc.all
                  obtain ⟨xs, hxs⟩ : ∃ s, x.st = s := ⟨_, rfl⟩
                  obtain ⟨ys, hys⟩ : ∃ s, y.st = s := ⟨_, rfl⟩
                  have hxs9 := mtCellsB hx7
                  have hal := ralike ((HPS.out.no K7.out).no ((Ch.refl No w7).drew)) ((hmts.ps y (List.mem_of_getElem? HYQ.out)).no ((Ch.refl No w7).drew)) hpl6 (HFP.out mj (List.mem_of_getElem? HMJ.out) y (List.mem_of_getElem? HYQ.out))
                  rw [hxs] at hxs9
                  rw [hys] at hyc9
                  rw [hxs, hys] at hal
                  have HXS' := hid hxs
                  have HYS' := hid hys
                  have HSx := hid (show w7.cell? ⟨b, off + j * 10 + 6, none⟩ = some (.slice (some ⟨mb2, mo2, none⟩) mn2 mc2) ∧ w7.cell? ⟨wa.heap.size, 0, none⟩ = some (.string x.ret) ∧ w7.cell? ⟨wa.heap.size, 1, none⟩ = some (.string x.nm) ∧ w7.cell? ⟨wa.heap.size, 2, none⟩ = some (.bool xs) ∧ w7.cell? ⟨wa.heap.size, 3, none⟩ = some (.bool x.ba) ∧ w7.cell? ⟨wa.heap.size, 4, none⟩ = some (.slice x.pa x.ps.length x.pc) ∧ w7.cell? ⟨wa.heap.size, 5, none⟩ = some (.slice x.s5.1 x.s5.2.1 x.s5.2.2) ∧ w7.cell? ⟨wa.heap.size, 6, none⟩ = some (.slice x.s6.1 x.s6.2.1 x.s6.2.2) ∧ w7.cell? ⟨wa.heap.size, 7, none⟩ = some (.int .i64 x.line) ∧ w7.cell? ⟨wa.heap.size, 8, none⟩ = some (.int .i64 x.col) ∧ w7.cell? ⟨mb2, mo2 + q1 * 9, none⟩ = some (.string y.ret) ∧ w7.cell? ⟨mb2, mo2 + q1 * 9 + 1, none⟩ = some (.string y.nm) ∧ w7.cell? ⟨mb2, mo2 + q1 * 9 + 2, none⟩ = some (.bool ys) ∧ w7.cell? ⟨mb2, mo2 + q1 * 9 + 3, none⟩ = some (.bool y.ba) ∧ w7.cell? ⟨mb2, mo2 + q1 * 9 + 4, none⟩ = some (.slice y.pa y.ps.length y.pc) ∧ w7.cell? ⟨mb2, mo2 + q1 * 9 + 5, none⟩ = some (.slice y.s5.1 y.s5.2.1 y.s5.2.2) ∧ w7.cell? ⟨mb2, mo2 + q1 * 9 + 6, none⟩ = some (.slice y.s6.1 y.s6.2.1 y.s6.2.2) ∧ w7.cell? ⟨mb2, mo2 + q1 * 9 + 7, none⟩ = some (.int .i64 y.line) ∧ w7.cell? ⟨mb2, mo2 + q1 * 9 + 8, none⟩ = some (.int .i64 y.col) ∧ w7.cell? ⟨w.heap.size, 0, none⟩ = some (.slice (some ⟨b, off, none⟩) len cap) from ⟨u6, hxs9.1, hxs9.2.1, hxs9.2.2.1, hxs9.2.2.2.1, hxs9.2.2.2.2.1, hxs9.2.2.2.2.2.1, hxs9.2.2.2.2.2.2.1, hxs9.2.2.2.2.2.2.2.1, hxs9.2.2.2.2.2.2.2.2, hyc9.1, hyc9.2.1, hyc9.2.2.1, hyc9.2.2.2.1, hyc9.2.2.2.2.1, hyc9.2.2.2.2.2.1, hyc9.2.2.2.2.2.2.1, hyc9.2.2.2.2.2.2.2.1, hyc9.2.2.2.2.2.2.2.2, cellAt HB7.out 0⟩)
                  clear p0 p1 p2 p3 p4 p5 p6 p7 p8 p9 d1 u0 u6 hc7 hown hx7 hcell' hmts hs6 hmn hmc hyc hyc9 hxs hys hxs9
                  by_cases hkd : x.kinds = y.kinds
                  · have HKD := hid hkd
                    clear hkd
                    cases xs with
                    | true =>
                      go_wp2_with fail
                      refine wp_region_held_drew (S := fun w' => w'.cell? ⟨b, off + j * 10 + 6, none⟩ = some (.slice (some ⟨mb2, mo2, none⟩) mn2 mc2) ∧ w'.cell? ⟨wa.heap.size, 0, none⟩ = some (.string x.ret) ∧ w'.cell? ⟨wa.heap.size, 1, none⟩ = some (.string x.nm) ∧ w'.cell? ⟨wa.heap.size, 2, none⟩ = some (.bool true) ∧ w'.cell? ⟨wa.heap.size, 3, none⟩ = some (.bool x.ba) ∧ w'.cell? ⟨wa.heap.size, 4, none⟩ = some (.slice x.pa x.ps.length x.pc) ∧ w'.cell? ⟨wa.heap.size, 5, none⟩ = some (.slice x.s5.1 x.s5.2.1 x.s5.2.2) ∧ w'.cell? ⟨wa.heap.size, 6, none⟩ = some (.slice x.s6.1 x.s6.2.1 x.s6.2.2) ∧ w'.cell? ⟨wa.heap.size, 7, none⟩ = some (.int .i64 x.line) ∧ w'.cell? ⟨wa.heap.size, 8, none⟩ = some (.int .i64 x.col) ∧ w'.cell? ⟨mb2, mo2 + q1 * 9, none⟩ = some (.string y.ret) ∧ w'.cell? ⟨mb2, mo2 + q1 * 9 + 1, none⟩ = some (.string y.nm) ∧ w'.cell? ⟨mb2, mo2 + q1 * 9 + 2, none⟩ = some (.bool ys) ∧ w'.cell? ⟨mb2, mo2 + q1 * 9 + 3, none⟩ = some (.bool y.ba) ∧ w'.cell? ⟨mb2, mo2 + q1 * 9 + 4, none⟩ = some (.slice y.pa y.ps.length y.pc) ∧ w'.cell? ⟨mb2, mo2 + q1 * 9 + 5, none⟩ = some (.slice y.s5.1 y.s5.2.1 y.s5.2.2) ∧ w'.cell? ⟨mb2, mo2 + q1 * 9 + 6, none⟩ = some (.slice y.s6.1 y.s6.2.1 y.s6.2.2) ∧ w'.cell? ⟨mb2, mo2 + q1 * 9 + 7, none⟩ = some (.int .i64 y.line) ∧ w'.cell? ⟨mb2, mo2 + q1 * 9 + 8, none⟩ = some (.int .i64 y.col) ∧ w'.cell? ⟨w.heap.size, 0, none⟩ = some (.slice (some ⟨b, off, none⟩) len cap)) (by kernel_rfl) HSx.out (fun hHeld => ?_)
                      (refine wpAnyH_take (i := 0) (v := ?_) rfl (by kernel_rfl) (by kernel_rfl) (by kernel_rfl) (fun _ _ _ h => h) (Or.inl ⟨by rfl, ?_⟩) (by assumption) ?_; rotate_left 1; · (intro wz hSw; (try dsimp only at hSw); go_simp; try rfl)); (try simp only [Act.put, List.getElem_toArray, List.getElem_cons_succ, List.getElem_cons_zero, List.setIfInBounds_toArray, List.set_cons_zero, List.set_cons_succ])
                      (refine wpAnyH_take (i := 1) (v := ?_) rfl (by kernel_rfl) (by kernel_rfl) (by kernel_rfl) (fun _ _ _ h => h) (Or.inl ⟨by rfl, ?_⟩) (by assumption) ?_; rotate_left 1; · (intro wz hSw; (try dsimp only at hSw); go_simp; try rfl)); (try simp only [Act.put, List.getElem_toArray, List.getElem_cons_succ, List.getElem_cons_zero, List.setIfInBounds_toArray, List.set_cons_zero, List.set_cons_succ])
                      (refine wpAnyH_take (i := 2) (v := ?_) rfl (by kernel_rfl) (by kernel_rfl) (by kernel_rfl) (fun _ _ _ h => h) (Or.inl ⟨by rfl, ?_⟩) (by assumption) ?_; rotate_left 1; · (intro wz hSw; (try dsimp only at hSw); go_simp; try rfl)); (try simp only [Act.put, List.getElem_toArray, List.getElem_cons_succ, List.getElem_cons_zero, List.setIfInBounds_toArray, List.set_cons_zero, List.set_cons_succ])
                      (refine wpAnyH_take (i := 3) (v := ?_) rfl (by kernel_rfl) (by kernel_rfl) (by kernel_rfl) (fun _ _ _ h => h) (Or.inl ⟨by rfl, ?_⟩) (by assumption) ?_; rotate_left 1; · (intro wz hSw; (try dsimp only at hSw); go_simp; try rfl)); (try simp only [Act.put, List.getElem_toArray, List.getElem_cons_succ, List.getElem_cons_zero, List.setIfInBounds_toArray, List.set_cons_zero, List.set_cons_succ])
                      (refine wpAnyH_take (i := 4) (v := ?_) rfl (by kernel_rfl) (by kernel_rfl) (by kernel_rfl) (fun _ _ _ h => h) (Or.inl ⟨by rfl, ?_⟩) (by assumption) ?_; rotate_left 1; · (intro wz hSw; (try dsimp only at hSw); go_simp; try rfl)); (try simp only [Act.put, List.getElem_toArray, List.getElem_cons_succ, List.getElem_cons_zero, List.setIfInBounds_toArray, List.set_cons_zero, List.set_cons_succ])
                      (refine wpAnyH_take (i := 5) (v := ?_) rfl (by kernel_rfl) (by kernel_rfl) (by kernel_rfl) (fun _ _ _ h => h) (Or.inl ⟨by rfl, ?_⟩) (by assumption) ?_; rotate_left 1; · (intro wz hSw; (try dsimp only at hSw); go_simp; try rfl)); (try simp only [Act.put, List.getElem_toArray, List.getElem_cons_succ, List.getElem_cons_zero, List.setIfInBounds_toArray, List.set_cons_zero, List.set_cons_succ])
                      (refine wpAnyH_take (i := 6) (v := ?_) rfl (by kernel_rfl) (by kernel_rfl) (by kernel_rfl) (fun _ _ _ h => h) (Or.inl ⟨by rfl, ?_⟩) (by assumption) ?_; rotate_left 1; · (intro wz hSw; (try dsimp only at hSw); go_simp; try rfl)); (try simp only [Act.put, List.getElem_toArray, List.getElem_cons_succ, List.getElem_cons_zero, List.setIfInBounds_toArray, List.set_cons_zero, List.set_cons_succ])
                      (refine wpAnyH_take (i := 7) (v := ?_) rfl (by kernel_rfl) (by kernel_rfl) (by kernel_rfl) (fun _ _ _ h => h) (Or.inl ⟨by rfl, ?_⟩) (by assumption) ?_; rotate_left 1; · (intro wz hSw; (try dsimp only at hSw); go_simp; try rfl)); (try simp only [Act.put, List.getElem_toArray, List.getElem_cons_succ, List.getElem_cons_zero, List.setIfInBounds_toArray, List.set_cons_zero, List.set_cons_succ])
                      (refine wpAnyH_take (i := 8) (v := ?_) rfl (by kernel_rfl) (by kernel_rfl) (by kernel_rfl) (fun _ _ _ h => h) (Or.inl ⟨by rfl, ?_⟩) (by assumption) ?_; rotate_left 1; · (intro wz hSw; (try dsimp only at hSw); go_simp; try rfl)); (try simp only [Act.put, List.getElem_toArray, List.getElem_cons_succ, List.getElem_cons_zero, List.setIfInBounds_toArray, List.set_cons_zero, List.set_cons_succ])
                      (refine wpAnyH_take (i := 9) (v := ?_) rfl (by kernel_rfl) (by kernel_rfl) (by kernel_rfl) (fun _ _ _ h => h) (Or.inl ⟨by rfl, ?_⟩) (by assumption) ?_; rotate_left 1; · (intro wz hSw; (try dsimp only at hSw); go_simp; try rfl)); (try simp only [Act.put, List.getElem_toArray, List.getElem_cons_succ, List.getElem_cons_zero, List.setIfInBounds_toArray, List.set_cons_zero, List.set_cons_succ])
                      (refine wpAnyH_take (i := 10) (v := ?_) rfl (by kernel_rfl) (by kernel_rfl) (by kernel_rfl) (fun _ _ _ h => h) (Or.inl ⟨by rfl, ?_⟩) (by assumption) ?_; rotate_left 1; · (intro wz hSw; (try dsimp only at hSw); go_simp; try rfl)); (try simp only [Act.put, List.getElem_toArray, List.getElem_cons_succ, List.getElem_cons_zero, List.setIfInBounds_toArray, List.set_cons_zero, List.set_cons_succ])
                      (refine wpAnyH_take (i := 11) (v := ?_) rfl (by kernel_rfl) (by kernel_rfl) (by kernel_rfl) (fun _ _ _ h => h) (Or.inl ⟨by rfl, ?_⟩) (by assumption) ?_; rotate_left 1; · (intro wz hSw; (try dsimp only at hSw); go_simp; try rfl)); (try simp only [Act.put, List.getElem_toArray, List.getElem_cons_succ, List.getElem_cons_zero, List.setIfInBounds_toArray, List.set_cons_zero, List.set_cons_succ])
                      (refine wpAnyH_take (i := 12) (v := ?_) rfl (by kernel_rfl) (by kernel_rfl) (by kernel_rfl) (fun _ _ _ h => h) (Or.inl ⟨by rfl, ?_⟩) (by assumption) ?_; rotate_left 1; · (intro wz hSw; (try dsimp only at hSw); go_simp; try rfl)); (try simp only [Act.put, List.getElem_toArray, List.getElem_cons_succ, List.getElem_cons_zero, List.setIfInBounds_toArray, List.set_cons_zero, List.set_cons_succ])
                      refine wpAnyH_ready (rs := [13]) (by kernel_rfl) (by simp) (AllReadyH.cons rfl (fun K hK => ?_) AllReadyH.nil)
                      go_simp
                      go_at_call 68
                      refine (hal).mono ?_
                      rintro e w8 ⟨hr8, hc8⟩
                      have K8 := hid (((Ch.refl No w7).drew).trans hc8)
                      obtain rfl := hr8.yes HKD.out
                      clear hc8
                      go_simp
                      have HS8 := hid (show w8.cell? ⟨b, off + j * 10 + 6, none⟩ = some (.slice (some ⟨mb2, mo2, none⟩) mn2 mc2) ∧ w8.cell? ⟨wa.heap.size, 0, none⟩ = some (.string x.ret) ∧ w8.cell? ⟨wa.heap.size, 1, none⟩ = some (.string x.nm) ∧ w8.cell? ⟨wa.heap.size, 2, none⟩ = some (.bool true) ∧ w8.cell? ⟨wa.heap.size, 3, none⟩ = some (.bool x.ba) ∧ w8.cell? ⟨wa.heap.size, 4, none⟩ = some (.slice x.pa x.ps.length x.pc) ∧ w8.cell? ⟨wa.heap.size, 5, none⟩ = some (.slice x.s5.1 x.s5.2.1 x.s5.2.2) ∧ w8.cell? ⟨wa.heap.size, 6, none⟩ = some (.slice x.s6.1 x.s6.2.1 x.s6.2.2) ∧ w8.cell? ⟨wa.heap.size, 7, none⟩ = some (.int .i64 x.line) ∧ w8.cell? ⟨wa.heap.size, 8, none⟩ = some (.int .i64 x.col) ∧ w8.cell? ⟨mb2, mo2 + q1 * 9, none⟩ = some (.string y.ret) ∧ w8.cell? ⟨mb2, mo2 + q1 * 9 + 1, none⟩ = some (.string y.nm) ∧ w8.cell? ⟨mb2, mo2 + q1 * 9 + 2, none⟩ = some (.bool ys) ∧ w8.cell? ⟨mb2, mo2 + q1 * 9 + 3, none⟩ = some (.bool y.ba) ∧ w8.cell? ⟨mb2, mo2 + q1 * 9 + 4, none⟩ = some (.slice y.pa y.ps.length y.pc) ∧ w8.cell? ⟨mb2, mo2 + q1 * 9 + 5, none⟩ = some (.slice y.s5.1 y.s5.2.1 y.s5.2.2) ∧ w8.cell? ⟨mb2, mo2 + q1 * 9 + 6, none⟩ = some (.slice y.s6.1 y.s6.2.1 y.s6.2.2) ∧ w8.cell? ⟨mb2, mo2 + q1 * 9 + 7, none⟩ = some (.int .i64 y.line) ∧ w8.cell? ⟨mb2, mo2 + q1 * 9 + 8, none⟩ = some (.int .i64 y.col) ∧ w8.cell? ⟨w.heap.size, 0, none⟩ = some (.slice (some ⟨b, off, none⟩) len cap) from ⟨cell_ch HSx.out.1 K8.out (fun _ _ h => h), cell_ch HSx.out.2.1 K8.out (fun _ _ h => h), cell_ch HSx.out.2.2.1 K8.out (fun _ _ h => h), cell_ch HSx.out.2.2.2.1 K8.out (fun _ _ h => h), cell_ch HSx.out.2.2.2.2.1 K8.out (fun _ _ h => h), cell_ch HSx.out.2.2.2.2.2.1 K8.out (fun _ _ h => h), cell_ch HSx.out.2.2.2.2.2.2.1 K8.out (fun _ _ h => h), cell_ch HSx.out.2.2.2.2.2.2.2.1 K8.out (fun _ _ h => h), cell_ch HSx.out.2.2.2.2.2.2.2.2.1 K8.out (fun _ _ h => h), cell_ch HSx.out.2.2.2.2.2.2.2.2.2.1 K8.out (fun _ _ h => h), cell_ch HSx.out.2.2.2.2.2.2.2.2.2.2.1 K8.out (fun _ _ h => h), cell_ch HSx.out.2.2.2.2.2.2.2.2.2.2.2.1 K8.out (fun _ _ h => h), cell_ch HSx.out.2.2.2.2.2.2.2.2.2.2.2.2.1 K8.out (fun _ _ h => h), cell_ch HSx.out.2.2.2.2.2.2.2.2.2.2.2.2.2.1 K8.out (fun _ _ h => h), cell_ch HSx.out.2.2.2.2.2.2.2.2.2.2.2.2.2.2.1 K8.out (fun _ _ h => h), cell_ch HSx.out.2.2.2.2.2.2.2.2.2.2.2.2.2.2.2.1 K8.out (fun _ _ h => h), cell_ch HSx.out.2.2.2.2.2.2.2.2.2.2.2.2.2.2.2.2.1 K8.out (fun _ _ h => h), cell_ch HSx.out.2.2.2.2.2.2.2.2.2.2.2.2.2.2.2.2.2.1 K8.out (fun _ _ h => h), cell_ch HSx.out.2.2.2.2.2.2.2.2.2.2.2.2.2.2.2.2.2.2.1 K8.out (fun _ _ h => h), cell_ch HSx.out.2.2.2.2.2.2.2.2.2.2.2.2.2.2.2.2.2.2.2 K8.out (fun _ _ h => h)⟩)
                      refine hK.out _ _ HS8.out (fun hHeld8 => ?_)
                      clear hK
                      (refine wpAnyH_take (i := 14) (v := ?_) rfl (by kernel_rfl) (by kernel_rfl) (by kernel_rfl) (fun _ _ _ h => h) (Or.inl ⟨by rfl, ?_⟩) (by assumption) ?_; rotate_left 1; · (intro wz hSw; (try dsimp only at hSw); go_simp; try rfl)); (try simp only [Act.put, List.getElem_toArray, List.getElem_cons_succ, List.getElem_cons_zero, List.setIfInBounds_toArray, List.set_cons_zero, List.set_cons_succ])
                      (refine wpAnyH_take (i := 15) (v := ?_) rfl (by kernel_rfl) (by kernel_rfl) (by kernel_rfl) (fun _ _ _ h => h) (Or.inl ⟨by rfl, ?_⟩) (by assumption) ?_; rotate_left 1; · (intro wz hSw; (try dsimp only at hSw); go_simp; try rfl)); (try simp only [Act.put, List.getElem_toArray, List.getElem_cons_succ, List.getElem_cons_zero, List.setIfInBounds_toArray, List.set_cons_zero, List.set_cons_succ])
                      (refine wpAnyH_take (i := 16) (v := ?_) rfl (by kernel_rfl) (by kernel_rfl) (by kernel_rfl) (fun _ _ _ h => h) (Or.inl ⟨by rfl, ?_⟩) (by assumption) ?_; rotate_left 1; · (intro wz hSw; (try dsimp only at hSw); go_simp; try rfl)); (try simp only [Act.put, List.getElem_toArray, List.getElem_cons_succ, List.getElem_cons_zero, List.setIfInBounds_toArray, List.set_cons_zero, List.set_cons_succ])
                      (refine wpAnyH_take (i := 17) (v := ?_) rfl (by kernel_rfl) (by kernel_rfl) (by kernel_rfl) (fun _ _ _ h => h) (Or.inl ⟨by rfl, ?_⟩) (by assumption) ?_; rotate_left 1; · (intro wz hSw; (try dsimp only at hSw); go_simp; try rfl)); (try simp only [Act.put, List.getElem_toArray, List.getElem_cons_succ, List.getElem_cons_zero, List.setIfInBounds_toArray, List.set_cons_zero, List.set_cons_succ])
                      (refine wpAnyH_take (i := 18) (v := ?_) rfl (by kernel_rfl) (by kernel_rfl) (by kernel_rfl) (fun _ _ _ h => h) (Or.inl ⟨by rfl, ?_⟩) (by assumption) ?_; rotate_left 1; · (intro wz hSw; (try dsimp only at hSw); go_simp; try rfl)); (try simp only [Act.put, List.getElem_toArray, List.getElem_cons_succ, List.getElem_cons_zero, List.setIfInBounds_toArray, List.set_cons_zero, List.set_cons_succ])
                      (refine wpAnyH_take (i := 19) (v := ?_) rfl (by kernel_rfl) (by kernel_rfl) (by kernel_rfl) (fun _ _ _ h => h) (Or.inl ⟨by rfl, ?_⟩) (by assumption) ?_; rotate_left 1; · (intro wz hSw; (try dsimp only at hSw); go_simp; try rfl)); (try simp only [Act.put, List.getElem_toArray, List.getElem_cons_succ, List.getElem_cons_zero, List.setIfInBounds_toArray, List.set_cons_zero, List.set_cons_succ])
                      (refine wpAnyH_take (i := 20) (v := undef) rfl (by kernel_rfl) (by kernel_rfl) (by kernel_rfl) (fun _ _ _ h => h) (Or.inr ⟨by rfl, rfl⟩) (by assumption) ?_); (try simp only [Act.put, List.getElem_toArray, List.getElem_cons_succ, List.getElem_cons_zero, List.setIfInBounds_toArray, List.set_cons_zero, List.set_cons_succ])
                      (refine wpAnyH_take (i := 21) (v := undef) rfl (by kernel_rfl) (by kernel_rfl) (by kernel_rfl) (fun _ _ _ h => h) (Or.inr ⟨by rfl, rfl⟩) (by assumption) ?_); (try simp only [Act.put, List.getElem_toArray, List.getElem_cons_succ, List.getElem_cons_zero, List.setIfInBounds_toArray, List.set_cons_zero, List.set_cons_succ])
                      (refine wpAnyH_take (i := 22) (v := undef) rfl (by kernel_rfl) (by kernel_rfl) (by kernel_rfl) (fun _ _ _ h => h) (Or.inr ⟨by rfl, rfl⟩) (by assumption) ?_); (try simp only [Act.put, List.getElem_toArray, List.getElem_cons_succ, List.getElem_cons_zero, List.setIfInBounds_toArray, List.set_cons_zero, List.set_cons_succ])
                      (refine wpAnyH_take (i := 23) (v := undef) rfl (by kernel_rfl) (by kernel_rfl) (by kernel_rfl) (fun _ _ _ h => h) (Or.inr ⟨by rfl, rfl⟩) (by assumption) ?_); (try simp only [Act.put, List.getElem_toArray, List.getElem_cons_succ, List.getElem_cons_zero, List.setIfInBounds_toArray, List.set_cons_zero, List.set_cons_succ])
                      (refine wpAnyH_take (i := 24) (v := undef) rfl (by kernel_rfl) (by kernel_rfl) (by kernel_rfl) (fun _ _ _ h => h) (Or.inr ⟨by rfl, rfl⟩) (by assumption) ?_); (try simp only [Act.put, List.getElem_toArray, List.getElem_cons_succ, List.getElem_cons_zero, List.setIfInBounds_toArray, List.set_cons_zero, List.set_cons_succ])
                      (refine wpAnyH_take (i := 25) (v := undef) rfl (by kernel_rfl) (by kernel_rfl) (by kernel_rfl) (fun _ _ _ h => h) (Or.inr ⟨by rfl, rfl⟩) (by assumption) ?_); (try simp only [Act.put, List.getElem_toArray, List.getElem_cons_succ, List.getElem_cons_zero, List.setIfInBounds_toArray, List.set_cons_zero, List.set_cons_succ])
                      (refine wpAnyH_take (i := 26) (v := undef) rfl (by kernel_rfl) (by kernel_rfl) (by kernel_rfl) (fun _ _ _ h => h) (Or.inr ⟨by rfl, rfl⟩) (by assumption) ?_); (try simp only [Act.put, List.getElem_toArray, List.getElem_cons_succ, List.getElem_cons_zero, List.setIfInBounds_toArray, List.set_cons_zero, List.set_cons_succ])
                      (refine wpAnyH_take (i := 27) (v := undef) rfl (by kernel_rfl) (by kernel_rfl) (by kernel_rfl) (fun _ _ _ h => h) (Or.inr ⟨by rfl, rfl⟩) (by assumption) ?_); (try simp only [Act.put, List.getElem_toArray, List.getElem_cons_succ, List.getElem_cons_zero, List.setIfInBounds_toArray, List.set_cons_zero, List.set_cons_succ])
                      (refine wpAnyH_take (i := 28) (v := undef) rfl (by kernel_rfl) (by kernel_rfl) (by kernel_rfl) (fun _ _ _ h => h) (Or.inr ⟨by rfl, rfl⟩) (by assumption) ?_); (try simp only [Act.put, List.getElem_toArray, List.getElem_cons_succ, List.getElem_cons_zero, List.setIfInBounds_toArray, List.set_cons_zero, List.set_cons_succ])
                      (refine wpAnyH_take (i := 29) (v := undef) rfl (by kernel_rfl) (by kernel_rfl) (by kernel_rfl) (fun _ _ _ h => h) (Or.inr ⟨by rfl, rfl⟩) (by assumption) ?_); (try simp only [Act.put, List.getElem_toArray, List.getElem_cons_succ, List.getElem_cons_zero, List.setIfInBounds_toArray, List.set_cons_zero, List.set_cons_succ])
                      (refine wpAnyH_take (i := 30) (v := ?_) rfl (by kernel_rfl) (by kernel_rfl) (by kernel_rfl) (fun _ _ _ h => h) (Or.inl ⟨by rfl, ?_⟩) (by assumption) ?_; rotate_left 1; · (intro wz hSw; (try dsimp only at hSw); go_simp; try rfl)); (try simp only [Act.put, List.getElem_toArray, List.getElem_cons_succ, List.getElem_cons_zero, List.setIfInBounds_toArray, List.set_cons_zero, List.set_cons_succ])
                      (refine wpAnyH_take (i := 31) (v := ?_) rfl (by kernel_rfl) (by kernel_rfl) (by kernel_rfl) (fun _ _ _ h => h) (Or.inl ⟨by rfl, ?_⟩) (by assumption) ?_; rotate_left 1; · (intro wz hSw; (try dsimp only at hSw); go_simp; try rfl)); (try simp only [Act.put, List.getElem_toArray, List.getElem_cons_succ, List.getElem_cons_zero, List.setIfInBounds_toArray, List.set_cons_zero, List.set_cons_succ])
                      refine wpAnyH_done (by kernel_rfl) ?_ _
                      go_wp2_with fail
                      go_ret
                      exact ⟨BoolIf.f, HCHB.out.trans (K7.out.trans K8.out)⟩
                    | false =>
                      cases ys with
                      | true =>
                        go_wp2_with fail
                        refine wp_region_held_drew (S := fun w' => w'.cell? ⟨b, off + j * 10 + 6, none⟩ = some (.slice (some ⟨mb2, mo2, none⟩) mn2 mc2) ∧ w'.cell? ⟨wa.heap.size, 0, none⟩ = some (.string x.ret) ∧ w'.cell? ⟨wa.heap.size, 1, none⟩ = some (.string x.nm) ∧ w'.cell? ⟨wa.heap.size, 2, none⟩ = some (.bool false) ∧ w'.cell? ⟨wa.heap.size, 3, none⟩ = some (.bool x.ba) ∧ w'.cell? ⟨wa.heap.size, 4, none⟩ = some (.slice x.pa x.ps.length x.pc) ∧ w'.cell? ⟨wa.heap.size, 5, none⟩ = some (.slice x.s5.1 x.s5.2.1 x.s5.2.2) ∧ w'.cell? ⟨wa.heap.size, 6, none⟩ = some (.slice x.s6.1 x.s6.2.1 x.s6.2.2) ∧ w'.cell? ⟨wa.heap.size, 7, none⟩ = some (.int .i64 x.line) ∧ w'.cell? ⟨wa.heap.size, 8, none⟩ = some (.int .i64 x.col) ∧ w'.cell? ⟨mb2, mo2 + q1 * 9, none⟩ = some (.string y.ret) ∧ w'.cell? ⟨mb2, mo2 + q1 * 9 + 1, none⟩ = some (.string y.nm) ∧ w'.cell? ⟨mb2, mo2 + q1 * 9 + 2, none⟩ = some (.bool true) ∧ w'.cell? ⟨mb2, mo2 + q1 * 9 + 3, none⟩ = some (.bool y.ba) ∧ w'.cell? ⟨mb2, mo2 + q1 * 9 + 4, none⟩ = some (.slice y.pa y.ps.length y.pc) ∧ w'.cell? ⟨mb2, mo2 + q1 * 9 + 5, none⟩ = some (.slice y.s5.1 y.s5.2.1 y.s5.2.2) ∧ w'.cell? ⟨mb2, mo2 + q1 * 9 + 6, none⟩ = some (.slice y.s6.1 y.s6.2.1 y.s6.2.2) ∧ w'.cell? ⟨mb2, mo2 + q1 * 9 + 7, none⟩ = some (.int .i64 y.line) ∧ w'.cell? ⟨mb2, mo2 + q1 * 9 + 8, none⟩ = some (.int .i64 y.col) ∧ w'.cell? ⟨w.heap.size, 0, none⟩ = some (.slice (some ⟨b, off, none⟩) len cap)) (by kernel_rfl) HSx.out (fun hHeld => ?_)
                        (refine wpAnyH_take (i := 0) (v := ?_) rfl (by kernel_rfl) (by kernel_rfl) (by kernel_rfl) (fun _ _ _ h => h) (Or.inl ⟨by rfl, ?_⟩) (by assumption) ?_; rotate_left 1; · (intro wz hSw; (try dsimp only at hSw); go_simp; try rfl)); (try simp only [Act.put, List.getElem_toArray, List.getElem_cons_succ, List.getElem_cons_zero, List.setIfInBounds_toArray, List.set_cons_zero, List.set_cons_succ])
                        (refine wpAnyH_take (i := 1) (v := ?_) rfl (by kernel_rfl) (by kernel_rfl) (by kernel_rfl) (fun _ _ _ h => h) (Or.inl ⟨by rfl, ?_⟩) (by assumption) ?_; rotate_left 1; · (intro wz hSw; (try dsimp only at hSw); go_simp; try rfl)); (try simp only [Act.put, List.getElem_toArray, List.getElem_cons_succ, List.getElem_cons_zero, List.setIfInBounds_toArray, List.set_cons_zero, List.set_cons_succ])
                        (refine wpAnyH_take (i := 2) (v := ?_) rfl (by kernel_rfl) (by kernel_rfl) (by kernel_rfl) (fun _ _ _ h => h) (Or.inl ⟨by rfl, ?_⟩) (by assumption) ?_; rotate_left 1; · (intro wz hSw; (try dsimp only at hSw); go_simp; try rfl)); (try simp only [Act.put, List.getElem_toArray, List.getElem_cons_succ, List.getElem_cons_zero, List.setIfInBounds_toArray, List.set_cons_zero, List.set_cons_succ])
                        (refine wpAnyH_take (i := 3) (v := ?_) rfl (by kernel_rfl) (by kernel_rfl) (by kernel_rfl) (fun _ _ _ h => h) (Or.inl ⟨by rfl, ?_⟩) (by assumption) ?_; rotate_left 1; · (intro wz hSw; (try dsimp only at hSw); go_simp; try rfl)); (try simp only [Act.put, List.getElem_toArray, List.getElem_cons_succ, List.getElem_cons_zero, List.setIfInBounds_toArray, List.set_cons_zero, List.set_cons_succ])
                        (refine wpAnyH_take (i := 4) (v := ?_) rfl (by kernel_rfl) (by kernel_rfl) (by kernel_rfl) (fun _ _ _ h => h) (Or.inl ⟨by rfl, ?_⟩) (by assumption) ?_; rotate_left 1; · (intro wz hSw; (try dsimp only at hSw); go_simp; try rfl)); (try simp only [Act.put, List.getElem_toArray, List.getElem_cons_succ, List.getElem_cons_zero, List.setIfInBounds_toArray, List.set_cons_zero, List.set_cons_succ])
                        (refine wpAnyH_take (i := 5) (v := ?_) rfl (by kernel_rfl) (by kernel_rfl) (by kernel_rfl) (fun _ _ _ h => h) (Or.inl ⟨by rfl, ?_⟩) (by assumption) ?_; rotate_left 1; · (intro wz hSw; (try dsimp only at hSw); go_simp; try rfl)); (try simp only [Act.put, List.getElem_toArray, List.getElem_cons_succ, List.getElem_cons_zero, List.setIfInBounds_toArray, List.set_cons_zero, List.set_cons_succ])
                        (refine wpAnyH_take (i := 6) (v := ?_) rfl (by kernel_rfl) (by kernel_rfl) (by kernel_rfl) (fun _ _ _ h => h) (Or.inl ⟨by rfl, ?_⟩) (by assumption) ?_; rotate_left 1; · (intro wz hSw; (try dsimp only at hSw); go_simp; try rfl)); (try simp only [Act.put, List.getElem_toArray, List.getElem_cons_succ, List.getElem_cons_zero, List.setIfInBounds_toArray, List.set_cons_zero, List.set_cons_succ])
                        (refine wpAnyH_take (i := 7) (v := ?_) rfl (by kernel_rfl) (by kernel_rfl) (by kernel_rfl) (fun _ _ _ h => h) (Or.inl ⟨by rfl, ?_⟩) (by assumption) ?_; rotate_left 1; · (intro wz hSw; (try dsimp only at hSw); go_simp; try rfl)); (try simp only [Act.put, List.getElem_toArray, List.getElem_cons_succ, List.getElem_cons_zero, List.setIfInBounds_toArray, List.set_cons_zero, List.set_cons_succ])
                        (refine wpAnyH_take (i := 8) (v := ?_) rfl (by kernel_rfl) (by kernel_rfl) (by kernel_rfl) (fun _ _ _ h => h) (Or.inl ⟨by rfl, ?_⟩) (by assumption) ?_; rotate_left 1; · (intro wz hSw; (try dsimp only at hSw); go_simp; try rfl)); (try simp only [Act.put, List.getElem_toArray, List.getElem_cons_succ, List.getElem_cons_zero, List.setIfInBounds_toArray, List.set_cons_zero, List.set_cons_succ])
                        (refine wpAnyH_take (i := 9) (v := ?_) rfl (by kernel_rfl) (by kernel_rfl) (by kernel_rfl) (fun _ _ _ h => h) (Or.inl ⟨by rfl, ?_⟩) (by assumption) ?_; rotate_left 1; · (intro wz hSw; (try dsimp only at hSw); go_simp; try rfl)); (try simp only [Act.put, List.getElem_toArray, List.getElem_cons_succ, List.getElem_cons_zero, List.setIfInBounds_toArray, List.set_cons_zero, List.set_cons_succ])
                        (refine wpAnyH_take (i := 10) (v := ?_) rfl (by kernel_rfl) (by kernel_rfl) (by kernel_rfl) (fun _ _ _ h => h) (Or.inl ⟨by rfl, ?_⟩) (by assumption) ?_; rotate_left 1; · (intro wz hSw; (try dsimp only at hSw); go_simp; try rfl)); (try simp only [Act.put, List.getElem_toArray, List.getElem_cons_succ, List.getElem_cons_zero, List.setIfInBounds_toArray, List.set_cons_zero, List.set_cons_succ])
                        (refine wpAnyH_take (i := 11) (v := ?_) rfl (by kernel_rfl) (by kernel_rfl) (by kernel_rfl) (fun _ _ _ h => h) (Or.inl ⟨by rfl, ?_⟩) (by assumption) ?_; rotate_left 1; · (intro wz hSw; (try dsimp only at hSw); go_simp; try rfl)); (try simp only [Act.put, List.getElem_toArray, List.getElem_cons_succ, List.getElem_cons_zero, List.setIfInBounds_toArray, List.set_cons_zero, List.set_cons_succ])
                        (refine wpAnyH_take (i := 12) (v := ?_) rfl (by kernel_rfl) (by kernel_rfl) (by kernel_rfl) (fun _ _ _ h => h) (Or.inl ⟨by rfl, ?_⟩) (by assumption) ?_; rotate_left 1; · (intro wz hSw; (try dsimp only at hSw); go_simp; try rfl)); (try simp only [Act.put, List.getElem_toArray, List.getElem_cons_succ, List.getElem_cons_zero, List.setIfInBounds_toArray, List.set_cons_zero, List.set_cons_succ])
                        refine wpAnyH_ready (rs := [13]) (by kernel_rfl) (by simp) (AllReadyH.cons rfl (fun K hK => ?_) AllReadyH.nil)
                        go_simp
                        go_at_call 68
                        refine (hal).mono ?_
                        rintro e w8 ⟨hr8, hc8⟩
                        have K8 := hid (((Ch.refl No w7).drew).trans hc8)
                        obtain rfl := hr8.yes HKD.out
                        clear hc8
                        go_simp
                        have HS8 := hid (show w8.cell? ⟨b, off + j * 10 + 6, none⟩ = some (.slice (some ⟨mb2, mo2, none⟩) mn2 mc2) ∧ w8.cell? ⟨wa.heap.size, 0, none⟩ = some (.string x.ret) ∧ w8.cell? ⟨wa.heap.size, 1, none⟩ = some (.string x.nm) ∧ w8.cell? ⟨wa.heap.size, 2, none⟩ = some (.bool false) ∧ w8.cell? ⟨wa.heap.size, 3, none⟩ = some (.bool x.ba) ∧ w8.cell? ⟨wa.heap.size, 4, none⟩ = some (.slice x.pa x.ps.length x.pc) ∧ w8.cell? ⟨wa.heap.size, 5, none⟩ = some (.slice x.s5.1 x.s5.2.1 x.s5.2.2) ∧ w8.cell? ⟨wa.heap.size, 6, none⟩ = some (.slice x.s6.1 x.s6.2.1 x.s6.2.2) ∧ w8.cell? ⟨wa.heap.size, 7, none⟩ = some (.int .i64 x.line) ∧ w8.cell? ⟨wa.heap.size, 8, none⟩ = some (.int .i64 x.col) ∧ w8.cell? ⟨mb2, mo2 + q1 * 9, none⟩ = some (.string y.ret) ∧ w8.cell? ⟨mb2, mo2 + q1 * 9 + 1, none⟩ = some (.string y.nm) ∧ w8.cell? ⟨mb2, mo2 + q1 * 9 + 2, none⟩ = some (.bool true) ∧ w8.cell? ⟨mb2, mo2 + q1 * 9 + 3, none⟩ = some (.bool y.ba) ∧ w8.cell? ⟨mb2, mo2 + q1 * 9 + 4, none⟩ = some (.slice y.pa y.ps.length y.pc) ∧ w8.cell? ⟨mb2, mo2 + q1 * 9 + 5, none⟩ = some (.slice y.s5.1 y.s5.2.1 y.s5.2.2) ∧ w8.cell? ⟨mb2, mo2 + q1 * 9 + 6, none⟩ = some (.slice y.s6.1 y.s6.2.1 y.s6.2.2) ∧ w8.cell? ⟨mb2, mo2 + q1 * 9 + 7, none⟩ = some (.int .i64 y.line) ∧ w8.cell? ⟨mb2, mo2 + q1 * 9 + 8, none⟩ = some (.int .i64 y.col) ∧ w8.cell? ⟨w.heap.size, 0, none⟩ = some (.slice (some ⟨b, off, none⟩) len cap) from ⟨cell_ch HSx.out.1 K8.out (fun _ _ h => h), cell_ch HSx.out.2.1 K8.out (fun _ _ h => h), cell_ch HSx.out.2.2.1 K8.out (fun _ _ h => h), cell_ch HSx.out.2.2.2.1 K8.out (fun _ _ h => h), cell_ch HSx.out.2.2.2.2.1 K8.out (fun _ _ h => h), cell_ch HSx.out.2.2.2.2.2.1 K8.out (fun _ _ h => h), cell_ch HSx.out.2.2.2.2.2.2.1 K8.out (fun _ _ h => h), cell_ch HSx.out.2.2.2.2.2.2.2.1 K8.out (fun _ _ h => h), cell_ch HSx.out.2.2.2.2.2.2.2.2.1 K8.out (fun _ _ h => h), cell_ch HSx.out.2.2.2.2.2.2.2.2.2.1 K8.out (fun _ _ h => h), cell_ch HSx.out.2.2.2.2.2.2.2.2.2.2.1 K8.out (fun _ _ h => h), cell_ch HSx.out.2.2.2.2.2.2.2.2.2.2.2.1 K8.out (fun _ _ h => h), cell_ch HSx.out.2.2.2.2.2.2.2.2.2.2.2.2.1 K8.out (fun _ _ h => h), cell_ch HSx.out.2.2.2.2.2.2.2.2.2.2.2.2.2.1 K8.out (fun _ _ h => h), cell_ch HSx.out.2.2.2.2.2.2.2.2.2.2.2.2.2.2.1 K8.out (fun _ _ h => h), cell_ch HSx.out.2.2.2.2.2.2.2.2.2.2.2.2.2.2.2.1 K8.out (fun _ _ h => h), cell_ch HSx.out.2.2.2.2.2.2.2.2.2.2.2.2.2.2.2.2.1 K8.out (fun _ _ h => h), cell_ch HSx.out.2.2.2.2.2.2.2.2.2.2.2.2.2.2.2.2.2.1 K8.out (fun _ _ h => h), cell_ch HSx.out.2.2.2.2.2.2.2.2.2.2.2.2.2.2.2.2.2.2.1 K8.out (fun _ _ h => h), cell_ch HSx.out.2.2.2.2.2.2.2.2.2.2.2.2.2.2.2.2.2.2.2 K8.out (fun _ _ h => h)⟩)
                        refine hK.out _ _ HS8.out (fun hHeld8 => ?_)
                        clear hK
                        (refine wpAnyH_take (i := 14) (v := ?_) rfl (by kernel_rfl) (by kernel_rfl) (by kernel_rfl) (fun _ _ _ h => h) (Or.inl ⟨by rfl, ?_⟩) (by assumption) ?_; rotate_left 1; · (intro wz hSw; (try dsimp only at hSw); go_simp; try rfl)); (try simp only [Act.put, List.getElem_toArray, List.getElem_cons_succ, List.getElem_cons_zero, List.setIfInBounds_toArray, List.set_cons_zero, List.set_cons_succ])
                        (refine wpAnyH_take (i := 15) (v := ?_) rfl (by kernel_rfl) (by kernel_rfl) (by kernel_rfl) (fun _ _ _ h => h) (Or.inl ⟨by rfl, ?_⟩) (by assumption) ?_; rotate_left 1; · (intro wz hSw; (try dsimp only at hSw); go_simp; try rfl)); (try simp only [Act.put, List.getElem_toArray, List.getElem_cons_succ, List.getElem_cons_zero, List.setIfInBounds_toArray, List.set_cons_zero, List.set_cons_succ])
                        (refine wpAnyH_take (i := 16) (v := ?_) rfl (by kernel_rfl) (by kernel_rfl) (by kernel_rfl) (fun _ _ _ h => h) (Or.inl ⟨by rfl, ?_⟩) (by assumption) ?_; rotate_left 1; · (intro wz hSw; (try dsimp only at hSw); go_simp; try rfl)); (try simp only [Act.put, List.getElem_toArray, List.getElem_cons_succ, List.getElem_cons_zero, List.setIfInBounds_toArray, List.set_cons_zero, List.set_cons_succ])
                        (refine wpAnyH_take (i := 17) (v := ?_) rfl (by kernel_rfl) (by kernel_rfl) (by kernel_rfl) (fun _ _ _ h => h) (Or.inl ⟨by rfl, ?_⟩) (by assumption) ?_; rotate_left 1; · (intro wz hSw; (try dsimp only at hSw); go_simp; try rfl)); (try simp only [Act.put, List.getElem_toArray, List.getElem_cons_succ, List.getElem_cons_zero, List.setIfInBounds_toArray, List.set_cons_zero, List.set_cons_succ])
                        (refine wpAnyH_take (i := 18) (v := ?_) rfl (by kernel_rfl) (by kernel_rfl) (by kernel_rfl) (fun _ _ _ h => h) (Or.inl ⟨by rfl, ?_⟩) (by assumption) ?_; rotate_left 1; · (intro wz hSw; (try dsimp only at hSw); go_simp; try rfl)); (try simp only [Act.put, List.getElem_toArray, List.getElem_cons_succ, List.getElem_cons_zero, List.setIfInBounds_toArray, List.set_cons_zero, List.set_cons_succ])
                        (refine wpAnyH_take (i := 19) (v := ?_) rfl (by kernel_rfl) (by kernel_rfl) (by kernel_rfl) (fun _ _ _ h => h) (Or.inl ⟨by rfl, ?_⟩) (by assumption) ?_; rotate_left 1; · (intro wz hSw; (try dsimp only at hSw); go_simp; try rfl)); (try simp only [Act.put, List.getElem_toArray, List.getElem_cons_succ, List.getElem_cons_zero, List.setIfInBounds_toArray, List.set_cons_zero, List.set_cons_succ])
                        (refine wpAnyH_take (i := 20) (v := ?_) rfl (by kernel_rfl) (by kernel_rfl) (by kernel_rfl) (fun _ _ _ h => h) (Or.inl ⟨by rfl, ?_⟩) (by assumption) ?_; rotate_left 1; · (intro wz hSw; (try dsimp only at hSw); go_simp; try rfl)); (try simp only [Act.put, List.getElem_toArray, List.getElem_cons_succ, List.getElem_cons_zero, List.setIfInBounds_toArray, List.set_cons_zero, List.set_cons_succ])
                        (refine wpAnyH_take (i := 21) (v := ?_) rfl (by kernel_rfl) (by kernel_rfl) (by kernel_rfl) (fun _ _ _ h => h) (Or.inl ⟨by rfl, ?_⟩) (by assumption) ?_; rotate_left 1; · (intro wz hSw; (try dsimp only at hSw); go_simp; try rfl)); (try simp only [Act.put, List.getElem_toArray, List.getElem_cons_succ, List.getElem_cons_zero, List.setIfInBounds_toArray, List.set_cons_zero, List.set_cons_succ])
                        (refine wpAnyH_take (i := 22) (v := ?_) rfl (by kernel_rfl) (by kernel_rfl) (by kernel_rfl) (fun _ _ _ h => h) (Or.inl ⟨by rfl, ?_⟩) (by assumption) ?_; rotate_left 1; · (intro wz hSw; (try dsimp only at hSw); go_simp; try rfl)); (try simp only [Act.put, List.getElem_toArray, List.getElem_cons_succ, List.getElem_cons_zero, List.setIfInBounds_toArray, List.set_cons_zero, List.set_cons_succ])
                        (refine wpAnyH_take (i := 23) (v := ?_) rfl (by kernel_rfl) (by kernel_rfl) (by kernel_rfl) (fun _ _ _ h => h) (Or.inl ⟨by rfl, ?_⟩) (by assumption) ?_; rotate_left 1; · (intro wz hSw; (try dsimp only at hSw); go_simp; try rfl)); (try simp only [Act.put, List.getElem_toArray, List.getElem_cons_succ, List.getElem_cons_zero, List.setIfInBounds_toArray, List.set_cons_zero, List.set_cons_succ])
                        (refine wpAnyH_take (i := 24) (v := ?_) rfl (by kernel_rfl) (by kernel_rfl) (by kernel_rfl) (fun _ _ _ h => h) (Or.inl ⟨by rfl, ?_⟩) (by assumption) ?_; rotate_left 1; · (intro wz hSw; (try dsimp only at hSw); go_simp; try rfl)); (try simp only [Act.put, List.getElem_toArray, List.getElem_cons_succ, List.getElem_cons_zero, List.setIfInBounds_toArray, List.set_cons_zero, List.set_cons_succ])
                        (refine wpAnyH_take (i := 25) (v := ?_) rfl (by kernel_rfl) (by kernel_rfl) (by kernel_rfl) (fun _ _ _ h => h) (Or.inl ⟨by rfl, ?_⟩) (by assumption) ?_; rotate_left 1; · (intro wz hSw; (try dsimp only at hSw); go_simp; try rfl)); (try simp only [Act.put, List.getElem_toArray, List.getElem_cons_succ, List.getElem_cons_zero, List.setIfInBounds_toArray, List.set_cons_zero, List.set_cons_succ])
                        (refine wpAnyH_take (i := 26) (v := ?_) rfl (by kernel_rfl) (by kernel_rfl) (by kernel_rfl) (fun _ _ _ h => h) (Or.inl ⟨by rfl, ?_⟩) (by assumption) ?_; rotate_left 1; · (intro wz hSw; (try dsimp only at hSw); go_simp; try rfl)); (try simp only [Act.put, List.getElem_toArray, List.getElem_cons_succ, List.getElem_cons_zero, List.setIfInBounds_toArray, List.set_cons_zero, List.set_cons_succ])
                        (refine wpAnyH_take (i := 27) (v := ?_) rfl (by kernel_rfl) (by kernel_rfl) (by kernel_rfl) (fun _ _ _ h => h) (Or.inl ⟨by rfl, ?_⟩) (by assumption) ?_; rotate_left 1; · (intro wz hSw; (try dsimp only at hSw); go_simp; try rfl)); (try simp only [Act.put, List.getElem_toArray, List.getElem_cons_succ, List.getElem_cons_zero, List.setIfInBounds_toArray, List.set_cons_zero, List.set_cons_succ])
                        (refine wpAnyH_take (i := 28) (v := ?_) rfl (by kernel_rfl) (by kernel_rfl) (by kernel_rfl) (fun _ _ _ h => h) (Or.inl ⟨by rfl, ?_⟩) (by assumption) ?_; rotate_left 1; · (intro wz hSw; (try dsimp only at hSw); go_simp; try rfl)); (try simp only [Act.put, List.getElem_toArray, List.getElem_cons_succ, List.getElem_cons_zero, List.setIfInBounds_toArray, List.set_cons_zero, List.set_cons_succ])
                        (refine wpAnyH_take (i := 29) (v := ?_) rfl (by kernel_rfl) (by kernel_rfl) (by kernel_rfl) (fun _ _ _ h => h) (Or.inl ⟨by rfl, ?_⟩) (by assumption) ?_; rotate_left 1; · (intro wz hSw; (try dsimp only at hSw); go_simp; try rfl)); (try simp only [Act.put, List.getElem_toArray, List.getElem_cons_succ, List.getElem_cons_zero, List.setIfInBounds_toArray, List.set_cons_zero, List.set_cons_succ])
                        (refine wpAnyH_take (i := 30) (v := ?_) rfl (by kernel_rfl) (by kernel_rfl) (by kernel_rfl) (fun _ _ _ h => h) (Or.inl ⟨by rfl, ?_⟩) (by assumption) ?_; rotate_left 1; · (intro wz hSw; (try dsimp only at hSw); go_simp; try rfl)); (try simp only [Act.put, List.getElem_toArray, List.getElem_cons_succ, List.getElem_cons_zero, List.setIfInBounds_toArray, List.set_cons_zero, List.set_cons_succ])
                        (refine wpAnyH_take (i := 31) (v := ?_) rfl (by kernel_rfl) (by kernel_rfl) (by kernel_rfl) (fun _ _ _ h => h) (Or.inl ⟨by rfl, ?_⟩) (by assumption) ?_; rotate_left 1; · (intro wz hSw; (try dsimp only at hSw); go_simp; try rfl)); (try simp only [Act.put, List.getElem_toArray, List.getElem_cons_succ, List.getElem_cons_zero, List.setIfInBounds_toArray, List.set_cons_zero, List.set_cons_succ])
                        refine wpAnyH_done (by kernel_rfl) ?_ _
                        go_wp2_with fail
                        go_ret
                        exact ⟨BoolIf.f, HCHB.out.trans (K7.out.trans K8.out)⟩
                      | false =>
                        go_wp2_with fail
                        refine wp_region_held_drew (S := fun w' => w'.cell? ⟨b, off + j * 10 + 6, none⟩ = some (.slice (some ⟨mb2, mo2, none⟩) mn2 mc2) ∧ w'.cell? ⟨wa.heap.size, 0, none⟩ = some (.string x.ret) ∧ w'.cell? ⟨wa.heap.size, 1, none⟩ = some (.string x.nm) ∧ w'.cell? ⟨wa.heap.size, 2, none⟩ = some (.bool false) ∧ w'.cell? ⟨wa.heap.size, 3, none⟩ = some (.bool x.ba) ∧ w'.cell? ⟨wa.heap.size, 4, none⟩ = some (.slice x.pa x.ps.length x.pc) ∧ w'.cell? ⟨wa.heap.size, 5, none⟩ = some (.slice x.s5.1 x.s5.2.1 x.s5.2.2) ∧ w'.cell? ⟨wa.heap.size, 6, none⟩ = some (.slice x.s6.1 x.s6.2.1 x.s6.2.2) ∧ w'.cell? ⟨wa.heap.size, 7, none⟩ = some (.int .i64 x.line) ∧ w'.cell? ⟨wa.heap.size, 8, none⟩ = some (.int .i64 x.col) ∧ w'.cell? ⟨mb2, mo2 + q1 * 9, none⟩ = some (.string y.ret) ∧ w'.cell? ⟨mb2, mo2 + q1 * 9 + 1, none⟩ = some (.string y.nm) ∧ w'.cell? ⟨mb2, mo2 + q1 * 9 + 2, none⟩ = some (.bool false) ∧ w'.cell? ⟨mb2, mo2 + q1 * 9 + 3, none⟩ = some (.bool y.ba) ∧ w'.cell? ⟨mb2, mo2 + q1 * 9 + 4, none⟩ = some (.slice y.pa y.ps.length y.pc) ∧ w'.cell? ⟨mb2, mo2 + q1 * 9 + 5, none⟩ = some (.slice y.s5.1 y.s5.2.1 y.s5.2.2) ∧ w'.cell? ⟨mb2, mo2 + q1 * 9 + 6, none⟩ = some (.slice y.s6.1 y.s6.2.1 y.s6.2.2) ∧ w'.cell? ⟨mb2, mo2 + q1 * 9 + 7, none⟩ = some (.int .i64 y.line) ∧ w'.cell? ⟨mb2, mo2 + q1 * 9 + 8, none⟩ = some (.int .i64 y.col) ∧ w'.cell? ⟨w.heap.size, 0, none⟩ = some (.slice (some ⟨b, off, none⟩) len cap)) (by kernel_rfl) HSx.out (fun hHeld => ?_)
                        (refine wpAnyH_take (i := 0) (v := ?_) rfl (by kernel_rfl) (by kernel_rfl) (by kernel_rfl) (fun _ _ _ h => h) (Or.inl ⟨by rfl, ?_⟩) (by assumption) ?_; rotate_left 1; · (intro wz hSw; (try dsimp only at hSw); go_simp; try rfl)); (try simp only [Act.put, List.getElem_toArray, List.getElem_cons_succ, List.getElem_cons_zero, List.setIfInBounds_toArray, List.set_cons_zero, List.set_cons_succ])
                        (refine wpAnyH_take (i := 1) (v := ?_) rfl (by kernel_rfl) (by kernel_rfl) (by kernel_rfl) (fun _ _ _ h => h) (Or.inl ⟨by rfl, ?_⟩) (by assumption) ?_; rotate_left 1; · (intro wz hSw; (try dsimp only at hSw); go_simp; try rfl)); (try simp only [Act.put, List.getElem_toArray, List.getElem_cons_succ, List.getElem_cons_zero, List.setIfInBounds_toArray, List.set_cons_zero, List.set_cons_succ])
                        (refine wpAnyH_take (i := 2) (v := ?_) rfl (by kernel_rfl) (by kernel_rfl) (by kernel_rfl) (fun _ _ _ h => h) (Or.inl ⟨by rfl, ?_⟩) (by assumption) ?_; rotate_left 1; · (intro wz hSw; (try dsimp only at hSw); go_simp; try rfl)); (try simp only [Act.put, List.getElem_toArray, List.getElem_cons_succ, List.getElem_cons_zero, List.setIfInBounds_toArray, List.set_cons_zero, List.set_cons_succ])
                        (refine wpAnyH_take (i := 3) (v := ?_) rfl (by kernel_rfl) (by kernel_rfl) (by kernel_rfl) (fun _ _ _ h => h) (Or.inl ⟨by rfl, ?_⟩) (by assumption) ?_; rotate_left 1; · (intro wz hSw; (try dsimp only at hSw); go_simp; try rfl)); (try simp only [Act.put, List.getElem_toArray, List.getElem_cons_succ, List.getElem_cons_zero, List.setIfInBounds_toArray, List.set_cons_zero, List.set_cons_succ])
                        (refine wpAnyH_take (i := 4) (v := ?_) rfl (by kernel_rfl) (by kernel_rfl) (by kernel_rfl) (fun _ _ _ h => h) (Or.inl ⟨by rfl, ?_⟩) (by assumption) ?_; rotate_left 1; · (intro wz hSw; (try dsimp only at hSw); go_simp; try rfl)); (try simp only [Act.put, List.getElem_toArray, List.getElem_cons_succ, List.getElem_cons_zero, List.setIfInBounds_toArray, List.set_cons_zero, List.set_cons_succ])
                        (refine wpAnyH_take (i := 5) (v := ?_) rfl (by kernel_rfl) (by kernel_rfl) (by kernel_rfl) (fun _ _ _ h => h) (Or.inl ⟨by rfl, ?_⟩) (by assumption) ?_; rotate_left 1; · (intro wz hSw; (try dsimp only at hSw); go_simp; try rfl)); (try simp only [Act.put, List.getElem_toArray, List.getElem_cons_succ, List.getElem_cons_zero, List.setIfInBounds_toArray, List.set_cons_zero, List.set_cons_succ])
                        (refine wpAnyH_take (i := 6) (v := ?_) rfl (by kernel_rfl) (by kernel_rfl) (by kernel_rfl) (fun _ _ _ h => h) (Or.inl ⟨by rfl, ?_⟩) (by assumption) ?_; rotate_left 1; · (intro wz hSw; (try dsimp only at hSw); go_simp; try rfl)); (try simp only [Act.put, List.getElem_toArray, List.getElem_cons_succ, List.getElem_cons_zero, List.setIfInBounds_toArray, List.set_cons_zero, List.set_cons_succ])
                        (refine wpAnyH_take (i := 7) (v := ?_) rfl (by kernel_rfl) (by kernel_rfl) (by kernel_rfl) (fun _ _ _ h => h) (Or.inl ⟨by rfl, ?_⟩) (by assumption) ?_; rotate_left 1; · (intro wz hSw; (try dsimp only at hSw); go_simp; try rfl)); (try simp only [Act.put, List.getElem_toArray, List.getElem_cons_succ, List.getElem_cons_zero, List.setIfInBounds_toArray, List.set_cons_zero, List.set_cons_succ])
                        (refine wpAnyH_take (i := 8) (v := ?_) rfl (by kernel_rfl) (by kernel_rfl) (by kernel_rfl) (fun _ _ _ h => h) (Or.inl ⟨by rfl, ?_⟩) (by assumption) ?_; rotate_left 1; · (intro wz hSw; (try dsimp only at hSw); go_simp; try rfl)); (try simp only [Act.put, List.getElem_toArray, List.getElem_cons_succ, List.getElem_cons_zero, List.setIfInBounds_toArray, List.set_cons_zero, List.set_cons_succ])
                        (refine wpAnyH_take (i := 9) (v := ?_) rfl (by kernel_rfl) (by kernel_rfl) (by kernel_rfl) (fun _ _ _ h => h) (Or.inl ⟨by rfl, ?_⟩) (by assumption) ?_; rotate_left 1; · (intro wz hSw; (try dsimp only at hSw); go_simp; try rfl)); (try simp only [Act.put, List.getElem_toArray, List.getElem_cons_succ, List.getElem_cons_zero, List.setIfInBounds_toArray, List.set_cons_zero, List.set_cons_succ])
                        (refine wpAnyH_take (i := 10) (v := ?_) rfl (by kernel_rfl) (by kernel_rfl) (by kernel_rfl) (fun _ _ _ h => h) (Or.inl ⟨by rfl, ?_⟩) (by assumption) ?_; rotate_left 1; · (intro wz hSw; (try dsimp only at hSw); go_simp; try rfl)); (try simp only [Act.put, List.getElem_toArray, List.getElem_cons_succ, List.getElem_cons_zero, List.setIfInBounds_toArray, List.set_cons_zero, List.set_cons_succ])
                        (refine wpAnyH_take (i := 11) (v := ?_) rfl (by kernel_rfl) (by kernel_rfl) (by kernel_rfl) (fun _ _ _ h => h) (Or.inl ⟨by rfl, ?_⟩) (by assumption) ?_; rotate_left 1; · (intro wz hSw; (try dsimp only at hSw); go_simp; try rfl)); (try simp only [Act.put, List.getElem_toArray, List.getElem_cons_succ, List.getElem_cons_zero, List.setIfInBounds_toArray, List.set_cons_zero, List.set_cons_succ])
                        (refine wpAnyH_take (i := 12) (v := ?_) rfl (by kernel_rfl) (by kernel_rfl) (by kernel_rfl) (fun _ _ _ h => h) (Or.inl ⟨by rfl, ?_⟩) (by assumption) ?_; rotate_left 1; · (intro wz hSw; (try dsimp only at hSw); go_simp; try rfl)); (try simp only [Act.put, List.getElem_toArray, List.getElem_cons_succ, List.getElem_cons_zero, List.setIfInBounds_toArray, List.set_cons_zero, List.set_cons_succ])
                        refine wpAnyH_ready (rs := [13]) (by kernel_rfl) (by simp) (AllReadyH.cons rfl (fun K hK => ?_) AllReadyH.nil)
                        go_simp
                        go_at_call 68
                        refine (hal).mono ?_
                        rintro e w8 ⟨hr8, hc8⟩
                        have K8 := hid (((Ch.refl No w7).drew).trans hc8)
                        obtain rfl := hr8.yes HKD.out
                        clear hc8
                        go_simp
                        have HS8 := hid (show w8.cell? ⟨b, off + j * 10 + 6, none⟩ = some (.slice (some ⟨mb2, mo2, none⟩) mn2 mc2) ∧ w8.cell? ⟨wa.heap.size, 0, none⟩ = some (.string x.ret) ∧ w8.cell? ⟨wa.heap.size, 1, none⟩ = some (.string x.nm) ∧ w8.cell? ⟨wa.heap.size, 2, none⟩ = some (.bool false) ∧ w8.cell? ⟨wa.heap.size, 3, none⟩ = some (.bool x.ba) ∧ w8.cell? ⟨wa.heap.size, 4, none⟩ = some (.slice x.pa x.ps.length x.pc) ∧ w8.cell? ⟨wa.heap.size, 5, none⟩ = some (.slice x.s5.1 x.s5.2.1 x.s5.2.2) ∧ w8.cell? ⟨wa.heap.size, 6, none⟩ = some (.slice x.s6.1 x.s6.2.1 x.s6.2.2) ∧ w8.cell? ⟨wa.heap.size, 7, none⟩ = some (.int .i64 x.line) ∧ w8.cell? ⟨wa.heap.size, 8, none⟩ = some (.int .i64 x.col) ∧ w8.cell? ⟨mb2, mo2 + q1 * 9, none⟩ = some (.string y.ret) ∧ w8.cell? ⟨mb2, mo2 + q1 * 9 + 1, none⟩ = some (.string y.nm) ∧ w8.cell? ⟨mb2, mo2 + q1 * 9 + 2, none⟩ = some (.bool false) ∧ w8.cell? ⟨mb2, mo2 + q1 * 9 + 3, none⟩ = some (.bool y.ba) ∧ w8.cell? ⟨mb2, mo2 + q1 * 9 + 4, none⟩ = some (.slice y.pa y.ps.length y.pc) ∧ w8.cell? ⟨mb2, mo2 + q1 * 9 + 5, none⟩ = some (.slice y.s5.1 y.s5.2.1 y.s5.2.2) ∧ w8.cell? ⟨mb2, mo2 + q1 * 9 + 6, none⟩ = some (.slice y.s6.1 y.s6.2.1 y.s6.2.2) ∧ w8.cell? ⟨mb2, mo2 + q1 * 9 + 7, none⟩ = some (.int .i64 y.line) ∧ w8.cell? ⟨mb2, mo2 + q1 * 9 + 8, none⟩ = some (.int .i64 y.col) ∧ w8.cell? ⟨w.heap.size, 0, none⟩ = some (.slice (some ⟨b, off, none⟩) len cap) from ⟨cell_ch HSx.out.1 K8.out (fun _ _ h => h), cell_ch HSx.out.2.1 K8.out (fun _ _ h => h), cell_ch HSx.out.2.2.1 K8.out (fun _ _ h => h), cell_ch HSx.out.2.2.2.1 K8.out (fun _ _ h => h), cell_ch HSx.out.2.2.2.2.1 K8.out (fun _ _ h => h), cell_ch HSx.out.2.2.2.2.2.1 K8.out (fun _ _ h => h), cell_ch HSx.out.2.2.2.2.2.2.1 K8.out (fun _ _ h => h), cell_ch HSx.out.2.2.2.2.2.2.2.1 K8.out (fun _ _ h => h), cell_ch HSx.out.2.2.2.2.2.2.2.2.1 K8.out (fun _ _ h => h), cell_ch HSx.out.2.2.2.2.2.2.2.2.2.1 K8.out (fun _ _ h => h), cell_ch HSx.out.2.2.2.2.2.2.2.2.2.2.1 K8.out (fun _ _ h => h), cell_ch HSx.out.2.2.2.2.2.2.2.2.2.2.2.1 K8.out (fun _ _ h => h), cell_ch HSx.out.2.2.2.2.2.2.2.2.2.2.2.2.1 K8.out (fun _ _ h => h), cell_ch HSx.out.2.2.2.2.2.2.2.2.2.2.2.2.2.1 K8.out (fun _ _ h => h), cell_ch HSx.out.2.2.2.2.2.2.2.2.2.2.2.2.2.2.1 K8.out (fun _ _ h => h), cell_ch HSx.out.2.2.2.2.2.2.2.2.2.2.2.2.2.2.2.1 K8.out (fun _ _ h => h), cell_ch HSx.out.2.2.2.2.2.2.2.2.2.2.2.2.2.2.2.2.1 K8.out (fun _ _ h => h), cell_ch HSx.out.2.2.2.2.2.2.2.2.2.2.2.2.2.2.2.2.2.1 K8.out (fun _ _ h => h), cell_ch HSx.out.2.2.2.2.2.2.2.2.2.2.2.2.2.2.2.2.2.2.1 K8.out (fun _ _ h => h), cell_ch HSx.out.2.2.2.2.2.2.2.2.2.2.2.2.2.2.2.2.2.2.2 K8.out (fun _ _ h => h)⟩)
                        refine hK.out _ _ HS8.out (fun hHeld8 => ?_)
                        clear hK
                        (refine wpAnyH_take (i := 14) (v := ?_) rfl (by kernel_rfl) (by kernel_rfl) (by kernel_rfl) (fun _ _ _ h => h) (Or.inl ⟨by rfl, ?_⟩) (by assumption) ?_; rotate_left 1; · (intro wz hSw; (try dsimp only at hSw); go_simp; try rfl)); (try simp only [Act.put, List.getElem_toArray, List.getElem_cons_succ, List.getElem_cons_zero, List.setIfInBounds_toArray, List.set_cons_zero, List.set_cons_succ])
                        (refine wpAnyH_take (i := 15) (v := ?_) rfl (by kernel_rfl) (by kernel_rfl) (by kernel_rfl) (fun _ _ _ h => h) (Or.inl ⟨by rfl, ?_⟩) (by assumption) ?_; rotate_left 1; · (intro wz hSw; (try dsimp only at hSw); go_simp; try rfl)); (try simp only [Act.put, List.getElem_toArray, List.getElem_cons_succ, List.getElem_cons_zero, List.setIfInBounds_toArray, List.set_cons_zero, List.set_cons_succ])
                        (refine wpAnyH_take (i := 16) (v := ?_) rfl (by kernel_rfl) (by kernel_rfl) (by kernel_rfl) (fun _ _ _ h => h) (Or.inl ⟨by rfl, ?_⟩) (by assumption) ?_; rotate_left 1; · (intro wz hSw; (try dsimp only at hSw); go_simp; try rfl)); (try simp only [Act.put, List.getElem_toArray, List.getElem_cons_succ, List.getElem_cons_zero, List.setIfInBounds_toArray, List.set_cons_zero, List.set_cons_succ])
                        (refine wpAnyH_take (i := 17) (v := ?_) rfl (by kernel_rfl) (by kernel_rfl) (by kernel_rfl) (fun _ _ _ h => h) (Or.inl ⟨by rfl, ?_⟩) (by assumption) ?_; rotate_left 1; · (intro wz hSw; (try dsimp only at hSw); go_simp; try rfl)); (try simp only [Act.put, List.getElem_toArray, List.getElem_cons_succ, List.getElem_cons_zero, List.setIfInBounds_toArray, List.set_cons_zero, List.set_cons_succ])
                        (refine wpAnyH_take (i := 18) (v := ?_) rfl (by kernel_rfl) (by kernel_rfl) (by kernel_rfl) (fun _ _ _ h => h) (Or.inl ⟨by rfl, ?_⟩) (by assumption) ?_; rotate_left 1; · (intro wz hSw; (try dsimp only at hSw); go_simp; try rfl)); (try simp only [Act.put, List.getElem_toArray, List.getElem_cons_succ, List.getElem_cons_zero, List.setIfInBounds_toArray, List.set_cons_zero, List.set_cons_succ])
                        (refine wpAnyH_take (i := 19) (v := ?_) rfl (by kernel_rfl) (by kernel_rfl) (by kernel_rfl) (fun _ _ _ h => h) (Or.inl ⟨by rfl, ?_⟩) (by assumption) ?_; rotate_left 1; · (intro wz hSw; (try dsimp only at hSw); go_simp; try rfl)); (try simp only [Act.put, List.getElem_toArray, List.getElem_cons_succ, List.getElem_cons_zero, List.setIfInBounds_toArray, List.set_cons_zero, List.set_cons_succ])
                        (refine wpAnyH_take (i := 20) (v := ?_) rfl (by kernel_rfl) (by kernel_rfl) (by kernel_rfl) (fun _ _ _ h => h) (Or.inl ⟨by rfl, ?_⟩) (by assumption) ?_; rotate_left 1; · (intro wz hSw; (try dsimp only at hSw); go_simp; try rfl)); (try simp only [Act.put, List.getElem_toArray, List.getElem_cons_succ, List.getElem_cons_zero, List.setIfInBounds_toArray, List.set_cons_zero, List.set_cons_succ])
                        (refine wpAnyH_take (i := 21) (v := ?_) rfl (by kernel_rfl) (by kernel_rfl) (by kernel_rfl) (fun _ _ _ h => h) (Or.inl ⟨by rfl, ?_⟩) (by assumption) ?_; rotate_left 1; · (intro wz hSw; (try dsimp only at hSw); go_simp; try rfl)); (try simp only [Act.put, List.getElem_toArray, List.getElem_cons_succ, List.getElem_cons_zero, List.setIfInBounds_toArray, List.set_cons_zero, List.set_cons_succ])
                        (refine wpAnyH_take (i := 22) (v := ?_) rfl (by kernel_rfl) (by kernel_rfl) (by kernel_rfl) (fun _ _ _ h => h) (Or.inl ⟨by rfl, ?_⟩) (by assumption) ?_; rotate_left 1; · (intro wz hSw; (try dsimp only at hSw); go_simp; try rfl)); (try simp only [Act.put, List.getElem_toArray, List.getElem_cons_succ, List.getElem_cons_zero, List.setIfInBounds_toArray, List.set_cons_zero, List.set_cons_succ])
                        (refine wpAnyH_take (i := 23) (v := ?_) rfl (by kernel_rfl) (by kernel_rfl) (by kernel_rfl) (fun _ _ _ h => h) (Or.inl ⟨by rfl, ?_⟩) (by assumption) ?_; rotate_left 1; · (intro wz hSw; (try dsimp only at hSw); go_simp; try rfl)); (try simp only [Act.put, List.getElem_toArray, List.getElem_cons_succ, List.getElem_cons_zero, List.setIfInBounds_toArray, List.set_cons_zero, List.set_cons_succ])
                        (refine wpAnyH_take (i := 24) (v := ?_) rfl (by kernel_rfl) (by kernel_rfl) (by kernel_rfl) (fun _ _ _ h => h) (Or.inl ⟨by rfl, ?_⟩) (by assumption) ?_; rotate_left 1; · (intro wz hSw; (try dsimp only at hSw); go_simp; try rfl)); (try simp only [Act.put, List.getElem_toArray, List.getElem_cons_succ, List.getElem_cons_zero, List.setIfInBounds_toArray, List.set_cons_zero, List.set_cons_succ])
                        (refine wpAnyH_take (i := 25) (v := ?_) rfl (by kernel_rfl) (by kernel_rfl) (by kernel_rfl) (fun _ _ _ h => h) (Or.inl ⟨by rfl, ?_⟩) (by assumption) ?_; rotate_left 1; · (intro wz hSw; (try dsimp only at hSw); go_simp; try rfl)); (try simp only [Act.put, List.getElem_toArray, List.getElem_cons_succ, List.getElem_cons_zero, List.setIfInBounds_toArray, List.set_cons_zero, List.set_cons_succ])
                        (refine wpAnyH_take (i := 26) (v := ?_) rfl (by kernel_rfl) (by kernel_rfl) (by kernel_rfl) (fun _ _ _ h => h) (Or.inl ⟨by rfl, ?_⟩) (by assumption) ?_; rotate_left 1; · (intro wz hSw; (try dsimp only at hSw); go_simp; try rfl)); (try simp only [Act.put, List.getElem_toArray, List.getElem_cons_succ, List.getElem_cons_zero, List.setIfInBounds_toArray, List.set_cons_zero, List.set_cons_succ])
                        (refine wpAnyH_take (i := 27) (v := ?_) rfl (by kernel_rfl) (by kernel_rfl) (by kernel_rfl) (fun _ _ _ h => h) (Or.inl ⟨by rfl, ?_⟩) (by assumption) ?_; rotate_left 1; · (intro wz hSw; (try dsimp only at hSw); go_simp; try rfl)); (try simp only [Act.put, List.getElem_toArray, List.getElem_cons_succ, List.getElem_cons_zero, List.setIfInBounds_toArray, List.set_cons_zero, List.set_cons_succ])
                        (refine wpAnyH_take (i := 28) (v := ?_) rfl (by kernel_rfl) (by kernel_rfl) (by kernel_rfl) (fun _ _ _ h => h) (Or.inl ⟨by rfl, ?_⟩) (by assumption) ?_; rotate_left 1; · (intro wz hSw; (try dsimp only at hSw); go_simp; try rfl)); (try simp only [Act.put, List.getElem_toArray, List.getElem_cons_succ, List.getElem_cons_zero, List.setIfInBounds_toArray, List.set_cons_zero, List.set_cons_succ])
                        (refine wpAnyH_take (i := 29) (v := ?_) rfl (by kernel_rfl) (by kernel_rfl) (by kernel_rfl) (fun _ _ _ h => h) (Or.inl ⟨by rfl, ?_⟩) (by assumption) ?_; rotate_left 1; · (intro wz hSw; (try dsimp only at hSw); go_simp; try rfl)); (try simp only [Act.put, List.getElem_toArray, List.getElem_cons_succ, List.getElem_cons_zero, List.setIfInBounds_toArray, List.set_cons_zero, List.set_cons_succ])
                        (refine wpAnyH_take (i := 30) (v := ?_) rfl (by kernel_rfl) (by kernel_rfl) (by kernel_rfl) (fun _ _ _ h => h) (Or.inl ⟨by rfl, ?_⟩) (by assumption) ?_; rotate_left 1; · (intro wz hSw; (try dsimp only at hSw); go_simp; try rfl)); (try simp only [Act.put, List.getElem_toArray, List.getElem_cons_succ, List.getElem_cons_zero, List.setIfInBounds_toArray, List.set_cons_zero, List.set_cons_succ])
                        (refine wpAnyH_take (i := 31) (v := ?_) rfl (by kernel_rfl) (by kernel_rfl) (by kernel_rfl) (fun _ _ _ h => h) (Or.inl ⟨by rfl, ?_⟩) (by assumption) ?_; rotate_left 1; · (intro wz hSw; (try dsimp only at hSw); go_simp; try rfl)); (try simp only [Act.put, List.getElem_toArray, List.getElem_cons_succ, List.getElem_cons_zero, List.setIfInBounds_toArray, List.set_cons_zero, List.set_cons_succ])
                        refine wpAnyH_done (by kernel_rfl) ?_ _
                        go_wp2_with fail
                        go_roundg (len - j - 1)
                        case rel =>
                          refine ⟨j + 1, by omega, by omega, by go_num, hid fun t ht hr => ?_, HC7.out.trans K8.out⟩
                          by_cases h1 : t < j
                          · exact HU.out t h1 hr
                          · obtain rfl : t = j := by omega
                            intro q' y' hq' hy'
                            rw [ownK_get HMJ.out, HOQ.out] at hq'; cases hq'
                            rw [mtAt_get HMJ.out, HYQ.out] at hy'; cases hy'
                            exact ⟨HKD.out, HXS'.out, HYS'.out⟩
                        case measure => omega
                  · have HKD := hid hkd
                    clear hkd
                    go_wp2_with fail
                    refine wp_region_held_drew (S := fun w' => w'.cell? ⟨b, off + j * 10 + 6, none⟩ = some (.slice (some ⟨mb2, mo2, none⟩) mn2 mc2) ∧ w'.cell? ⟨wa.heap.size, 0, none⟩ = some (.string x.ret) ∧ w'.cell? ⟨wa.heap.size, 1, none⟩ = some (.string x.nm) ∧ w'.cell? ⟨wa.heap.size, 2, none⟩ = some (.bool xs) ∧ w'.cell? ⟨wa.heap.size, 3, none⟩ = some (.bool x.ba) ∧ w'.cell? ⟨wa.heap.size, 4, none⟩ = some (.slice x.pa x.ps.length x.pc) ∧ w'.cell? ⟨wa.heap.size, 5, none⟩ = some (.slice x.s5.1 x.s5.2.1 x.s5.2.2) ∧ w'.cell? ⟨wa.heap.size, 6, none⟩ = some (.slice x.s6.1 x.s6.2.1 x.s6.2.2) ∧ w'.cell? ⟨wa.heap.size, 7, none⟩ = some (.int .i64 x.line) ∧ w'.cell? ⟨wa.heap.size, 8, none⟩ = some (.int .i64 x.col) ∧ w'.cell? ⟨mb2, mo2 + q1 * 9, none⟩ = some (.string y.ret) ∧ w'.cell? ⟨mb2, mo2 + q1 * 9 + 1, none⟩ = some (.string y.nm) ∧ w'.cell? ⟨mb2, mo2 + q1 * 9 + 2, none⟩ = some (.bool ys) ∧ w'.cell? ⟨mb2, mo2 + q1 * 9 + 3, none⟩ = some (.bool y.ba) ∧ w'.cell? ⟨mb2, mo2 + q1 * 9 + 4, none⟩ = some (.slice y.pa y.ps.length y.pc) ∧ w'.cell? ⟨mb2, mo2 + q1 * 9 + 5, none⟩ = some (.slice y.s5.1 y.s5.2.1 y.s5.2.2) ∧ w'.cell? ⟨mb2, mo2 + q1 * 9 + 6, none⟩ = some (.slice y.s6.1 y.s6.2.1 y.s6.2.2) ∧ w'.cell? ⟨mb2, mo2 + q1 * 9 + 7, none⟩ = some (.int .i64 y.line) ∧ w'.cell? ⟨mb2, mo2 + q1 * 9 + 8, none⟩ = some (.int .i64 y.col) ∧ w'.cell? ⟨w.heap.size, 0, none⟩ = some (.slice (some ⟨b, off, none⟩) len cap)) (by kernel_rfl) HSx.out (fun hHeld => ?_)
                    (refine wpAnyH_take (i := 0) (v := ?_) rfl (by kernel_rfl) (by kernel_rfl) (by kernel_rfl) (fun _ _ _ h => h) (Or.inl ⟨by rfl, ?_⟩) (by assumption) ?_; rotate_left 1; · (intro wz hSw; (try dsimp only at hSw); go_simp; try rfl)); (try simp only [Act.put, List.getElem_toArray, List.getElem_cons_succ, List.getElem_cons_zero, List.setIfInBounds_toArray, List.set_cons_zero, List.set_cons_succ])
                    (refine wpAnyH_take (i := 1) (v := ?_) rfl (by kernel_rfl) (by kernel_rfl) (by kernel_rfl) (fun _ _ _ h => h) (Or.inl ⟨by rfl, ?_⟩) (by assumption) ?_; rotate_left 1; · (intro wz hSw; (try dsimp only at hSw); go_simp; try rfl)); (try simp only [Act.put, List.getElem_toArray, List.getElem_cons_succ, List.getElem_cons_zero, List.setIfInBounds_toArray, List.set_cons_zero, List.set_cons_succ])
                    (refine wpAnyH_take (i := 2) (v := ?_) rfl (by kernel_rfl) (by kernel_rfl) (by kernel_rfl) (fun _ _ _ h => h) (Or.inl ⟨by rfl, ?_⟩) (by assumption) ?_; rotate_left 1; · (intro wz hSw; (try dsimp only at hSw); go_simp; try rfl)); (try simp only [Act.put, List.getElem_toArray, List.getElem_cons_succ, List.getElem_cons_zero, List.setIfInBounds_toArray, List.set_cons_zero, List.set_cons_succ])
                    (refine wpAnyH_take (i := 3) (v := ?_) rfl (by kernel_rfl) (by kernel_rfl) (by kernel_rfl) (fun _ _ _ h => h) (Or.inl ⟨by rfl, ?_⟩) (by assumption) ?_; rotate_left 1; · (intro wz hSw; (try dsimp only at hSw); go_simp; try rfl)); (try simp only [Act.put, List.getElem_toArray, List.getElem_cons_succ, List.getElem_cons_zero, List.setIfInBounds_toArray, List.set_cons_zero, List.set_cons_succ])
                    (refine wpAnyH_take (i := 4) (v := ?_) rfl (by kernel_rfl) (by kernel_rfl) (by kernel_rfl) (fun _ _ _ h => h) (Or.inl ⟨by rfl, ?_⟩) (by assumption) ?_; rotate_left 1; · (intro wz hSw; (try dsimp only at hSw); go_simp; try rfl)); (try simp only [Act.put, List.getElem_toArray, List.getElem_cons_succ, List.getElem_cons_zero, List.setIfInBounds_toArray, List.set_cons_zero, List.set_cons_succ])
                    (refine wpAnyH_take (i := 5) (v := ?_) rfl (by kernel_rfl) (by kernel_rfl) (by kernel_rfl) (fun _ _ _ h => h) (Or.inl ⟨by rfl, ?_⟩) (by assumption) ?_; rotate_left 1; · (intro wz hSw; (try dsimp only at hSw); go_simp; try rfl)); (try simp only [Act.put, List.getElem_toArray, List.getElem_cons_succ, List.getElem_cons_zero, List.setIfInBounds_toArray, List.set_cons_zero, List.set_cons_succ])
                    (refine wpAnyH_take (i := 6) (v := ?_) rfl (by kernel_rfl) (by kernel_rfl) (by kernel_rfl) (fun _ _ _ h => h) (Or.inl ⟨by rfl, ?_⟩) (by assumption) ?_; rotate_left 1; · (intro wz hSw; (try dsimp only at hSw); go_simp; try rfl)); (try simp only [Act.put, List.getElem_toArray, List.getElem_cons_succ, List.getElem_cons_zero, List.setIfInBounds_toArray, List.set_cons_zero, List.set_cons_succ])
                    (refine wpAnyH_take (i := 7) (v := ?_) rfl (by kernel_rfl) (by kernel_rfl) (by kernel_rfl) (fun _ _ _ h => h) (Or.inl ⟨by rfl, ?_⟩) (by assumption) ?_; rotate_left 1; · (intro wz hSw; (try dsimp only at hSw); go_simp; try rfl)); (try simp only [Act.put, List.getElem_toArray, List.getElem_cons_succ, List.getElem_cons_zero, List.setIfInBounds_toArray, List.set_cons_zero, List.set_cons_succ])
                    (refine wpAnyH_take (i := 8) (v := ?_) rfl (by kernel_rfl) (by kernel_rfl) (by kernel_rfl) (fun _ _ _ h => h) (Or.inl ⟨by rfl, ?_⟩) (by assumption) ?_; rotate_left 1; · (intro wz hSw; (try dsimp only at hSw); go_simp; try rfl)); (try simp only [Act.put, List.getElem_toArray, List.getElem_cons_succ, List.getElem_cons_zero, List.setIfInBounds_toArray, List.set_cons_zero, List.set_cons_succ])
                    (refine wpAnyH_take (i := 9) (v := ?_) rfl (by kernel_rfl) (by kernel_rfl) (by kernel_rfl) (fun _ _ _ h => h) (Or.inl ⟨by rfl, ?_⟩) (by assumption) ?_; rotate_left 1; · (intro wz hSw; (try dsimp only at hSw); go_simp; try rfl)); (try simp only [Act.put, List.getElem_toArray, List.getElem_cons_succ, List.getElem_cons_zero, List.setIfInBounds_toArray, List.set_cons_zero, List.set_cons_succ])
                    (refine wpAnyH_take (i := 10) (v := ?_) rfl (by kernel_rfl) (by kernel_rfl) (by kernel_rfl) (fun _ _ _ h => h) (Or.inl ⟨by rfl, ?_⟩) (by assumption) ?_; rotate_left 1; · (intro wz hSw; (try dsimp only at hSw); go_simp; try rfl)); (try simp only [Act.put, List.getElem_toArray, List.getElem_cons_succ, List.getElem_cons_zero, List.setIfInBounds_toArray, List.set_cons_zero, List.set_cons_succ])
                    (refine wpAnyH_take (i := 11) (v := ?_) rfl (by kernel_rfl) (by kernel_rfl) (by kernel_rfl) (fun _ _ _ h => h) (Or.inl ⟨by rfl, ?_⟩) (by assumption) ?_; rotate_left 1; · (intro wz hSw; (try dsimp only at hSw); go_simp; try rfl)); (try simp only [Act.put, List.getElem_toArray, List.getElem_cons_succ, List.getElem_cons_zero, List.setIfInBounds_toArray, List.set_cons_zero, List.set_cons_succ])
                    (refine wpAnyH_take (i := 12) (v := ?_) rfl (by kernel_rfl) (by kernel_rfl) (by kernel_rfl) (fun _ _ _ h => h) (Or.inl ⟨by rfl, ?_⟩) (by assumption) ?_; rotate_left 1; · (intro wz hSw; (try dsimp only at hSw); go_simp; try rfl)); (try simp only [Act.put, List.getElem_toArray, List.getElem_cons_succ, List.getElem_cons_zero, List.setIfInBounds_toArray, List.set_cons_zero, List.set_cons_succ])
                    refine wpAnyH_ready (rs := [13]) (by kernel_rfl) (by simp) (AllReadyH.cons rfl (fun K hK => ?_) AllReadyH.nil)
                    go_simp
                    go_at_call 68
                    refine (hal).mono ?_
                    rintro e w8 ⟨hr8, hc8⟩
                    have K8 := hid (((Ch.refl No w7).drew).trans hc8)
                    obtain rfl := hr8.no HKD.out
                    clear hc8
                    go_simp
                    have HS8 := hid (show w8.cell? ⟨b, off + j * 10 + 6, none⟩ = some (.slice (some ⟨mb2, mo2, none⟩) mn2 mc2) ∧ w8.cell? ⟨wa.heap.size, 0, none⟩ = some (.string x.ret) ∧ w8.cell? ⟨wa.heap.size, 1, none⟩ = some (.string x.nm) ∧ w8.cell? ⟨wa.heap.size, 2, none⟩ = some (.bool xs) ∧ w8.cell? ⟨wa.heap.size, 3, none⟩ = some (.bool x.ba) ∧ w8.cell? ⟨wa.heap.size, 4, none⟩ = some (.slice x.pa x.ps.length x.pc) ∧ w8.cell? ⟨wa.heap.size, 5, none⟩ = some (.slice x.s5.1 x.s5.2.1 x.s5.2.2) ∧ w8.cell? ⟨wa.heap.size, 6, none⟩ = some (.slice x.s6.1 x.s6.2.1 x.s6.2.2) ∧ w8.cell? ⟨wa.heap.size, 7, none⟩ = some (.int .i64 x.line) ∧ w8.cell? ⟨wa.heap.size, 8, none⟩ = some (.int .i64 x.col) ∧ w8.cell? ⟨mb2, mo2 + q1 * 9, none⟩ = some (.string y.ret) ∧ w8.cell? ⟨mb2, mo2 + q1 * 9 + 1, none⟩ = some (.string y.nm) ∧ w8.cell? ⟨mb2, mo2 + q1 * 9 + 2, none⟩ = some (.bool ys) ∧ w8.cell? ⟨mb2, mo2 + q1 * 9 + 3, none⟩ = some (.bool y.ba) ∧ w8.cell? ⟨mb2, mo2 + q1 * 9 + 4, none⟩ = some (.slice y.pa y.ps.length y.pc) ∧ w8.cell? ⟨mb2, mo2 + q1 * 9 + 5, none⟩ = some (.slice y.s5.1 y.s5.2.1 y.s5.2.2) ∧ w8.cell? ⟨mb2, mo2 + q1 * 9 + 6, none⟩ = some (.slice y.s6.1 y.s6.2.1 y.s6.2.2) ∧ w8.cell? ⟨mb2, mo2 + q1 * 9 + 7, none⟩ = some (.int .i64 y.line) ∧ w8.cell? ⟨mb2, mo2 + q1 * 9 + 8, none⟩ = some (.int .i64 y.col) ∧ w8.cell? ⟨w.heap.size, 0, none⟩ = some (.slice (some ⟨b, off, none⟩) len cap) from ⟨cell_ch HSx.out.1 K8.out (fun _ _ h => h), cell_ch HSx.out.2.1 K8.out (fun _ _ h => h), cell_ch HSx.out.2.2.1 K8.out (fun _ _ h => h), cell_ch HSx.out.2.2.2.1 K8.out (fun _ _ h => h), cell_ch HSx.out.2.2.2.2.1 K8.out (fun _ _ h => h), cell_ch HSx.out.2.2.2.2.2.1 K8.out (fun _ _ h => h), cell_ch HSx.out.2.2.2.2.2.2.1 K8.out (fun _ _ h => h), cell_ch HSx.out.2.2.2.2.2.2.2.1 K8.out (fun _ _ h => h), cell_ch HSx.out.2.2.2.2.2.2.2.2.1 K8.out (fun _ _ h => h), cell_ch HSx.out.2.2.2.2.2.2.2.2.2.1 K8.out (fun _ _ h => h), cell_ch HSx.out.2.2.2.2.2.2.2.2.2.2.1 K8.out (fun _ _ h => h), cell_ch HSx.out.2.2.2.2.2.2.2.2.2.2.2.1 K8.out (fun _ _ h => h), cell_ch HSx.out.2.2.2.2.2.2.2.2.2.2.2.2.1 K8.out (fun _ _ h => h), cell_ch HSx.out.2.2.2.2.2.2.2.2.2.2.2.2.2.1 K8.out (fun _ _ h => h), cell_ch HSx.out.2.2.2.2.2.2.2.2.2.2.2.2.2.2.1 K8.out (fun _ _ h => h), cell_ch HSx.out.2.2.2.2.2.2.2.2.2.2.2.2.2.2.2.1 K8.out (fun _ _ h => h), cell_ch HSx.out.2.2.2.2.2.2.2.2.2.2.2.2.2.2.2.2.1 K8.out (fun _ _ h => h), cell_ch HSx.out.2.2.2.2.2.2.2.2.2.2.2.2.2.2.2.2.2.1 K8.out (fun _ _ h => h), cell_ch HSx.out.2.2.2.2.2.2.2.2.2.2.2.2.2.2.2.2.2.2.1 K8.out (fun _ _ h => h), cell_ch HSx.out.2.2.2.2.2.2.2.2.2.2.2.2.2.2.2.2.2.2.2 K8.out (fun _ _ h => h)⟩)
                    refine hK.out _ _ HS8.out (fun hHeld8 => ?_)
                    clear hK
                    (refine wpAnyH_take (i := 14) (v := ?_) rfl (by kernel_rfl) (by kernel_rfl) (by kernel_rfl) (fun _ _ _ h => h) (Or.inl ⟨by rfl, ?_⟩) (by assumption) ?_; rotate_left 1; · (intro wz hSw; (try dsimp only at hSw); go_simp; try rfl)); (try simp only [Act.put, List.getElem_toArray, List.getElem_cons_succ, List.getElem_cons_zero, List.setIfInBounds_toArray, List.set_cons_zero, List.set_cons_succ])
                    (refine wpAnyH_take (i := 15) (v := ?_) rfl (by kernel_rfl) (by kernel_rfl) (by kernel_rfl) (fun _ _ _ h => h) (Or.inl ⟨by rfl, ?_⟩) (by assumption) ?_; rotate_left 1; · (intro wz hSw; (try dsimp only at hSw); go_simp; try rfl)); (try simp only [Act.put, List.getElem_toArray, List.getElem_cons_succ, List.getElem_cons_zero, List.setIfInBounds_toArray, List.set_cons_zero, List.set_cons_succ])
                    (refine wpAnyH_take (i := 16) (v := undef) rfl (by kernel_rfl) (by kernel_rfl) (by kernel_rfl) (fun _ _ _ h => h) (Or.inr ⟨by rfl, rfl⟩) (by assumption) ?_); (try simp only [Act.put, List.getElem_toArray, List.getElem_cons_succ, List.getElem_cons_zero, List.setIfInBounds_toArray, List.set_cons_zero, List.set_cons_succ])
                    (refine wpAnyH_take (i := 17) (v := undef) rfl (by kernel_rfl) (by kernel_rfl) (by kernel_rfl) (fun _ _ _ h => h) (Or.inr ⟨by rfl, rfl⟩) (by assumption) ?_); (try simp only [Act.put, List.getElem_toArray, List.getElem_cons_succ, List.getElem_cons_zero, List.setIfInBounds_toArray, List.set_cons_zero, List.set_cons_succ])
                    (refine wpAnyH_take (i := 18) (v := ?_) rfl (by kernel_rfl) (by kernel_rfl) (by kernel_rfl) (fun _ _ _ h => h) (Or.inl ⟨by rfl, ?_⟩) (by assumption) ?_; rotate_left 1; · (intro wz hSw; (try dsimp only at hSw); go_simp; try rfl)); (try simp only [Act.put, List.getElem_toArray, List.getElem_cons_succ, List.getElem_cons_zero, List.setIfInBounds_toArray, List.set_cons_zero, List.set_cons_succ])
                    (refine wpAnyH_take (i := 19) (v := ?_) rfl (by kernel_rfl) (by kernel_rfl) (by kernel_rfl) (fun _ _ _ h => h) (Or.inl ⟨by rfl, ?_⟩) (by assumption) ?_; rotate_left 1; · (intro wz hSw; (try dsimp only at hSw); go_simp; try rfl)); (try simp only [Act.put, List.getElem_toArray, List.getElem_cons_succ, List.getElem_cons_zero, List.setIfInBounds_toArray, List.set_cons_zero, List.set_cons_succ])
                    (refine wpAnyH_take (i := 20) (v := undef) rfl (by kernel_rfl) (by kernel_rfl) (by kernel_rfl) (fun _ _ _ h => h) (Or.inr ⟨by rfl, rfl⟩) (by assumption) ?_); (try simp only [Act.put, List.getElem_toArray, List.getElem_cons_succ, List.getElem_cons_zero, List.setIfInBounds_toArray, List.set_cons_zero, List.set_cons_succ])
                    (refine wpAnyH_take (i := 21) (v := undef) rfl (by kernel_rfl) (by kernel_rfl) (by kernel_rfl) (fun _ _ _ h => h) (Or.inr ⟨by rfl, rfl⟩) (by assumption) ?_); (try simp only [Act.put, List.getElem_toArray, List.getElem_cons_succ, List.getElem_cons_zero, List.setIfInBounds_toArray, List.set_cons_zero, List.set_cons_succ])
                    (refine wpAnyH_take (i := 22) (v := undef) rfl (by kernel_rfl) (by kernel_rfl) (by kernel_rfl) (fun _ _ _ h => h) (Or.inr ⟨by rfl, rfl⟩) (by assumption) ?_); (try simp only [Act.put, List.getElem_toArray, List.getElem_cons_succ, List.getElem_cons_zero, List.setIfInBounds_toArray, List.set_cons_zero, List.set_cons_succ])
                    (refine wpAnyH_take (i := 23) (v := undef) rfl (by kernel_rfl) (by kernel_rfl) (by kernel_rfl) (fun _ _ _ h => h) (Or.inr ⟨by rfl, rfl⟩) (by assumption) ?_); (try simp only [Act.put, List.getElem_toArray, List.getElem_cons_succ, List.getElem_cons_zero, List.setIfInBounds_toArray, List.set_cons_zero, List.set_cons_succ])
                    (refine wpAnyH_take (i := 24) (v := undef) rfl (by kernel_rfl) (by kernel_rfl) (by kernel_rfl) (fun _ _ _ h => h) (Or.inr ⟨by rfl, rfl⟩) (by assumption) ?_); (try simp only [Act.put, List.getElem_toArray, List.getElem_cons_succ, List.getElem_cons_zero, List.setIfInBounds_toArray, List.set_cons_zero, List.set_cons_succ])
                    (refine wpAnyH_take (i := 25) (v := undef) rfl (by kernel_rfl) (by kernel_rfl) (by kernel_rfl) (fun _ _ _ h => h) (Or.inr ⟨by rfl, rfl⟩) (by assumption) ?_); (try simp only [Act.put, List.getElem_toArray, List.getElem_cons_succ, List.getElem_cons_zero, List.setIfInBounds_toArray, List.set_cons_zero, List.set_cons_succ])
                    (refine wpAnyH_take (i := 26) (v := undef) rfl (by kernel_rfl) (by kernel_rfl) (by kernel_rfl) (fun _ _ _ h => h) (Or.inr ⟨by rfl, rfl⟩) (by assumption) ?_); (try simp only [Act.put, List.getElem_toArray, List.getElem_cons_succ, List.getElem_cons_zero, List.setIfInBounds_toArray, List.set_cons_zero, List.set_cons_succ])
                    (refine wpAnyH_take (i := 27) (v := undef) rfl (by kernel_rfl) (by kernel_rfl) (by kernel_rfl) (fun _ _ _ h => h) (Or.inr ⟨by rfl, rfl⟩) (by assumption) ?_); (try simp only [Act.put, List.getElem_toArray, List.getElem_cons_succ, List.getElem_cons_zero, List.setIfInBounds_toArray, List.set_cons_zero, List.set_cons_succ])
                    (refine wpAnyH_take (i := 28) (v := undef) rfl (by kernel_rfl) (by kernel_rfl) (by kernel_rfl) (fun _ _ _ h => h) (Or.inr ⟨by rfl, rfl⟩) (by assumption) ?_); (try simp only [Act.put, List.getElem_toArray, List.getElem_cons_succ, List.getElem_cons_zero, List.setIfInBounds_toArray, List.set_cons_zero, List.set_cons_succ])
                    (refine wpAnyH_take (i := 29) (v := undef) rfl (by kernel_rfl) (by kernel_rfl) (by kernel_rfl) (fun _ _ _ h => h) (Or.inr ⟨by rfl, rfl⟩) (by assumption) ?_); (try simp only [Act.put, List.getElem_toArray, List.getElem_cons_succ, List.getElem_cons_zero, List.setIfInBounds_toArray, List.set_cons_zero, List.set_cons_succ])
                    (refine wpAnyH_take (i := 30) (v := ?_) rfl (by kernel_rfl) (by kernel_rfl) (by kernel_rfl) (fun _ _ _ h => h) (Or.inl ⟨by rfl, ?_⟩) (by assumption) ?_; rotate_left 1; · (intro wz hSw; (try dsimp only at hSw); go_simp; try rfl)); (try simp only [Act.put, List.getElem_toArray, List.getElem_cons_succ, List.getElem_cons_zero, List.setIfInBounds_toArray, List.set_cons_zero, List.set_cons_succ])
                    (refine wpAnyH_take (i := 31) (v := ?_) rfl (by kernel_rfl) (by kernel_rfl) (by kernel_rfl) (fun _ _ _ h => h) (Or.inl ⟨by rfl, ?_⟩) (by assumption) ?_; rotate_left 1; · (intro wz hSw; (try dsimp only at hSw); go_simp; try rfl)); (try simp only [Act.put, List.getElem_toArray, List.getElem_cons_succ, List.getElem_cons_zero, List.setIfInBounds_toArray, List.set_cons_zero, List.set_cons_succ])
                    refine wpAnyH_done (by kernel_rfl) ?_ _
                    go_wp2_with fail
                    go_ret
                    exact ⟨BoolIf.f, HCHB.out.trans (K7.out.trans K8.out)⟩
end Go.Proofs.YtgjpgfedlgdjhaaGreatDoor
