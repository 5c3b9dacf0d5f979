/- Members of the program: Fields. -/
import Derived.Test.YtgjpgfedlgdjhaaGreatDoorMt
import Derived.Deep.RegionLaw
set_option linter.unusedVariables false
set_option linter.unusedSimpArgs false
set_option maxRecDepth 8192
namespace Go.Proofs.YtgjpgfedlgdjhaaGreatDoor
open Go.RowKit Go.W

def fsOf (ms : List Mem) (i : Nat) : List (Nat × Vr) := match ms[i]? with | some m => m.fs.map (fun v => (i, v)) | none => []
/-- all fields of a class (or none) -/
def fieldsM (cs : List Cls) (ms : List Mem) (o : Option Nat) : List (Nat × Vr) := (chainO cs o).reverse.flatMap (fsOf ms)
theorem fieldsM_step {cs : List Cls} {ms : List Mem} (hno : NoRing cs) (i : Nat) : fieldsM cs ms (some i) = fieldsM cs ms (supN cs i) ++ fsOf ms i := by
  unfold fieldsM
  show (chainN cs i).reverse.flatMap _ = _
  rw [chainEq hno i, List.reverse_cons, List.flatMap_append]
  simp
def FvC (p : Nat × Vr) : List Value := [.int .i64 p.1, .string p.2.nm, .string p.2.ty, .slice none 0 0, .bool false, .bool false]
theorem FvC_len (p : Nat × Vr) : (FvC p).length = 6 := rfl
def FvOwn (w : World) (base : Nat) (v : Value) (l : List (Nat × Vr)) : Prop := w.ownsRow base 54 6 v l.length (l.flatMap FvC)
theorem FvOwn.nil (w : World) (base : Nat) : FvOwn w base (.slice none 0 0) [] := World.ownsRow_nil _ _ _ _
theorem FvOwn.no {w w' : World} {base : Nat} {v : Value} {l : List (Nat × Vr)} (h : FvOwn w base v l) (hc : Ch No w w') : FvOwn w' base v l := ownsRow_ch h hc (fun _ _ _ _ _ h => h)
theorem FvOwn.base {w : World} {base base' : Nat} {v : Value} {l : List (Nat × Vr)} (h : FvOwn w base v l) (hb : base' ≤ base) : FvOwn w base' v l := by
  refine ⟨h.1, ?_⟩
  rcases h.2 with h | ⟨g, cap, cur, h1, h2, h3⟩
  · exact .inl h
  · exact .inr ⟨g, cap, cur, h1, Nat.le_trans hb h2, h3⟩
theorem FvOwn.shape {w : World} {base : Nat} {v : Value} {l : List (Nat × Vr)} (h : FvOwn w base v l) : ∃ ao cap, v = .slice ao l.length cap ∧ l.length ≤ cap ∧ cap ≤ maxLen := by
  rcases h.2 with ⟨rfl, h0⟩ | ⟨g, cap, cur, rfl, _, _, h4, h5, _⟩
  · rw [h0]; exact ⟨_, _, rfl, Nat.le_refl _, Nat.zero_le _⟩
  · exact ⟨_, _, rfl, h4, h5⟩
theorem FvOwn.at_ {w : World} {base : Nat} {v : Value} {l : List (Nat × Vr)} (h : FvOwn w base v l) : RowAt w v 6 (l.map FvC) := by
  rcases h.2 with ⟨rfl, h0⟩ | ⟨g, cap, cur, rfl, hg, hh, h4, h5, h6, h7⟩
  · have : l = [] := List.length_eq_zero_iff.1 h0
    subst this
    exact ⟨none, 0, rfl, Nat.le_refl _, Nat.zero_le _, by simp, fun h => by simp at h⟩
  · refine ⟨some ⟨g, 0, none⟩, cap, by rw [List.length_map], by rw [List.length_map]; exact h4, h5, fun c hc => ?_, fun _ => ⟨g, 0, rfl, fun i c hi j hj => ?_⟩⟩
    · obtain ⟨k, _, rfl⟩ := List.mem_map.1 hc
      rfl
    · rw [List.getElem?_map] at hi
      cases hk : l[i]? with
      | none => rw [hk] at hi; cases hi
      | some k =>
        rw [hk] at hi
        have : c = FvC k := by simpa using hi.symm
        subst this
        have hil := (List.getElem?_eq_some_iff.1 hk).1
        rw [cellAt hh, Nat.zero_add, ← Array.getElem?_toList]
        have hf := flat_get FvC 6 FvC_len l i j k hk hj
        rw [← h7, List.getElem?_take, if_pos (by omega)] at hf
        exact hf
theorem Tryz.infoMember : (Tryz.prog.info? 54).map (fun i => (i.zero.map (fun z => z.cells.size), i.size, i.bytes)) = some (some 6, 6, 72) := by kernel_rfl
theorem Tryz.sliceMember : Tryz.prog.underlying 57 = some (.slice 54) := by kernel_rfl
/-- fields' names are told once each -/
def OnceF (ms : List Mem) : Prop := ∀ m ∈ ms, ∀ v ∈ m.fs, vrF m.fs v.nm = some v
/-- the fields are few -/
def FewF (ms : List Mem) : Prop := ∀ m ∈ ms, m.fs.length ≤ 100
theorem chainO_lt {cs : List Cls} (hno : NoRing cs) : ∀ (N i : Nat), rankN cs i ≤ N → (chainN cs i).length ≤ N + 1 := by
  intro N
  induction N using Nat.strongRecOn with
  | ind N ih =>
  intro i hi
  rw [chainEq hno i]
  cases hs : supN cs i with
  | none => simp [chainO]
  | some j =>
    have h1 := rank_lt hno i j (supN_up hs)
    have h2 := ih (rankN cs j) (by omega) j (Nat.le_refl _)
    show (chainN cs j).length + 1 ≤ _
    omega
theorem fsOf_len {ms : List Mem} (hf : FewF ms) (i : Nat) : (fsOf ms i).length ≤ 100 := by
  unfold fsOf
  cases hm : ms[i]? with
  | none => exact Nat.zero_le _
  | some m => simpa using hf m (List.mem_of_getElem? hm)
theorem flatMap_le {α β : Type} {f : α → List β} {n : Nat} (hf : ∀ x, (f x).length ≤ n) : ∀ l : List α, (l.flatMap f).length ≤ l.length * n
  | [] => by simp
  | x :: l => by
    rw [List.flatMap_cons, List.length_append, List.length_cons, Nat.succ_mul]
    have := hf x
    have := flatMap_le hf l
    omega
theorem fieldsM_len {cs : List Cls} {ms : List Mem} (hno : NoRing cs) (hf : FewF ms) (hl : cs.length ≤ 100) (o : Option Nat) : (fieldsM cs ms o).length ≤ 20000 := by
  unfold fieldsM
  have h1 := flatMap_le (fsOf_len hf) (chainO cs o).reverse
  rw [List.length_reverse] at h1
  have h2 : (chainO cs o).length ≤ 101 + 1 := by
    cases o with
    | none => exact Nat.zero_le _
    | some i =>
      have := chainO_lt hno (rankN cs i) i (Nat.le_refl _)
      have := rank_le (cs := cs) i
      show (chainN cs i).length ≤ _
      omega
  have : (chainO cs o).length * 100 ≤ 102 * 100 := Nat.mul_le_mul_right _ h2
  omega

set_option maxHeartbeats 8000000 in
theorem mfieldsNo {w : World} {mb : Nat} {cs : List Cls} {ms : List Mem} (h : MembIs w mb cs ms) {z : Int} (hz : ¬ (0 ≤ z ∧ z < cs.length)) :
    Calls Tryz.prog 19 #[.pointer (some ⟨mb, 0, none⟩), .int .i64 z] w fun e w' => ∃ v, e = .returned v ∧ FvOwn w' w.heap.size v [] ∧ Ch No w w' := by
  obtain ⟨cv, m0, m1, m2, m3, m4, m5, m6, m7, m8, xv, ov, bs, hm⟩ := h
  obtain ⟨oa, oc, hov, hoc, hom⟩ := hm.ownShape
  subst hov
  obtain ⟨len, hlen⟩ : ∃ len, cs.length = len := ⟨_, rfl⟩
  rw [hlen] at hm hoc hz
  unfold maxLen at hom
  have c11 := cellAt hm.blk 11
  have hzz : (0 ≤ z ∧ ¬ z < len) ∨ ¬ 0 ≤ z := by omega
  clear hm hz hlen
  rcases hzz with ⟨h0, h1⟩ | h1
  all_goals (
    go_enter Tryz.func19, Tryz.ntmps19
    go_wp2_with fail
    go_ret
    exact ⟨_, rfl, FvOwn.nil _ _, Ch.refl _ _⟩)

set_option maxHeartbeats 32000000 in
theorem mfields {cs : List Cls} {ms : List Mem} (hS0 : SoundP cs) (hno0 : NoRing cs) (hl0 : cs.length ≤ 100) (hln0 : ms.length = cs.length) (hon0 : OnceF ms) (hff0 : FewF ms) (hsz0 : SzM ms) : ∀ (N : Nat) {w : World} {mb : Nat} (z : Int) (o : Option Nat), MembIs w mb cs ms → MemsAt w cs ms → AtZ cs z o → (∀ i, o = some i → rankN cs i ≤ N) →
    Calls Tryz.prog 19 #[.pointer (some ⟨mb, 0, none⟩), .int .i64 z] w fun e w' => ∃ v, e = .returned v ∧ FvOwn w' w.heap.size v (fieldsM cs ms o) ∧ Ch No w w' := by
  intro N
  induction N using Nat.strongRecOn with
  | ind N ih =>
  intro w mb z o h hma hz hrk
  have hz0 := hz
  rcases hz with ⟨i, rfl, hi, rfl⟩ | ⟨rfl, hz⟩
  · have HM := hid h
    have HMA := hid hma
    obtain ⟨c, hcs⟩ : ∃ c, cs[i]? = some c := ⟨_, List.getElem?_eq_getElem hi⟩
    obtain ⟨m, hmi⟩ : ∃ m, ms[i]? = some m := ⟨_, List.getElem?_eq_getElem (by omega)⟩
    have hsa := supAtZ hcs (hS0 i c hcs)
    have hfe : Calls Tryz.prog 19 #[.pointer (some ⟨mb, 0, none⟩), .int .i64 (supZ cs c)] w fun e w' => ∃ v, e = .returned v ∧ FvOwn w' w.heap.size v (fieldsM cs ms (supN cs i)) ∧ Ch No w w' := by
      rcases hsa with ⟨j, ej, hj, ejo⟩ | ⟨ejo, hj⟩
      · have h1 := rank_lt hno0 i j (supN_up ejo)
        have h2 := hrk i rfl
        rw [ej, ejo]
        exact ih (rankN cs j) (by omega) _ (some j) h hma (AtZ.some hj) (fun i' e => by cases e; exact Nat.le_refl _)
      · rw [ejo]
        exact mfieldsNo h hj
    obtain ⟨cv, m0, m1, m2, m3, m4, m5, m6, m7, m8, xv, ov, bs, hm⟩ := h
    obtain ⟨ob, oo, oc, b1, b2, b3, hov, hoc, hom, hob, g0, g1, g2⟩ := hm.ownCell hi hmi
    subst hov
    obtain ⟨cb, co, cc, hcv, hcell, hcc, hcm⟩ := hm.clss.cell hcs
    subst hcv
    obtain ⟨xb, tb, abv, ss, hxv, hx⟩ := hm.typ
    subst hxv
    have hsu := tSuper hx.tab hcs
    have hvs := (hma.at_ i c m hcs hmi).fs
    obtain ⟨len, hlen⟩ : ∃ len, cs.length = len := ⟨_, rfl⟩
    have hil : i < len := by omega
    rw [hlen] at hm hoc hcc
    unfold maxLen at hom hcm
    obtain ⟨r4, hr4⟩ : ∃ r, c.s4 = r := ⟨_, rfl⟩
    have q4 := hcell.q4
    rw [hr4] at hvs q4
    obtain ⟨va, vn, vc⟩ := r4
    obtain ⟨hvn, hvc, hvm⟩ := hvs.shape
    dsimp only at hvs q4
    unfold maxLen at hvm
    have hvx : vn ≤ vc := by have h1 : vn = m.fs.length := hvn; have h2 : m.fs.length ≤ vc := hvc; omega
    have HVN := hid (show vn = m.fs.length from hvn)
    have hvl : vn ≤ 100 := by have h1 := hff0 m (List.mem_of_getElem? hmi); have := HVN.out; omega
    have HVS := hid hvs
    have HBLK := hid hm.blk
    have HOB := hid hob
    have HLEN := hid (fieldsM_len hno0 hff0 hl0 (supN cs i))
    have HSTEP := hid (fieldsM_step (ms := ms) hno0 i)
    have HFO := hid (show fsOf ms i = m.fs.map (fun v => (i, v)) from by unfold fsOf; rw [hmi])
    have HON := hid (hon0 m (List.mem_of_getElem? hmi))
    have HSZ := hid (hsz0 m (List.mem_of_getElem? hmi)).fs
    have HG0 := hid g0
    have HG1 := hid g1
    have HG2 := hid g2
    have HQ4 := hid q4
    have c10 := cellAt hm.blk 10
    have c11 := cellAt hm.blk 11
    have x0 := cellAt hx.blk 0
    obtain ⟨l1, hl1⟩ : ∃ l1, fieldsM cs ms (supN cs i) = l1 := ⟨_, rfl⟩
    rw [hl1] at hfe HLEN HSTEP
    clear hm hx hcs hmi hsa hi hma hz0 hrk ih hlen hr4 hcell hvn hvc hvs hob g0 g1 g2 q4 hl1
    go_enter Tryz.func19, Tryz.ntmps19
    go_wp2_with fail
    refine hsu.mono ?_
    rintro e w0 ⟨rfl, rfl⟩
    go_wp2_with fail
    refine hfe.mono ?_
    rintro e w1 ⟨v1, rfl, hv1, hc1⟩
    have HC1 := hid hc1
    have HV1 := hid hv1
    have hb1 := hc1.keep _ _ HBLK.out (fun h => h)
    have c0 := cellAt hb1 0
    have c11' := cellAt hb1 11
    have q4 := cell_ch HQ4.out hc1 (fun _ _ h => h)
    have hzz : w.heap.size ≤ w1.heap.size := hc1.size
    clear hsu hfe hc1 hv1 hb1 c10 c11 x0
    go_wp2_with fail
    go_loopg [40, 5, 7] vn (fun g s40 s5 s7 wr => ∃ k : Nat, k ≤ vn ∧ vn - k ≤ g ∧ s40 = .int .i64 k ∧ Hid (FvOwn wr w.heap.size s5 (l1 ++ (m.fs.take k).map (fun v => (i, v)))) ∧ Ch No w wr)
    case atStart => exact ⟨0, Nat.zero_le _, by omega, rfl, hid (by simpa using HV1.out), HC1.out⟩
    case round =>
      obtain ⟨k, hk, hg, rfl, HS, hc⟩ := hrel
      have HCR := hid hc
      have hsh := HS.out.shape
      obtain ⟨a5, c5, e5, hc5, hm5⟩ := hsh
      subst e5
      obtain ⟨L, hL⟩ : ∃ L, (l1 ++ (m.fs.take k).map (fun v => (i, v))).length = L := ⟨_, rfl⟩
      rw [hL] at hc5 HS ⊢
      unfold maxLen at hm5
      have hLk : L + 1 ≤ 100000 := by
        rw [← hL, List.length_append, List.length_map, List.length_take]
        have := HLEN.out
        omega
      have HLL := hid hL
      have hzr : w.heap.size ≤ wr.heap.size := hc.size
      clear hc hL c0 c11' q4
      cases hd : decide (k < vn) with
      | false =>
        have hkl : ¬ k < vn := by simpa using hd
        go_wp2_with fail
        go_ret
        have hs := HS.out
        rw [List.take_of_length_le (by have := HVN.out; omega)] at hs
        refine ⟨_, rfl, ?_, HCR.out⟩
        rw [HSTEP.out, HFO.out]
        exact hs
      | true =>
        have hkl : k < vn := by simpa using hd
        obtain ⟨v, hv⟩ : ∃ v, m.fs[k]? = some v := ⟨_, List.getElem?_eq_getElem (by have := HVN.out; omega)⟩
        obtain ⟨vb, vo, hva, hvc⟩ := (HVS.out.no HCR.out).cell hv
        obtain ⟨q0, q1, q2, q3⟩ := hvc
        subst hva
        obtain ⟨w7, hw7⟩ : ∃ w7, wr.alloc (.cells #[.string v.ty, .string v.nm, .int .i64 v.line, .int .i64 v.col] 64) = w7 := ⟨_, rfl⟩
        have hb7 := heap_alloc_new wr (.cells #[.string v.ty, .string v.nm, .int .i64 v.line, .int .i64 v.col] 64)
        have hc7 := (Ch.refl No wr).alloc (.cells #[.string v.ty, .string v.nm, .int .i64 v.line, .int .i64 v.col] 64)
        rw [hw7] at hb7 hc7
        have hcw := HCR.out.trans hc7
        have c11 := cellAt (hcw.keep _ _ HBLK.out (fun h => h)) 11
        have g0 := cell_ch HG0.out hcw (fun _ _ h => h)
        have g1 := cell_ch HG1.out hcw (fun _ _ h => h)
        have g2 := cell_ch HG2.out hcw (fun _ _ h => h)
        have v1' := cellAt hb7 1
        have hobw := HOB.out.no (hcw.trans ((Ch.refl No w7).drew))
        obtain ⟨n1, n2, n3, pv, hmp, _⟩ := hobw.ex
        have hlk := hmp.look lawS Tryz.underlying98 (zeroMem w7.drew) (keyS (HSZ.out v (List.mem_of_getElem? hv)).1)
        have hgv : getVr i false m.fs v.nm = some (mbV i v.nm v.ty none 0 0 false false) := by unfold getVr; rw [HON.out v (List.mem_of_getElem? hv)]; rfl
        rw [hgv] at hlk
        have hlk' : (Instr.lookup 98 (.map (some b1)) (.string v.nm) false).run Tryz.prog w7.drew = .ok (.agg #[.int .i64 i, .string v.nm, .string v.ty, .slice none 0 0, .bool false, .bool false]) w7.drew := hlk
        have hcd := (hc7.trans ((Ch.refl No w7).drew)).alloc (.cells #[.int .i64 i, .string v.nm, .string v.ty, .slice none 0 0, .bool false, .bool false] 54)
        have HCD := hid hcd
        have hrow := HS.out.no hcd
        have hrw : (w7.drew.alloc (.cells #[.int .i64 i, .string v.nm, .string v.ty, .slice none 0 0, .bool false, .bool false] 54)).ownsRow w.heap.size 54 6 (.slice a5 L c5) L ((l1 ++ (m.fs.take k).map (fun v => (i, v))).flatMap FvC) := by
          have h1 := hrow
          unfold FvOwn at h1
          rw [HLL.out] at h1
          exact h1
        have HROW := hid hrw
        have hbase : w.heap.size ≤ (w7.drew.alloc (.cells #[.int .i64 i, .string v.nm, .string v.ty, .slice none 0 0, .bool false, .bool false] 54)).heap.size := Nat.le_trans hzr hcd.size
        have HV := hid hv
        have h61 : ∀ u ∈ [Value.int .i64 (i : Int), .string v.nm, .string v.ty, .slice none 0 0, .bool false, .bool false], u.oneCell' = true := by
          intro u hu
          simp at hu
          rcases hu with rfl | rfl | rfl | rfl | rfl <;> rfl
        clear hb7 hc7 hcw hobw hmp hlk hgv hcd hrow hrw hv
        go_wp2_with fail
        go_region_law (refine step_appendOwn rfl _ _ rfl Tryz.sliceMember Tryz.infoMember (Nat.le_of_ble_eq_true rfl) (Nat.le_of_ble_eq_true rfl) w.heap.size (.slice a5 L c5) L _ rfl HROW.out w7.heap.size 1 1 [.int .i64 i, .string v.nm, .string v.ty, .slice none 0 0, .bool false, .bool false] rfl rfl (heap_alloc_new w7 _) h61 hLk hbase ?_; intro v8 w8 hr8 hc8)
        all_goals (
          go_wp2_with fail
          go_roundg (vn - k - 1)
          case rel =>
            have hc8' : Ch No w w8 := (HCR.out.trans HCD.out).trans' hc8 (fun j o ho e => by
              obtain ⟨h1, _⟩ := owned_typed HROW.out j e
              have := lt_size ho
              omega)
            refine ⟨k + 1, by omega, by omega, by go_num, hid ?_, hc8'⟩
            unfold FvOwn
            have e1 : l1 ++ (m.fs.take (k + 1)).map (fun v => (i, v)) = (l1 ++ (m.fs.take k).map (fun v => (i, v))) ++ [(i, v)] := by
              rw [List.take_add_one, HV.out, List.map_append, ← List.append_assoc]
              rfl
            rw [e1, List.length_append, HLL.out, List.flatMap_append]
            exact hr8
          case measure => omega)
  · exact mfieldsNo h hz
end Go.Proofs.YtgjpgfedlgdjhaaGreatDoor
