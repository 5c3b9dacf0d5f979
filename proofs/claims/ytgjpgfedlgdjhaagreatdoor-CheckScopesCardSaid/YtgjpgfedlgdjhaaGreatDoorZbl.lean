/- What the claim uses: part 38. -/
import Derived.Test.YtgjpgfedlgdjhaaGreatDoorZbk
import Derived.Deep.CutRange
section
set_option linter.unusedVariables false
set_option linter.unusedSimpArgs false
set_option maxRecDepth 8192
namespace Go.Proofs.YtgjpgfedlgdjhaaGreatDoor
open Go.RowKit Go.W
theorem eqIs {a b : ByteArray} : BoolIs (a = b) (.returned (.bool (a.toList == b.toList))) := ⟨_, rfl, by rw [streq]; simp⟩
set_option maxHeartbeats 2000000 in
theorem clVars1 {w : World} {x : Vr} {bx : Nat} {nm : ByteArray} (h : w.cell? ⟨bx, 1, none⟩ = some (.string nm)) :
   Calls Tryz.prog 115 #[.agg #[.string x.ty, .string x.nm, .int .i64 x.line, .int .i64 x.col], .pointer (some ⟨bx, 0, none⟩)] w fun e w' => BoolIs (x.nm = nm) e ∧ Ch No w w' := by
 have hl := block_lt_of_cell h
 go_enter Tryz.func115, Tryz.ntmps115
 go_wp2_with fail
 go_ret
 exact ⟨eqIs, (Ch.refl No w).alloc _⟩
set_option maxHeartbeats 2000000 in
theorem clRight3 {w : World} {x : Mt} {bx : Nat} {nm : ByteArray} (h : w.cell? ⟨bx, 1, none⟩ = some (.string nm)) :
   Calls Tryz.prog 85 #[.agg #[.string x.ret, .string x.nm, .bool x.st, .bool x.ba, .slice x.pa x.ps.length x.pc, .slice x.s5.1 x.s5.2.1 x.s5.2.2, .slice x.s6.1 x.s6.2.1 x.s6.2.2, .int .i64 x.line, .int .i64 x.col], .pointer (some ⟨bx, 0, none⟩)] w fun e w' => BoolIs (x.nm = nm) e ∧ Ch No w w' := by
 have hl := block_lt_of_cell h
 go_enter Tryz.func85, Tryz.ntmps85
 go_wp2_with fail
 go_ret
 exact ⟨eqIs, (Ch.refl No w).alloc _⟩
set_option maxHeartbeats 2000000 in
theorem clSound1 {w : World} {mb : Nat} {cs : List Cls} {ms : List Mem} (h : MembIs w mb cs ms) {bx : Nat} (hb : w.cell? ⟨bx, 0, none⟩ = some (.pointer (some ⟨mb, 0, none⟩))) {x : ByteArray} (hx : x.size ≤ maxLen) :
   Calls Tryz.prog 120 #[.string x, .pointer (some ⟨bx, 0, none⟩)] w fun e w' => BoolIs (¬ typedP cs x) e ∧ Ch No w w' := by
 have hty := mtyped h hx
 clear h hx
 go_enter Tryz.func120, Tryz.ntmps120
 go_wp2_with fail
 refine hty.mono ?_
 rintro e w' ⟨⟨r, rfl, hr⟩, hc⟩
 have HR := hid hr
 have HC := hid hc
 clear hr hc hty
 go_wp2_with fail
 go_ret
 refine ⟨⟨_, rfl, ?_⟩, HC.out⟩
 have := HR.out
 cases r <;> simp_all
set_option maxHeartbeats 4000000 in
theorem clRight1 {w : World} {mb : Nat} {cs : List Cls} {ms : List Mem} (h : MembIs w mb cs ms) (hS : SoundP cs) (hno : NoRing cs) (hln : ms.length = cs.length) (hfw : FewP ms) {z : Int} {o : Option Nat} (hz : AtZ cs z o) {nm : ByteArray} (hnz : nm.size ≤ maxLen)
   {b1 b2 : Nat} (h1 : w.cell? ⟨b1, 0, none⟩ = some (.pointer (some ⟨mb, 0, none⟩))) (h2 : w.cell? ⟨b2, 0, none⟩ = some (.int .i64 z)) :
   Calls Tryz.prog 81 #[.string nm, .pointer (some ⟨b1, 0, none⟩), .pointer (some ⟨b2, 0, none⟩)] w fun e w' => BoolIs ((upM cs lkField ms nm o) ≠ none) e ∧ Ch No w w' := by
 have hfi := mField h hS hno hln hfw hz hnz
 clear h hS hno hln hfw hz hnz
 cases hu : upM cs lkField ms nm o with
 | none =>
   rw [hu, Option.map_none] at hfi
   clear hu
   go_enter Tryz.func81, Tryz.ntmps81
   go_wp2_with fail
   refine hfi.mono ?_
   rintro e w3 ⟨rfl, hc3⟩
   have HC3 := hid hc3
   clear hfi hc3
   go_wp2_with fail
   go_ret
   exact ⟨BoolIs.f (by simp), HC3.out.alloc _⟩
 | some r =>
   obtain ⟨j, x⟩ := r
   rw [hu, Option.map_some] at hfi
   clear hu
   go_enter Tryz.func81, Tryz.ntmps81
   go_wp2_with fail
   refine hfi.mono ?_
   rintro e w3 ⟨⟨sa, sn, sc, rfl, hst⟩, hc3⟩
   have HC3 := hid hc3
   clear hfi hc3 hst
   go_wp2_with fail
   go_ret
   exact ⟨BoolIs.t (by simp), HC3.out.alloc _⟩
set_option maxHeartbeats 4000000 in
theorem clRight2 {w : World} {mb : Nat} {cs : List Cls} {ms : List Mem} (h : MembIs w mb cs ms) (hS : SoundP cs) (hno : NoRing cs) (hln : ms.length = cs.length) (hfw : FewP ms) {z : Int} {o : Option Nat} (hz : AtZ cs z o) {nm : ByteArray} (hnz : nm.size ≤ maxLen)
   {b1 b2 : Nat} (h1 : w.cell? ⟨b1, 0, none⟩ = some (.pointer (some ⟨mb, 0, none⟩))) (h2 : w.cell? ⟨b2, 0, none⟩ = some (.int .i64 z)) :
   Calls Tryz.prog 82 #[.string nm, .pointer (some ⟨b1, 0, none⟩), .pointer (some ⟨b2, 0, none⟩)] w fun e w' => BoolIs ((upM cs lkStatic ms nm o) ≠ none) e ∧ Ch No w w' := by
 have hfi := mStatic h hS hno hln hfw hz hnz
 clear h hS hno hln hfw hz hnz
 cases hu : upM cs lkStatic ms nm o with
 | none =>
   rw [hu, Option.map_none] at hfi
   clear hu
   go_enter Tryz.func82, Tryz.ntmps82
   go_wp2_with fail
   refine hfi.mono ?_
   rintro e w3 ⟨rfl, hc3⟩
   have HC3 := hid hc3
   clear hfi hc3
   go_wp2_with fail
   go_ret
   exact ⟨BoolIs.f (by simp), HC3.out.alloc _⟩
 | some r =>
   obtain ⟨j, x⟩ := r
   rw [hu, Option.map_some] at hfi
   clear hu
   go_enter Tryz.func82, Tryz.ntmps82
   go_wp2_with fail
   refine hfi.mono ?_
   rintro e w3 ⟨⟨sa, sn, sc, rfl, hst⟩, hc3⟩
   have HC3 := hid hc3
   clear hfi hc3 hst
   go_wp2_with fail
   go_ret
   exact ⟨BoolIs.t (by simp), HC3.out.alloc _⟩
theorem VarsAt.take {w : World} {ao : Option Addr} {n cap : Nat} {l : List Vr} (h : VarsAt w (.slice ao n cap) l) {k : Nat} (hk : k ≤ l.length) : VarsAt w (.slice ao k cap) (l.take k) := by
 obtain ⟨ao', cap', e, h1, h2, h3, h4⟩ := h
 rw [List.length_map] at e h1 h4
 cases e
 have hl : ((l.take k).map Vr.cells).length = k := by rw [List.length_map, List.length_take]; omega
 refine ⟨ao, cap, by rw [hl], by omega, h2, fun c hc => ?_, fun h0 => ?_⟩
 · obtain ⟨x, _, rfl⟩ := List.mem_map.1 hc
   rfl
 · obtain ⟨b, off, rfl, h5⟩ := h4 (by omega)
   refine ⟨b, off, rfl, fun i c hi j hj => h5 i c ?_ j hj⟩
   rw [List.getElem?_map] at hi ⊢
   cases hx : (l.take k)[i]? with
   | none => rw [hx] at hi; cases hi
   | some x =>
     rw [hx] at hi
     rw [List.getElem?_take] at hx
     split at hx
     · rw [hx]; exact hi
     · cases hx
theorem MtsAt.take {w : World} {ao : Option Addr} {n cap : Nat} {l : List Mt} (h : MtsAt w (.slice ao n cap) l) {k : Nat} (hk : k ≤ l.length) : MtsAt w (.slice ao k cap) (l.take k) := by
 refine ⟨?_, fun m hm => h.ps m (List.mem_of_mem_take hm)⟩
 obtain ⟨ao', cap', e, h1, h2, h3, h4⟩ := h.row
 rw [List.length_map] at e h1 h4
 cases e
 have hl : ((l.take k).map Mt.cells).length = k := by rw [List.length_map, List.length_take]; omega
 refine ⟨ao, cap, by rw [hl], by omega, h2, fun c hc => ?_, fun h0 => ?_⟩
 · obtain ⟨x, _, rfl⟩ := List.mem_map.1 hc
   rfl
 · obtain ⟨b, off, rfl, h5⟩ := h4 (by omega)
   refine ⟨b, off, rfl, fun i c hi j hj => h5 i c ?_ j hj⟩
   rw [List.getElem?_map] at hi ⊢
   cases hx : (l.take k)[i]? with
   | none => rw [hx] at hi; cases hi
   | some x =>
     rw [hx] at hi
     rw [List.getElem?_take] at hx
     split at hx
     · rw [hx]; exact hi
     · cases hx
theorem put2 {w : World} {b : Nat} {x0 x1 : Value} {t : TypeId} (h : w.heap[b]? = some (.cells #[x0, x1] t (0, 0))) (v0 v1 : Value) :
   ∃ wf, (w.setCell ⟨b, 0, none⟩ v0).setCell ⟨b, 1, none⟩ v1 = wf ∧ wf.heap[b]? = some (.cells #[v0, v1] t (0, 0)) ∧ Ch (fun k _ => k = b) w wf := by
 refine ⟨_, rfl, ?_, ((Ch.refl _ _).setCell (fun _ _ => rfl) _).setCell (fun _ _ => rfl) _⟩
 rw [setCell_heap (setCell_heap h 0 v0) 1 v1]
 rfl
def PosOut (Q : Prop) (e : Ending) : Prop := ∃ p q ok, e = .returned (.tuple #[.agg #[.int .i64 p, .int .i64 q], .bool ok]) ∧ (ok = true ↔ Q)
theorem PosOut.t {Q : Prop} {p q : Int} (h : Q) : PosOut Q (.returned (.tuple #[.agg #[.int .i64 p, .int .i64 q], .bool true])) := ⟨p, q, true, rfl, fun _ => h, fun _ => rfl⟩
theorem PosOut.f {Q : Prop} {p q : Int} (h : ¬ Q) : PosOut Q (.returned (.tuple #[.agg #[.int .i64 p, .int .i64 q], .bool false])) := ⟨p, q, false, rfl, (fun h => by cases h), fun h' => absurd h' h⟩
def VarOk (cs : List Cls) (lk : Nat → Mem → ByteArray → Option MbR) (ms : List Mem) (o : Option Nat) (l : List Vr) (k : Nat) : Prop :=
 ∀ v, l[k]? = some v → typedP cs v.ty ∧ (∀ u ∈ l.take k, u.nm ≠ v.nm) ∧ upM cs lk ms v.nm o = none
def VarsOk (cs : List Cls) (lk : Nat → Mem → ByteArray → Option MbR) (ms : List Mem) (o : Option Nat) (l : List Vr) : Prop := ∀ k, k < l.length → VarOk cs lk ms o l k
set_option maxHeartbeats 16000000 in
theorem mvarsField {w : World} {mb : Nat} {cs : List Cls} {ms : List Mem} (h : MembIs w mb cs ms) (hS : SoundP cs) (hno : NoRing cs) (hln : ms.length = cs.length) (hfw : FewP ms) {z : Int} {o : Option Nat} (hz : AtZ cs z o)
   {va : Option Addr} {vn vc : Nat} {l : List Vr} (hv : VarsAt w (.slice va vn vc) l) (hsz : ∀ v ∈ l, v.nm.size ≤ maxLen ∧ v.ty.size ≤ maxLen)
   {b1 b2 : Nat} (h1 : w.cell? ⟨b1, 0, none⟩ = some (.pointer (some ⟨mb, 0, none⟩))) (h2 : w.cell? ⟨b2, 0, none⟩ = some (.int .i64 z)) :
   Calls Tryz.prog 80 #[.pointer (some ⟨mb, 0, none⟩), .slice va vn vc, .func (.func 81) #[] #[.pointer (some ⟨b1, 0, none⟩), .pointer (some ⟨b2, 0, none⟩)]] w fun e w' => PosOut (VarsOk cs lkField ms o l) e ∧ Ch No w w' := by
 have hmf : ∀ (fn : Fn) (first cap : Array Value) (w : World), (Instr.makeFunc fn first cap).run Tryz.prog w = .ok (.func fn first cap) w := fun _ _ _ _ => rfl
 obtain ⟨hvn, hvc, hvm⟩ := hv.shape
 unfold maxLen at hvm
 have hvx : vn ≤ vc := by have h1 : vn = l.length := hvn; have h2 : l.length ≤ vc := hvc; omega
 have HVN := hid (show vn = l.length from hvn)
 obtain ⟨w1, hw1⟩ : ∃ w1, w.alloc (.cells #[.int .i64 0, .int .i64 0] 27) = w1 := ⟨_, rfl⟩
 have hb1 := heap_alloc_new w (.cells #[.int .i64 0, .int .i64 0] 27)
 have hc1 := (Ch.refl No w).alloc (.cells #[.int .i64 0, .int .i64 0] 27)
 rw [hw1] at hb1 hc1
 have HM := hid (h.no hc1)
 have HV := hid (hv.no hc1)
 have HS := hid hS
 have HNO := hid hno
 have HLN := hid hln
 have HFW := hid hfw
 have HZ := hid hz
 have HSZ := hid hsz
 have H1 := hid (cell_ch h1 hc1 (fun _ _ h => h))
 have H2 := hid (cell_ch h2 hc1 (fun _ _ h => h))
 have HC1 := hid hc1
 have HB1 := hid hb1
 clear h hS hno hln hfw hz hv hsz h1 h2 hc1 hb1 hvn hvc
 go_enter Tryz.func80, Tryz.ntmps80
 go_wp2_with fail
 clear hw1
 go_loopg [13, 8, 9, 10] vn (fun g s13 s8 s9 s10 wr => ∃ k : Nat, k ≤ vn ∧ vn - k ≤ g ∧ s13 = .int .i64 k ∧ Hid (∀ q, q < k → VarOk cs lkField ms o l q) ∧ Ch No w1 wr)
 case atStart => exact ⟨0, Nat.zero_le _, by omega, rfl, hid (fun q hq => absurd hq (Nat.not_lt_zero q)), Ch.refl _ _⟩
 case round =>
   obtain ⟨k, hk, hg, rfl, HA, hcr⟩ := hrel
   have HCR := hid hcr
   have HBR := hid (hcr.keep _ _ HB1.out (fun h => h))
   have hzr := hcr.size
   have hbr := HBR.out
   have a0 := cellAt hbr 0
   have a1 := cellAt hbr 1
   have f0 := freeAt hbr 0
   have f1 := freeAt hbr 1
   clear hcr hbr
   cases hd : decide (k < vn) with
   | false =>
     have hkl : ¬ k < vn := by simpa using hd
     go_wp2_with fail
     obtain ⟨wf, hwf, hfb, hfc⟩ := put2 HBR.out (.int .i64 0) (.int .i64 0)
     rw [hwf]
     have k0 := cellAt hfb 0
     have k1 := cellAt hfb 1
     refine bodyPost_ret (v := .tuple #[.agg #[.int .i64 0, .int .i64 0], .bool true]) (by simp [results, Tryz.results80, go_sem, k0, k1]) rfl ?_
     exact ⟨PosOut.t (fun q hq => HA.out q (by have := HVN.out; omega)), Ch.newOnly (HC1.out.trans HCR.out) hfc (fun k _ _ e => Nat.le_of_eq (show k = w.heap.size from e).symm)⟩
   | true =>
     have hkl : k < vn := by simpa using hd
     obtain ⟨v, hv⟩ : ∃ v, l[k]? = some v := ⟨_, List.getElem?_eq_getElem (by have := HVN.out; omega)⟩
     have hvr := HV.out.no HCR.out
     obtain ⟨vb, vo, hva, q0, q1, q2, q3⟩ := hvr.cell hv
     obtain ⟨w7, hw7⟩ : ∃ w7, wr.alloc (.cells #[.string v.ty, .string v.nm, .int .i64 v.line, .int .i64 v.col] 64) = w7 := ⟨_, rfl⟩
     have hb7 := heap_alloc_new wr (.cells #[.string v.ty, .string v.nm, .int .i64 v.line, .int .i64 v.col] 64)
     have hc7 := (Ch.refl No wr).alloc (.cells #[.string v.ty, .string v.nm, .int .i64 v.line, .int .i64 v.col] 64)
     rw [hw7] at hb7 hc7
     have HB7 := hid hb7
     have hcont := contV (bx := wr.heap.size) (idxV (bx := wr.heap.size) ((hvr.take (k := k) (by have := HVN.out; omega)).no hc7) (fun u => u.nm = v.nm) (fun wz x hcz hx => clVars1 (cellAt (hcz.keep _ _ HB7.out (fun h => h)) 1)))
     have HVK := hid hv
     have HC7 := hid (HCR.out.trans hc7)
     have y7 := lt_size hb7
     subst hva
     clear hvr hb7 hc7 hv
     go_wp2_with fail
     refine hcont.mono ?_
     rintro e w8 ⟨⟨r8, rfl, hr8⟩, hc8⟩
     have K8 := hid hc8
     have HR8 := hid hr8
     have hb8 := hc8.keep _ _ HB7.out (fun h => h)
     have g0 := cellAt hb8 0
     have g1 := cellAt hb8 1
     have g2 := cellAt hb8 2
     have g3 := cellAt hb8 3
     have HC8 := hid (HC7.out.trans hc8)
     have HBR8 := hid (HC8.out.keep _ _ HB1.out (fun h => h))
     have hbr8 := HBR8.out
     have a0 := cellAt hbr8 0
     have a1 := cellAt hbr8 1
     have f0 := freeAt hbr8 0
     have f1 := freeAt hbr8 1
     have z8 := hc8.size
     clear hcont hc8 hr8 hb8 hbr8 hw7 q0 q1 q2 q3
     cases r8 with
     | true =>
       go_wp2_with fail
       have HBAD := hid (show ¬ VarsOk cs lkField ms o l from fun ha => by
         obtain ⟨u, hu, hn⟩ := HR8.out.1 (by first | rfl | trivial)
         exact (ha k (by have := HVN.out; omega) v HVK.out).2.1 u hu hn)
       obtain ⟨wf, hwf, hfb, hfc⟩ := put2 HBR8.out (.int .i64 v.line) (.int .i64 v.col)
       rw [hwf]
       have k0 := cellAt hfb 0
       have k1 := cellAt hfb 1
       refine bodyPost_ret (v := .tuple #[.agg #[.int .i64 v.line, .int .i64 v.col], .bool false]) (by simp [results, Tryz.results80, go_sem, k0, k1]) rfl ?_
       exact ⟨PosOut.f HBAD.out, Ch.newOnly (HC1.out.trans HC8.out) hfc (fun k _ _ e => Nat.le_of_eq (show k = w.heap.size from e).symm)⟩
     | false =>
       have HNT := hid (show ∀ u ∈ l.take k, u.nm ≠ v.nm from fun u hu hn => by
         have h0 := HR8.out.2 ⟨u, hu, hn⟩
         first | cases h0 | exact h0)
       have hty := mtyped (HM.out.no HC8.out) (HSZ.out v (List.mem_of_getElem? HVK.out)).2
       go_wp2_with fail
       refine hty.mono ?_
       rintro e w9 ⟨⟨r9, rfl, hr9⟩, hc9⟩
       have HR9 := hid hr9
       have hb9 := hc9.keep _ _ (K8.out.keep _ _ HB7.out (fun h => h)) (fun h => h)
       have g0 := cellAt hb9 0
       have g1 := cellAt hb9 1
       have g2 := cellAt hb9 2
       have g3 := cellAt hb9 3
       have HC9 := hid (HC8.out.trans hc9)
       have HBR9 := hid (HC9.out.keep _ _ HB1.out (fun h => h))
       have hbr9 := HBR9.out
       have a0 := cellAt hbr9 0
       have a1 := cellAt hbr9 1
       have f0 := freeAt hbr9 0
       have f1 := freeAt hbr9 1
       have z9 := hc9.size
       have HB79 := hid hb9
       clear hty hc9 hr9 hb9 hbr9
       cases r9 with
       | false =>
         have HBAD := hid (show ¬ VarsOk cs lkField ms o l from fun ha => by
           have h0 := HR9.out.2 (ha k (by have := HVN.out; omega) v HVK.out).1
           first | cases h0 | exact h0)
         go_wp2_with fail
         obtain ⟨wf, hwf, hfb, hfc⟩ := put2 HBR9.out (.int .i64 v.line) (.int .i64 v.col)
         rw [hwf]
         have k0 := cellAt hfb 0
         have k1 := cellAt hfb 1
         refine bodyPost_ret (v := .tuple #[.agg #[.int .i64 v.line, .int .i64 v.col], .bool false]) (by simp [results, Tryz.results80, go_sem, k0, k1]) rfl ?_
         exact ⟨PosOut.f HBAD.out, Ch.newOnly (HC1.out.trans HC9.out) hfc (fun k _ _ e => Nat.le_of_eq (show k = w.heap.size from e).symm)⟩
       | true =>
         have HTY := hid (HR9.out.1 (by first | rfl | trivial))
         have hha := clRight1 (HM.out.no HC9.out) HS.out HNO.out HLN.out HFW.out HZ.out (HSZ.out v (List.mem_of_getElem? HVK.out)).1 (cell_ch H1.out HC9.out (fun _ _ h => h)) (cell_ch H2.out HC9.out (fun _ _ h => h))
         go_wp2_with fail
         refine hha.mono ?_
         rintro e wa ⟨⟨ra, rfl, hra⟩, hca⟩
         have HRA := hid hra
         have hba := hca.keep _ _ HB79.out (fun h => h)
         have g0 := cellAt hba 0
         have g1 := cellAt hba 1
         have g2 := cellAt hba 2
         have g3 := cellAt hba 3
         have HCA := hid (HC9.out.trans hca)
         have HBRA := hid (HCA.out.keep _ _ HB1.out (fun h => h))
         have hbra := HBRA.out
         have a0 := cellAt hbra 0
         have a1 := cellAt hbra 1
         have f0 := freeAt hbra 0
         have f1 := freeAt hbra 1
         have za := hca.size
         clear hha hca hra hba hbra
         cases ra with
         | true =>
           have HBAD := hid (show ¬ VarsOk cs lkField ms o l from fun ha => by
             exact (HRA.out.1 (by first | rfl | trivial)) (ha k (by have := HVN.out; omega) v HVK.out).2.2)
           go_wp2_with fail
           obtain ⟨wf, hwf, hfb, hfc⟩ := put2 HBRA.out (.int .i64 v.line) (.int .i64 v.col)
           rw [hwf]
           have k0 := cellAt hfb 0
           have k1 := cellAt hfb 1
           refine bodyPost_ret (v := .tuple #[.agg #[.int .i64 v.line, .int .i64 v.col], .bool false]) (by simp [results, Tryz.results80, go_sem, k0, k1]) rfl ?_
           exact ⟨PosOut.f HBAD.out, Ch.newOnly (HC1.out.trans HCA.out) hfc (fun k _ _ e => Nat.le_of_eq (show k = w.heap.size from e).symm)⟩
         | false =>
           have HUN := hid (show upM cs lkField ms v.nm o = none from by
             cases hu : upM cs lkField ms v.nm o with
             | none => rfl
             | some r =>
               have h0 := HRA.out.2 (by rw [hu]; simp)
               first | cases h0 | exact h0.elim)
           go_wp2_with fail
           go_roundg (vn - k - 1)
           case rel =>
             refine ⟨k + 1, by omega, by omega, by go_num, hid fun q hq => ?_, HCA.out⟩
             by_cases h1 : q < k
             · exact HA.out q h1
             · obtain rfl : q = k := by omega
               intro v' hv'
               rw [HVK.out] at hv'; cases hv'
               exact ⟨HTY.out, HNT.out, HUN.out⟩
           case measure => omega
set_option maxHeartbeats 16000000 in
theorem mvarsStatic {w : World} {mb : Nat} {cs : List Cls} {ms : List Mem} (h : MembIs w mb cs ms) (hS : SoundP cs) (hno : NoRing cs) (hln : ms.length = cs.length) (hfw : FewP ms) {z : Int} {o : Option Nat} (hz : AtZ cs z o)
   {va : Option Addr} {vn vc : Nat} {l : List Vr} (hv : VarsAt w (.slice va vn vc) l) (hsz : ∀ v ∈ l, v.nm.size ≤ maxLen ∧ v.ty.size ≤ maxLen)
   {b1 b2 : Nat} (h1 : w.cell? ⟨b1, 0, none⟩ = some (.pointer (some ⟨mb, 0, none⟩))) (h2 : w.cell? ⟨b2, 0, none⟩ = some (.int .i64 z)) :
   Calls Tryz.prog 80 #[.pointer (some ⟨mb, 0, none⟩), .slice va vn vc, .func (.func 82) #[] #[.pointer (some ⟨b1, 0, none⟩), .pointer (some ⟨b2, 0, none⟩)]] w fun e w' => PosOut (VarsOk cs lkStatic ms o l) e ∧ Ch No w w' := by
 have hmf : ∀ (fn : Fn) (first cap : Array Value) (w : World), (Instr.makeFunc fn first cap).run Tryz.prog w = .ok (.func fn first cap) w := fun _ _ _ _ => rfl
 obtain ⟨hvn, hvc, hvm⟩ := hv.shape
 unfold maxLen at hvm
 have hvx : vn ≤ vc := by have h1 : vn = l.length := hvn; have h2 : l.length ≤ vc := hvc; omega
 have HVN := hid (show vn = l.length from hvn)
 obtain ⟨w1, hw1⟩ : ∃ w1, w.alloc (.cells #[.int .i64 0, .int .i64 0] 27) = w1 := ⟨_, rfl⟩
 have hb1 := heap_alloc_new w (.cells #[.int .i64 0, .int .i64 0] 27)
 have hc1 := (Ch.refl No w).alloc (.cells #[.int .i64 0, .int .i64 0] 27)
 rw [hw1] at hb1 hc1
 have HM := hid (h.no hc1)
 have HV := hid (hv.no hc1)
 have HS := hid hS
 have HNO := hid hno
 have HLN := hid hln
 have HFW := hid hfw
 have HZ := hid hz
 have HSZ := hid hsz
 have H1 := hid (cell_ch h1 hc1 (fun _ _ h => h))
 have H2 := hid (cell_ch h2 hc1 (fun _ _ h => h))
 have HC1 := hid hc1
 have HB1 := hid hb1
 clear h hS hno hln hfw hz hv hsz h1 h2 hc1 hb1 hvn hvc
 go_enter Tryz.func80, Tryz.ntmps80
 go_wp2_with fail
 clear hw1
 go_loopg [13, 8, 9, 10] vn (fun g s13 s8 s9 s10 wr => ∃ k : Nat, k ≤ vn ∧ vn - k ≤ g ∧ s13 = .int .i64 k ∧ Hid (∀ q, q < k → VarOk cs lkStatic ms o l q) ∧ Ch No w1 wr)
 case atStart => exact ⟨0, Nat.zero_le _, by omega, rfl, hid (fun q hq => absurd hq (Nat.not_lt_zero q)), Ch.refl _ _⟩
 case round =>
   obtain ⟨k, hk, hg, rfl, HA, hcr⟩ := hrel
   have HCR := hid hcr
   have HBR := hid (hcr.keep _ _ HB1.out (fun h => h))
   have hzr := hcr.size
   have hbr := HBR.out
   have a0 := cellAt hbr 0
   have a1 := cellAt hbr 1
   have f0 := freeAt hbr 0
   have f1 := freeAt hbr 1
   clear hcr hbr
   cases hd : decide (k < vn) with
   | false =>
     have hkl : ¬ k < vn := by simpa using hd
     go_wp2_with fail
     obtain ⟨wf, hwf, hfb, hfc⟩ := put2 HBR.out (.int .i64 0) (.int .i64 0)
     rw [hwf]
     have k0 := cellAt hfb 0
     have k1 := cellAt hfb 1
     refine bodyPost_ret (v := .tuple #[.agg #[.int .i64 0, .int .i64 0], .bool true]) (by simp [results, Tryz.results80, go_sem, k0, k1]) rfl ?_
     exact ⟨PosOut.t (fun q hq => HA.out q (by have := HVN.out; omega)), Ch.newOnly (HC1.out.trans HCR.out) hfc (fun k _ _ e => Nat.le_of_eq (show k = w.heap.size from e).symm)⟩
   | true =>
     have hkl : k < vn := by simpa using hd
     obtain ⟨v, hv⟩ : ∃ v, l[k]? = some v := ⟨_, List.getElem?_eq_getElem (by have := HVN.out; omega)⟩
     have hvr := HV.out.no HCR.out
     obtain ⟨vb, vo, hva, q0, q1, q2, q3⟩ := hvr.cell hv
     obtain ⟨w7, hw7⟩ : ∃ w7, wr.alloc (.cells #[.string v.ty, .string v.nm, .int .i64 v.line, .int .i64 v.col] 64) = w7 := ⟨_, rfl⟩
     have hb7 := heap_alloc_new wr (.cells #[.string v.ty, .string v.nm, .int .i64 v.line, .int .i64 v.col] 64)
     have hc7 := (Ch.refl No wr).alloc (.cells #[.string v.ty, .string v.nm, .int .i64 v.line, .int .i64 v.col] 64)
     rw [hw7] at hb7 hc7
     have HB7 := hid hb7
     have hcont := contV (bx := wr.heap.size) (idxV (bx := wr.heap.size) ((hvr.take (k := k) (by have := HVN.out; omega)).no hc7) (fun u => u.nm = v.nm) (fun wz x hcz hx => clVars1 (cellAt (hcz.keep _ _ HB7.out (fun h => h)) 1)))
     have HVK := hid hv
     have HC7 := hid (HCR.out.trans hc7)
     have y7 := lt_size hb7
     subst hva
     clear hvr hb7 hc7 hv
     go_wp2_with fail
     refine hcont.mono ?_
     rintro e w8 ⟨⟨r8, rfl, hr8⟩, hc8⟩
     have K8 := hid hc8
     have HR8 := hid hr8
     have hb8 := hc8.keep _ _ HB7.out (fun h => h)
     have g0 := cellAt hb8 0
     have g1 := cellAt hb8 1
     have g2 := cellAt hb8 2
     have g3 := cellAt hb8 3
     have HC8 := hid (HC7.out.trans hc8)
     have HBR8 := hid (HC8.out.keep _ _ HB1.out (fun h => h))
     have hbr8 := HBR8.out
     have a0 := cellAt hbr8 0
     have a1 := cellAt hbr8 1
     have f0 := freeAt hbr8 0
     have f1 := freeAt hbr8 1
     have z8 := hc8.size
     clear hcont hc8 hr8 hb8 hbr8 hw7 q0 q1 q2 q3
     cases r8 with
     | true =>
       go_wp2_with fail
       have HBAD := hid (show ¬ VarsOk cs lkStatic ms o l from fun ha => by
         obtain ⟨u, hu, hn⟩ := HR8.out.1 (by first | rfl | trivial)
         exact (ha k (by have := HVN.out; omega) v HVK.out).2.1 u hu hn)
       obtain ⟨wf, hwf, hfb, hfc⟩ := put2 HBR8.out (.int .i64 v.line) (.int .i64 v.col)
       rw [hwf]
       have k0 := cellAt hfb 0
       have k1 := cellAt hfb 1
       refine bodyPost_ret (v := .tuple #[.agg #[.int .i64 v.line, .int .i64 v.col], .bool false]) (by simp [results, Tryz.results80, go_sem, k0, k1]) rfl ?_
       exact ⟨PosOut.f HBAD.out, Ch.newOnly (HC1.out.trans HC8.out) hfc (fun k _ _ e => Nat.le_of_eq (show k = w.heap.size from e).symm)⟩
     | false =>
       have HNT := hid (show ∀ u ∈ l.take k, u.nm ≠ v.nm from fun u hu hn => by
         have h0 := HR8.out.2 ⟨u, hu, hn⟩
         first | cases h0 | exact h0)
       have hty := mtyped (HM.out.no HC8.out) (HSZ.out v (List.mem_of_getElem? HVK.out)).2
       go_wp2_with fail
       refine hty.mono ?_
       rintro e w9 ⟨⟨r9, rfl, hr9⟩, hc9⟩
       have HR9 := hid hr9
       have hb9 := hc9.keep _ _ (K8.out.keep _ _ HB7.out (fun h => h)) (fun h => h)
       have g0 := cellAt hb9 0
       have g1 := cellAt hb9 1
       have g2 := cellAt hb9 2
       have g3 := cellAt hb9 3
       have HC9 := hid (HC8.out.trans hc9)
       have HBR9 := hid (HC9.out.keep _ _ HB1.out (fun h => h))
       have hbr9 := HBR9.out
       have a0 := cellAt hbr9 0
       have a1 := cellAt hbr9 1
       have f0 := freeAt hbr9 0
       have f1 := freeAt hbr9 1
       have z9 := hc9.size
       have HB79 := hid hb9
       clear hty hc9 hr9 hb9 hbr9
       cases r9 with
       | false =>
         have HBAD := hid (show ¬ VarsOk cs lkStatic ms o l from fun ha => by
           have h0 := HR9.out.2 (ha k (by have := HVN.out; omega) v HVK.out).1
           first | cases h0 | exact h0)
         go_wp2_with fail
         obtain ⟨wf, hwf, hfb, hfc⟩ := put2 HBR9.out (.int .i64 v.line) (.int .i64 v.col)
         rw [hwf]
         have k0 := cellAt hfb 0
         have k1 := cellAt hfb 1
         refine bodyPost_ret (v := .tuple #[.agg #[.int .i64 v.line, .int .i64 v.col], .bool false]) (by simp [results, Tryz.results80, go_sem, k0, k1]) rfl ?_
         exact ⟨PosOut.f HBAD.out, Ch.newOnly (HC1.out.trans HC9.out) hfc (fun k _ _ e => Nat.le_of_eq (show k = w.heap.size from e).symm)⟩
       | true =>
         have HTY := hid (HR9.out.1 (by first | rfl | trivial))
         have hha := clRight2 (HM.out.no HC9.out) HS.out HNO.out HLN.out HFW.out HZ.out (HSZ.out v (List.mem_of_getElem? HVK.out)).1 (cell_ch H1.out HC9.out (fun _ _ h => h)) (cell_ch H2.out HC9.out (fun _ _ h => h))
         go_wp2_with fail
         refine hha.mono ?_
         rintro e wa ⟨⟨ra, rfl, hra⟩, hca⟩
         have HRA := hid hra
         have hba := hca.keep _ _ HB79.out (fun h => h)
         have g0 := cellAt hba 0
         have g1 := cellAt hba 1
         have g2 := cellAt hba 2
         have g3 := cellAt hba 3
         have HCA := hid (HC9.out.trans hca)
         have HBRA := hid (HCA.out.keep _ _ HB1.out (fun h => h))
         have hbra := HBRA.out
         have a0 := cellAt hbra 0
         have a1 := cellAt hbra 1
         have f0 := freeAt hbra 0
         have f1 := freeAt hbra 1
         have za := hca.size
         clear hha hca hra hba hbra
         cases ra with
         | true =>
           have HBAD := hid (show ¬ VarsOk cs lkStatic ms o l from fun ha => by
             exact (HRA.out.1 (by first | rfl | trivial)) (ha k (by have := HVN.out; omega) v HVK.out).2.2)
           go_wp2_with fail
           obtain ⟨wf, hwf, hfb, hfc⟩ := put2 HBRA.out (.int .i64 v.line) (.int .i64 v.col)
           rw [hwf]
           have k0 := cellAt hfb 0
           have k1 := cellAt hfb 1
           refine bodyPost_ret (v := .tuple #[.agg #[.int .i64 v.line, .int .i64 v.col], .bool false]) (by simp [results, Tryz.results80, go_sem, k0, k1]) rfl ?_
           exact ⟨PosOut.f HBAD.out, Ch.newOnly (HC1.out.trans HCA.out) hfc (fun k _ _ e => Nat.le_of_eq (show k = w.heap.size from e).symm)⟩
         | false =>
           have HUN := hid (show upM cs lkStatic ms v.nm o = none from by
             cases hu : upM cs lkStatic ms v.nm o with
             | none => rfl
             | some r =>
               have h0 := HRA.out.2 (by rw [hu]; simp)
               first | cases h0 | exact h0.elim)
           go_wp2_with fail
           go_roundg (vn - k - 1)
           case rel =>
             refine ⟨k + 1, by omega, by omega, by go_num, hid fun q hq => ?_, HCA.out⟩
             by_cases h1 : q < k
             · exact HA.out q h1
             · obtain rfl : q = k := by omega
               intro v' hv'
               rw [HVK.out] at hv'; cases hv'
               exact ⟨HTY.out, HNT.out, HUN.out⟩
           case measure => omega
end Go.Proofs.YtgjpgfedlgdjhaaGreatDoor
end
