/- What the claim uses: part 35. -/
import Derived.Test.YtgjpgfedlgdjhaaGreatDoorZbh
section
set_option linter.unusedVariables false
set_option linter.unusedSimpArgs false
set_option maxRecDepth 8192
namespace Go.Proofs.YtgjpgfedlgdjhaaGreatDoor
open Go.RowKit Go.W
set_option maxHeartbeats 8000000 in
theorem mField {w : World} {mb : Nat} {cs : List Cls} {ms : List Mem} (h : MembIs w mb cs ms) (hS : SoundP cs) (hno : NoRing cs) (hln : ms.length = cs.length) (hfw : FewP ms) {z : Int} {o : Option Nat} (hz : AtZ cs z o) {nm : ByteArray} (hnz : nm.size ≤ maxLen) :
   Calls Tryz.prog 21 #[.pointer (some ⟨mb, 0, none⟩), .int .i64 z, .string nm] w (UpOut ((upM cs lkField ms nm o).map Prod.snd) w) := by
 have hmf : ∀ (fn : Fn) (first cap : Array Value) (w : World), (Instr.makeFunc fn first cap).run Tryz.prog w = .ok (.func fn first cap) w := fun _ _ _ _ => rfl
 obtain ⟨w1, hw1⟩ : ∃ w1, w.alloc (.cells #[.string nm] 9) = w1 := ⟨_, rfl⟩
 have hb1 := heap_alloc_new w (.cells #[.string nm] 9)
 have hc1 := (Ch.refl No w).alloc (.cells #[.string nm] 9)
 rw [hw1] at hb1 hc1
 obtain ⟨w2, hw2⟩ : ∃ w2, w1.alloc (.cells #[.int .i64 0, .string ⟨#[]⟩, .string ⟨#[]⟩, .slice none 0 0, .bool false, .bool false] 54) = w2 := ⟨_, rfl⟩
 have hb2 := heap_alloc_new w1 (.cells #[.int .i64 0, .string ⟨#[]⟩, .string ⟨#[]⟩, .slice none 0 0, .bool false, .bool false] 54)
 have hc2 := (Ch.refl No w1).alloc (.cells #[.int .i64 0, .string ⟨#[]⟩, .string ⟨#[]⟩, .slice none 0 0, .bool false, .bool false] 54)
 rw [hw2] at hb2 hc2
 have HC := hid (hc1.trans hc2)
 have HB2 := hid hb2
 have hzw := hc1.size
 have hzw2 := lt_size hb2
 have hup := upField (h.no HC.out) hS hno hln hfw hz hnz (cellAt (hc2.keep _ _ hb1 (fun h => h)) 0)
 clear h hS hno hln hfw hz hnz hb1 hb2 hc1 hc2
 cases hr : (upM cs lkField ms nm o).map Prod.snd with
 | none =>
   rw [hr] at hup
   clear hr
   go_enter Tryz.func21, Tryz.ntmps21
   go_wp2_with fail
   refine hup.mono ?_
   rintro e w3 ⟨rfl, hc3⟩
   have HC3 := hid (HC.out.trans hc3)
   have HB3 := hid (hc3.keep _ _ HB2.out (fun h => h))
   have hb3 := HB3.out
   have a0 := cellAt hb3 0
   have a1 := cellAt hb3 1
   have a2 := cellAt hb3 2
   have a3 := cellAt hb3 3
   have a4 := cellAt hb3 4
   have a5 := cellAt hb3 5
   have f0 := freeAt hb3 0
   have f1 := freeAt hb3 1
   have f2 := freeAt hb3 2
   have f3 := freeAt hb3 3
   have f4 := freeAt hb3 4
   have f5 := freeAt hb3 5
   clear hb3 hc3 hup hw1 hw2
   go_wp2_with fail
   obtain ⟨wf, hwf, hfb, hfc⟩ := put6 HB3.out (.int .i64 0) (.string ⟨#[]⟩) (.string ⟨#[]⟩) (.slice none 0 0) (.bool false) (.bool false)
   rw [hwf]
   have k0 := cellAt hfb 0
   have k1 := cellAt hfb 1
   have k2 := cellAt hfb 2
   have k3 := cellAt hfb 3
   have k4 := cellAt hfb 4
   have k5 := cellAt hfb 5
   refine bodyPost_ret (v := .tuple #[.agg #[.int .i64 0, .string ⟨#[]⟩, .string ⟨#[]⟩, .slice none 0 0, .bool false, .bool false], .bool false]) (by simp [results, Tryz.results21, go_sem, k0, k1, k2, k3, k4, k5]) rfl ?_
   exact ⟨rfl, Ch.newOnly HC3.out hfc (fun k _ _ e => by have e' : k = w1.heap.size := e; omega)⟩
 | some x =>
   rw [hr] at hup
   clear hr
   go_enter Tryz.func21, Tryz.ntmps21
   go_wp2_with fail
   refine hup.mono ?_
   rintro e w3 ⟨⟨sa, sn, sc, rfl, hst⟩, hc3⟩
   have HC3 := hid (HC.out.trans hc3)
   have HB3 := hid (hc3.keep _ _ HB2.out (fun h => h))
   have HST := hid hst
   have hb3 := HB3.out
   have a0 := cellAt hb3 0
   have a1 := cellAt hb3 1
   have a2 := cellAt hb3 2
   have a3 := cellAt hb3 3
   have a4 := cellAt hb3 4
   have a5 := cellAt hb3 5
   have f0 := freeAt hb3 0
   have f1 := freeAt hb3 1
   have f2 := freeAt hb3 2
   have f3 := freeAt hb3 3
   have f4 := freeAt hb3 4
   have f5 := freeAt hb3 5
   clear hb3 hc3 hup hw1 hw2 hst
   go_wp2_with fail
   obtain ⟨wf, hwf, hfb, hfc⟩ := put6 HB3.out (.int .i64 x.cls) (.string x.nm) (.string x.ty) (.slice sa sn sc) (.bool x.st) (.bool x.ba)
   rw [hwf]
   have k0 := cellAt hfb 0
   have k1 := cellAt hfb 1
   have k2 := cellAt hfb 2
   have k3 := cellAt hfb 3
   have k4 := cellAt hfb 4
   have k5 := cellAt hfb 5
   refine bodyPost_ret (v := .tuple #[.agg #[.int .i64 x.cls, .string x.nm, .string x.ty, .slice sa sn sc, .bool x.st, .bool x.ba], .bool true]) (by simp [results, Tryz.results21, go_sem, k0, k1, k2, k3, k4, k5]) rfl ?_
   refine ⟨⟨sa, sn, sc, rfl, ?_⟩, Ch.newOnly HC3.out hfc (fun k _ _ e => by have e' : k = w1.heap.size := e; omega)⟩
   exact (HST.out.ch hfc (fun g cur hg hbg e => by have e' : g = w1.heap.size := e; omega)).base (by omega)
set_option maxHeartbeats 8000000 in
theorem mStatic {w : World} {mb : Nat} {cs : List Cls} {ms : List Mem} (h : MembIs w mb cs ms) (hS : SoundP cs) (hno : NoRing cs) (hln : ms.length = cs.length) (hfw : FewP ms) {z : Int} {o : Option Nat} (hz : AtZ cs z o) {nm : ByteArray} (hnz : nm.size ≤ maxLen) :
   Calls Tryz.prog 83 #[.pointer (some ⟨mb, 0, none⟩), .int .i64 z, .string nm] w (UpOut ((upM cs lkStatic ms nm o).map Prod.snd) w) := by
 have hmf : ∀ (fn : Fn) (first cap : Array Value) (w : World), (Instr.makeFunc fn first cap).run Tryz.prog w = .ok (.func fn first cap) w := fun _ _ _ _ => rfl
 obtain ⟨w1, hw1⟩ : ∃ w1, w.alloc (.cells #[.string nm] 9) = w1 := ⟨_, rfl⟩
 have hb1 := heap_alloc_new w (.cells #[.string nm] 9)
 have hc1 := (Ch.refl No w).alloc (.cells #[.string nm] 9)
 rw [hw1] at hb1 hc1
 obtain ⟨w2, hw2⟩ : ∃ w2, w1.alloc (.cells #[.int .i64 0, .string ⟨#[]⟩, .string ⟨#[]⟩, .slice none 0 0, .bool false, .bool false] 54) = w2 := ⟨_, rfl⟩
 have hb2 := heap_alloc_new w1 (.cells #[.int .i64 0, .string ⟨#[]⟩, .string ⟨#[]⟩, .slice none 0 0, .bool false, .bool false] 54)
 have hc2 := (Ch.refl No w1).alloc (.cells #[.int .i64 0, .string ⟨#[]⟩, .string ⟨#[]⟩, .slice none 0 0, .bool false, .bool false] 54)
 rw [hw2] at hb2 hc2
 have HC := hid (hc1.trans hc2)
 have HB2 := hid hb2
 have hzw := hc1.size
 have hzw2 := lt_size hb2
 have hup := upStatic (h.no HC.out) hS hno hln hfw hz hnz (cellAt (hc2.keep _ _ hb1 (fun h => h)) 0)
 clear h hS hno hln hfw hz hnz hb1 hb2 hc1 hc2
 cases hr : (upM cs lkStatic ms nm o).map Prod.snd with
 | none =>
   rw [hr] at hup
   clear hr
   go_enter Tryz.func83, Tryz.ntmps83
   go_wp2_with fail
   refine hup.mono ?_
   rintro e w3 ⟨rfl, hc3⟩
   have HC3 := hid (HC.out.trans hc3)
   have HB3 := hid (hc3.keep _ _ HB2.out (fun h => h))
   have hb3 := HB3.out
   have a0 := cellAt hb3 0
   have a1 := cellAt hb3 1
   have a2 := cellAt hb3 2
   have a3 := cellAt hb3 3
   have a4 := cellAt hb3 4
   have a5 := cellAt hb3 5
   have f0 := freeAt hb3 0
   have f1 := freeAt hb3 1
   have f2 := freeAt hb3 2
   have f3 := freeAt hb3 3
   have f4 := freeAt hb3 4
   have f5 := freeAt hb3 5
   clear hb3 hc3 hup hw1 hw2
   go_wp2_with fail
   obtain ⟨wf, hwf, hfb, hfc⟩ := put6 HB3.out (.int .i64 0) (.string ⟨#[]⟩) (.string ⟨#[]⟩) (.slice none 0 0) (.bool false) (.bool false)
   rw [hwf]
   have k0 := cellAt hfb 0
   have k1 := cellAt hfb 1
   have k2 := cellAt hfb 2
   have k3 := cellAt hfb 3
   have k4 := cellAt hfb 4
   have k5 := cellAt hfb 5
   refine bodyPost_ret (v := .tuple #[.agg #[.int .i64 0, .string ⟨#[]⟩, .string ⟨#[]⟩, .slice none 0 0, .bool false, .bool false], .bool false]) (by simp [results, Tryz.results83, go_sem, k0, k1, k2, k3, k4, k5]) rfl ?_
   exact ⟨rfl, Ch.newOnly HC3.out hfc (fun k _ _ e => by have e' : k = w1.heap.size := e; omega)⟩
 | some x =>
   rw [hr] at hup
   clear hr
   go_enter Tryz.func83, Tryz.ntmps83
   go_wp2_with fail
   refine hup.mono ?_
   rintro e w3 ⟨⟨sa, sn, sc, rfl, hst⟩, hc3⟩
   have HC3 := hid (HC.out.trans hc3)
   have HB3 := hid (hc3.keep _ _ HB2.out (fun h => h))
   have HST := hid hst
   have hb3 := HB3.out
   have a0 := cellAt hb3 0
   have a1 := cellAt hb3 1
   have a2 := cellAt hb3 2
   have a3 := cellAt hb3 3
   have a4 := cellAt hb3 4
   have a5 := cellAt hb3 5
   have f0 := freeAt hb3 0
   have f1 := freeAt hb3 1
   have f2 := freeAt hb3 2
   have f3 := freeAt hb3 3
   have f4 := freeAt hb3 4
   have f5 := freeAt hb3 5
   clear hb3 hc3 hup hw1 hw2 hst
   go_wp2_with fail
   obtain ⟨wf, hwf, hfb, hfc⟩ := put6 HB3.out (.int .i64 x.cls) (.string x.nm) (.string x.ty) (.slice sa sn sc) (.bool x.st) (.bool x.ba)
   rw [hwf]
   have k0 := cellAt hfb 0
   have k1 := cellAt hfb 1
   have k2 := cellAt hfb 2
   have k3 := cellAt hfb 3
   have k4 := cellAt hfb 4
   have k5 := cellAt hfb 5
   refine bodyPost_ret (v := .tuple #[.agg #[.int .i64 x.cls, .string x.nm, .string x.ty, .slice sa sn sc, .bool x.st, .bool x.ba], .bool true]) (by simp [results, Tryz.results83, go_sem, k0, k1, k2, k3, k4, k5]) rfl ?_
   refine ⟨⟨sa, sn, sc, rfl, ?_⟩, Ch.newOnly HC3.out hfc (fun k _ _ e => by have e' : k = w1.heap.size := e; omega)⟩
   exact (HST.out.ch hfc (fun g cur hg hbg e => by have e' : g = w1.heap.size := e; omega)).base (by omega)
end Go.Proofs.YtgjpgfedlgdjhaaGreatDoor
end
