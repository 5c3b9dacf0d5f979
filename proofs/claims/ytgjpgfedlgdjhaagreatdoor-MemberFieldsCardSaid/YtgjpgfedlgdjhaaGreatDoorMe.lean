/- Members: alike, typed of the reference 10 (printed by genMe.py). -/
import Derived.Test.YtgjpgfedlgdjhaaGreatDoorMd
set_option linter.unusedVariables false
set_option linter.unusedSimpArgs false
set_option maxRecDepth 8192
namespace Go.Proofs.YtgjpgfedlgdjhaaGreatDoor
open Go.RowKit Go.W

theorem mtCells18 {w : World} {a b : Nat} {x0 x1 x2 x3 x4 x5 x6 x7 x8 y0 y1 y2 y3 y4 y5 y6 y7 y8 : Value} {t : TypeId} (ha : w.heap[a]? = some (.cells #[x0, x1, x2, x3, x4, x5, x6, x7, x8] t (0, 0))) (hb : w.heap[b]? = some (.cells #[y0, y1, y2, y3, y4, y5, y6, y7, y8] t (0, 0))) :
    w.cell? ⟨a, 0, none⟩ = some x0 ∧ w.cell? ⟨a, 1, none⟩ = some x1 ∧ w.cell? ⟨a, 2, none⟩ = some x2 ∧ w.cell? ⟨a, 3, none⟩ = some x3 ∧ w.cell? ⟨a, 4, none⟩ = some x4 ∧ w.cell? ⟨a, 5, none⟩ = some x5 ∧ w.cell? ⟨a, 6, none⟩ = some x6 ∧ w.cell? ⟨a, 7, none⟩ = some x7 ∧ w.cell? ⟨a, 8, none⟩ = some x8 ∧ w.cell? ⟨b, 0, none⟩ = some y0 ∧ w.cell? ⟨b, 1, none⟩ = some y1 ∧ w.cell? ⟨b, 2, none⟩ = some y2 ∧ w.cell? ⟨b, 3, none⟩ = some y3 ∧ w.cell? ⟨b, 4, none⟩ = some y4 ∧ w.cell? ⟨b, 5, none⟩ = some y5 ∧ w.cell? ⟨b, 6, none⟩ = some y6 ∧ w.cell? ⟨b, 7, none⟩ = some y7 ∧ w.cell? ⟨b, 8, none⟩ = some y8 := ⟨cellAt ha 0, cellAt ha 1, cellAt ha 2, cellAt ha 3, cellAt ha 4, cellAt ha 5, cellAt ha 6, cellAt ha 7, cellAt ha 8, cellAt hb 0, cellAt hb 1, cellAt hb 2, cellAt hb 3, cellAt hb 4, cellAt hb 5, cellAt hb 6, cellAt hb 7, cellAt hb 8⟩
theorem kindsEq {x y : Mt} : x.kinds = y.kinds ↔ x.ret = y.ret ∧ x.ps.map Vr.ty = y.ps.map Vr.ty := by
  unfold Mt.kinds
  exact Prod.mk.injEq _ _ _ _ ▸ Iff.rfl

set_option maxRecDepth 100000 in
set_option maxHeartbeats 8000000 in
theorem ralike {w : World} {x y : Mt} (hx : VarsAt w (.slice x.pa x.ps.length x.pc) x.ps) (hy : VarsAt w (.slice y.pa y.ps.length y.pc) y.ps) (lx : x.ps.length ≤ 1000) (ly : y.ps.length ≤ 1000) :
    Calls Tryz.prog 68 #[.agg #[.string x.ret, .string x.nm, .bool x.st, .bool x.ba, .slice x.pa x.ps.length x.pc, .slice x.s5.1 x.s5.2.1 x.s5.2.2, .slice x.s6.1 x.s6.2.1 x.s6.2.2, .int .i64 x.line, .int .i64 x.col], .agg #[.string y.ret, .string y.nm, .bool y.st, .bool y.ba, .slice y.pa y.ps.length y.pc, .slice y.s5.1 y.s5.2.1 y.s5.2.2, .slice y.s6.1 y.s6.2.1 y.s6.2.2, .int .i64 y.line, .int .i64 y.col]] w fun e w' => BoolIs (x.kinds = y.kinds) e ∧ Ch No w w' := by
  obtain ⟨wa, hwa⟩ : ∃ wa, w.alloc (.cells #[.string x.ret, .string x.nm, .bool x.st, .bool x.ba, .slice x.pa x.ps.length x.pc, .slice x.s5.1 x.s5.2.1 x.s5.2.2, .slice x.s6.1 x.s6.2.1 x.s6.2.2, .int .i64 x.line, .int .i64 x.col] 29) = wa := ⟨_, rfl⟩
  obtain ⟨wb, hwb⟩ : ∃ wb, wa.alloc (.cells #[.string y.ret, .string y.nm, .bool y.st, .bool y.ba, .slice y.pa y.ps.length y.pc, .slice y.s5.1 y.s5.2.1 y.s5.2.2, .slice y.s6.1 y.s6.2.1 y.s6.2.2, .int .i64 y.line, .int .i64 y.col] 29) = wb := ⟨_, rfl⟩
  have hba := heap_alloc_new w (.cells #[.string x.ret, .string x.nm, .bool x.st, .bool x.ba, .slice x.pa x.ps.length x.pc, .slice x.s5.1 x.s5.2.1 x.s5.2.2, .slice x.s6.1 x.s6.2.1 x.s6.2.2, .int .i64 x.line, .int .i64 x.col] 29)
  have hca := (Ch.refl No w).alloc (.cells #[.string x.ret, .string x.nm, .bool x.st, .bool x.ba, .slice x.pa x.ps.length x.pc, .slice x.s5.1 x.s5.2.1 x.s5.2.2, .slice x.s6.1 x.s6.2.1 x.s6.2.2, .int .i64 x.line, .int .i64 x.col] 29)
  rw [hwa] at hba hca
  have hbb := heap_alloc_new wa (.cells #[.string y.ret, .string y.nm, .bool y.st, .bool y.ba, .slice y.pa y.ps.length y.pc, .slice y.s5.1 y.s5.2.1 y.s5.2.2, .slice y.s6.1 y.s6.2.1 y.s6.2.2, .int .i64 y.line, .int .i64 y.col] 29)
  have hcb := (Ch.refl No wa).alloc (.cells #[.string y.ret, .string y.nm, .bool y.st, .bool y.ba, .slice y.pa y.ps.length y.pc, .slice y.s5.1 y.s5.2.1 y.s5.2.2, .slice y.s6.1 y.s6.2.1 y.s6.2.2, .int .i64 y.line, .int .i64 y.col] 29)
  rw [hwb] at hbb hcb
  have hba2 := hcb.keep _ _ hba (fun h => h)
  have HC := hid (hca.trans hcb)
  have HA := hid hba2
  have HB := hid hbb
  have HX := hid (hx.no HC.out)
  have HY := hid (hy.no HC.out)
  have a0 := cellAt hba2 0
  have b0 := cellAt hbb 0
  obtain ⟨ba, hbae⟩ : ∃ ba, w.heap.size = ba := ⟨_, rfl⟩
  obtain ⟨bb, hbbe⟩ : ∃ bb, wa.heap.size = bb := ⟨_, rfl⟩
  rw [hbae] at HA a0
  rw [hbbe] at HB b0
  clear hba hca hbb hcb hba2 hx hy
  by_cases hr : x.ret = y.ret
  · have e0 := toL x.ret y.ret hr
    have HR := hid hr
    have hpx := rparams (HX.out.no ((Ch.refl No wb).drew)) lx
    have HS0 := hid (mtCells18 HA.out HB.out)
    have HSd := hid (mtCells18 (((Ch.refl No wb).drew).keep _ _ HA.out (fun h => h)) (((Ch.refl No wb).drew).keep _ _ HB.out (fun h => h)))
    clear hr
    go_enter Tryz.func68, Tryz.ntmps68
    go_wp2_with fail
    clear hwa hwb
    go_region_held3 (fun w' => w'.cell? ⟨ba, 0, none⟩ = some (.string x.ret) ∧ w'.cell? ⟨ba, 1, none⟩ = some (.string x.nm) ∧ w'.cell? ⟨ba, 2, none⟩ = some (.bool x.st) ∧ w'.cell? ⟨ba, 3, none⟩ = some (.bool x.ba) ∧ w'.cell? ⟨ba, 4, none⟩ = some (.slice x.pa x.ps.length x.pc) ∧ w'.cell? ⟨ba, 5, none⟩ = some (.slice x.s5.1 x.s5.2.1 x.s5.2.2) ∧ w'.cell? ⟨ba, 6, none⟩ = some (.slice x.s6.1 x.s6.2.1 x.s6.2.2) ∧ w'.cell? ⟨ba, 7, none⟩ = some (.int .i64 x.line) ∧ w'.cell? ⟨ba, 8, none⟩ = some (.int .i64 x.col) ∧ w'.cell? ⟨bb, 0, none⟩ = some (.string y.ret) ∧ w'.cell? ⟨bb, 1, none⟩ = some (.string y.nm) ∧ w'.cell? ⟨bb, 2, none⟩ = some (.bool y.st) ∧ w'.cell? ⟨bb, 3, none⟩ = some (.bool y.ba) ∧ w'.cell? ⟨bb, 4, none⟩ = some (.slice y.pa y.ps.length y.pc) ∧ w'.cell? ⟨bb, 5, none⟩ = some (.slice y.s5.1 y.s5.2.1 y.s5.2.2) ∧ w'.cell? ⟨bb, 6, none⟩ = some (.slice y.s6.1 y.s6.2.1 y.s6.2.2) ∧ w'.cell? ⟨bb, 7, none⟩ = some (.int .i64 y.line) ∧ w'.cell? ⟨bb, 8, none⟩ = some (.int .i64 y.col)) (first | with_reducible exact HS0.out | with_reducible exact HSd.out | with_reducible exact HS5.out | with_reducible exact HS6.out | with_reducible exact HS7.out | go_keep) (first | (go_at_call 105; refine hpx.mono ?_; rintro e w5 ⟨v5, rfl, h5, hc5⟩; have V5 := hid h5; have K5 := hid (((Ch.refl No wb).drew).trans hc5); have HS5 := hid (mtCells18 (K5.out.keep _ _ HA.out (fun h => h)) (K5.out.keep _ _ HB.out (fun h => h))); clear h5 hc5 hpx) | (go_at_call 105; refine (rparams (HY.out.no K5.out) ly).mono ?_; rintro e w6 ⟨v6, rfl, h6, hc6⟩; have V6 := hid h6; have V56 := hid (V5.out.no hc6); have K6 := hid (K5.out.trans hc6); have HS6 := hid (mtCells18 (K6.out.keep _ _ HA.out (fun h => h)) (K6.out.keep _ _ HB.out (fun h => h))); clear h6 hc6) | (go_at_call 104; refine (rtexts V56.out V6.out).mono ?_; rintro e w7 ⟨rfl, q7, rfl⟩; have K7 := hid (K6.out.drewN q7); have HS7 := hid (mtCells18 (K7.out.keep _ _ HA.out (fun h => h)) (K7.out.keep _ _ HB.out (fun h => h)))))
    go_wp2_with fail
    go_ret
    refine ⟨⟨_, rfl, ?_⟩, HC.out.trans K7.out⟩
    rw [kindsEq]
    simp [HR.out]
  · have e0 := toLn x.ret y.ret hr
    have HR := hid hr
    clear hr
    go_enter Tryz.func68, Tryz.ntmps68
    go_wp2_with fail
    clear hwa hwb
    go_quiet (fail)
    go_wp2_with fail
    go_ret
    refine ⟨BoolIs.f ?_, HC.out.trans (by first | exact (Ch.refl No wb).drew | exact (Ch.refl No wb).drewN _ | exact Ch.refl No wb)⟩
    rw [kindsEq]
    exact fun h => HR.out h.1
end Go.Proofs.YtgjpgfedlgdjhaaGreatDoor
