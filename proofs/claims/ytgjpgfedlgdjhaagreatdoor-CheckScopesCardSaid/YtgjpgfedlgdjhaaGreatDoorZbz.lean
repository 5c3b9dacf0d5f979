/- What the claim uses: part 52. -/
import Derived.Test.YtgjpgfedlgdjhaaGreatDoorZbv
section
set_option linter.unusedVariables false
set_option linter.unusedSimpArgs false
set_option maxRecDepth 8192
namespace Go.Proofs.YtgjpgfedlgdjhaaGreatDoor
open Go.RowKit Go.W
set_option maxHeartbeats 16000000 in
theorem rscope {w : World} {pv : Value} {cs : List Cls} (h : ProgAt w pv cs) (z : Int) (m : Mt) (ls : List Vr) (hps : VarsAt w (.slice m.pa m.ps.length m.pc) m.ps) (hls : VarsAt w (.slice m.s5.1 m.s5.2.1 m.s5.2.2) ls) (hp9 : m.ps.length ≤ 40000) (hl9 : ls.length ≤ 40000) :
   Calls Tryz.prog 23 #[pv, .int .i64 z, .agg #[.string m.ret, .string m.nm, .bool m.st, .bool m.ba, .slice m.pa m.ps.length m.pc, .slice m.s5.1 m.s5.2.1 m.s5.2.2, .slice m.s6.1 m.s6.2.1 m.s6.2.2, .int .i64 m.line, .int .i64 m.col]] w (ScopeOut cs z m ls w) := by
 have HPS0 := hid hps
 have HLS0 := hid hls
 have HP9 := hid hp9
 have HL9 := hid hl9
 clear hps hls hp9 hl9
 have hp := h
 obtain ⟨cv, m0, m1, m2, m3, m4, m5, m6, m7, m8, rfl, h⟩ := h
 obtain ⟨ao, cap, rfl, hcap, hmax, _, _⟩ := h.row
 rw [List.length_map] at hcap h hp ⊢
 obtain ⟨len, hlen⟩ : ∃ len, cs.length = len := ⟨_, rfl⟩
 rw [hlen] at hcap h hp ⊢
 unfold maxLen at hmax
 obtain ⟨wa, hwa⟩ : ∃ wa, w.alloc (.cells #[.slice ao len cap, m0, m1, m2, m3, m4, m5, m6, m7, m8] 31) = wa := ⟨_, rfl⟩
 have hpb := heap_alloc_new w (.cells #[.slice ao len cap, m0, m1, m2, m3, m4, m5, m6, m7, m8] 31)
 have hch := (Ch.refl No w).alloc (.cells #[.slice ao len cap, m0, m1, m2, m3, m4, m5, m6, m7, m8] 31)
 rw [hwa] at hch hpb
 have HL := hid hlen
 have HP := hid (hp.no hch)
 have HC := hid (h.no hch)
 have HPB := hid hpb
 have HCH := hid hch
 have p0 := cellAt hpb 0
 have p1 := cellAt hpb 1
 have p2 := cellAt hpb 2
 have p3 := cellAt hpb 3
 have p4 := cellAt hpb 4
 have p5 := cellAt hpb 5
 have p6 := cellAt hpb 6
 have p7 := cellAt hpb 7
 have p8 := cellAt hpb 8
 have p9 := cellAt hpb 9
 have hz := lt_size hpb
 clear hlen h hp hpb hch
 obtain ⟨wx, hwx⟩ : ∃ wx, wa.alloc (.cells #[.string m.ret, .string m.nm, .bool m.st, .bool m.ba, .slice m.pa m.ps.length m.pc, .slice m.s5.1 m.s5.2.1 m.s5.2.2, .slice m.s6.1 m.s6.2.1 m.s6.2.2, .int .i64 m.line, .int .i64 m.col] 29) = wx := ⟨_, rfl⟩
 have hbx := heap_alloc_new wa (.cells #[.string m.ret, .string m.nm, .bool m.st, .bool m.ba, .slice m.pa m.ps.length m.pc, .slice m.s5.1 m.s5.2.1 m.s5.2.2, .slice m.s6.1 m.s6.2.1 m.s6.2.2, .int .i64 m.line, .int .i64 m.col] 29)
 have hcx := (Ch.refl No wa).alloc (.cells #[.string m.ret, .string m.nm, .bool m.st, .bool m.ba, .slice m.pa m.ps.length m.pc, .slice m.s5.1 m.s5.2.1 m.s5.2.2, .slice m.s6.1 m.s6.2.1 m.s6.2.2, .int .i64 m.line, .int .i64 m.col] 29)
 rw [hwx] at hbx hcx
 have HBX := hid hbx
 have HCX := hid (HCH.out.trans hcx)
 have hpx := hcx.keep _ _ HPB.out (fun h => h)
 have HCLS := hid (HC.out.no hcx)
 clear p0 p1 p2 p3 p4 p5 p6 p7 p8 p9 hcx
 have p0 := cellAt hpx 0
 have r2 := cellAt hbx 2
 have r7 := cellAt hbx 7
 have r8 := cellAt hbx 8
 have yb := lt_size hbx
 clear hbx hpx
 obtain ⟨st, hst⟩ : ∃ st, m.st = st := ⟨_, rfl⟩
 rw [hst] at r2
 have HST := hid hst
 clear hst
 by_cases hD : (0 ≤ z ∧ z < (len : Int)) ∧ st = false
 · obtain ⟨⟨z0, z1⟩, rfl⟩ := hD
   obtain ⟨i, rfl⟩ : ∃ i : Nat, z = i := ⟨z.toNat, by omega⟩
   have hil : i < len := by omega
   obtain ⟨k, hk⟩ : ∃ k, cs[i]? = some k := ⟨_, List.getElem?_eq_getElem (by have := HL.out; omega)⟩
   obtain ⟨cb, co, cc, ecs, hcell, _, _⟩ := HCLS.out.cell hk
   rw [HL.out] at ecs
   cases ecs
   have q0 := hcell.q0
   have HK := hid hk
   clear hcell hk
   have HTH := hid (show thisL cs i m = [⟨k.name, sThis, m.line, m.col⟩] from by unfold thisL; rw [if_pos ⟨by omega, HST.out⟩]; simp [HK.out])
   have hba : w.heap.size ≤ (wx.alloc (.cells #[.string k.name, .string sThis, .int .i64 m.line, .int .i64 m.col] 64)).drew.heap.size := (HCX.out.alloc _).size
   go_enter Tryz.func23, Tryz.ntmps23
   go_wp2_with fail
   clear hwa hwx
   have hn1 : 0 + 1 ≤ 100000 := by omega
   go_region_law (first | (refine step_appendOwn rfl _ _ rfl Tryz.sliceVar2 Tryz.infoVar2 (Nat.le_of_ble_eq_true rfl) (Nat.le_of_ble_eq_true rfl) w.heap.size (.slice none 0 0) 0 [] rfl (World.ownsRow_nil _ _ _ _) wx.heap.size 1 1 [.string k.name, .string sThis, .int .i64 m.line, .int .i64 m.col] rfl rfl (heap_alloc_new wx _) (thisC k m) hn1 hba ?_; intro v7 w7 hr7 hc7; obtain ⟨a7, c7, e7, _, _⟩ := ownsSh2 hr7; subst e7; have HC70 := hid (hc7.mono (S' := No) noneBlk); have HB7 := hid (HC70.out.keep _ _ (heapOld HBX.out _) noNo); have HC7 := hid (((HCX.out.alloc _).drew).trans HC70.out); have HR7 := hid hr7; clear hr7 hc7 HC70))
   all_goals (
     obtain ⟨wt, hwt⟩ : ∃ wt, wt = w7 := ⟨_, rfl⟩
     subst hwt
     have HX7 := hid (show 1 = (thisL cs i m).length ∧ [Value.string k.name, .string sThis, .int .i64 m.line, .int .i64 m.col] = ((thisL cs i m).map Vr.cells).flatten from by rw [HTH.out]; exact ⟨rfl, rfl⟩)
     have HN7 := hid (show 1 ≤ 1 from Nat.le_refl 1)
     have HBX := HB7
     have HCX := HC7
     have HROW := hid (show wt.ownsRow w.heap.size 64 4 (.slice a7 1 c7) 1 [Value.string k.name, .string sThis, .int .i64 m.line, .int .i64 m.col] from HR7.out)
     clear HR7 HB7 HC7
     go_upto_region 4 with fail
     have HROWd := hid (show wt.ownsRow w.heap.size 64 4 (.slice a7 1 c7) 1 [Value.string k.name, .string sThis, .int .i64 m.line, .int .i64 m.col] from HROW.out)
     have HCXd := hid (HCX.out)
     have HBXd := hid (show wt.heap[wa.heap.size]? = some (.cells #[.string m.ret, .string m.nm, .bool m.st, .bool m.ba, .slice m.pa m.ps.length m.pc, .slice m.s5.1 m.s5.2.1 m.s5.2.2, .slice m.s6.1 m.s6.2.1 m.s6.2.2, .int .i64 m.line, .int .i64 m.col] 29 (0, 0)) from HBX.out)
     have HPSd := hid (VarsAt.no HPS0.out HCXd.out)
     have HBSd := hid HCXd.out.size
     obtain ⟨n8, hn8⟩ : ∃ n8, 1 + (m.ps.map Vr.cells).length = n8 := ⟨_, rfl⟩
     have HN8E := hid hn8
     have HN8 := hid (show n8 + (ls.map Vr.cells).length ≤ 100000 from by have h1 := HP9.out; have h2 := HL9.out; have h3 := HN7.out; rw [← hn8, List.length_map, List.length_map]; omega)
     have HN7d := hid (show 1 + (m.ps.map Vr.cells).length ≤ 100000 from by have h3 := HN8.out; omega)
     clear hn8
     have hbx := HBX.out
     have r4 := cellAt hbx 4
     have r5 := cellAt hbx 5
     have yx := lt_size hbx
     clear hbx HROW
     go_wp2_with (at_builtin; go_must (refine wpAppendRow rfl _ _ rfl Tryz.sliceVar2 Tryz.infoVar2 (Nat.le_of_ble_eq_true rfl) (Nat.le_of_ble_eq_true rfl) w.heap.size (.slice a7 1 c7) 1 [Value.string k.name, .string sThis, .int .i64 m.line, .int .i64 m.col] rfl HROWd.out (.slice m.pa m.ps.length m.pc) (m.ps.map Vr.cells) rfl HPSd.out (vr1 _) HN7d.out HBSd.out ?_))
     intro v8 w8 hr8 hc8
     have hr8 := (show w8.ownsRow w.heap.size 64 4 v8 n8 ([Value.string k.name, .string sThis, .int .i64 m.line, .int .i64 m.col] ++ (m.ps.map Vr.cells).flatten) from by rw [← HN8E.out]; simpa using hr8)
     obtain ⟨a8, c8, e8, _, _⟩ := ownsSh2 hr8
     subst e8
     have HR8 := hid hr8
     have HB8 := hid (blkB HROWd.out hc8 HBXd.out tyMV)
     have HC8 := hid (ownB HROWd.out hc8 HCXd.out (Nat.le_refl _))
     have hb8 := HB8.out
     have s5 := cellAt hb8 5
     have HLS8 := hid (VarsAt.no HLS0.out HC8.out)
     have HBS8 := hid HC8.out.size
     clear hr8 hc8 hb8 HROWd
     go_wp2_with (at_builtin; go_must (refine wpAppendRow rfl _ _ rfl Tryz.sliceVar2 Tryz.infoVar2 (Nat.le_of_ble_eq_true rfl) (Nat.le_of_ble_eq_true rfl) w.heap.size (.slice a8 n8 c8) n8 ([Value.string k.name, .string sThis, .int .i64 m.line, .int .i64 m.col] ++ (m.ps.map Vr.cells).flatten) rfl HR8.out (.slice m.s5.1 m.s5.2.1 m.s5.2.2) (ls.map Vr.cells) rfl HLS8.out (vr1 _) HN8.out HBS8.out ?_))
     intro v9 w9 hr9 hc9
     have HR9 := hid (show w9.ownsRow w.heap.size 64 4 v9 (n8 + (ls.map Vr.cells).length) (([Value.string k.name, .string sThis, .int .i64 m.line, .int .i64 m.col] ++ (m.ps.map Vr.cells).flatten) ++ (ls.map Vr.cells).flatten) from by simpa using hr9)
     have HC9 := hid (ownB HR8.out hc9 HC8.out (Nat.le_refl _))
     clear hr9 hc9 HR8
     all_goals (
       go_wp2_with fail
       go_ret
       refine ⟨v9, rfl, ?_, HC9.out⟩
       have hh := HR9.out
       rw [← HN8E.out, HX7.out.1, HX7.out.2] at hh
       unfold scopeL
       rw [List.map_append, List.map_append, List.flatten_append, List.flatten_append, List.length_append, List.length_append]
       rw [List.length_map, List.length_map] at hh
       exact hh)
     )
 · obtain ⟨wt, hwt⟩ : ∃ wt, wt = wx := ⟨_, rfl⟩
   subst hwt
   have HX7 := hid (show 0 = (thisL cs z m).length ∧ [] = ((thisL cs z m).map Vr.cells).flatten from by
     have : thisL cs z m = [] := by
       unfold thisL
       split
       · rename_i hh
         rw [List.getElem?_eq_none (by have h1 := HL.out; have h2 := hh.2; rw [HST.out] at h2; have : ¬ z < (len : Int) := fun h3 => hD ⟨⟨hh.1, h3⟩, h2⟩; omega)]
       · rfl
     rw [this]
     exact ⟨rfl, rfl⟩)
   have HN7 := hid (show 0 ≤ 1 from Nat.zero_le 1)
   have HROW := hid (World.ownsRow_nil wt w.heap.size 64 4)
   have HD := hid hD
   clear hD
   by_cases z0 : 0 ≤ z
   · by_cases z1 : z < (len : Int)
     · have hst : st = true := by
         cases st with
         | true => rfl
         | false => exact absurd ⟨⟨z0, z1⟩, rfl⟩ HD.out
       subst hst
       go_enter Tryz.func23, Tryz.ntmps23
       go_upto_region 4 with fail
       clear hwa hwx
       have HROWd := hid (show wt.ownsRow w.heap.size 64 4 (.slice none 0 0) 0 [] from HROW.out)
       have HCXd := hid (HCX.out)
       have HBXd := hid (show wt.heap[wa.heap.size]? = some (.cells #[.string m.ret, .string m.nm, .bool m.st, .bool m.ba, .slice m.pa m.ps.length m.pc, .slice m.s5.1 m.s5.2.1 m.s5.2.2, .slice m.s6.1 m.s6.2.1 m.s6.2.2, .int .i64 m.line, .int .i64 m.col] 29 (0, 0)) from HBX.out)
       have HPSd := hid (VarsAt.no HPS0.out HCXd.out)
       have HBSd := hid HCXd.out.size
       obtain ⟨n8, hn8⟩ : ∃ n8, 0 + (m.ps.map Vr.cells).length = n8 := ⟨_, rfl⟩
       have HN8E := hid hn8
       have HN8 := hid (show n8 + (ls.map Vr.cells).length ≤ 100000 from by have h1 := HP9.out; have h2 := HL9.out; have h3 := HN7.out; rw [← hn8, List.length_map, List.length_map]; omega)
       have HN7d := hid (show 0 + (m.ps.map Vr.cells).length ≤ 100000 from by have h3 := HN8.out; omega)
       clear hn8
       have hbx := HBX.out
       have r4 := cellAt hbx 4
       have r5 := cellAt hbx 5
       have yx := lt_size hbx
       clear hbx HROW
       go_wp2_with (at_builtin; go_must (refine wpAppendRow rfl _ _ rfl Tryz.sliceVar2 Tryz.infoVar2 (Nat.le_of_ble_eq_true rfl) (Nat.le_of_ble_eq_true rfl) w.heap.size (.slice none 0 0) 0 [] rfl HROWd.out (.slice m.pa m.ps.length m.pc) (m.ps.map Vr.cells) rfl HPSd.out (vr1 _) HN7d.out HBSd.out ?_))
       intro v8 w8 hr8 hc8
       have hr8 := (show w8.ownsRow w.heap.size 64 4 v8 n8 ([] ++ (m.ps.map Vr.cells).flatten) from by rw [← HN8E.out]; simpa using hr8)
       obtain ⟨a8, c8, e8, _, _⟩ := ownsSh2 hr8
       subst e8
       have HR8 := hid hr8
       have HB8 := hid (blkB HROWd.out hc8 HBXd.out tyMV)
       have HC8 := hid (ownB HROWd.out hc8 HCXd.out (Nat.le_refl _))
       have hb8 := HB8.out
       have s5 := cellAt hb8 5
       have HLS8 := hid (VarsAt.no HLS0.out HC8.out)
       have HBS8 := hid HC8.out.size
       clear hr8 hc8 hb8 HROWd
       go_wp2_with (at_builtin; go_must (refine wpAppendRow rfl _ _ rfl Tryz.sliceVar2 Tryz.infoVar2 (Nat.le_of_ble_eq_true rfl) (Nat.le_of_ble_eq_true rfl) w.heap.size (.slice a8 n8 c8) n8 ([] ++ (m.ps.map Vr.cells).flatten) rfl HR8.out (.slice m.s5.1 m.s5.2.1 m.s5.2.2) (ls.map Vr.cells) rfl HLS8.out (vr1 _) HN8.out HBS8.out ?_))
       intro v9 w9 hr9 hc9
       have HR9 := hid (show w9.ownsRow w.heap.size 64 4 v9 (n8 + (ls.map Vr.cells).length) (([] ++ (m.ps.map Vr.cells).flatten) ++ (ls.map Vr.cells).flatten) from by simpa using hr9)
       have HC9 := hid (ownB HR8.out hc9 HC8.out (Nat.le_refl _))
       clear hr9 hc9 HR8
       all_goals (
         go_wp2_with fail
         go_ret
         refine ⟨v9, rfl, ?_, HC9.out⟩
         have hh := HR9.out
         rw [← HN8E.out, HX7.out.1, HX7.out.2] at hh
         unfold scopeL
         rw [List.map_append, List.map_append, List.flatten_append, List.flatten_append, List.length_append, List.length_append]
         rw [List.length_map, List.length_map] at hh
         exact hh)
     · go_enter Tryz.func23, Tryz.ntmps23
       go_upto_region 4 with fail
       clear hwa hwx
       have HROWd := hid (show wt.ownsRow w.heap.size 64 4 (.slice none 0 0) 0 [] from HROW.out)
       have HCXd := hid (HCX.out)
       have HBXd := hid (show wt.heap[wa.heap.size]? = some (.cells #[.string m.ret, .string m.nm, .bool m.st, .bool m.ba, .slice m.pa m.ps.length m.pc, .slice m.s5.1 m.s5.2.1 m.s5.2.2, .slice m.s6.1 m.s6.2.1 m.s6.2.2, .int .i64 m.line, .int .i64 m.col] 29 (0, 0)) from HBX.out)
       have HPSd := hid (VarsAt.no HPS0.out HCXd.out)
       have HBSd := hid HCXd.out.size
       obtain ⟨n8, hn8⟩ : ∃ n8, 0 + (m.ps.map Vr.cells).length = n8 := ⟨_, rfl⟩
       have HN8E := hid hn8
       have HN8 := hid (show n8 + (ls.map Vr.cells).length ≤ 100000 from by have h1 := HP9.out; have h2 := HL9.out; have h3 := HN7.out; rw [← hn8, List.length_map, List.length_map]; omega)
       have HN7d := hid (show 0 + (m.ps.map Vr.cells).length ≤ 100000 from by have h3 := HN8.out; omega)
       clear hn8
       have hbx := HBX.out
       have r4 := cellAt hbx 4
       have r5 := cellAt hbx 5
       have yx := lt_size hbx
       clear hbx HROW
       go_wp2_with (at_builtin; go_must (refine wpAppendRow rfl _ _ rfl Tryz.sliceVar2 Tryz.infoVar2 (Nat.le_of_ble_eq_true rfl) (Nat.le_of_ble_eq_true rfl) w.heap.size (.slice none 0 0) 0 [] rfl HROWd.out (.slice m.pa m.ps.length m.pc) (m.ps.map Vr.cells) rfl HPSd.out (vr1 _) HN7d.out HBSd.out ?_))
       intro v8 w8 hr8 hc8
       have hr8 := (show w8.ownsRow w.heap.size 64 4 v8 n8 ([] ++ (m.ps.map Vr.cells).flatten) from by rw [← HN8E.out]; simpa using hr8)
       obtain ⟨a8, c8, e8, _, _⟩ := ownsSh2 hr8
       subst e8
       have HR8 := hid hr8
       have HB8 := hid (blkB HROWd.out hc8 HBXd.out tyMV)
       have HC8 := hid (ownB HROWd.out hc8 HCXd.out (Nat.le_refl _))
       have hb8 := HB8.out
       have s5 := cellAt hb8 5
       have HLS8 := hid (VarsAt.no HLS0.out HC8.out)
       have HBS8 := hid HC8.out.size
       clear hr8 hc8 hb8 HROWd
       go_wp2_with (at_builtin; go_must (refine wpAppendRow rfl _ _ rfl Tryz.sliceVar2 Tryz.infoVar2 (Nat.le_of_ble_eq_true rfl) (Nat.le_of_ble_eq_true rfl) w.heap.size (.slice a8 n8 c8) n8 ([] ++ (m.ps.map Vr.cells).flatten) rfl HR8.out (.slice m.s5.1 m.s5.2.1 m.s5.2.2) (ls.map Vr.cells) rfl HLS8.out (vr1 _) HN8.out HBS8.out ?_))
       intro v9 w9 hr9 hc9
       have HR9 := hid (show w9.ownsRow w.heap.size 64 4 v9 (n8 + (ls.map Vr.cells).length) (([] ++ (m.ps.map Vr.cells).flatten) ++ (ls.map Vr.cells).flatten) from by simpa using hr9)
       have HC9 := hid (ownB HR8.out hc9 HC8.out (Nat.le_refl _))
       clear hr9 hc9 HR8
       all_goals (
         go_wp2_with fail
         go_ret
         refine ⟨v9, rfl, ?_, HC9.out⟩
         have hh := HR9.out
         rw [← HN8E.out, HX7.out.1, HX7.out.2] at hh
         unfold scopeL
         rw [List.map_append, List.map_append, List.flatten_append, List.flatten_append, List.length_append, List.length_append]
         rw [List.length_map, List.length_map] at hh
         exact hh)
   · go_enter Tryz.func23, Tryz.ntmps23
     go_upto_region 4 with fail
     clear hwa hwx
     have HROWd := hid (show wt.ownsRow w.heap.size 64 4 (.slice none 0 0) 0 [] from HROW.out)
     have HCXd := hid (HCX.out)
     have HBXd := hid (show wt.heap[wa.heap.size]? = some (.cells #[.string m.ret, .string m.nm, .bool m.st, .bool m.ba, .slice m.pa m.ps.length m.pc, .slice m.s5.1 m.s5.2.1 m.s5.2.2, .slice m.s6.1 m.s6.2.1 m.s6.2.2, .int .i64 m.line, .int .i64 m.col] 29 (0, 0)) from HBX.out)
     have HPSd := hid (VarsAt.no HPS0.out HCXd.out)
     have HBSd := hid HCXd.out.size
     obtain ⟨n8, hn8⟩ : ∃ n8, 0 + (m.ps.map Vr.cells).length = n8 := ⟨_, rfl⟩
     have HN8E := hid hn8
     have HN8 := hid (show n8 + (ls.map Vr.cells).length ≤ 100000 from by have h1 := HP9.out; have h2 := HL9.out; have h3 := HN7.out; rw [← hn8, List.length_map, List.length_map]; omega)
     have HN7d := hid (show 0 + (m.ps.map Vr.cells).length ≤ 100000 from by have h3 := HN8.out; omega)
     clear hn8
     have hbx := HBX.out
     have r4 := cellAt hbx 4
     have r5 := cellAt hbx 5
     have yx := lt_size hbx
     clear hbx HROW
     go_wp2_with (at_builtin; go_must (refine wpAppendRow rfl _ _ rfl Tryz.sliceVar2 Tryz.infoVar2 (Nat.le_of_ble_eq_true rfl) (Nat.le_of_ble_eq_true rfl) w.heap.size (.slice none 0 0) 0 [] rfl HROWd.out (.slice m.pa m.ps.length m.pc) (m.ps.map Vr.cells) rfl HPSd.out (vr1 _) HN7d.out HBSd.out ?_))
     intro v8 w8 hr8 hc8
     have hr8 := (show w8.ownsRow w.heap.size 64 4 v8 n8 ([] ++ (m.ps.map Vr.cells).flatten) from by rw [← HN8E.out]; simpa using hr8)
     obtain ⟨a8, c8, e8, _, _⟩ := ownsSh2 hr8
     subst e8
     have HR8 := hid hr8
     have HB8 := hid (blkB HROWd.out hc8 HBXd.out tyMV)
     have HC8 := hid (ownB HROWd.out hc8 HCXd.out (Nat.le_refl _))
     have hb8 := HB8.out
     have s5 := cellAt hb8 5
     have HLS8 := hid (VarsAt.no HLS0.out HC8.out)
     have HBS8 := hid HC8.out.size
     clear hr8 hc8 hb8 HROWd
     go_wp2_with (at_builtin; go_must (refine wpAppendRow rfl _ _ rfl Tryz.sliceVar2 Tryz.infoVar2 (Nat.le_of_ble_eq_true rfl) (Nat.le_of_ble_eq_true rfl) w.heap.size (.slice a8 n8 c8) n8 ([] ++ (m.ps.map Vr.cells).flatten) rfl HR8.out (.slice m.s5.1 m.s5.2.1 m.s5.2.2) (ls.map Vr.cells) rfl HLS8.out (vr1 _) HN8.out HBS8.out ?_))
     intro v9 w9 hr9 hc9
     have HR9 := hid (show w9.ownsRow w.heap.size 64 4 v9 (n8 + (ls.map Vr.cells).length) (([] ++ (m.ps.map Vr.cells).flatten) ++ (ls.map Vr.cells).flatten) from by simpa using hr9)
     have HC9 := hid (ownB HR8.out hc9 HC8.out (Nat.le_refl _))
     clear hr9 hc9 HR8
     all_goals (
       go_wp2_with fail
       go_ret
       refine ⟨v9, rfl, ?_, HC9.out⟩
       have hh := HR9.out
       rw [← HN8E.out, HX7.out.1, HX7.out.2] at hh
       unfold scopeL
       rw [List.map_append, List.map_append, List.flatten_append, List.flatten_append, List.length_append, List.length_append]
       rw [List.length_map, List.length_map] at hh
       exact hh)
end Go.Proofs.YtgjpgfedlgdjhaaGreatDoor
end
