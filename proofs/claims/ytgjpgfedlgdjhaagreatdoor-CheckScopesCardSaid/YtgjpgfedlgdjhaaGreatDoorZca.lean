/- What the claim uses: part 53. -/
import Derived.Test.YtgjpgfedlgdjhaaGreatDoorZby
import Derived.Test.YtgjpgfedlgdjhaaGreatDoorZbz
section
set_option linter.unusedVariables false
set_option linter.unusedSimpArgs false
set_option maxRecDepth 8192
namespace Go.Proofs.YtgjpgfedlgdjhaaGreatDoor
open Go.RowKit Go.W
theorem rscope2 {w : World} {pv : Value} {cs : List Cls} (h : ProgAt w pv cs) (z : Int) (m : Mt) (ls : List Vr) (hps : VarsAt w (.slice m.pa m.ps.length m.pc) m.ps) (hls : VarsAt w (.slice m.s5.1 m.s5.2.1 m.s5.2.2) ls) (hp9 : m.ps.length ≤ 40000) (hl9 : ls.length ≤ 40000) :
   Calls Tryz.prog 23 #[pv, .int .i64 z, .agg #[.string m.ret, .string m.nm, .bool m.st, .bool m.ba, .slice m.pa m.ps.length m.pc, .slice m.s5.1 m.s5.2.1 m.s5.2.2, .slice m.s6.1 m.s6.2.1 m.s6.2.2, .int .i64 m.line, .int .i64 m.col]] w fun e w' => ∃ v, e = .returned v ∧ w'.ownsRow w.heap.size 64 4 v (scopeL cs z m ls).length (((scopeL cs z m ls).map Vr.cells).flatten) ∧ Ch No w w' ∧ Ch No w w' :=
 (rscope h z m ls hps hls hp9 hl9).mono fun e w' ⟨v, h1, h2, h3⟩ => ⟨v, h1, h2, h3, h3⟩
def TrueNo (w : World) (e : Ending) (w' : World) : Prop := e = .returned (.bool true) ∧ Ch No w w'
set_option maxHeartbeats 16000000 in
theorem law_cscopes {w : World} {pv : Value} {cs : List Cls} (hT : Tab w) (h : ProgAt w pv cs) (zc : Int) (m : Mt) (ls : List Vr) (hps : VarsAt w (.slice m.pa m.ps.length m.pc) m.ps) (hls : VarsAt w (.slice m.s5.1 m.s5.2.1 m.s5.2.2) ls) :
   Calls Tryz.prog 7 #[pv, .int .i64 zc, .agg #[.string m.ret, .string m.nm, .bool m.st, .bool m.ba, .slice m.pa m.ps.length m.pc, .slice m.s5.1 m.s5.2.1 m.s5.2.2, .slice m.s6.1 m.s6.2.1 m.s6.2.2, .int .i64 m.line, .int .i64 m.col]] w (TrueNo w) := by
 have HP00 := hid h
 have HT := hid hT
 have HPS := hid hps
 have HLS := hid hls
 have HLS5 := hid hls.shape.1
 clear hT hps hls
 have hp := h
 obtain ⟨cv, m0, m1, m2, m3, m4, m5, m6, m7, m8, rfl, h⟩ := h
 obtain ⟨ao, cap, rfl, hcap, hmax, _, _⟩ := h.row
 rw [List.length_map] at hcap h hp ⊢
 obtain ⟨len, hlen⟩ : ∃ len, cs.length = len := ⟨_, rfl⟩
 rw [hlen] at hcap h hp ⊢
 unfold maxLen at hmax
 obtain ⟨wa, hwa⟩ : ∃ wa, w.alloc (.cells #[.slice ao len cap, m0, m1, m2, m3, m4, m5, m6, m7, m8] 31) = wa := ⟨_, rfl⟩
 have hpb := heap_alloc_new w (.cells #[.slice ao len cap, m0, m1, m2, m3, m4, m5, m6, m7, m8] 31)
 have hch := (Ch.refl No w).alloc (.cells #[.slice ao len cap, m0, m1, m2, m3, m4, m5, m6, m7, m8] 31)
 rw [hwa] at hch hpb
 have HL := hid hlen
 have HP := hid (hp.no hch)
 have HC := hid (h.no hch)
 have HPB := hid hpb
 have HCH := hid hch
 have p0 := cellAt hpb 0
 have p1 := cellAt hpb 1
 have p2 := cellAt hpb 2
 have p3 := cellAt hpb 3
 have p4 := cellAt hpb 4
 have p5 := cellAt hpb 5
 have p6 := cellAt hpb 6
 have p7 := cellAt hpb 7
 have p8 := cellAt hpb 8
 have p9 := cellAt hpb 9
 have hz := lt_size hpb
 clear hlen h hp hpb hch
 obtain ⟨wx, hwx⟩ : ∃ wx, wa.alloc (.cells #[.string m.ret, .string m.nm, .bool m.st, .bool m.ba, .slice m.pa m.ps.length m.pc, .slice m.s5.1 m.s5.2.1 m.s5.2.2, .slice m.s6.1 m.s6.2.1 m.s6.2.2, .int .i64 m.line, .int .i64 m.col] 29) = wx := ⟨_, rfl⟩
 have hbx := heap_alloc_new wa (.cells #[.string m.ret, .string m.nm, .bool m.st, .bool m.ba, .slice m.pa m.ps.length m.pc, .slice m.s5.1 m.s5.2.1 m.s5.2.2, .slice m.s6.1 m.s6.2.1 m.s6.2.2, .int .i64 m.line, .int .i64 m.col] 29)
 have hcx := (Ch.refl No wa).alloc (.cells #[.string m.ret, .string m.nm, .bool m.st, .bool m.ba, .slice m.pa m.ps.length m.pc, .slice m.s5.1 m.s5.2.1 m.s5.2.2, .slice m.s6.1 m.s6.2.1 m.s6.2.2, .int .i64 m.line, .int .i64 m.col] 29)
 rw [hwx] at hbx hcx
 have HBX := hid hbx
 have HCX := hid (HCH.out.trans hcx)
 have HPX := hid (hcx.keep _ _ HPB.out (fun h => h))
 have hpx := HPX.out
 have HPR := hid (HP.out.no hcx)
 clear p0 p1 p2 p3 p4 p5 p6 p7 p8 p9 hcx
 have p0 := cellAt hpx 0
 have r4 := cellAt hbx 4
 have r5 := cellAt hbx 5
 have yb := lt_size hbx
 clear hbx hpx
 have hp00 := HP00.out
 rw [List.length_map, HL.out] at hp00
 have HP0 := hid hp00
 clear hp00 HP00
 obtain ⟨ln, hln⟩ : ∃ ln, m.s5.2.1 = ln := ⟨_, rfl⟩
 rw [hln] at r5
 have HLN := hid hln
 obtain ⟨pn, hpn⟩ : ∃ pn, m.ps.length = pn := ⟨_, rfl⟩
 rw [hpn] at r4
 have HPN := hid hpn
 clear hln hpn
 by_cases hl : len ≤ 20
 · by_cases hp : pn ≤ 20
   · by_cases hq : ln ≤ 20
     · go_enter Tryz.func7, Tryz.ntmps7
       go_wp2_with fail
       clear hwa hwx
       refine (awake11 (HT.out.no HCX.out)).mono ?_
       rintro e w1 ⟨rfl, hc1⟩
       have HC1 := hid (HCX.out.trans hc1)
       have HP1 := hid (hc1.keep _ _ HPX.out (fun h => h))
       have HB1 := hid (hc1.keep _ _ HBX.out (fun h => h))
       have hpx1 := HP1.out
       have hbx1 := HB1.out
       clear p0 r4 r5 hc1
       have p0 := cellAt hpx1 0
       have r4 := cellAt hbx1 4
       have r5 := cellAt hbx1 5
       rw [HLN.out] at r5
       rw [HPN.out] at r4
       clear hpx1 hbx1
       go_wp2_with fail
       clear p0 r4 r5
       go_loopg [6, 7, 8, 9, 10, 11] (len + 2) (fun gg s6 s7 s8 s9 s10 s11 wr => ∃ k : Nat, k ≤ len + 2 ∧ len + 2 - k ≤ gg ∧ s7 = .int .i64 ((k : Int) - 1) ∧ Hid (Ch No w1 wr))
       case atStart => exact ⟨0, Nat.zero_le _, by omega, rfl, hid (Ch.refl _ _)⟩
       case round =>
         obtain ⟨k, hk, hg, rfl, HCR⟩ := hrel
         have HPW := hid (HCR.out.keep _ _ HP1.out (fun h => h))
         have HBW := hid (HCR.out.keep _ _ HB1.out (fun h => h))
         have hpw := HPW.out
         have hbw := HBW.out
         have p0 := cellAt hpw 0
         have p1 := cellAt hpw 1
         have p2 := cellAt hpw 2
         have p3 := cellAt hpw 3
         have p4 := cellAt hpw 4
         have p5 := cellAt hpw 5
         have p6 := cellAt hpw 6
         have p7 := cellAt hpw 7
         have p8 := cellAt hpw 8
         have p9 := cellAt hpw 9
         have r0 := cellAt hbw 0
         have r1 := cellAt hbw 1
         have r2 := cellAt hbw 2
         have r3 := cellAt hbw 3
         have r4 := cellAt hbw 4
         have r5 := cellAt hbw 5
         have r6 := cellAt hbw 6
         have r7 := cellAt hbw 7
         have r8 := cellAt hbw 8
         clear hpw hbw
         by_cases hkl : k ≤ len + 1
         · have HP9 := hid (show m.ps.length ≤ 40000 from by have := HPN.out; omega)
           have HL9 := hid (show ls.length ≤ 40000 from by have h1 := HLN.out; have h2 := HLS5.out; omega)
           by_cases hz : k = len + 1
           · have d1 : decide ((k : Int) - 1 ≤ (len : Int)) = true := decide_eq_true (by omega)
             have d2 : decide ((k : Int) - 1 = (len : Int)) = true := decide_eq_true (by omega)
             go_upto_region 9 with fail
             obtain ⟨sl, hsl⟩ : ∃ sl, scopeL cs zc m ls = sl := ⟨_, rfl⟩
             obtain ⟨N, hN⟩ : ∃ N, sl.length = N := ⟨_, rfl⟩
             have hN9 : N ≤ 100 := by
               have h1 := HPN.out
               have h2 := HLN.out
               have h3 := HLS5.out
               have h4 : (thisL cs zc m).length ≤ 1 := by
                 unfold thisL
                 split
                 · split <;> simp
                 · simp
               rw [← hN, ← hsl]
               unfold scopeL
               rw [List.length_append, List.length_append]
               omega
             have HSLE := hid hsl
             have HNE := hid hN
             have HSx := hid (show wr.cell? ⟨w.heap.size, 0, none⟩ = some (.slice ao len cap) ∧ wr.cell? ⟨w.heap.size, 1, none⟩ = some m0 ∧ wr.cell? ⟨w.heap.size, 2, none⟩ = some m1 ∧ wr.cell? ⟨w.heap.size, 3, none⟩ = some m2 ∧ wr.cell? ⟨w.heap.size, 4, none⟩ = some m3 ∧ wr.cell? ⟨w.heap.size, 5, none⟩ = some m4 ∧ wr.cell? ⟨w.heap.size, 6, none⟩ = some m5 ∧ wr.cell? ⟨w.heap.size, 7, none⟩ = some m6 ∧ wr.cell? ⟨w.heap.size, 8, none⟩ = some m7 ∧ wr.cell? ⟨w.heap.size, 9, none⟩ = some m8 ∧ wr.cell? ⟨wa.heap.size, 0, none⟩ = some (.string m.ret) ∧ wr.cell? ⟨wa.heap.size, 1, none⟩ = some (.string m.nm) ∧ wr.cell? ⟨wa.heap.size, 2, none⟩ = some (.bool m.st) ∧ wr.cell? ⟨wa.heap.size, 3, none⟩ = some (.bool m.ba) ∧ wr.cell? ⟨wa.heap.size, 4, none⟩ = some (.slice m.pa m.ps.length m.pc) ∧ wr.cell? ⟨wa.heap.size, 5, none⟩ = some (.slice m.s5.1 m.s5.2.1 m.s5.2.2) ∧ wr.cell? ⟨wa.heap.size, 6, none⟩ = some (.slice m.s6.1 m.s6.2.1 m.s6.2.2) ∧ wr.cell? ⟨wa.heap.size, 7, none⟩ = some (.int .i64 m.line) ∧ wr.cell? ⟨wa.heap.size, 8, none⟩ = some (.int .i64 m.col) from ⟨p0, p1, p2, p3, p4, p5, p6, p7, p8, p9, r0, r1, r2, r3, r4, r5, r6, r7, r8⟩)
             have HCW := hid (HC1.out.trans HCR.out)
             clear hsl hN p0 p1 p2 p3 p4 p5 p6 p7 p8 p9 r0 r1 r2 r3 r4 r5 r6 r7 r8
             have HSd := hid (show wr.drew.cell? ⟨w.heap.size, 0, none⟩ = some (.slice ao len cap) ∧ wr.drew.cell? ⟨w.heap.size, 1, none⟩ = some m0 ∧ wr.drew.cell? ⟨w.heap.size, 2, none⟩ = some m1 ∧ wr.drew.cell? ⟨w.heap.size, 3, none⟩ = some m2 ∧ wr.drew.cell? ⟨w.heap.size, 4, none⟩ = some m3 ∧ wr.drew.cell? ⟨w.heap.size, 5, none⟩ = some m4 ∧ wr.drew.cell? ⟨w.heap.size, 6, none⟩ = some m5 ∧ wr.drew.cell? ⟨w.heap.size, 7, none⟩ = some m6 ∧ wr.drew.cell? ⟨w.heap.size, 8, none⟩ = some m7 ∧ wr.drew.cell? ⟨w.heap.size, 9, none⟩ = some m8 ∧ wr.drew.cell? ⟨wa.heap.size, 0, none⟩ = some (.string m.ret) ∧ wr.drew.cell? ⟨wa.heap.size, 1, none⟩ = some (.string m.nm) ∧ wr.drew.cell? ⟨wa.heap.size, 2, none⟩ = some (.bool m.st) ∧ wr.drew.cell? ⟨wa.heap.size, 3, none⟩ = some (.bool m.ba) ∧ wr.drew.cell? ⟨wa.heap.size, 4, none⟩ = some (.slice m.pa m.ps.length m.pc) ∧ wr.drew.cell? ⟨wa.heap.size, 5, none⟩ = some (.slice m.s5.1 m.s5.2.1 m.s5.2.2) ∧ wr.drew.cell? ⟨wa.heap.size, 6, none⟩ = some (.slice m.s6.1 m.s6.2.1 m.s6.2.2) ∧ wr.drew.cell? ⟨wa.heap.size, 7, none⟩ = some (.int .i64 m.line) ∧ wr.drew.cell? ⟨wa.heap.size, 8, none⟩ = some (.int .i64 m.col) from HSx.out)
             go_region_held3 (fun w' => w'.cell? ⟨w.heap.size, 0, none⟩ = some (.slice ao len cap) ∧ w'.cell? ⟨w.heap.size, 1, none⟩ = some m0 ∧ w'.cell? ⟨w.heap.size, 2, none⟩ = some m1 ∧ w'.cell? ⟨w.heap.size, 3, none⟩ = some m2 ∧ w'.cell? ⟨w.heap.size, 4, none⟩ = some m3 ∧ w'.cell? ⟨w.heap.size, 5, none⟩ = some m4 ∧ w'.cell? ⟨w.heap.size, 6, none⟩ = some m5 ∧ w'.cell? ⟨w.heap.size, 7, none⟩ = some m6 ∧ w'.cell? ⟨w.heap.size, 8, none⟩ = some m7 ∧ w'.cell? ⟨w.heap.size, 9, none⟩ = some m8 ∧ w'.cell? ⟨wa.heap.size, 0, none⟩ = some (.string m.ret) ∧ w'.cell? ⟨wa.heap.size, 1, none⟩ = some (.string m.nm) ∧ w'.cell? ⟨wa.heap.size, 2, none⟩ = some (.bool m.st) ∧ w'.cell? ⟨wa.heap.size, 3, none⟩ = some (.bool m.ba) ∧ w'.cell? ⟨wa.heap.size, 4, none⟩ = some (.slice m.pa m.ps.length m.pc) ∧ w'.cell? ⟨wa.heap.size, 5, none⟩ = some (.slice m.s5.1 m.s5.2.1 m.s5.2.2) ∧ w'.cell? ⟨wa.heap.size, 6, none⟩ = some (.slice m.s6.1 m.s6.2.1 m.s6.2.2) ∧ w'.cell? ⟨wa.heap.size, 7, none⟩ = some (.int .i64 m.line) ∧ w'.cell? ⟨wa.heap.size, 8, none⟩ = some (.int .i64 m.col)) (first | with_reducible exact HSx.out | with_reducible exact HSd.out | with_reducible exact HS4.out | with_reducible exact HS5.out | go_keep) (first | (go_at_call 22; refine (cscope (HP0.out.no HCW.out.drew) zc m ls (VarsAt.no HPS.out HCW.out.drew) (VarsAt.no HLS.out HCW.out.drew) HP9.out HL9.out).mono ?_; rintro e w4 ⟨v4, rfl, ho4, hc4⟩; have K4 := hid (((Ch.refl No wr).drew).trans hc4); have HS4 := hid (show w4.cell? ⟨w.heap.size, 0, none⟩ = some (.slice ao len cap) ∧ w4.cell? ⟨w.heap.size, 1, none⟩ = some m0 ∧ w4.cell? ⟨w.heap.size, 2, none⟩ = some m1 ∧ w4.cell? ⟨w.heap.size, 3, none⟩ = some m2 ∧ w4.cell? ⟨w.heap.size, 4, none⟩ = some m3 ∧ w4.cell? ⟨w.heap.size, 5, none⟩ = some m4 ∧ w4.cell? ⟨w.heap.size, 6, none⟩ = some m5 ∧ w4.cell? ⟨w.heap.size, 7, none⟩ = some m6 ∧ w4.cell? ⟨w.heap.size, 8, none⟩ = some m7 ∧ w4.cell? ⟨w.heap.size, 9, none⟩ = some m8 ∧ w4.cell? ⟨wa.heap.size, 0, none⟩ = some (.string m.ret) ∧ w4.cell? ⟨wa.heap.size, 1, none⟩ = some (.string m.nm) ∧ w4.cell? ⟨wa.heap.size, 2, none⟩ = some (.bool m.st) ∧ w4.cell? ⟨wa.heap.size, 3, none⟩ = some (.bool m.ba) ∧ w4.cell? ⟨wa.heap.size, 4, none⟩ = some (.slice m.pa m.ps.length m.pc) ∧ w4.cell? ⟨wa.heap.size, 5, none⟩ = some (.slice m.s5.1 m.s5.2.1 m.s5.2.2) ∧ w4.cell? ⟨wa.heap.size, 6, none⟩ = some (.slice m.s6.1 m.s6.2.1 m.s6.2.2) ∧ w4.cell? ⟨wa.heap.size, 7, none⟩ = some (.int .i64 m.line) ∧ w4.cell? ⟨wa.heap.size, 8, none⟩ = some (.int .i64 m.col) from ⟨cell_ch HSx.out.1 K4.out (fun _ _ h => h), cell_ch HSx.out.2.1 K4.out (fun _ _ h => h), cell_ch HSx.out.2.2.1 K4.out (fun _ _ h => h), cell_ch HSx.out.2.2.2.1 K4.out (fun _ _ h => h), cell_ch HSx.out.2.2.2.2.1 K4.out (fun _ _ h => h), cell_ch HSx.out.2.2.2.2.2.1 K4.out (fun _ _ h => h), cell_ch HSx.out.2.2.2.2.2.2.1 K4.out (fun _ _ h => h), cell_ch HSx.out.2.2.2.2.2.2.2.1 K4.out (fun _ _ h => h), cell_ch HSx.out.2.2.2.2.2.2.2.2.1 K4.out (fun _ _ h => h), cell_ch HSx.out.2.2.2.2.2.2.2.2.2.1 K4.out (fun _ _ h => h), cell_ch HSx.out.2.2.2.2.2.2.2.2.2.2.1 K4.out (fun _ _ h => h), cell_ch HSx.out.2.2.2.2.2.2.2.2.2.2.2.1 K4.out (fun _ _ h => h), cell_ch HSx.out.2.2.2.2.2.2.2.2.2.2.2.2.1 K4.out (fun _ _ h => h), cell_ch HSx.out.2.2.2.2.2.2.2.2.2.2.2.2.2.1 K4.out (fun _ _ h => h), cell_ch HSx.out.2.2.2.2.2.2.2.2.2.2.2.2.2.2.1 K4.out (fun _ _ h => h), cell_ch HSx.out.2.2.2.2.2.2.2.2.2.2.2.2.2.2.2.1 K4.out (fun _ _ h => h), cell_ch HSx.out.2.2.2.2.2.2.2.2.2.2.2.2.2.2.2.2.1 K4.out (fun _ _ h => h), cell_ch HSx.out.2.2.2.2.2.2.2.2.2.2.2.2.2.2.2.2.2.1 K4.out (fun _ _ h => h), cell_ch HSx.out.2.2.2.2.2.2.2.2.2.2.2.2.2.2.2.2.2.2 K4.out (fun _ _ h => h)⟩); clear hc4; rw [HSLE.out, HNE.out] at ho4; obtain ⟨a4, c4, e4, _, _⟩ := ownsSh2 ho4; subst e4; have HO4 := hid ho4; clear ho4) | (go_at_call 23; refine (rscope2 (HP0.out.no (HCW.out.trans K4.out)) zc m ls (VarsAt.no HPS.out (HCW.out.trans K4.out)) (VarsAt.no HLS.out (HCW.out.trans K4.out)) HP9.out HL9.out).mono ?_; rintro e w5 ⟨v5, rfl, ho5, hd5, hc5⟩; have K5 := hid (K4.out.trans hc5); have HS5 := hid (show w5.cell? ⟨w.heap.size, 0, none⟩ = some (.slice ao len cap) ∧ w5.cell? ⟨w.heap.size, 1, none⟩ = some m0 ∧ w5.cell? ⟨w.heap.size, 2, none⟩ = some m1 ∧ w5.cell? ⟨w.heap.size, 3, none⟩ = some m2 ∧ w5.cell? ⟨w.heap.size, 4, none⟩ = some m3 ∧ w5.cell? ⟨w.heap.size, 5, none⟩ = some m4 ∧ w5.cell? ⟨w.heap.size, 6, none⟩ = some m5 ∧ w5.cell? ⟨w.heap.size, 7, none⟩ = some m6 ∧ w5.cell? ⟨w.heap.size, 8, none⟩ = some m7 ∧ w5.cell? ⟨w.heap.size, 9, none⟩ = some m8 ∧ w5.cell? ⟨wa.heap.size, 0, none⟩ = some (.string m.ret) ∧ w5.cell? ⟨wa.heap.size, 1, none⟩ = some (.string m.nm) ∧ w5.cell? ⟨wa.heap.size, 2, none⟩ = some (.bool m.st) ∧ w5.cell? ⟨wa.heap.size, 3, none⟩ = some (.bool m.ba) ∧ w5.cell? ⟨wa.heap.size, 4, none⟩ = some (.slice m.pa m.ps.length m.pc) ∧ w5.cell? ⟨wa.heap.size, 5, none⟩ = some (.slice m.s5.1 m.s5.2.1 m.s5.2.2) ∧ w5.cell? ⟨wa.heap.size, 6, none⟩ = some (.slice m.s6.1 m.s6.2.1 m.s6.2.2) ∧ w5.cell? ⟨wa.heap.size, 7, none⟩ = some (.int .i64 m.line) ∧ w5.cell? ⟨wa.heap.size, 8, none⟩ = some (.int .i64 m.col) from ⟨cell_ch HSx.out.1 K5.out (fun _ _ h => h), cell_ch HSx.out.2.1 K5.out (fun _ _ h => h), cell_ch HSx.out.2.2.1 K5.out (fun _ _ h => h), cell_ch HSx.out.2.2.2.1 K5.out (fun _ _ h => h), cell_ch HSx.out.2.2.2.2.1 K5.out (fun _ _ h => h), cell_ch HSx.out.2.2.2.2.2.1 K5.out (fun _ _ h => h), cell_ch HSx.out.2.2.2.2.2.2.1 K5.out (fun _ _ h => h), cell_ch HSx.out.2.2.2.2.2.2.2.1 K5.out (fun _ _ h => h), cell_ch HSx.out.2.2.2.2.2.2.2.2.1 K5.out (fun _ _ h => h), cell_ch HSx.out.2.2.2.2.2.2.2.2.2.1 K5.out (fun _ _ h => h), cell_ch HSx.out.2.2.2.2.2.2.2.2.2.2.1 K5.out (fun _ _ h => h), cell_ch HSx.out.2.2.2.2.2.2.2.2.2.2.2.1 K5.out (fun _ _ h => h), cell_ch HSx.out.2.2.2.2.2.2.2.2.2.2.2.2.1 K5.out (fun _ _ h => h), cell_ch HSx.out.2.2.2.2.2.2.2.2.2.2.2.2.2.1 K5.out (fun _ _ h => h), cell_ch HSx.out.2.2.2.2.2.2.2.2.2.2.2.2.2.2.1 K5.out (fun _ _ h => h), cell_ch HSx.out.2.2.2.2.2.2.2.2.2.2.2.2.2.2.2.1 K5.out (fun _ _ h => h), cell_ch HSx.out.2.2.2.2.2.2.2.2.2.2.2.2.2.2.2.2.1 K5.out (fun _ _ h => h), cell_ch HSx.out.2.2.2.2.2.2.2.2.2.2.2.2.2.2.2.2.2.1 K5.out (fun _ _ h => h), cell_ch HSx.out.2.2.2.2.2.2.2.2.2.2.2.2.2.2.2.2.2.2 K5.out (fun _ _ h => h)⟩); clear hc5; rw [HSLE.out, HNE.out] at ho5; obtain ⟨a5, c5, e5, _, _⟩ := ownsSh2 ho5; subst e5; have HO5 := hid ho5; have HO45 := hid (ownsRow_ch HO4.out hd5 (fun _ _ _ _ _ h => h)); clear ho5 hd5))
             all_goals (
               clear HSx HS4 HS5
               go_wp2_with fail
               go_loopg [6, 11] N (fun gg s6 s11 wq => ∃ q : Nat, q ≤ N ∧ N - q ≤ gg ∧ s11 = .int .i64 q ∧ Hid (Ch No w5 wq))
               case atStart => exact ⟨0, Nat.zero_le _, by omega, rfl, hid (Ch.refl _ _)⟩
               case round =>
                 obtain ⟨q, hq, hg2, rfl, HCQ⟩ := hrel
                 cases hd : decide (q < N) with
                 | true =>
                   have hqN : q < N := by simpa using hd
                   obtain ⟨v, hv⟩ : ∃ v, sl[q]? = some v := ⟨_, List.getElem?_eq_getElem (by have := HNE.out; omega)⟩
                   obtain ⟨b4, o4, hb4, x0, x1, x2, x3⟩ := (VarsAt.no (varsOwnAt HO45.out HNE.out.symm) HCQ.out).cell hv
                   obtain ⟨b5, o5, hb5, y0, y1, y2, y3⟩ := (VarsAt.no (varsOwnAt HO5.out HNE.out.symm) HCQ.out).cell hv
                   subst hb4
                   subst hb5
                   clear hv
                   go_wp2_with fail
                   go_region
                   all_goals (
                     go_wp2_with fail
                     go_roundg (N - q - 1)
                     case rel => exact ⟨q + 1, by omega, by omega, by go_num, hid HCQ.out.drew⟩
                     case measure => omega)
                 | false =>
                   have hqN : ¬ q < N := by simpa using hd
                   go_wp2_with fail
                   go_roundg (len + 2 - k - 1)
                   case rel => exact ⟨k + 1, by omega, by omega, by first | go_num | (congr 1; omega), hid (HCR.out.trans (K5.out.trans HCQ.out))⟩
                   case measure => omega)
           · have d1 : decide ((k : Int) - 1 ≤ (len : Int)) = true := decide_eq_true (by omega)
             have d2 : decide ((k : Int) - 1 = (len : Int)) = false := decide_eq_false (by omega)
             go_upto_region 9 with fail
             obtain ⟨sl, hsl⟩ : ∃ sl, scopeL cs ((k : Int) - 1) m ls = sl := ⟨_, rfl⟩
             obtain ⟨N, hN⟩ : ∃ N, sl.length = N := ⟨_, rfl⟩
             have hN9 : N ≤ 100 := by
               have h1 := HPN.out
               have h2 := HLN.out
               have h3 := HLS5.out
               have h4 : (thisL cs ((k : Int) - 1) m).length ≤ 1 := by
                 unfold thisL
                 split
                 · split <;> simp
                 · simp
               rw [← hN, ← hsl]
               unfold scopeL
               rw [List.length_append, List.length_append]
               omega
             have HSLE := hid hsl
             have HNE := hid hN
             have HSx := hid (show wr.cell? ⟨w.heap.size, 0, none⟩ = some (.slice ao len cap) ∧ wr.cell? ⟨w.heap.size, 1, none⟩ = some m0 ∧ wr.cell? ⟨w.heap.size, 2, none⟩ = some m1 ∧ wr.cell? ⟨w.heap.size, 3, none⟩ = some m2 ∧ wr.cell? ⟨w.heap.size, 4, none⟩ = some m3 ∧ wr.cell? ⟨w.heap.size, 5, none⟩ = some m4 ∧ wr.cell? ⟨w.heap.size, 6, none⟩ = some m5 ∧ wr.cell? ⟨w.heap.size, 7, none⟩ = some m6 ∧ wr.cell? ⟨w.heap.size, 8, none⟩ = some m7 ∧ wr.cell? ⟨w.heap.size, 9, none⟩ = some m8 ∧ wr.cell? ⟨wa.heap.size, 0, none⟩ = some (.string m.ret) ∧ wr.cell? ⟨wa.heap.size, 1, none⟩ = some (.string m.nm) ∧ wr.cell? ⟨wa.heap.size, 2, none⟩ = some (.bool m.st) ∧ wr.cell? ⟨wa.heap.size, 3, none⟩ = some (.bool m.ba) ∧ wr.cell? ⟨wa.heap.size, 4, none⟩ = some (.slice m.pa m.ps.length m.pc) ∧ wr.cell? ⟨wa.heap.size, 5, none⟩ = some (.slice m.s5.1 m.s5.2.1 m.s5.2.2) ∧ wr.cell? ⟨wa.heap.size, 6, none⟩ = some (.slice m.s6.1 m.s6.2.1 m.s6.2.2) ∧ wr.cell? ⟨wa.heap.size, 7, none⟩ = some (.int .i64 m.line) ∧ wr.cell? ⟨wa.heap.size, 8, none⟩ = some (.int .i64 m.col) from ⟨p0, p1, p2, p3, p4, p5, p6, p7, p8, p9, r0, r1, r2, r3, r4, r5, r6, r7, r8⟩)
             have HCW := hid (HC1.out.trans HCR.out)
             clear hsl hN p0 p1 p2 p3 p4 p5 p6 p7 p8 p9 r0 r1 r2 r3 r4 r5 r6 r7 r8
             have HSd := hid (show wr.drew.cell? ⟨w.heap.size, 0, none⟩ = some (.slice ao len cap) ∧ wr.drew.cell? ⟨w.heap.size, 1, none⟩ = some m0 ∧ wr.drew.cell? ⟨w.heap.size, 2, none⟩ = some m1 ∧ wr.drew.cell? ⟨w.heap.size, 3, none⟩ = some m2 ∧ wr.drew.cell? ⟨w.heap.size, 4, none⟩ = some m3 ∧ wr.drew.cell? ⟨w.heap.size, 5, none⟩ = some m4 ∧ wr.drew.cell? ⟨w.heap.size, 6, none⟩ = some m5 ∧ wr.drew.cell? ⟨w.heap.size, 7, none⟩ = some m6 ∧ wr.drew.cell? ⟨w.heap.size, 8, none⟩ = some m7 ∧ wr.drew.cell? ⟨w.heap.size, 9, none⟩ = some m8 ∧ wr.drew.cell? ⟨wa.heap.size, 0, none⟩ = some (.string m.ret) ∧ wr.drew.cell? ⟨wa.heap.size, 1, none⟩ = some (.string m.nm) ∧ wr.drew.cell? ⟨wa.heap.size, 2, none⟩ = some (.bool m.st) ∧ wr.drew.cell? ⟨wa.heap.size, 3, none⟩ = some (.bool m.ba) ∧ wr.drew.cell? ⟨wa.heap.size, 4, none⟩ = some (.slice m.pa m.ps.length m.pc) ∧ wr.drew.cell? ⟨wa.heap.size, 5, none⟩ = some (.slice m.s5.1 m.s5.2.1 m.s5.2.2) ∧ wr.drew.cell? ⟨wa.heap.size, 6, none⟩ = some (.slice m.s6.1 m.s6.2.1 m.s6.2.2) ∧ wr.drew.cell? ⟨wa.heap.size, 7, none⟩ = some (.int .i64 m.line) ∧ wr.drew.cell? ⟨wa.heap.size, 8, none⟩ = some (.int .i64 m.col) from HSx.out)
             go_region_held3 (fun w' => w'.cell? ⟨w.heap.size, 0, none⟩ = some (.slice ao len cap) ∧ w'.cell? ⟨w.heap.size, 1, none⟩ = some m0 ∧ w'.cell? ⟨w.heap.size, 2, none⟩ = some m1 ∧ w'.cell? ⟨w.heap.size, 3, none⟩ = some m2 ∧ w'.cell? ⟨w.heap.size, 4, none⟩ = some m3 ∧ w'.cell? ⟨w.heap.size, 5, none⟩ = some m4 ∧ w'.cell? ⟨w.heap.size, 6, none⟩ = some m5 ∧ w'.cell? ⟨w.heap.size, 7, none⟩ = some m6 ∧ w'.cell? ⟨w.heap.size, 8, none⟩ = some m7 ∧ w'.cell? ⟨w.heap.size, 9, none⟩ = some m8 ∧ w'.cell? ⟨wa.heap.size, 0, none⟩ = some (.string m.ret) ∧ w'.cell? ⟨wa.heap.size, 1, none⟩ = some (.string m.nm) ∧ w'.cell? ⟨wa.heap.size, 2, none⟩ = some (.bool m.st) ∧ w'.cell? ⟨wa.heap.size, 3, none⟩ = some (.bool m.ba) ∧ w'.cell? ⟨wa.heap.size, 4, none⟩ = some (.slice m.pa m.ps.length m.pc) ∧ w'.cell? ⟨wa.heap.size, 5, none⟩ = some (.slice m.s5.1 m.s5.2.1 m.s5.2.2) ∧ w'.cell? ⟨wa.heap.size, 6, none⟩ = some (.slice m.s6.1 m.s6.2.1 m.s6.2.2) ∧ w'.cell? ⟨wa.heap.size, 7, none⟩ = some (.int .i64 m.line) ∧ w'.cell? ⟨wa.heap.size, 8, none⟩ = some (.int .i64 m.col)) (first | with_reducible exact HSx.out | with_reducible exact HSd.out | with_reducible exact HS4.out | with_reducible exact HS5.out | go_keep) (first | (go_at_call 22; refine (cscope (HP0.out.no HCW.out.drew) ((k : Int) - 1) m ls (VarsAt.no HPS.out HCW.out.drew) (VarsAt.no HLS.out HCW.out.drew) HP9.out HL9.out).mono ?_; rintro e w4 ⟨v4, rfl, ho4, hc4⟩; have K4 := hid (((Ch.refl No wr).drew).trans hc4); have HS4 := hid (show w4.cell? ⟨w.heap.size, 0, none⟩ = some (.slice ao len cap) ∧ w4.cell? ⟨w.heap.size, 1, none⟩ = some m0 ∧ w4.cell? ⟨w.heap.size, 2, none⟩ = some m1 ∧ w4.cell? ⟨w.heap.size, 3, none⟩ = some m2 ∧ w4.cell? ⟨w.heap.size, 4, none⟩ = some m3 ∧ w4.cell? ⟨w.heap.size, 5, none⟩ = some m4 ∧ w4.cell? ⟨w.heap.size, 6, none⟩ = some m5 ∧ w4.cell? ⟨w.heap.size, 7, none⟩ = some m6 ∧ w4.cell? ⟨w.heap.size, 8, none⟩ = some m7 ∧ w4.cell? ⟨w.heap.size, 9, none⟩ = some m8 ∧ w4.cell? ⟨wa.heap.size, 0, none⟩ = some (.string m.ret) ∧ w4.cell? ⟨wa.heap.size, 1, none⟩ = some (.string m.nm) ∧ w4.cell? ⟨wa.heap.size, 2, none⟩ = some (.bool m.st) ∧ w4.cell? ⟨wa.heap.size, 3, none⟩ = some (.bool m.ba) ∧ w4.cell? ⟨wa.heap.size, 4, none⟩ = some (.slice m.pa m.ps.length m.pc) ∧ w4.cell? ⟨wa.heap.size, 5, none⟩ = some (.slice m.s5.1 m.s5.2.1 m.s5.2.2) ∧ w4.cell? ⟨wa.heap.size, 6, none⟩ = some (.slice m.s6.1 m.s6.2.1 m.s6.2.2) ∧ w4.cell? ⟨wa.heap.size, 7, none⟩ = some (.int .i64 m.line) ∧ w4.cell? ⟨wa.heap.size, 8, none⟩ = some (.int .i64 m.col) from ⟨cell_ch HSx.out.1 K4.out (fun _ _ h => h), cell_ch HSx.out.2.1 K4.out (fun _ _ h => h), cell_ch HSx.out.2.2.1 K4.out (fun _ _ h => h), cell_ch HSx.out.2.2.2.1 K4.out (fun _ _ h => h), cell_ch HSx.out.2.2.2.2.1 K4.out (fun _ _ h => h), cell_ch HSx.out.2.2.2.2.2.1 K4.out (fun _ _ h => h), cell_ch HSx.out.2.2.2.2.2.2.1 K4.out (fun _ _ h => h), cell_ch HSx.out.2.2.2.2.2.2.2.1 K4.out (fun _ _ h => h), cell_ch HSx.out.2.2.2.2.2.2.2.2.1 K4.out (fun _ _ h => h), cell_ch HSx.out.2.2.2.2.2.2.2.2.2.1 K4.out (fun _ _ h => h), cell_ch HSx.out.2.2.2.2.2.2.2.2.2.2.1 K4.out (fun _ _ h => h), cell_ch HSx.out.2.2.2.2.2.2.2.2.2.2.2.1 K4.out (fun _ _ h => h), cell_ch HSx.out.2.2.2.2.2.2.2.2.2.2.2.2.1 K4.out (fun _ _ h => h), cell_ch HSx.out.2.2.2.2.2.2.2.2.2.2.2.2.2.1 K4.out (fun _ _ h => h), cell_ch HSx.out.2.2.2.2.2.2.2.2.2.2.2.2.2.2.1 K4.out (fun _ _ h => h), cell_ch HSx.out.2.2.2.2.2.2.2.2.2.2.2.2.2.2.2.1 K4.out (fun _ _ h => h), cell_ch HSx.out.2.2.2.2.2.2.2.2.2.2.2.2.2.2.2.2.1 K4.out (fun _ _ h => h), cell_ch HSx.out.2.2.2.2.2.2.2.2.2.2.2.2.2.2.2.2.2.1 K4.out (fun _ _ h => h), cell_ch HSx.out.2.2.2.2.2.2.2.2.2.2.2.2.2.2.2.2.2.2 K4.out (fun _ _ h => h)⟩); clear hc4; rw [HSLE.out, HNE.out] at ho4; obtain ⟨a4, c4, e4, _, _⟩ := ownsSh2 ho4; subst e4; have HO4 := hid ho4; clear ho4) | (go_at_call 23; refine (rscope2 (HP0.out.no (HCW.out.trans K4.out)) ((k : Int) - 1) m ls (VarsAt.no HPS.out (HCW.out.trans K4.out)) (VarsAt.no HLS.out (HCW.out.trans K4.out)) HP9.out HL9.out).mono ?_; rintro e w5 ⟨v5, rfl, ho5, hd5, hc5⟩; have K5 := hid (K4.out.trans hc5); have HS5 := hid (show w5.cell? ⟨w.heap.size, 0, none⟩ = some (.slice ao len cap) ∧ w5.cell? ⟨w.heap.size, 1, none⟩ = some m0 ∧ w5.cell? ⟨w.heap.size, 2, none⟩ = some m1 ∧ w5.cell? ⟨w.heap.size, 3, none⟩ = some m2 ∧ w5.cell? ⟨w.heap.size, 4, none⟩ = some m3 ∧ w5.cell? ⟨w.heap.size, 5, none⟩ = some m4 ∧ w5.cell? ⟨w.heap.size, 6, none⟩ = some m5 ∧ w5.cell? ⟨w.heap.size, 7, none⟩ = some m6 ∧ w5.cell? ⟨w.heap.size, 8, none⟩ = some m7 ∧ w5.cell? ⟨w.heap.size, 9, none⟩ = some m8 ∧ w5.cell? ⟨wa.heap.size, 0, none⟩ = some (.string m.ret) ∧ w5.cell? ⟨wa.heap.size, 1, none⟩ = some (.string m.nm) ∧ w5.cell? ⟨wa.heap.size, 2, none⟩ = some (.bool m.st) ∧ w5.cell? ⟨wa.heap.size, 3, none⟩ = some (.bool m.ba) ∧ w5.cell? ⟨wa.heap.size, 4, none⟩ = some (.slice m.pa m.ps.length m.pc) ∧ w5.cell? ⟨wa.heap.size, 5, none⟩ = some (.slice m.s5.1 m.s5.2.1 m.s5.2.2) ∧ w5.cell? ⟨wa.heap.size, 6, none⟩ = some (.slice m.s6.1 m.s6.2.1 m.s6.2.2) ∧ w5.cell? ⟨wa.heap.size, 7, none⟩ = some (.int .i64 m.line) ∧ w5.cell? ⟨wa.heap.size, 8, none⟩ = some (.int .i64 m.col) from ⟨cell_ch HSx.out.1 K5.out (fun _ _ h => h), cell_ch HSx.out.2.1 K5.out (fun _ _ h => h), cell_ch HSx.out.2.2.1 K5.out (fun _ _ h => h), cell_ch HSx.out.2.2.2.1 K5.out (fun _ _ h => h), cell_ch HSx.out.2.2.2.2.1 K5.out (fun _ _ h => h), cell_ch HSx.out.2.2.2.2.2.1 K5.out (fun _ _ h => h), cell_ch HSx.out.2.2.2.2.2.2.1 K5.out (fun _ _ h => h), cell_ch HSx.out.2.2.2.2.2.2.2.1 K5.out (fun _ _ h => h), cell_ch HSx.out.2.2.2.2.2.2.2.2.1 K5.out (fun _ _ h => h), cell_ch HSx.out.2.2.2.2.2.2.2.2.2.1 K5.out (fun _ _ h => h), cell_ch HSx.out.2.2.2.2.2.2.2.2.2.2.1 K5.out (fun _ _ h => h), cell_ch HSx.out.2.2.2.2.2.2.2.2.2.2.2.1 K5.out (fun _ _ h => h), cell_ch HSx.out.2.2.2.2.2.2.2.2.2.2.2.2.1 K5.out (fun _ _ h => h), cell_ch HSx.out.2.2.2.2.2.2.2.2.2.2.2.2.2.1 K5.out (fun _ _ h => h), cell_ch HSx.out.2.2.2.2.2.2.2.2.2.2.2.2.2.2.1 K5.out (fun _ _ h => h), cell_ch HSx.out.2.2.2.2.2.2.2.2.2.2.2.2.2.2.2.1 K5.out (fun _ _ h => h), cell_ch HSx.out.2.2.2.2.2.2.2.2.2.2.2.2.2.2.2.2.1 K5.out (fun _ _ h => h), cell_ch HSx.out.2.2.2.2.2.2.2.2.2.2.2.2.2.2.2.2.2.1 K5.out (fun _ _ h => h), cell_ch HSx.out.2.2.2.2.2.2.2.2.2.2.2.2.2.2.2.2.2.2 K5.out (fun _ _ h => h)⟩); clear hc5; rw [HSLE.out, HNE.out] at ho5; obtain ⟨a5, c5, e5, _, _⟩ := ownsSh2 ho5; subst e5; have HO5 := hid ho5; have HO45 := hid (ownsRow_ch HO4.out hd5 (fun _ _ _ _ _ h => h)); clear ho5 hd5))
             all_goals (
               clear HSx HS4 HS5
               go_wp2_with fail
               go_loopg [6, 11] N (fun gg s6 s11 wq => ∃ q : Nat, q ≤ N ∧ N - q ≤ gg ∧ s11 = .int .i64 q ∧ Hid (Ch No w5 wq))
               case atStart => exact ⟨0, Nat.zero_le _, by omega, rfl, hid (Ch.refl _ _)⟩
               case round =>
                 obtain ⟨q, hq, hg2, rfl, HCQ⟩ := hrel
                 cases hd : decide (q < N) with
                 | true =>
                   have hqN : q < N := by simpa using hd
                   obtain ⟨v, hv⟩ : ∃ v, sl[q]? = some v := ⟨_, List.getElem?_eq_getElem (by have := HNE.out; omega)⟩
                   obtain ⟨b4, o4, hb4, x0, x1, x2, x3⟩ := (VarsAt.no (varsOwnAt HO45.out HNE.out.symm) HCQ.out).cell hv
                   obtain ⟨b5, o5, hb5, y0, y1, y2, y3⟩ := (VarsAt.no (varsOwnAt HO5.out HNE.out.symm) HCQ.out).cell hv
                   subst hb4
                   subst hb5
                   clear hv
                   go_wp2_with fail
                   go_region
                   all_goals (
                     go_wp2_with fail
                     go_roundg (N - q - 1)
                     case rel => exact ⟨q + 1, by omega, by omega, by go_num, hid HCQ.out.drew⟩
                     case measure => omega)
                 | false =>
                   have hqN : ¬ q < N := by simpa using hd
                   go_wp2_with fail
                   go_roundg (len + 2 - k - 1)
                   case rel => exact ⟨k + 1, by omega, by omega, by first | go_num | (congr 1; omega), hid (HCR.out.trans (K5.out.trans HCQ.out))⟩
                   case measure => omega)
         · have ek : k = len + 2 := by omega
           have d1 : decide ((k : Int) - 1 ≤ (len : Int)) = false := decide_eq_false (by omega)
           go_wp2_with fail
           go_ret
           exact ⟨rfl, HC1.out.trans HCR.out⟩
     · skip
       go_enter Tryz.func7, Tryz.ntmps7
       go_wp2_with fail
       clear hwa hwx
       refine (awake11 (HT.out.no HCX.out)).mono ?_
       rintro e w1 ⟨rfl, hc1⟩
       have HC1 := hid (HCX.out.trans hc1)
       have hpx1 := hc1.keep _ _ HPX.out (fun h => h)
       have hbx1 := hc1.keep _ _ HBX.out (fun h => h)
       clear p0 r4 r5 hc1
       have p0 := cellAt hpx1 0
       have r4 := cellAt hbx1 4
       have r5 := cellAt hbx1 5
       rw [HLN.out] at r5
       rw [HPN.out] at r4
       clear hpx1 hbx1
       go_wp2_with fail
       refine (awake11 (HT.out.no HC1.out)).mono ?_
       rintro e w2 ⟨rfl, hc2⟩
       go_wp2_with fail
       go_ret
       exact ⟨rfl, HC1.out.trans hc2⟩
   · skip
     go_enter Tryz.func7, Tryz.ntmps7
     go_wp2_with fail
     clear hwa hwx
     refine (awake11 (HT.out.no HCX.out)).mono ?_
     rintro e w1 ⟨rfl, hc1⟩
     have HC1 := hid (HCX.out.trans hc1)
     have hpx1 := hc1.keep _ _ HPX.out (fun h => h)
     have hbx1 := hc1.keep _ _ HBX.out (fun h => h)
     clear p0 r4 r5 hc1
     have p0 := cellAt hpx1 0
     have r4 := cellAt hbx1 4
     have r5 := cellAt hbx1 5
     rw [HLN.out] at r5
     rw [HPN.out] at r4
     clear hpx1 hbx1
     go_wp2_with fail
     refine (awake11 (HT.out.no HC1.out)).mono ?_
     rintro e w2 ⟨rfl, hc2⟩
     go_wp2_with fail
     go_ret
     exact ⟨rfl, HC1.out.trans hc2⟩
 · skip
   go_enter Tryz.func7, Tryz.ntmps7
   go_wp2_with fail
   clear hwa hwx
   refine (awake11 (HT.out.no HCX.out)).mono ?_
   rintro e w1 ⟨rfl, hc1⟩
   have HC1 := hid (HCX.out.trans hc1)
   have hpx1 := hc1.keep _ _ HPX.out (fun h => h)
   have hbx1 := hc1.keep _ _ HBX.out (fun h => h)
   clear p0 r4 r5 hc1
   have p0 := cellAt hpx1 0
   have r4 := cellAt hbx1 4
   have r5 := cellAt hbx1 5
   rw [HLN.out] at r5
   rw [HPN.out] at r4
   clear hpx1 hbx1
   go_wp2_with fail
   refine (awake11 (HT.out.no HC1.out)).mono ?_
   rintro e w2 ⟨rfl, hc2⟩
   go_wp2_with fail
   go_ret
   exact ⟨rfl, HC1.out.trans hc2⟩
end Go.Proofs.YtgjpgfedlgdjhaaGreatDoor
end
