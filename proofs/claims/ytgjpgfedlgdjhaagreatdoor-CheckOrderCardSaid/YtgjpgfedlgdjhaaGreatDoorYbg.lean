/- Part 33. -/
import Derived.Test.YtgjpgfedlgdjhaaGreatDoorYbf
set_option linter.unusedVariables false
set_option linter.unusedSimpArgs false
set_option maxHeartbeats 64000000
set_option maxRecDepth 8192
section
namespace Go.Proofs.YtgjpgfedlgdjhaaGreatDoor
open Go.RowKit Go.W
structure CD where
 nm : ByteArray
 sup : ByteArray
 cp : Int
 cq : Int
def CD.cells (x : CD) : List Value := Pw x.nm x.sup x.cp x.cq
theorem CD.one (x : CD) : ∀ u ∈ x.cells, u.oneCell' = true := by
 intro u hu
 simp [CD.cells, Pw] at hu
 rcases hu with rfl | rfl | rfl | rfl | rfl | rfl | rfl | rfl | rfl | rfl <;> rfl
structure Py (s : ByteArray) (cd : Nat → CD) (vt vn : ByteArray) (vp vq : Int) (nm tn : ByteArray) (p q ml mc : Int) : Prop where
 at_ : ∃ (L : List Iv) (zs : Nat → Int) (z3 z6 : Int), (s.size ≤ 20000 ∧ Cm s (s.size + 1) 0 = some L) ∧ zs 0 = 0 ∧
  (∀ k, k < 2 → Px L (zs k) (cd k).nm (cd k).sup (cd k).cp (cd k).cq (zs (k + 1)) ∧ Wd L (zs k) ⟨#[99, 108, 97, 115, 115]⟩) ∧ 0 ≤ zs 2 ∧
  Wd L (zs 2) ⟨#[109, 97, 105, 110]⟩ ∧ Sy L (zs 2) ml mc ∧ M5 L (zs 2) ⟨#[109, 97, 105, 110]⟩ z3 ∧ Rf L z3 vt vn vp vq nm tn p q z6 ∧ z6 = (L.length : Int)
def Fy (cd : Nat → CD) (k : Nat) : List Value := (List.range k).flatMap (fun j => (cd j).cells)
theorem Oa (cd : Nat → CD) (k : Nat) : Fy cd (k + 1) = Fy cd k ++ (cd k).cells := by simp [Fy, List.range_succ]
def Ve (w : World) (cd : Nat → CD) (vt vn : ByteArray) (vp vq : Int) (nm tn : ByteArray) (p q ml mc : Int) (e : Ending) (w' : World) : Prop :=
 ∃ ac cc al cl ab cb, e = .returned (.tuple #[.agg #[.slice ac 2 cc, .string ⟨#[118, 111, 105, 100]⟩, .string ⟨#[109, 97, 105, 110]⟩, .bool true, .bool false, .slice none 0 0, .slice al 1 cl, .slice ab 1 cb, .int .i64 ml, .int .i64 mc], .agg #[.int .i64 0, .int .i64 0, .int .i64 0]]) ∧
  w'.ownsRow w.heap.size 50 10 (.slice ac 2 cc) 2 (Fy cd 2) ∧ w'.ownsRow w.heap.size 64 4 (.slice al 1 cl) 1 (Sk vt vn vp vq) ∧ w'.ownsRow w.heap.size 128 12 (.slice ab 1 cb) 1 (Sj nm tn p q) ∧ Ch No w w'
theorem Xr {w0 w : World} {g : Nat} {L : List Iv} {a b c d : Int} (h : Tx w0 w g L a b c d) {z cp cq z4 : Int} {nm sup : ByteArray} (hK : Px L z nm sup cp cq z4) :
 Calls Tryz.prog 27 #[.pointer (some ⟨g, 0, none⟩), .int .i64 z] w fun e w' => e = .returned (.tuple #[.agg #[.string nm, .string sup, .bool false, .slice none 0 0, .slice none 0 0, .slice none 0 0, .slice none 0 0, .pointer none, .int .i64 cp, .int .i64 cq], .int .i64 z4]) ∧ Io w0 w g L a b c d w' := Aap h hK
theorem Vf {w : World} {s : ByteArray} {cd : Nat → CD} {vt vn nm tn : ByteArray} {vp vq p q ml mc : Int} (h : Py s cd vt vn vp vq nm tn p q ml mc) :
 Calls Tryz.prog 9 #[.string s] w (Ve w cd vt vn vp vq nm tn p q ml mc) := by
 obtain ⟨L, zs, z3, z6, hL, hz0, hcl, hz2, hmain, hpl, hone, hblk, hz6⟩ := h.at_
 obtain ⟨s1, Jj⟩ : ∃ s : ByteArray, s = ⟨#[99, 108, 97, 115, 115]⟩ := ⟨_, rfl⟩
 obtain ⟨s2, hs2⟩ : ∃ s : ByteArray, s = ⟨#[109, 97, 105, 110]⟩ := ⟨_, rfl⟩
 rw [← Jj] at hcl
 rw [← hs2] at hmain
 have e1 := Pv s1 [99, 108, 97, 115, 115] Jj
 have e2 := Et s2 [99, 108, 97, 115, 115] (by rw [hs2]; decide)
 have e3 := Et s2 [105, 110, 116, 101, 114, 102, 97, 99, 101] (by rw [hs2]; decide)
 have hzk : ∀ k, k ≤ 2 → decide (zs k ≥ 0) = true := fun k hk => by
  apply decide_eq_true
  by_cases h2 : k = 2
  {rw [h2]; exact hz2}
  {exact (hcl k (by omega)).1.z0}
 have d1 : decide (z6 ≥ 0) = true := decide_eq_true (by omega)
 have d2 : decide (z6 < (L.length : Int)) = false := decide_eq_false (by omega)
 have HZ0 := Aa hz0
 have HCL := Aa hcl
 have HZ6 := Aa hz6
 have HZK := Aa hzk
 clear Jj hs2 hz0 hcl hz6 hzk h
 obtain ⟨wa, hwa, hba, hca⟩ := A2 w (.cells Hy 31)
 obtain ⟨wb, hwb, hbb, hcb⟩ := A2 wa (.cells #[.int .i64 0, .int .i64 0, .int .i64 0] 34)
 unfold Hy at hwa hba
 have HB0 := Aa (hcb.keep _ _ hba (fun h => h))
 have HB1 := Aa hbb
 have HCB := Aa (hca.trans hcb)
 have y1 := Ac hba
 have y2 := Ac hbb
 clear hba hbb hca hcb
 go_in
 go_wp2_with fail
 refine (tof hL).mono ?_
 rintro e w1 ⟨g, w0, el, ec, rfl, hT1, hc0, hs0⟩
 have HC0 := Aa hc0
 have HA1 := Aa (hT1.ch.keep _ _ (hc0.keep _ _ HB0.out (fun h => h)) (fun h => h))
 have HB1' := Aa (hT1.ch.keep _ _ (hc0.keep _ _ HB1.out (fun h => h)) (fun h => h))
 have HT1 := Aa hT1
 have h0w := hT1.ch.size
 have HG := Aa hT1.ge
 have HGL := Aa hT1.lt
 clear hT1 hc0 hwa hwb
 go_upto_region 6 with fail
 obtain ⟨w3, hw3⟩ := Ax ((w1.alloc (.cells #[.int .i64 0, .int .i64 0, .int .i64 0] 34)).alloc (.cells (Hd none 0 0) 31))
 have hb3 := heap_alloc_new (w1.alloc (.cells #[.int .i64 0, .int .i64 0, .int .i64 0] 34)) (.cells (Hd none 0 0) 31)
 have hc3 := ((Ch.refl No w1).alloc (.cells #[.int .i64 0, .int .i64 0, .int .i64 0] 34)).alloc (.cells (Hd none 0 0) 31)
 have es : (w1.alloc (.cells #[.int .i64 0, .int .i64 0, .int .i64 0] 34)).heap.size = w1.heap.size + 1 := by simp
 rw [hw3, es] at hb3
 rw [hw3] at hc3
 unfold Hd at hw3
 rw [hw3]
 obtain ⟨pb, hpb⟩ := Ax (w1.heap.size + 1)
 rw [hpb] at hb3 ⊢
 have HP3 := Aa hb3
 have HT3 := Aa (HT1.out.no hc3)
 have HA3 := Aa (hc3.keep _ _ HA1.out (fun h => h))
 have HF3 := Aa (hc3.keep _ _ HB1'.out (fun h => h))
 have hz3 := hc3.size
 have HNG : Hid (¬ pb = g) := Aa (by have := HGL.out; omega)
 have y3 : w0.heap.size ≤ pb := by omega
 have y4 : w.heap.size < pb := by omega
 have y5 : wa.heap.size < pb := by omega
 have HPB := Aa hpb
 have hwg : ¬ w.heap.size = g := by have := HG.out; omega
 have hag : ¬ wa.heap.size = g := by have := HG.out; omega
 clear hw3 hb3 hc3 es hpb
 go_loopg [7, 8, 9] 2 (fun gg s7 s8 s9 wr => ∃ k : Nat, k ≤ 2 ∧ 2 - k ≤ gg ∧ s7 = .int .i64 (zs k) ∧ Hid (Tx w0 wr g L el ec 0 0) ∧ Hid (wr.heap[w.heap.size]? = some (.cells (Hd none 0 0) 31 (0, 0)) ∧ wr.heap[wa.heap.size]? = some (.cells #[.int .i64 0, .int .i64 0, .int .i64 0] 34 (0, 0)) ∧ w3.heap.size ≤ wr.heap.size) ∧ ∃ ac cc, Hid (wr.heap[pb]? = some (.cells (Hd ac k cc) 31 (0, 0))) ∧ Hid (wr.ownsRow w3.heap.size 50 10 (.slice ac k cc) k (Fy cd k)))
 case atStart => exact ⟨0, by omega, by omega, by rw [HZ0.out], HT3, Aa ⟨HA3.out, HF3.out, Nat.le_refl _⟩, none, 0, HP3, Aa (World.ownsRow_nil _ _ _ _)⟩
 case round =>
  obtain ⟨k, hk, hg, rfl, HTR, HKR, ac, cc, HPR, HRR⟩ := hrel
  have dk : 0 ≤ zs k := of_decide_eq_true (HZK.out k hk)
  have hpr := HPR.out
  unfold Hd at hpr
  have q0 := Ab hpr 0
  clear hpr
  by_cases hk2 : k < 2
  {obtain ⟨hka, hkw⟩ := HCL.out k hk2
   have d6 : decide ((k : Int) = 60) = false := decide_eq_false (by omega)
   go_wp2_with fail
   refine (O3 HTR.out hkw).mono ?_
   rintro e w4 ⟨rfl, hT4, hc4⟩
   have HP4 := Aa (hc4.keep _ _ HPR.out (fun e => HNG.out e))
   have HK4 := Aa (show w4.heap[w.heap.size]? = some (.cells (Hd none 0 0) 31 (0, 0)) ∧ w4.heap[wa.heap.size]? = some (.cells #[.int .i64 0, .int .i64 0, .int .i64 0] 34 (0, 0)) ∧ w3.heap.size ≤ w4.heap.size from ⟨hc4.keep _ _ HKR.out.1 (fun e => hwg e), hc4.keep _ _ HKR.out.2.1 (fun e => hag e), Nat.le_trans HKR.out.2.2 hc4.size⟩)
   have HR4 := Aa (Cn HTR.out HRR.out hc4 (by decide))
   have hp4 := HP4.out
   unfold Hd at hp4
   clear q0 hc4
   have q0 := Ab hp4 0
   clear hp4
   go_wp2_with fail
   refine (Xr hT4 hka).mono ?_
   rintro e w5 ⟨rfl, hT5, hc5⟩
   have HP5 := Aa (hc5.keep _ _ HP4.out (fun e => HNG.out e))
   have HK5 := Aa (show w5.heap[w.heap.size]? = some (.cells (Hd none 0 0) 31 (0, 0)) ∧ w5.heap[wa.heap.size]? = some (.cells #[.int .i64 0, .int .i64 0, .int .i64 0] 34 (0, 0)) ∧ w3.heap.size ≤ w5.heap.size from ⟨hc5.keep _ _ HK4.out.1 (fun e => hwg e), hc5.keep _ _ HK4.out.2.1 (fun e => hag e), Nat.le_trans HK4.out.2.2 hc5.size⟩)
   have HR5 := Aa (Cn hT4 HR4.out hc5 (by decide))
   clear q0 hc5 hT4
   go_upto_region 10 with fail
   obtain ⟨w6, hw6, hb6, hc6⟩ := A2 w5 (.cells (cd k).cells.toArray 50)
   unfold CD.cells Pw at hw6 hb6
   have HT6 := Aa (hT5.no hc6)
   have HP6 := Aa (hc6.keep _ _ HP5.out (fun h => h))
   have HK6 := Aa (show w6.heap[w.heap.size]? = some (.cells (Hd none 0 0) 31 (0, 0)) ∧ w6.heap[wa.heap.size]? = some (.cells #[.int .i64 0, .int .i64 0, .int .i64 0] 34 (0, 0)) ∧ w3.heap.size ≤ w6.heap.size from ⟨hc6.keep _ _ HK5.out.1 (fun h => h), hc6.keep _ _ HK5.out.2.1 (fun h => h), Nat.le_trans HK5.out.2.2 hc6.size⟩)
   have HC6A := Aa ((Ch.refl No w6).alloc (.cells (cd k).cells.toArray 50))
   have HROW := Aa (An (An HR5.out hc6 (fun _ _ _ _ _ h => h)) HC6A.out (fun _ _ _ _ _ h => h))
   have hbase : w3.heap.size ≤ (w6.alloc (.cells (cd k).cells.toArray 50)).heap.size := by have := HC6A.out.size; have := HK6.out.2.2; omega
   have hp6 := HP6.out
   unfold Hd at hp6
   have q0 := Ab hp6 0
   have yp6 := Ac hp6
   obtain ⟨x0, x1, x2, x3, x4, x5, x6, x7, x8, x9⟩ := Cp hb6
   have hk1 : k + 1 ≤ 100000 := by omega
   clear hb6 hc6 hT5 hp6
   go_wp2_with (at_builtin; go_must (refine C1 rfl _ _ rfl Tryz.sliceCls2 Tryz.infoCls2 (lb rfl) (lb rfl) w3.heap.size (.slice ac k cc) k (Fy cd k) rfl HROW.out w6.heap.size 1 1 (cd k).cells rfl rfl (heap_alloc_new w6 _) (CD.one _) hk1 hbase ?_))
   intro v7 w7 hr7 hc7
   obtain ⟨a7, c7, e7, _, _⟩ := Dh hr7
   subst e7
   clear hw6 x0 x1 x2 x3 x4 x5 x6 x7 x8 x9 q0
   have HT7 := Aa ((HT6.out.no HC6A.out).app HROW.out hc7 (by decide) (by omega))
   have HP7 := Aa (hc7.keep _ _ (Bh HP6.out _) (Bu HROW.out (Bh HP6.out _) (by decide)))
   have HK7 := Aa (show w7.heap[w.heap.size]? = some (.cells (Hd none 0 0) 31 (0, 0)) ∧ w7.heap[wa.heap.size]? = some (.cells #[.int .i64 0, .int .i64 0, .int .i64 0] 34 (0, 0)) ∧ w3.heap.size ≤ w7.heap.size from ⟨hc7.keep _ _ (Bh HK6.out.1 _) (Bu HROW.out (Bh HK6.out.1 _) (by decide)), hc7.keep _ _ (Bh HK6.out.2.1 _) (Bu HROW.out (Bh HK6.out.2.1 _) (by decide)), Nat.le_trans HK6.out.2.2 (Nat.le_trans HC6A.out.size hc7.size)⟩)
   have hp7 := HP7.out
   unfold Hd at hp7
   have q0 := Ab hp7 0
   have f0 := Ad hp7 0
   obtain ⟨w8, hw8, hb8, hc8⟩ := Ai hp7 0 (.slice a7 (k + 1) c7)
   have HT8 := Aa (HT7.out.new hc8 y3 (fun e => HNG.out e.symm))
   have HP8 := Aa (show w8.heap[pb]? = some (.cells (Hd a7 (k + 1) c7) 31 (0, 0)) from hb8)
   have HK8 := Aa (show w8.heap[w.heap.size]? = some (.cells (Hd none 0 0) 31 (0, 0)) ∧ w8.heap[wa.heap.size]? = some (.cells #[.int .i64 0, .int .i64 0, .int .i64 0] 34 (0, 0)) ∧ w3.heap.size ≤ w8.heap.size from ⟨hc8.keep _ _ HK7.out.1 (Bm (by omega)), hc8.keep _ _ HK7.out.2.1 (Bm (by omega)), Nat.le_trans HK7.out.2.2 hc8.size⟩)
   have HR8 := Aa (show w8.ownsRow w3.heap.size 50 10 (.slice a7 (k + 1) c7) (k + 1) (Fy cd (k + 1)) from by rw [Oa]; exact Bd hr7 hc8 hp7 (by decide))
   clear hr7 hc7 hbase hp7 hb8 hc8
   go_upto_region 11 with fail
   clear hw8 q0 f0
   go_wp2
   go_roundg (2 - k - 1)
   case rel => exact ⟨k + 1, by omega, by omega, rfl, HT8, HK8, a7, c7, HP8, HR8⟩
   case measure => omega}
  {have ek : k = 2 := by omega
   subst ek
   go_wp2_with fail
   refine (O3 HTR.out hmain).mono ?_
   rintro e w4 ⟨rfl, hT4, hc4⟩
   clear q0
   go_wp2_with fail
   refine (O3 hT4 hmain).mono ?_
   rintro e w5 ⟨rfl, hT5, hc5⟩
   have HC5 := Aa (hc4.trans hc5)
   clear hc4 hc5 hT4
   go_wp2_with fail
   refine (Aaj hT5 hpl).mono ?_
   rintro e w6 ⟨rfl, hT6, hc6⟩
   have HC6 := Aa (HC5.out.trans hc6)
   have HP6 := Aa (HC6.out.keep _ _ HPR.out (fun e => HNG.out e))
   have HR6 := Aa (Cn HTR.out HRR.out HC6.out (by decide))
   have HK6 := Aa (show w6.heap[w.heap.size]? = some (.cells (Hd none 0 0) 31 (0, 0)) ∧ w6.heap[wa.heap.size]? = some (.cells #[.int .i64 0, .int .i64 0, .int .i64 0] 34 (0, 0)) ∧ w3.heap.size ≤ w6.heap.size from ⟨HC6.out.keep _ _ HKR.out.1 (fun e => hwg e), HC6.out.keep _ _ HKR.out.2.1 (fun e => hag e), Nat.le_trans HKR.out.2.2 HC6.out.size⟩)
   clear hc6 hT5
   go_upto_region 13 with fail
   obtain ⟨w7, hw7, hb7, hc7⟩ := A2 w6 (.cells #[.string ⟨#[118, 111, 105, 100]⟩, .string ⟨#[109, 97, 105, 110]⟩, .bool true, .bool false, .slice none 0 0, .slice none 0 0, .slice none 0 0, .int .i64 ml, .int .i64 mc] 29)
   rw [hw7]
   have HT7 := Aa (hT6.no hc7)
   have HB7 := Aa hb7
   have HC7 := Aa (HC6.out.trans (Ce hc7))
   have y7 : ¬ w6.heap.size = g := by have h1 := HGL.out; have h2 := HK6.out.2.2; omega
   clear hw7 hb7 hc7 hT6
   go_wp2_with fail
   refine (Vc HT7.out hone).mono ?_
   rintro e w8 ⟨rfl, hT8, hc8⟩
   have HB8 := Aa (hc8.keep _ _ HB7.out (fun e => y7 e))
   have HC8 := Aa (HC7.out.trans hc8)
   have hb8 := HB8.out
   obtain ⟨q0, q1, q2, q3, q4, q5, q6, q7, q8⟩ := Y4 hb8
   clear hb8 hc8
   go_wp2_with fail
   refine (Aao hT8 hblk ⟨#[118, 111, 105, 100]⟩ ⟨#[109, 97, 105, 110]⟩ true false ml mc).mono ?_
   rintro e w9 ⟨al, cl, ab, cb, rfl, hrl, hrb, hT9, hc9⟩
   have HC9 := Aa (HC8.out.trans hc9)
   have HR9 := Aa (Cn HTR.out HRR.out HC9.out (by decide))
   have HP9 := Aa (HC9.out.keep _ _ HPR.out (fun e => HNG.out e))
   have HK9 := Aa (show w9.heap[w.heap.size]? = some (.cells (Hd none 0 0) 31 (0, 0)) ∧ w9.heap[wa.heap.size]? = some (.cells #[.int .i64 0, .int .i64 0, .int .i64 0] 34 (0, 0)) ∧ w3.heap.size ≤ w9.heap.size from ⟨HC9.out.keep _ _ HKR.out.1 (fun e => hwg e), HC9.out.keep _ _ HKR.out.2.1 (fun e => hag e), Nat.le_trans HKR.out.2.2 HC9.out.size⟩)
   have hp9 := HP9.out
   unfold Hd at hp9
   clear q0 q1 q2 q3 q4 q5 q6 q7 q8
   obtain ⟨q0, q1, q2, q3, q4, q5, q6, q7, q8, q9⟩ := Cp hp9
   have f1 := Ad hp9 1
   have f2 := Ad hp9 2
   have f3 := Ad hp9 3
   have f4 := Ad hp9 4
   have f5 := Ad hp9 5
   have f6 := Ad hp9 6
   have f7 := Ad hp9 7
   have f8 := Ad hp9 8
   have f9 := Ad hp9 9
   obtain ⟨w10, hw10, hb10, hc10⟩ := U7 hp9 (.string ⟨#[118, 111, 105, 100]⟩) (.string ⟨#[109, 97, 105, 110]⟩) (.bool true) (.bool false) (.slice none 0 0) (.slice al 1 cl) (.slice ab 1 cb) (.int .i64 ml) (.int .i64 mc)
   have HT10 := Aa (hT9.new hc10 y3 (fun e => HNG.out e.symm))
   have HR10 := Aa (Bd HR9.out hc10 hp9 (by decide))
   have HL10 := Aa (Bd hrl hc10 hp9 (by decide))
   have HS10 := Aa (Bd hrb hc10 hp9 (by decide))
   have HK10 := Aa (show w10.heap[w.heap.size]? = some (.cells (Hd none 0 0) 31 (0, 0)) ∧ w10.heap[wa.heap.size]? = some (.cells #[.int .i64 0, .int .i64 0, .int .i64 0] 34 (0, 0)) ∧ w3.heap.size ≤ w10.heap.size from ⟨hc10.keep _ _ HK9.out.1 (Bm (by omega)), hc10.keep _ _ HK9.out.2.1 (Bm (by omega)), Nat.le_trans HK9.out.2.2 hc10.size⟩)
   have y89 : w.heap.size ≤ w8.heap.size := by have := HC8.out.size; have := HKR.out.2.2; omega
   have HB10 := Aa hb10
   clear hrl hrb hT9 hc9 hp9 hc10 hb10 hT8
   go_upto_region 15 with fail
   clear hw10 q0 q1 q2 q3 q4 q5 q6 q7 q8 q9 f1 f2 f3 f4 f5 f6 f7 f8 f9
   obtain ⟨⟨A0, c0, hgb, hgc⟩, hgg, hgch⟩ := HT10.out
   obtain ⟨n, hn⟩ := Ax L.length
   have ez6 : z6 = (n : Int) := by rw [← hn]; exact HZ6.out
   rw [hn] at hgb d2
   have g0 := Ab hgb 0
   have g3 := Ab hgb 3
   have hb10 := HB10.out
   have hk10 := HK10.out.1
   have hf10 := HK10.out.2.1
   unfold Hd at hk10
   obtain ⟨q0, q1, q2, q3, q4, q5, q6, q7, q8, q9⟩ := Cp hb10
   obtain ⟨r0, r1, r2, r3, r4, r5, r6, r7, r8, r9⟩ := Cp hk10
   obtain ⟨f0, f1, f2, f3, f4, f5, f6, f7, f8, f9⟩ := Y6 hk10
   obtain ⟨t0, t1, t2⟩ := Dy hf10
   obtain ⟨u0, u1, u2⟩ := I5 hf10
   have HN := Aa hn
   have HEZ := Aa ez6
   have HGCH := Aa hgch
   clear hgb hgg hgc hgch hb10 hk10 hf10 hn ez6
   go_wp2_with fail
   obtain ⟨wf, hwf, hfb, hfc⟩ := F3 HK10.out.1 (.slice ac 2 cc) (.string ⟨#[118, 111, 105, 100]⟩) (.string ⟨#[109, 97, 105, 110]⟩) (.bool true) (.bool false) (.slice none 0 0) (.slice al 1 cl) (.slice ab 1 cb) (.int .i64 ml) (.int .i64 mc)
   rw [hwf]
   have hff := hfc.keep _ _ HK10.out.2.1 (Bm (by omega))
   obtain ⟨wv, hwv, hvb, hvc⟩ := Ev hff (.int .i64 0) (.int .i64 0) (.int .i64 0)
   rw [hwv]
   have hvp := hvc.keep _ _ hfb (Bm (by omega))
   obtain ⟨k0, k1, k2, k3, k4, k5, k6, k7, k8, k9⟩ := Cp hvp
   obtain ⟨j0, j1, j2⟩ := Dy hvb
   refine bodyPost_ret (v := .tuple #[.agg #[.slice ac 2 cc, .string ⟨#[118, 111, 105, 100]⟩, .string ⟨#[109, 97, 105, 110]⟩, .bool true, .bool false, .slice none 0 0, .slice al 1 cl, .slice ab 1 cb, .int .i64 ml, .int .i64 mc], .agg #[.int .i64 0, .int .i64 0, .int .i64 0]]) (by simp [results, Tryz.results9, go_sem, k0, k1, k2, k3, k4, k5, k6, k7, k8, k9, j0, j1, j2]) rfl ?_
   have hn1 : Ch No w wf := Yr (HCB.out.trans (HC0.out.trans HGCH.out)) hfc (fun k o _ e => by have e' : k = w.heap.size := e; omega)
   have hn2 : Ch No w wv := Yr hn1 hvc (fun k o _ e => by have e' : k = wa.heap.size := e; omega)
   have y9 : w.heap.size ≤ w3.heap.size := by omega
   exact ⟨ac, cc, al, cl, ab, cb, rfl, Cg (Bd (Bd HR10.out hfc HK10.out.1 (by decide)) hvc hff (by decide)) y9, Cg (Bd (Bd HL10.out hfc HK10.out.1 (by decide)) hvc hff (by decide)) y89, Cg (Bd (Bd HS10.out hfc HK10.out.1 (by decide)) hvc hff (by decide)) y89, hn2⟩}
end Go.Proofs.YtgjpgfedlgdjhaaGreatDoor
end
