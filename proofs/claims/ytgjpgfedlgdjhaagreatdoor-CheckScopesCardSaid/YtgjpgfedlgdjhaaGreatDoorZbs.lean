/- What the claim uses: part 45. -/
import Derived.Test.YtgjpgfedlgdjhaaGreatDoorZbr
section
set_option linter.unusedVariables false
set_option linter.unusedSimpArgs false
set_option maxRecDepth 8192
namespace Go.Proofs.YtgjpgfedlgdjhaaGreatDoor
open Go.RowKit Go.W
structure CD where
 nm : ByteArray
 sup : ByteArray
 cp : Int
 cq : Int
def CD.cells (x : CD) : List Value := clC x.nm x.sup x.cp x.cq
theorem CD.one (x : CD) : ∀ u ∈ x.cells, u.oneCell' = true := by
 intro u hu
 simp [CD.cells, clC] at hu
 rcases hu with rfl | rfl | rfl | rfl | rfl | rfl | rfl | rfl | rfl | rfl <;> rfl
structure TextIs (s : ByteArray) (cd : Nat → CD) (vt vn : ByteArray) (vp vq : Int) (nm tn : ByteArray) (p q ml mc : Int) : Prop where
 at_ : ∃ (k : Nat) (L : List Tok) (el ec : Int) (zs : Nat → Int) (z3 z6 : Int), PC.T5Tokens.f k s = some (L, el, ec, 0, 0, 0) ∧ zs 0 = 0 ∧
   (∀ k, k < 2 → ClAt L (zs k) (cd k).nm (cd k).sup (cd k).cp (cd k).cq (zs (k + 1)) ∧ Wd L (zs k) ⟨#[99, 108, 97, 115, 115]⟩) ∧ 0 ≤ zs 2 ∧
   Wd L (zs 2) ⟨#[109, 97, 105, 110]⟩ ∧ Plc L (zs 2) ml mc ∧ One L (zs 2) ⟨#[109, 97, 105, 110]⟩ z3 ∧ BlkAt L z3 vt vn vp vq nm tn p q z6 ∧ z6 = (L.length : Int)
def cdRows (cd : Nat → CD) (k : Nat) : List Value := (List.range k).flatMap (fun j => (cd j).cells)
theorem cdRows_succ (cd : Nat → CD) (k : Nat) : cdRows cd (k + 1) = cdRows cd k ++ (cd k).cells := by simp [cdRows, List.range_succ]
def ParseOut (w : World) (cd : Nat → CD) (vt vn : ByteArray) (vp vq : Int) (nm tn : ByteArray) (p q ml mc : Int) (e : Ending) (w' : World) : Prop :=
 ∃ ac cc al cl ab cb, e = .returned (.tuple #[.agg #[.slice ac 2 cc, .string ⟨#[118, 111, 105, 100]⟩, .string ⟨#[109, 97, 105, 110]⟩, .bool true, .bool false, .slice none 0 0, .slice al 1 cl, .slice ab 1 cb, .int .i64 ml, .int .i64 mc], .agg #[.int .i64 0, .int .i64 0, .int .i64 0]]) ∧
   w'.ownsRow w.heap.size 50 10 (.slice ac 2 cc) 2 (cdRows cd 2) ∧ w'.ownsRow w.heap.size 64 4 (.slice al 1 cl) 1 (vrC vt vn vp vq) ∧ w'.ownsRow w.heap.size 128 12 (.slice ab 1 cb) 1 (stC nm tn p q) ∧ Ch No w w'
theorem Tryz.infoCls2 : (Tryz.prog.info? 50).map (fun i => (i.zero.map (fun z => z.cells.size), i.size, i.bytes)) = some (some 10, 10, 160) := by kernel_rfl
theorem Tryz.sliceCls2 : Tryz.prog.underlying 23 = some (.slice 50) := by kernel_rfl
theorem tclass' {w0 w : World} {g : Nat} {L : List Tok} {a b c d : Int} (h : Tx w0 w g L a b c d) {z cp cq z4 : Int} {nm sup : ByteArray} (hK : ClAt L z nm sup cp cq z4) :
   Calls Tryz.prog 27 #[.pointer (some ⟨g, 0, none⟩), .int .i64 z] w fun e w' => e = .returned (.tuple #[.agg #[.string nm, .string sup, .bool false, .slice none 0 0, .slice none 0 0, .slice none 0 0, .slice none 0 0, .pointer none, .int .i64 cp, .int .i64 cq], .int .i64 z4]) ∧ TxO w0 w g L a b c d w' := tclass h hK
def pgZ : Array Value := #[.slice none 0 0, .string ⟨#[]⟩, .string ⟨#[]⟩, .bool false, .bool false, .slice none 0 0, .slice none 0 0, .slice none 0 0, .int .i64 0, .int .i64 0]
def pgC (ac : Option Addr) (k cc : Nat) : Array Value := #[.slice ac k cc, .string ⟨#[]⟩, .string ⟨#[]⟩, .bool false, .bool false, .slice none 0 0, .slice none 0 0, .slice none 0 0, .int .i64 0, .int .i64 0]
set_option maxHeartbeats 8000000 in
theorem tparse {w : World} {s : ByteArray} {cd : Nat → CD} {vt vn nm tn : ByteArray} {vp vq p q ml mc : Int} (h : TextIs s cd vt vn vp vq nm tn p q ml mc) :
   Calls Tryz.prog 9 #[.string s] w (ParseOut w cd vt vn vp vq nm tn p q ml mc) := by
 obtain ⟨k, L, el, ec, zs, z3, z6, hL, hz0, hcl, hz2, hmain, hpl, hone, hblk, hz6⟩ := h.at_
 obtain ⟨s1, hs1⟩ : ∃ s : ByteArray, s = ⟨#[99, 108, 97, 115, 115]⟩ := ⟨_, rfl⟩
 obtain ⟨s2, hs2⟩ : ∃ s : ByteArray, s = ⟨#[109, 97, 105, 110]⟩ := ⟨_, rfl⟩
 rw [← hs1] at hcl
 rw [← hs2] at hmain
 have e1 := litC s1 [99, 108, 97, 115, 115] hs1
 have e2 := litCn s2 [99, 108, 97, 115, 115] (by rw [hs2]; decide)
 have e3 := litCn s2 [105, 110, 116, 101, 114, 102, 97, 99, 101] (by rw [hs2]; decide)
 have hzk : ∀ k, k ≤ 2 → decide (zs k ≥ 0) = true := fun k hk => by
   apply decide_eq_true
   by_cases h2 : k = 2
   · rw [h2]; exact hz2
   · exact (hcl k (by omega)).1.z0
 have d1 : decide (z6 ≥ 0) = true := decide_eq_true (by omega)
 have d2 : decide (z6 < (L.length : Int)) = false := decide_eq_false (by omega)
 have HZ0 := hid hz0
 have HCL := hid hcl
 have HZ6 := hid hz6
 have HZK := hid hzk
 clear hs1 hs2 hz0 hcl hz6 hzk h
 obtain ⟨wa, hwa⟩ : ∃ wa, w.alloc (.cells pgZ 31) = wa := ⟨_, rfl⟩
 have hba := heap_alloc_new w (.cells pgZ 31)
 have hca := (Ch.refl No w).alloc (.cells pgZ 31)
 rw [hwa] at hba hca
 obtain ⟨wb, hwb⟩ : ∃ wb, wa.alloc (.cells #[.int .i64 0, .int .i64 0, .int .i64 0] 34) = wb := ⟨_, rfl⟩
 have hbb := heap_alloc_new wa (.cells #[.int .i64 0, .int .i64 0, .int .i64 0] 34)
 have hcb := (Ch.refl No wa).alloc (.cells #[.int .i64 0, .int .i64 0, .int .i64 0] 34)
 rw [hwb] at hbb hcb
 unfold pgZ at hwa hba
 have HB0 := hid (hcb.keep _ _ hba (fun h => h))
 have HB1 := hid hbb
 have HCB := hid (hca.trans hcb)
 have y1 := lt_size hba
 have y2 := lt_size hbb
 clear hba hbb hca hcb
 go_enter Tryz.func9, Tryz.ntmps9
 go_wp2_with fail
 refine (tof hL).mono ?_
 rintro e w1 ⟨g, w0, rfl, hT1, hc0, hs0⟩
 have HC0 := hid hc0
 have HA1 := hid (hT1.ch.keep _ _ (hc0.keep _ _ HB0.out (fun h => h)) (fun h => h))
 have HB1' := hid (hT1.ch.keep _ _ (hc0.keep _ _ HB1.out (fun h => h)) (fun h => h))
 have HT1 := hid hT1
 have h0w := hT1.ch.size
 have HG := hid hT1.ge
 have HGL := hid hT1.lt
 clear hT1 hc0 hwa hwb
 go_upto_region 6 with fail
 obtain ⟨w3, hw3⟩ : ∃ w3, (w1.alloc (.cells #[.int .i64 0, .int .i64 0, .int .i64 0] 34)).alloc (.cells (pgC none 0 0) 31) = w3 := ⟨_, rfl⟩
 have hb3 := heap_alloc_new (w1.alloc (.cells #[.int .i64 0, .int .i64 0, .int .i64 0] 34)) (.cells (pgC none 0 0) 31)
 have hc3 := ((Ch.refl No w1).alloc (.cells #[.int .i64 0, .int .i64 0, .int .i64 0] 34)).alloc (.cells (pgC none 0 0) 31)
 have es : (w1.alloc (.cells #[.int .i64 0, .int .i64 0, .int .i64 0] 34)).heap.size = w1.heap.size + 1 := by simp
 rw [hw3, es] at hb3
 rw [hw3] at hc3
 unfold pgC at hw3
 rw [hw3]
 obtain ⟨pb, hpb⟩ : ∃ pb, w1.heap.size + 1 = pb := ⟨_, rfl⟩
 rw [hpb] at hb3 ⊢
 have HP3 := hid hb3
 have HT3 := hid (HT1.out.no hc3)
 have HA3 := hid (hc3.keep _ _ HA1.out (fun h => h))
 have HF3 := hid (hc3.keep _ _ HB1'.out (fun h => h))
 have hz3 := hc3.size
 have HNG : Hid (¬ pb = g) := hid (by have := HGL.out; omega)
 have y3 : w0.heap.size ≤ pb := by omega
 have y4 : w.heap.size < pb := by omega
 have y5 : wa.heap.size < pb := by omega
 have HPB := hid hpb
 have hwg : ¬ w.heap.size = g := by have := HG.out; omega
 have hag : ¬ wa.heap.size = g := by have := HG.out; omega
 clear hw3 hb3 hc3 es hpb
 go_loopg [7, 8, 9] 2 (fun gg s7 s8 s9 wr => ∃ k : Nat, k ≤ 2 ∧ 2 - k ≤ gg ∧ s7 = .int .i64 (zs k) ∧ Hid (Tx w0 wr g L el ec 0 0) ∧ Hid (wr.heap[w.heap.size]? = some (.cells (pgC none 0 0) 31 (0, 0)) ∧ wr.heap[wa.heap.size]? = some (.cells #[.int .i64 0, .int .i64 0, .int .i64 0] 34 (0, 0)) ∧ w3.heap.size ≤ wr.heap.size) ∧ ∃ ac cc, Hid (wr.heap[pb]? = some (.cells (pgC ac k cc) 31 (0, 0))) ∧ Hid (wr.ownsRow w3.heap.size 50 10 (.slice ac k cc) k (cdRows cd k)))
 case atStart => exact ⟨0, by omega, by omega, by rw [HZ0.out], HT3, hid ⟨HA3.out, HF3.out, Nat.le_refl _⟩, none, 0, HP3, hid (World.ownsRow_nil _ _ _ _)⟩
 case round =>
   obtain ⟨k, hk, hg, rfl, HTR, HKR, ac, cc, HPR, HRR⟩ := hrel
   have dk : 0 ≤ zs k := of_decide_eq_true (HZK.out k hk)
   have hpr := HPR.out
   unfold pgC at hpr
   have q0 := cellAt hpr 0
   clear hpr
   by_cases hk2 : k < 2
   · obtain ⟨hka, hkw⟩ := HCL.out k hk2
     have d6 : decide ((k : Int) = 60) = false := decide_eq_false (by omega)
     go_wp2_with fail
     refine (twd HTR.out hkw).mono ?_
     rintro e w4 ⟨rfl, hT4, hc4⟩
     have HP4 := hid (hc4.keep _ _ HPR.out (fun e => HNG.out e))
     have HK4 := hid (show w4.heap[w.heap.size]? = some (.cells (pgC none 0 0) 31 (0, 0)) ∧ w4.heap[wa.heap.size]? = some (.cells #[.int .i64 0, .int .i64 0, .int .i64 0] 34 (0, 0)) ∧ w3.heap.size ≤ w4.heap.size from ⟨hc4.keep _ _ HKR.out.1 (fun e => hwg e), hc4.keep _ _ HKR.out.2.1 (fun e => hag e), Nat.le_trans HKR.out.2.2 hc4.size⟩)
     have HR4 := hid (ownsTx HTR.out HRR.out hc4 (by decide))
     have hp4 := HP4.out
     unfold pgC at hp4
     clear q0 hc4
     have q0 := cellAt hp4 0
     clear hp4
     go_wp2_with fail
     refine (tclass' hT4 hka).mono ?_
     rintro e w5 ⟨rfl, hT5, hc5⟩
     have HP5 := hid (hc5.keep _ _ HP4.out (fun e => HNG.out e))
     have HK5 := hid (show w5.heap[w.heap.size]? = some (.cells (pgC none 0 0) 31 (0, 0)) ∧ w5.heap[wa.heap.size]? = some (.cells #[.int .i64 0, .int .i64 0, .int .i64 0] 34 (0, 0)) ∧ w3.heap.size ≤ w5.heap.size from ⟨hc5.keep _ _ HK4.out.1 (fun e => hwg e), hc5.keep _ _ HK4.out.2.1 (fun e => hag e), Nat.le_trans HK4.out.2.2 hc5.size⟩)
     have HR5 := hid (ownsTx hT4 HR4.out hc5 (by decide))
     clear q0 hc5 hT4
     go_upto_region 10 with fail
     obtain ⟨w6, hw6⟩ : ∃ w6, w5.alloc (.cells (cd k).cells.toArray 50) = w6 := ⟨_, rfl⟩
     have hb6 := heap_alloc_new w5 (.cells (cd k).cells.toArray 50)
     have hc6 := (Ch.refl No w5).alloc (.cells (cd k).cells.toArray 50)
     rw [hw6] at hb6 hc6
     unfold CD.cells clC at hw6 hb6
     have HT6 := hid (hT5.no hc6)
     have HP6 := hid (hc6.keep _ _ HP5.out (fun h => h))
     have HK6 := hid (show w6.heap[w.heap.size]? = some (.cells (pgC none 0 0) 31 (0, 0)) ∧ w6.heap[wa.heap.size]? = some (.cells #[.int .i64 0, .int .i64 0, .int .i64 0] 34 (0, 0)) ∧ w3.heap.size ≤ w6.heap.size from ⟨hc6.keep _ _ HK5.out.1 (fun h => h), hc6.keep _ _ HK5.out.2.1 (fun h => h), Nat.le_trans HK5.out.2.2 hc6.size⟩)
     have HC6A := hid ((Ch.refl No w6).alloc (.cells (cd k).cells.toArray 50))
     have HROW := hid (ownsRow_ch (ownsRow_ch HR5.out hc6 (fun _ _ _ _ _ h => h)) HC6A.out (fun _ _ _ _ _ h => h))
     have hbase : w3.heap.size ≤ (w6.alloc (.cells (cd k).cells.toArray 50)).heap.size := by have := HC6A.out.size; have := HK6.out.2.2; omega
     have hp6 := HP6.out
     unfold pgC at hp6
     have q0 := cellAt hp6 0
     have yp6 := lt_size hp6
     have x0 := cellAt hb6 0
     have x1 := cellAt hb6 1
     have x2 := cellAt hb6 2
     have x3 := cellAt hb6 3
     have x4 := cellAt hb6 4
     have x5 := cellAt hb6 5
     have x6 := cellAt hb6 6
     have x7 := cellAt hb6 7
     have x8 := cellAt hb6 8
     have x9 := cellAt hb6 9
     have hk1 : k + 1 ≤ 100000 := by omega
     clear hb6 hc6 hT5 hp6
     go_wp2_with (at_builtin; go_must (refine wpAppendOwn rfl _ _ rfl Tryz.sliceCls2 Tryz.infoCls2 (Nat.le_of_ble_eq_true rfl) (Nat.le_of_ble_eq_true rfl) w3.heap.size (.slice ac k cc) k (cdRows cd k) rfl HROW.out w6.heap.size 1 1 (cd k).cells rfl rfl (heap_alloc_new w6 _) (CD.one _) hk1 hbase ?_))
     intro v7 w7 hr7 hc7
     obtain ⟨a7, c7, e7, _, _⟩ := ownsSh hr7
     subst e7
     clear hw6 x0 x1 x2 x3 x4 x5 x6 x7 x8 x9 q0
     have HT7 := hid ((HT6.out.no HC6A.out).app HROW.out hc7 (by decide) (by omega))
     have HP7 := hid (hc7.keep _ _ (heapOld HP6.out _) (not_own HROW.out (heapOld HP6.out _) (by decide)))
     have HK7 := hid (show w7.heap[w.heap.size]? = some (.cells (pgC none 0 0) 31 (0, 0)) ∧ w7.heap[wa.heap.size]? = some (.cells #[.int .i64 0, .int .i64 0, .int .i64 0] 34 (0, 0)) ∧ w3.heap.size ≤ w7.heap.size from ⟨hc7.keep _ _ (heapOld HK6.out.1 _) (not_own HROW.out (heapOld HK6.out.1 _) (by decide)), hc7.keep _ _ (heapOld HK6.out.2.1 _) (not_own HROW.out (heapOld HK6.out.2.1 _) (by decide)), Nat.le_trans HK6.out.2.2 (Nat.le_trans HC6A.out.size hc7.size)⟩)
     have hp7 := HP7.out
     unfold pgC at hp7
     have q0 := cellAt hp7 0
     have f0 := freeAt hp7 0
     obtain ⟨w8, hw8, hb8, hc8⟩ := set1At hp7 0 (.slice a7 (k + 1) c7)
     have HT8 := hid (HT7.out.new hc8 y3 (fun e => HNG.out e.symm))
     have HP8 := hid (show w8.heap[pb]? = some (.cells (pgC a7 (k + 1) c7) 31 (0, 0)) from hb8)
     have HK8 := hid (show w8.heap[w.heap.size]? = some (.cells (pgC none 0 0) 31 (0, 0)) ∧ w8.heap[wa.heap.size]? = some (.cells #[.int .i64 0, .int .i64 0, .int .i64 0] 34 (0, 0)) ∧ w3.heap.size ≤ w8.heap.size from ⟨hc8.keep _ _ HK7.out.1 (fun e => by have e' : w.heap.size = pb := e; omega), hc8.keep _ _ HK7.out.2.1 (fun e => by have e' : wa.heap.size = pb := e; omega), Nat.le_trans HK7.out.2.2 hc8.size⟩)
     have HR8 := hid (show w8.ownsRow w3.heap.size 50 10 (.slice a7 (k + 1) c7) (k + 1) (cdRows cd (k + 1)) from by rw [cdRows_succ]; exact ownsTb hr7 hc8 hp7 (by decide))
     clear hr7 hc7 hbase hp7 hb8 hc8
     go_upto_region 11 with fail
     clear hw8 q0 f0
     go_wp2_with fail
     go_roundg (2 - k - 1)
     case rel => exact ⟨k + 1, by omega, by omega, rfl, HT8, HK8, a7, c7, HP8, HR8⟩
     case measure => omega
   · have ek : k = 2 := by omega
     subst ek
     go_wp2_with fail
     refine (twd HTR.out hmain).mono ?_
     rintro e w4 ⟨rfl, hT4, hc4⟩
     clear q0
     go_wp2_with fail
     refine (twd hT4 hmain).mono ?_
     rintro e w5 ⟨rfl, hT5, hc5⟩
     have HC5 := hid (hc4.trans hc5)
     clear hc4 hc5 hT4
     go_wp2_with fail
     refine (tplc hT5 hpl).mono ?_
     rintro e w6 ⟨rfl, hT6, hc6⟩
     have HC6 := hid (HC5.out.trans hc6)
     have HP6 := hid (HC6.out.keep _ _ HPR.out (fun e => HNG.out e))
     have HR6 := hid (ownsTx HTR.out HRR.out HC6.out (by decide))
     have HK6 := hid (show w6.heap[w.heap.size]? = some (.cells (pgC none 0 0) 31 (0, 0)) ∧ w6.heap[wa.heap.size]? = some (.cells #[.int .i64 0, .int .i64 0, .int .i64 0] 34 (0, 0)) ∧ w3.heap.size ≤ w6.heap.size from ⟨HC6.out.keep _ _ HKR.out.1 (fun e => hwg e), HC6.out.keep _ _ HKR.out.2.1 (fun e => hag e), Nat.le_trans HKR.out.2.2 HC6.out.size⟩)
     clear hc6 hT5
     go_upto_region 13 with fail
     obtain ⟨w7, hw7⟩ : ∃ w7, w6.alloc (.cells #[.string ⟨#[118, 111, 105, 100]⟩, .string ⟨#[109, 97, 105, 110]⟩, .bool true, .bool false, .slice none 0 0, .slice none 0 0, .slice none 0 0, .int .i64 ml, .int .i64 mc] 29) = w7 := ⟨_, rfl⟩
     have hb7 := heap_alloc_new w6 (.cells #[.string ⟨#[118, 111, 105, 100]⟩, .string ⟨#[109, 97, 105, 110]⟩, .bool true, .bool false, .slice none 0 0, .slice none 0 0, .slice none 0 0, .int .i64 ml, .int .i64 mc] 29)
     have hc7 := (Ch.refl No w6).alloc (.cells #[.string ⟨#[118, 111, 105, 100]⟩, .string ⟨#[109, 97, 105, 110]⟩, .bool true, .bool false, .slice none 0 0, .slice none 0 0, .slice none 0 0, .int .i64 ml, .int .i64 mc] 29)
     rw [hw7] at hb7 hc7 ⊢
     have HT7 := hid (hT6.no hc7)
     have HB7 := hid hb7
     have HC7 := hid (HC6.out.trans (chNo hc7))
     have y7 : ¬ w6.heap.size = g := by have h1 := HGL.out; have h2 := HK6.out.2.2; omega
     clear hw7 hb7 hc7 hT6
     go_wp2_with fail
     refine (tone HT7.out hone).mono ?_
     rintro e w8 ⟨rfl, hT8, hc8⟩
     have HB8 := hid (hc8.keep _ _ HB7.out (fun e => y7 e))
     have HC8 := hid (HC7.out.trans hc8)
     have hb8 := HB8.out
     have q0 := cellAt hb8 0
     have q1 := cellAt hb8 1
     have q2 := cellAt hb8 2
     have q3 := cellAt hb8 3
     have q4 := cellAt hb8 4
     have q5 := cellAt hb8 5
     have q6 := cellAt hb8 6
     have q7 := cellAt hb8 7
     have q8 := cellAt hb8 8
     clear hb8 hc8
     go_wp2_with fail
     refine (tblock hT8 hblk ⟨#[118, 111, 105, 100]⟩ ⟨#[109, 97, 105, 110]⟩ true false ml mc).mono ?_
     rintro e w9 ⟨al, cl, ab, cb, rfl, hrl, hrb, hT9, hc9⟩
     have HC9 := hid (HC8.out.trans hc9)
     have HR9 := hid (ownsTx HTR.out HRR.out HC9.out (by decide))
     have HP9 := hid (HC9.out.keep _ _ HPR.out (fun e => HNG.out e))
     have HK9 := hid (show w9.heap[w.heap.size]? = some (.cells (pgC none 0 0) 31 (0, 0)) ∧ w9.heap[wa.heap.size]? = some (.cells #[.int .i64 0, .int .i64 0, .int .i64 0] 34 (0, 0)) ∧ w3.heap.size ≤ w9.heap.size from ⟨HC9.out.keep _ _ HKR.out.1 (fun e => hwg e), HC9.out.keep _ _ HKR.out.2.1 (fun e => hag e), Nat.le_trans HKR.out.2.2 HC9.out.size⟩)
     have hp9 := HP9.out
     unfold pgC at hp9
     clear q0 q1 q2 q3 q4 q5 q6 q7 q8
     have q0 := cellAt hp9 0
     have q1 := cellAt hp9 1
     have q2 := cellAt hp9 2
     have q3 := cellAt hp9 3
     have q4 := cellAt hp9 4
     have q5 := cellAt hp9 5
     have q6 := cellAt hp9 6
     have q7 := cellAt hp9 7
     have q8 := cellAt hp9 8
     have q9 := cellAt hp9 9
     have f1 := freeAt hp9 1
     have f2 := freeAt hp9 2
     have f3 := freeAt hp9 3
     have f4 := freeAt hp9 4
     have f5 := freeAt hp9 5
     have f6 := freeAt hp9 6
     have f7 := freeAt hp9 7
     have f8 := freeAt hp9 8
     have f9 := freeAt hp9 9
     obtain ⟨w10, hw10, hb10, hc10⟩ := put9o hp9 (.string ⟨#[118, 111, 105, 100]⟩) (.string ⟨#[109, 97, 105, 110]⟩) (.bool true) (.bool false) (.slice none 0 0) (.slice al 1 cl) (.slice ab 1 cb) (.int .i64 ml) (.int .i64 mc)
     have HT10 := hid (hT9.new hc10 y3 (fun e => HNG.out e.symm))
     have HR10 := hid (ownsTb HR9.out hc10 hp9 (by decide))
     have HL10 := hid (ownsTb hrl hc10 hp9 (by decide))
     have HS10 := hid (ownsTb hrb hc10 hp9 (by decide))
     have HK10 := hid (show w10.heap[w.heap.size]? = some (.cells (pgC none 0 0) 31 (0, 0)) ∧ w10.heap[wa.heap.size]? = some (.cells #[.int .i64 0, .int .i64 0, .int .i64 0] 34 (0, 0)) ∧ w3.heap.size ≤ w10.heap.size from ⟨hc10.keep _ _ HK9.out.1 (fun e => by have e' : w.heap.size = pb := e; omega), hc10.keep _ _ HK9.out.2.1 (fun e => by have e' : wa.heap.size = pb := e; omega), Nat.le_trans HK9.out.2.2 hc10.size⟩)
     have y89 : w.heap.size ≤ w8.heap.size := by have := HC8.out.size; have := HKR.out.2.2; omega
     have HB10 := hid hb10
     clear hrl hrb hT9 hc9 hp9 hc10 hb10 hT8
     go_upto_region 15 with fail
     clear hw10 q0 q1 q2 q3 q4 q5 q6 q7 q8 q9 f1 f2 f3 f4 f5 f6 f7 f8 f9
     obtain ⟨⟨A0, c0, hgb, hgg, hgc⟩, hgch⟩ := HT10.out
     obtain ⟨n, hn⟩ : ∃ n, L.length = n := ⟨_, rfl⟩
     have ez6 : z6 = (n : Int) := by rw [← hn]; exact HZ6.out
     rw [hn] at hgb d2
     have g0 := cellAt hgb 0
     have g3 := cellAt hgb 3
     have hb10 := HB10.out
     have hk10 := HK10.out.1
     have hf10 := HK10.out.2.1
     unfold pgC at hk10
     have q0 := cellAt hb10 0
     have q1 := cellAt hb10 1
     have q2 := cellAt hb10 2
     have q3 := cellAt hb10 3
     have q4 := cellAt hb10 4
     have q5 := cellAt hb10 5
     have q6 := cellAt hb10 6
     have q7 := cellAt hb10 7
     have q8 := cellAt hb10 8
     have q9 := cellAt hb10 9
     have r0 := cellAt hk10 0
     have r1 := cellAt hk10 1
     have r2 := cellAt hk10 2
     have r3 := cellAt hk10 3
     have r4 := cellAt hk10 4
     have r5 := cellAt hk10 5
     have r6 := cellAt hk10 6
     have r7 := cellAt hk10 7
     have r8 := cellAt hk10 8
     have r9 := cellAt hk10 9
     have f0 := freeAt hk10 0
     have f1 := freeAt hk10 1
     have f2 := freeAt hk10 2
     have f3 := freeAt hk10 3
     have f4 := freeAt hk10 4
     have f5 := freeAt hk10 5
     have f6 := freeAt hk10 6
     have f7 := freeAt hk10 7
     have f8 := freeAt hk10 8
     have f9 := freeAt hk10 9
     have t0 := cellAt hf10 0
     have t1 := cellAt hf10 1
     have t2 := cellAt hf10 2
     have u0 := freeAt hf10 0
     have u1 := freeAt hf10 1
     have u2 := freeAt hf10 2
     have HN := hid hn
     have HEZ := hid ez6
     have HGCH := hid hgch
     clear hgb hgg hgc hgch hb10 hk10 hf10 hn ez6
     go_wp2_with fail
     obtain ⟨wf, hwf, hfb, hfc⟩ := put10 HK10.out.1 (.slice ac 2 cc) (.string ⟨#[118, 111, 105, 100]⟩) (.string ⟨#[109, 97, 105, 110]⟩) (.bool true) (.bool false) (.slice none 0 0) (.slice al 1 cl) (.slice ab 1 cb) (.int .i64 ml) (.int .i64 mc)
     rw [hwf]
     have hff := hfc.keep _ _ HK10.out.2.1 (fun e => by have e' : wa.heap.size = w.heap.size := e; omega)
     obtain ⟨wv, hwv, hvb, hvc⟩ := put3 hff (.int .i64 0) (.int .i64 0) (.int .i64 0)
     rw [hwv]
     have hvp := hvc.keep _ _ hfb (fun e => by have e' : w.heap.size = wa.heap.size := e; omega)
     have k0 := cellAt hvp 0
     have k1 := cellAt hvp 1
     have k2 := cellAt hvp 2
     have k3 := cellAt hvp 3
     have k4 := cellAt hvp 4
     have k5 := cellAt hvp 5
     have k6 := cellAt hvp 6
     have k7 := cellAt hvp 7
     have k8 := cellAt hvp 8
     have k9 := cellAt hvp 9
     have j0 := cellAt hvb 0
     have j1 := cellAt hvb 1
     have j2 := cellAt hvb 2
     refine bodyPost_ret (v := .tuple #[.agg #[.slice ac 2 cc, .string ⟨#[118, 111, 105, 100]⟩, .string ⟨#[109, 97, 105, 110]⟩, .bool true, .bool false, .slice none 0 0, .slice al 1 cl, .slice ab 1 cb, .int .i64 ml, .int .i64 mc], .agg #[.int .i64 0, .int .i64 0, .int .i64 0]]) (by simp [results, Tryz.results9, go_sem, k0, k1, k2, k3, k4, k5, k6, k7, k8, k9, j0, j1, j2]) rfl ?_
     have hn1 : Ch No w wf := newCh (HCB.out.trans (HC0.out.trans HGCH.out)) hfc (fun k o _ e => by have e' : k = w.heap.size := e; omega)
     have hn2 : Ch No w wv := newCh hn1 hvc (fun k o _ e => by have e' : k = wa.heap.size := e; omega)
     have y9 : w.heap.size ≤ w3.heap.size := by omega
     exact ⟨ac, cc, al, cl, ab, cb, rfl, ownsBase (ownsTb (ownsTb HR10.out hfc HK10.out.1 (by decide)) hvc hff (by decide)) y9, ownsBase (ownsTb (ownsTb HL10.out hfc HK10.out.1 (by decide)) hvc hff (by decide)) y89, ownsBase (ownsTb (ownsTb HS10.out hfc HK10.out.1 (by decide)) hvc hff (by decide)) y89, hn2⟩
end Go.Proofs.YtgjpgfedlgdjhaaGreatDoor
end
