/- HierRound: the law. -/
import Derived.Test.YtkffejgjpnnkmaaDoorHzi
set_option linter.unusedVariables false
set_option linter.unusedSimpArgs false
namespace Go.Proofs.YtkffejgjpnnkmaaDoor
open Go.RowKit Go.W

set_option maxRecDepth 100000 in
set_option maxHeartbeats 16000000 in
theorem law_hround {w : World} {n from_ : Nat} {face : Bool} (hT : Tab w) (hn : n < 256) (hf : from_ < 256) :
    Calls Tryd.prog 5 #[.int .u8 n, .int .u8 from_, .bool face] w fun e w' => e = .returned (.bool true) ∧ Ch No w w' := by
  have HT := hid hT
  have haw := awake08 hT
  obtain ⟨m, hm⟩ : ∃ m : Nat, (from_ : Int) % 4 = m := ⟨from_ % 4, by omega⟩
  obtain ⟨k, hk⟩ : ∃ k : Nat, 1 + (n : Int) % 8 = k := ⟨1 + n % 8, by omega⟩
  have hm4 : m < 4 := by omega
  have hk0 : 0 < k := by omega
  have hk8 : k ≤ 8 := by omega
  clear hT
  go_enter Tryd.func5, Tryd.ntmps5
  go_wp2_with fail
  refine haw.mono ?_
  rintro e w1 ⟨rfl, hc1⟩
  have HC1 := hid hc1
  have hst : RnSt w1 (w1.alloc (.cells #[.slice none 0 0, .string { data := #[] }, .string { data := #[] }, .bool false, .bool false, .slice none 0 0, .slice none 0 0, .slice none 0 0, .int .i64 0, .int .i64 0] 30)) m k face (.slice none 0 0) [] 0 :=
    ⟨(Ch.refl No w1).alloc _, heap_alloc_new w1 _, RnOwn.nil _ _, rfl, fun j c h => by simp at h⟩
  have HST := hid hst
  clear haw hc1 hst
  go_wp2_with fail
  try rw [hk]
  try rw [hm]
  clear hk hm
  go_loopg [10] (m + k) (fun g s10 wr => ∃ (i : Nat) (v : Value) (cs : List Cls), i ≤ m + k ∧ m + k - i ≤ g ∧ s10 = .int .i64 i ∧ Hid (RnSt w1 wr m k face v cs i))
  case atStart => exact ⟨0, _, _, Nat.zero_le _, by omega, rfl, HST⟩
  case round =>
    obtain ⟨i, v, cs, hi, hg, rfl, HS⟩ := hrel
    obtain ⟨ao, cap, rfl, hcap, hmax⟩ := HS.out.own.shape
    have hcl := HS.out.len
    rw [hcl] at HS hcap
    unfold maxLen at hmax
    clear hcl
    cases hd : decide (i < m + k) with
    | false =>
      have hil : ¬ i < m + k := by simpa using hd
      have e : i = m + k := by omega
      subst e
      have hring : RingP (m + k) face (up1 m k) cs := ⟨HS.out.len, HS.out.cl, (fun i j _ h => up1_lt hk0 h), by omega⟩
      obtain ⟨g, rfl, hgb, hrow⟩ := HS.out.opened (by omega)
      have hpv : ProgAt wr (.agg #[.slice (some ⟨g, 0, none⟩) (m + k) cap, .string { data := #[] }, .string { data := #[] }, .bool false, .bool false, .slice none 0 0, .slice none 0 0, .slice none 0 0, .int .i64 0, .int .i64 0]) cs :=
        ⟨_, _, _, _, _, _, _, _, _, _, rfl, HS.out.at_⟩
      have hnw := hnew hpv (HT.out.no (HC1.out.trans HS.out.ch)) hring.szP hring.smallP
      have HR := hid hring
      have p0 := cellAt HS.out.blk 0
      have p1 := cellAt HS.out.blk 1
      have p2 := cellAt HS.out.blk 2
      have p3 := cellAt HS.out.blk 3
      have p4 := cellAt HS.out.blk 4
      have p5 := cellAt HS.out.blk 5
      have p6 := cellAt HS.out.blk 6
      have p7 := cellAt HS.out.blk 7
      have p8 := cellAt HS.out.blk 8
      have p9 := cellAt HS.out.blk 9
      clear hd hg hring hpv
      go_wp2_with fail
      refine hnw.mono ?_
      rintro e w3 ⟨o, hfo, hc3, hout⟩
      obtain rfl := hfo.uniq (ring_fault hk0 HR.out)
      obtain ⟨c, hc, hcl⟩ := HR.out.cls (show m < m + k by omega)
      have he : e = .returned (.tuple #[.pointer none, faultV (faultC cs (some m))]) := hout
      rw [faultSome hc, hcl.line, hcl.col] at he
      subst he
      unfold faultV
      have hq : ∃ q : Nat, (m : Int) + (k : Int) - 1 = q := ⟨m + k - 1, by omega⟩
      obtain ⟨q, hq⟩ := hq
      have hql : q < m + k := by omega
      obtain ⟨d, hd, hcd⟩ := HR.out.cls hql
      have hcw := hc3.alloc (.cells #[.int .i64 11, .int .i64 ((m : Int) + 1), .int .i64 7] 36)
      obtain ⟨b', off', cap', ecs, hcell, _, _⟩ := (HS.out.at_.no hcw).cell hd
      rw [HR.out.len] at ecs
      cases ecs
      obtain ⟨q0, q1, q2, q3, q4, q5, q6, q7, q8, q9⟩ := hcell
      rw [Nat.zero_add] at q0 q1 q2 q3 q4 q5 q6 q7 q8 q9
      have hpw := hcw.keep _ _ HS.out.blk (fun h => h)
      have hfw := heap_alloc_new w3 (.cells #[.int .i64 11, .int .i64 ((m : Int) + 1), .int .i64 7] 36)
      obtain ⟨cur, hrow1, hcp, hmx, hrow2, hrow3⟩ := hrow
      have hcw2 := hcw.alloc (.cells #[.string d.name, .string { data := #[] }, .bool d.face, .slice none 0 0, .slice d.s4.1 d.s4.2.1 d.s4.2.2, .slice d.s5.1 d.s5.2.1 d.s5.2.2, .slice d.s6.1 d.s6.2.1 d.s6.2.2, .pointer d.p7, .int .i64 d.line, .int .i64 d.col] 49)
      obtain ⟨b'', off'', cap'', ecs2, hcell2, _, _⟩ := (HS.out.at_.no hcw2).cell hd
      rw [HR.out.len] at ecs2
      cases ecs2
      obtain ⟨r0, r1, r2, r3, r4, r5, r6, r7, r8, r9⟩ := hcell2
      rw [Nat.zero_add] at r0 r1 r2 r3 r4 r5 r6 r7 r8 r9
      have hpw2 := hcw2.keep _ _ HS.out.blk (fun h => h)
      have hgw := hcw2.keep _ _ hrow1 (fun h => h)
      have hfw2 := ((Ch.refl No (w3.alloc (.cells #[.int .i64 11, .int .i64 ((m : Int) + 1), .int .i64 7] 36))).alloc (.cells #[.string d.name, .string { data := #[] }, .bool d.face, .slice none 0 0, .slice d.s4.1 d.s4.2.1 d.s4.2.2, .slice d.s5.1 d.s5.2.1 d.s5.2.2, .slice d.s6.1 d.s6.2.1 d.s6.2.2, .pointer d.p7, .int .i64 d.line, .int .i64 d.col] 49)).keep _ _ hfw (fun h => h)
      have HD := hid hd
      have HCD := hid hcd
      have HCW := hid hcw
      have HCW2 := hid hcw2
      have HROW := hid (And.intro hrow2 hrow3)
      have HPW2 := hid hpw2
      have HGW := hid hgw
      have HFW2 := hid hfw2
      have hmx' := hmx
      unfold maxLen at hmx
      clear hnw hfo hout hc hcl p0 p1 p2 p3 p4 p5 p6 p7 p8 p9 hd hcd hcw hcw2
      have p0 := cellAt hpw 0
      have p1 := cellAt hpw 1
      have p2 := cellAt hpw 2
      have p3 := cellAt hpw 3
      have p4 := cellAt hpw 4
      have p5 := cellAt hpw 5
      have p6 := cellAt hpw 6
      have p7 := cellAt hpw 7
      have p8 := cellAt hpw 8
      have p9 := cellAt hpw 9
      have s0 := cellAt hpw2 0
      have s1 := cellAt hpw2 1
      have s2 := cellAt hpw2 2
      have s3 := cellAt hpw2 3
      have s4 := cellAt hpw2 4
      have s5 := cellAt hpw2 5
      have s6 := cellAt hpw2 6
      have s7 := cellAt hpw2 7
      have s8 := cellAt hpw2 8
      have s9 := cellAt hpw2 9
      have hgw1 := HCW.out.keep _ _ hrow1 (fun h => h)
      have e0 := freeAt hgw (q * 10)
      have e1 := freeAt hgw (q * 10 + 1)
      have e2 := freeAt hgw (q * 10 + 2)
      have e3 := freeAt hgw (q * 10 + 3)
      have e4 := freeAt hgw (q * 10 + 4)
      have e5 := freeAt hgw (q * 10 + 5)
      have e6 := freeAt hgw (q * 10 + 6)
      have e7 := freeAt hgw (q * 10 + 7)
      have e8 := freeAt hgw (q * 10 + 8)
      have e9 := freeAt hgw (q * 10 + 9)
      have j0 := freeAt hgw1 (q * 10)
      have j1 := freeAt hgw1 (q * 10 + 1)
      have j2 := freeAt hgw1 (q * 10 + 2)
      have j3 := freeAt hgw1 (q * 10 + 3)
      have j4 := freeAt hgw1 (q * 10 + 4)
      have j5 := freeAt hgw1 (q * 10 + 5)
      have j6 := freeAt hgw1 (q * 10 + 6)
      have j7 := freeAt hgw1 (q * 10 + 7)
      have j8 := freeAt hgw1 (q * 10 + 8)
      have j9 := freeAt hgw1 (q * 10 + 9)
      clear hgw1
      have zg : g < w3.heap.size + 1 := by simpa using (Nat.lt_of_lt_of_le (lt_size hrow1) (HCW.out.size))
      have zp : w1.heap.size < w3.heap.size + 1 := by simpa using lt_size hpw
      have HROW1 := hid hrow1
      have HFW := hid hfw
      have HC3 := hid hc3
      clear hpw hfw hgw hpw2 hfw2 hrow1 hrow2 hrow3
      go_wp2_with fail
      clear p0 p1 p2 p3 p4 p5 p6 p7 p8 p9 s0 s1 s2 s3 s4 s5 s6 s7 s8 s9 e0 e1 e2 e3 e4 e5 e6 e7 e8 e9 j0 j1 j2 j3 j4 j5 j6 j7 j8 j9 q0 q1 q2 q3 q4 q5 q6 q7 q8 q9 r0 r1 r2 r3 r4 r5 r6 r7 r8 r9
      have hg3 : g < w3.heap.size := lt_size (HC3.out.keep _ _ HROW1.out (fun h => h))
      have hgw1 := HCW.out.keep _ _ HROW1.out (fun h => h)
      obtain ⟨wf, hwf, ⟨cur', h4, h5, h6⟩, hc4⟩ := put10 hgw1 (q * 10) (by have := HROW.out.1; omega) (.string d.name) (.string { data := #[] }) (.bool d.face) (.slice none 0 0) (.slice d.s4.1 d.s4.2.1 d.s4.2.2) (.slice d.s5.1 d.s5.2.1 d.s5.2.2) (.slice d.s6.1 d.s6.2.1 d.s6.2.2) (.pointer d.p7) (.int .i64 d.line) (.int .i64 d.col)
      rw [hwf]
      have hcl4 := HS.out.offAt HCW.out HD.out hcp hmx' HROW.out.1 HROW.out.2 hgb h4 h5 h6 hgw1 hc4
      have h1f : Ch No w1 wf := (HS.out.ch.trans HCW.out).trans' hc4 (fun j o ho e => by have e' : j = g := e; have := lt_size ho; omega)
      have hff := hc4.keep _ _ HFW.out (fun e => by have e' : w3.heap.size = g := e; omega)
      have hpf := hc4.keep _ _ (HCW.out.keep _ _ HS.out.blk (fun h => h)) (fun e => by have e' : w1.heap.size = g := e; omega)
      have hca := (Ch.refl No wf).alloc (.cells #[.string d.name, .string { data := #[] }, .bool d.face, .slice none 0 0, .slice d.s4.1 d.s4.2.1 d.s4.2.2, .slice d.s5.1 d.s5.2.1 d.s5.2.2, .slice d.s6.1 d.s6.2.1 d.s6.2.2, .pointer d.p7, .int .i64 d.line, .int .i64 d.col] 49)
      obtain ⟨w4, hw4⟩ : ∃ w4, wf.alloc (.cells #[.string d.name, .string { data := #[] }, .bool d.face, .slice none 0 0, .slice d.s4.1 d.s4.2.1 d.s4.2.2, .slice d.s5.1 d.s5.2.1 d.s5.2.2, .slice d.s6.1 d.s6.2.1 d.s6.2.2, .pointer d.p7, .int .i64 d.line, .int .i64 d.col] 49) = w4 := ⟨_, rfl⟩
      rw [hw4] at hca ⊢
      have h14 := h1f.trans hca
      have hring2 := HR.out.offAt hk0 (show q + 1 = m + k by omega) HD.out
      have hpv2 : ProgAt w4 (.agg #[.slice (some ⟨g, 0, none⟩) (m + k) cap, .string { data := #[] }, .string { data := #[] }, .bool false, .bool false, .slice none 0 0, .slice none 0 0, .slice none 0 0, .int .i64 0, .int .i64 0]) (cs.set q d.off) :=
        ⟨_, _, _, _, _, _, _, _, _, _, rfl, hcl4.no hca⟩
      have hnw2 := hnew hpv2 (HT.out.no (HC1.out.trans h14)) hring2.szP hring2.smallP
      have hf4 := hca.keep _ _ hff (fun h => h)
      refine hnw2.mono ?_
      rintro e w5 ⟨o, hfo, hc5, hout⟩
      obtain rfl := hfo.uniq (line_fault hring2)
      obtain ⟨tv, rfl, htv⟩ := hout
      have hcz := hc5.alloc (.cells #[.int .i64 0, .int .i64 0, .int .i64 0] 36)
      have hbz := heap_alloc_new w5 (.cells #[.int .i64 0, .int .i64 0, .int .i64 0] 36)
      have hfz := hcz.keep _ _ hf4 (fun h => h)
      have htz := htv.no ((Ch.refl No w5).alloc (.cells #[.int .i64 0, .int .i64 0, .int .i64 0] 36))
      have h1z := h14.trans hcz
      have hab := tAbove (is := [(m : Int)]) (HT.out.no (HC1.out.trans (h1z.alloc (.cells #[.int .i64 m] 3)))) (htz.no ((Ch.refl No _).alloc (.cells #[.int .i64 m] 3))) (line_fault hring2) (by rw [hring2.len]; omega) (one_at _ (m : Int))
      rw [show (w5.alloc (.cells #[.int .i64 0, .int .i64 0, .int .i64 0] 36)).heap.size = w5.heap.size + 1 by simp] at hab
      have hlen := line_above hk0 hring2
      have HAB := hid hab
      have HLEN := hid hlen
      clear hab hlen
      obtain ⟨tb, T, rfl, hT⟩ := htv
      clear hT
      have f0 := cellAt hfz 0
      have f1 := cellAt hfz 1
      have f2 := cellAt hfz 2
      have g0 := cellAt hbz 0
      have g1 := cellAt hbz 1
      have g2 := cellAt hbz 2
      have zf : w3.heap.size < w5.heap.size + 1 := by simpa using lt_size hfz
      have H1Z := hid h1z
      clear hwf hw4 hfo hnw2 hring2 hpv2 hcl4 h14 hca hf4 hff hpf hc4 h4 h5 h6 hgw1 h1f htz hc5 hcz hbz hfz h1z
      clear hc3 hq hi hcap hil hmax hcp hmx HCW HCW2 HPW2 HGW HFW2 HFW HROW1
      unfold faultV
      go_wp2_with fail
      refine HAB.out.mono ?_
      rintro e w6 ⟨u, rfl, hu, hc6⟩
      obtain ⟨a6, cap6, rfl, _, _, _, _⟩ := hu.at_
      rw [HLEN.out]
      clear hu
      go_wp2_with fail
      go_ret
      exact ⟨rfl, HC1.out.trans ((H1Z.out.alloc _).trans hc6)⟩
    | true =>
      have hil : i < m + k := by simpa using hd
      cases hlm : decide (i < m) with
      | true =>
        have him : i < m := by simpa using hlm
        obtain ⟨x, hx⟩ : ∃ x, wrap64 (97 + (m : Int) + ((i : Int) - m + 1).tmod k) % 256 = x := ⟨_, rfl⟩
        have hcv := oneStr wr x
        have ha1 := (Ch.refl No wr).alloc (.cells #[.int .u8 x] 5)
        obtain ⟨wA, hwA⟩ : ∃ wA, wr.alloc (.cells #[.int .u8 x] 5) = wA := ⟨_, rfl⟩
        rw [hwA] at hcv ha1
        have hcv2 := oneStr wA (97 + (i : Int))
        have ha2 := ha1.alloc (.cells #[.int .u8 (97 + (i : Int))] 5)
        obtain ⟨wB, hwB⟩ : ∃ wB, wA.alloc (.cells #[.int .u8 (97 + (i : Int))] 5) = wB := ⟨_, rfl⟩
        rw [hwB] at hcv2 ha2
        rw [nmI] at hcv2
        obtain ⟨ni, hni⟩ : ∃ ni, nmR i = ni := ⟨_, rfl⟩
        obtain ⟨nu, hnu⟩ : ∃ nu, (⟨#[UInt8.ofNat x.toNat]⟩ : ByteArray) = nu := ⟨_, rfl⟩
        rw [hnu] at hcv
        rw [hni] at hcv2
        have p0 := cellAt (ha2.keep _ _ HS.out.blk (fun h => h)) 0
        have hpz := lt_size (ha2.keep _ _ HS.out.blk (fun h => h))
        have f0 := freeAt (ha2.keep _ _ HS.out.blk (fun h => h)) 0
        have HA2 := hid ha2
        clear ha1 ha2 hnu
        have hn4 : i + 1 ≤ 100000 := by omega
        cases face with
        | true =>
          have hc4 := (HA2.out.alloc (.cells #[.string ni, .string { data := #[] }, .bool true, .slice none 0 0, .slice none 0 0, .slice none 0 0, .slice none 0 0, .pointer none, .int .i64 ((i : Int) + 1), .int .i64 7] 49)).alloc (.cells #[.string ni, .string { data := #[] }, .bool true, .slice none 0 0, .slice none 0 0, .slice none 0 0, .slice none 0 0, .pointer none, .int .i64 ((i : Int) + 1), .int .i64 7] 49)
          have hrow := HS.out.rowAt hc4
          have hbase : w1.heap.size + 1 ≤ _ := Nat.le_trans hpz (((Ch.refl No wB).alloc (.cells #[.string ni, .string { data := #[] }, .bool true, .slice none 0 0, .slice none 0 0, .slice none 0 0, .slice none 0 0, .pointer none, .int .i64 ((i : Int) + 1), .int .i64 7] 49)).alloc (.cells #[.string ni, .string { data := #[] }, .bool true, .slice none 0 0, .slice none 0 0, .slice none 0 0, .slice none 0 0, .pointer none, .int .i64 ((i : Int) + 1), .int .i64 7] 49)).size
          have hclr : ClR true (up1 m k) i (⟨ni, ⟨#[]⟩, true, [], none, 0, (none, 0, 0), (none, 0, 0), (none, 0, 0), none, (i : Int) + 1, 7⟩ : Cls) := ⟨hni.symm, rfl, (fun h => by cases h), (fun _ => ⟨rfl, by rw [up1_no him]; rfl⟩), rfl, rfl⟩
          have HCLR := hid hclr
          have HC4 := hid hc4
          have HROW := hid hrow
          clear hc4 hrow hclr
          go_wp2_with (at_builtin; go_must (refine wpAppendOwn rfl _ _ rfl Tryd.sliceCls Tryd.infoCls (Nat.le_of_ble_eq_true rfl) (Nat.le_of_ble_eq_true rfl) (w1.heap.size + 1) (.slice ao i cap) i (cs.flatMap Cls.cells) rfl HROW.out (wB.heap.size + 1) 1 1 (Cls.cells (⟨ni, ⟨#[]⟩, true, [], none, 0, (none, 0, 0), (none, 0, 0), (none, 0, 0), none, (i : Int) + 1, 7⟩ : Cls)) rfl rfl (alloc2 _ _ _) (Cls.one _) hn4 hbase ?_))
          intro v5 w5 hr5 hc5
          obtain ⟨⟨ao5, cap5, rfl⟩, hb5, hst5⟩ := HS.out.step HC4.out HCLR.out (.inl ⟨rfl, rfl, rfl⟩) hr5 hc5
          have g0 := cellAt hb5 0
          have gf := freeAt hb5 0
          have HST5 := hid hst5
          clear hr5 hc5 hb5 hst5
          go_wp2_with fail
          go_roundg (m + k - i - 1)
          case rel => exact ⟨i + 1, _, _, by omega, by omega, by go_num, HST5⟩
          case measure => omega
        | false =>
          have hc4 := (HA2.out.alloc (.cells #[.string ni, .string { data := #[] }, .bool false, .slice none 0 0, .slice none 0 0, .slice none 0 0, .slice none 0 0, .pointer none, .int .i64 ((i : Int) + 1), .int .i64 7] 49)).alloc (.cells #[.string ni, .string { data := #[] }, .bool false, .slice none 0 0, .slice none 0 0, .slice none 0 0, .slice none 0 0, .pointer none, .int .i64 ((i : Int) + 1), .int .i64 7] 49)
          have hrow := HS.out.rowAt hc4
          have hbase : w1.heap.size + 1 ≤ _ := Nat.le_trans hpz (((Ch.refl No wB).alloc (.cells #[.string ni, .string { data := #[] }, .bool false, .slice none 0 0, .slice none 0 0, .slice none 0 0, .slice none 0 0, .pointer none, .int .i64 ((i : Int) + 1), .int .i64 7] 49)).alloc (.cells #[.string ni, .string { data := #[] }, .bool false, .slice none 0 0, .slice none 0 0, .slice none 0 0, .slice none 0 0, .pointer none, .int .i64 ((i : Int) + 1), .int .i64 7] 49)).size
          have hclr : ClR false (up1 m k) i (⟨ni, ⟨#[]⟩, false, [], none, 0, (none, 0, 0), (none, 0, 0), (none, 0, 0), none, (i : Int) + 1, 7⟩ : Cls) := ⟨hni.symm, rfl, (fun _ => ⟨by rw [up1_no him]; rfl, rfl⟩), (fun h => by cases h), rfl, rfl⟩
          have HCLR := hid hclr
          have HC4 := hid hc4
          have HROW := hid hrow
          clear hc4 hrow hclr
          go_wp2_with (at_builtin; go_must (refine wpAppendOwn rfl _ _ rfl Tryd.sliceCls Tryd.infoCls (Nat.le_of_ble_eq_true rfl) (Nat.le_of_ble_eq_true rfl) (w1.heap.size + 1) (.slice ao i cap) i (cs.flatMap Cls.cells) rfl HROW.out (wB.heap.size + 1) 1 1 (Cls.cells (⟨ni, ⟨#[]⟩, false, [], none, 0, (none, 0, 0), (none, 0, 0), (none, 0, 0), none, (i : Int) + 1, 7⟩ : Cls)) rfl rfl (alloc2 _ _ _) (Cls.one _) hn4 hbase ?_))
          intro v5 w5 hr5 hc5
          obtain ⟨⟨ao5, cap5, rfl⟩, hb5, hst5⟩ := HS.out.step HC4.out HCLR.out (.inl ⟨rfl, rfl, rfl⟩) hr5 hc5
          have g0 := cellAt hb5 0
          have gf := freeAt hb5 0
          have HST5 := hid hst5
          clear hr5 hc5 hb5 hst5
          go_wp2_with fail
          go_roundg (m + k - i - 1)
          case rel => exact ⟨i + 1, _, _, by omega, by omega, by go_num, HST5⟩
          case measure => omega
      | false =>
        have him : ¬ i < m := by simpa using hlm
        obtain ⟨u, hu⟩ : ∃ u : Nat, m + (i - m + 1) % k = u := ⟨_, rfl⟩
        have hul : u < m + k := by have := Nat.mod_lt (i - m + 1) hk0; omega
        have hx := upVal hm4 hk0 hk8 him hu
        have hcv := oneStr wr (97 + (u : Int))
        have ha1 := (Ch.refl No wr).alloc (.cells #[.int .u8 (97 + (u : Int))] 5)
        obtain ⟨wA, hwA⟩ : ∃ wA, wr.alloc (.cells #[.int .u8 (97 + (u : Int))] 5) = wA := ⟨_, rfl⟩
        rw [hwA] at hcv ha1
        rw [nmI] at hcv
        have hcv2 := oneStr wA (97 + (i : Int))
        have ha2 := ha1.alloc (.cells #[.int .u8 (97 + (i : Int))] 5)
        obtain ⟨wB, hwB⟩ : ∃ wB, wA.alloc (.cells #[.int .u8 (97 + (i : Int))] 5) = wB := ⟨_, rfl⟩
        rw [hwB] at hcv2 ha2
        rw [nmI] at hcv2
        obtain ⟨ni, hni⟩ : ∃ ni, nmR i = ni := ⟨_, rfl⟩
        obtain ⟨nu, hnu⟩ : ∃ nu, nmR u = nu := ⟨_, rfl⟩
        rw [hnu] at hcv
        rw [hni] at hcv2
        have hsB := HS.out
        have p0 := cellAt (ha2.keep _ _ HS.out.blk (fun h => h)) 0
        have hpz := lt_size (ha2.keep _ _ HS.out.blk (fun h => h))
        have f0 := freeAt (ha2.keep _ _ HS.out.blk (fun h => h)) 0
        have HA2 := hid ha2
        clear ha1 ha2 hsB
        have hne : nu.toList.isEmpty = false := by rw [← hnu]; exact nmR_ne u
        have hn4 : i + 1 ≤ 100000 := by omega
        cases face with
        | true =>
          have hc4 := ((HA2.out.alloc (.cells #[.string ni, .string { data := #[] }, .bool true, .slice (some ⟨wB.heap.size + 1, 0, none⟩) 1 1, .slice none 0 0, .slice none 0 0, .slice none 0 0, .pointer none, .int .i64 ((i : Int) + 1), .int .i64 7] 49)).alloc (.cells #[.string nu] 9)).alloc (.cells #[.string ni, .string { data := #[] }, .bool true, .slice (some ⟨wB.heap.size + 1, 0, none⟩) 1 1, .slice none 0 0, .slice none 0 0, .slice none 0 0, .pointer none, .int .i64 ((i : Int) + 1), .int .i64 7] 49)
          have hrow := HS.out.rowAt hc4
          have hbase : w1.heap.size + 1 ≤ _ := Nat.le_trans hpz ((((Ch.refl No wB).alloc (.cells #[.string ni, .string { data := #[] }, .bool true, .slice (some ⟨wB.heap.size + 1, 0, none⟩) 1 1, .slice none 0 0, .slice none 0 0, .slice none 0 0, .pointer none, .int .i64 ((i : Int) + 1), .int .i64 7] 49)).alloc (.cells #[.string nu] 9)).alloc (.cells #[.string ni, .string { data := #[] }, .bool true, .slice (some ⟨wB.heap.size + 1, 0, none⟩) 1 1, .slice none 0 0, .slice none 0 0, .slice none 0 0, .pointer none, .int .i64 ((i : Int) + 1), .int .i64 7] 49)).size
          have hclr : ClR true (up1 m k) i (⟨ni, ⟨#[]⟩, true, [nu], some ⟨wB.heap.size + 1, 0, none⟩, 1, (none, 0, 0), (none, 0, 0), (none, 0, 0), none, (i : Int) + 1, 7⟩ : Cls) := ⟨hni.symm, rfl, (fun h => by cases h), (fun _ => ⟨rfl, by rw [up1_yes him hu, ← hnu]; rfl⟩), rfl, rfl⟩
          have HCLR := hid hclr
          have HC4 := hid hc4
          have HROW := hid hrow
          clear hc4 hrow hclr
          go_wp2_with (at_builtin; go_must (refine wpAppendOwn rfl _ _ rfl Tryd.sliceCls Tryd.infoCls (Nat.le_of_ble_eq_true rfl) (Nat.le_of_ble_eq_true rfl) (w1.heap.size + 1) (.slice ao i cap) i (cs.flatMap Cls.cells) rfl HROW.out (wB.heap.size + 1 + 1) 1 1 (Cls.cells (⟨ni, ⟨#[]⟩, true, [nu], some ⟨wB.heap.size + 1, 0, none⟩, 1, (none, 0, 0), (none, 0, 0), (none, 0, 0), none, (i : Int) + 1, 7⟩ : Cls)) rfl rfl (alloc3 _ _ _ _) (Cls.one _) hn4 hbase ?_))
          intro v5 w5 hr5 hc5
          obtain ⟨⟨ao5, cap5, rfl⟩, hb5, hst5⟩ := HS.out.step HC4.out HCLR.out (.inr ⟨wB.heap.size + 1, nu, rfl, rfl, rfl, ((Ch.refl No _).alloc _).keep _ _ (alloc2 wB _ _) (fun h => h)⟩) hr5 hc5
          have g0 := cellAt hb5 0
          have gf := freeAt hb5 0
          have HST5 := hid hst5
          clear hr5 hc5 hb5 hst5
          go_wp2_with fail
          go_roundg (m + k - i - 1)
          case rel => exact ⟨i + 1, _, _, by omega, by omega, by go_num, HST5⟩
          case measure => omega
        | false =>
          have hc4 := (HA2.out.alloc (.cells #[.string ni, .string nu, .bool false, .slice none 0 0, .slice none 0 0, .slice none 0 0, .slice none 0 0, .pointer none, .int .i64 ((i : Int) + 1), .int .i64 7] 49)).alloc (.cells #[.string ni, .string nu, .bool false, .slice none 0 0, .slice none 0 0, .slice none 0 0, .slice none 0 0, .pointer none, .int .i64 ((i : Int) + 1), .int .i64 7] 49)
          have hrow := HS.out.rowAt hc4
          have hbase : w1.heap.size + 1 ≤ _ := Nat.le_trans hpz (((Ch.refl No wB).alloc (.cells #[.string ni, .string nu, .bool false, .slice none 0 0, .slice none 0 0, .slice none 0 0, .slice none 0 0, .pointer none, .int .i64 ((i : Int) + 1), .int .i64 7] 49)).alloc (.cells #[.string ni, .string nu, .bool false, .slice none 0 0, .slice none 0 0, .slice none 0 0, .slice none 0 0, .pointer none, .int .i64 ((i : Int) + 1), .int .i64 7] 49)).size
          have hclr : ClR false (up1 m k) i (⟨ni, nu, false, [], none, 0, (none, 0, 0), (none, 0, 0), (none, 0, 0), none, (i : Int) + 1, 7⟩ : Cls) := ⟨hni.symm, rfl, (fun _ => ⟨by rw [up1_yes him hu]; exact hnu.symm, rfl⟩), (fun h => by cases h), rfl, rfl⟩
          have HCLR := hid hclr
          have HC4 := hid hc4
          have HROW := hid hrow
          clear hc4 hrow hclr
          go_wp2_with (at_builtin; go_must (refine wpAppendOwn rfl _ _ rfl Tryd.sliceCls Tryd.infoCls (Nat.le_of_ble_eq_true rfl) (Nat.le_of_ble_eq_true rfl) (w1.heap.size + 1) (.slice ao i cap) i (cs.flatMap Cls.cells) rfl HROW.out (wB.heap.size + 1) 1 1 (Cls.cells (⟨ni, nu, false, [], none, 0, (none, 0, 0), (none, 0, 0), (none, 0, 0), none, (i : Int) + 1, 7⟩ : Cls)) rfl rfl (alloc2 _ _ _) (Cls.one _) hn4 hbase ?_))
          intro v5 w5 hr5 hc5
          obtain ⟨⟨ao5, cap5, rfl⟩, hb5, hst5⟩ := HS.out.step HC4.out HCLR.out (.inl ⟨rfl, rfl, rfl⟩) hr5 hc5
          have g0 := cellAt hb5 0
          have gf := freeAt hb5 0
          have HST5 := hid hst5
          clear hr5 hc5 hb5 hst5
          go_wp2_with fail
          go_roundg (m + k - i - 1)
          case rel => exact ⟨i + 1, _, _, by omega, by omega, by go_num, HST5⟩
          case measure => omega
theorem u8Wf {x : Int} (hx : (Lit.int .u8 x).wf = true) : 0 ≤ x ∧ x ≤ 255 := by
  simpa [Lit.wf, IntKind.min, IntKind.max, IntKind.signed, IntKind.bits] using hx
theorem law_hround' {w : World} {x y : Int} {face : Bool} (hT : Tab w) (hx : (Lit.int .u8 x).wf = true) (hy : (Lit.int .u8 y).wf = true) :
    Calls Tryd.prog 5 #[.int .u8 x, .int .u8 y, .bool face] w fun e w' => e = .returned (.bool true) ∧ Ch No w w' := by
  have hx' := u8Wf hx
  have hy' := u8Wf hy
  obtain ⟨n, rfl⟩ : ∃ n : Nat, x = n := ⟨x.toNat, by omega⟩
  obtain ⟨m, rfl⟩ : ∃ m : Nat, y = m := ⟨y.toNat, by omega⟩
  exact law_hround hT (by omega) (by omega)
end Go.Proofs.YtkffejgjpnnkmaaDoor
