/- Part 15. -/
import Derived.Test.YtgjpgfedlgdjhaaGreatDoorYan
import Derived.Test.YtgjpgfedlgdjhaaGreatDoorYal
set_option linter.unusedVariables false
set_option linter.unusedSimpArgs false
set_option maxHeartbeats 64000000
set_option maxRecDepth 8192
section
namespace Go.Proofs.YtgjpgfedlgdjhaaGreatDoor
open Go.RowKit Go.W
theorem Tryz.infoStmt : (Tryz.prog.info? 128).map (fun i => (i.zero.map (fun z => z.cells.size), i.size, i.bytes)) = some (some 12, 12, 184) := by kernel_rfl
theorem Tryz.sliceStmt : Tryz.prog.underlying 25 = some (.slice 128) := by kernel_rfl
theorem N1 (h : Sh) (n m : Nat) : ∀ u ∈ Bk h n m, u.oneCell' = true := by
 intro u hu
 simp [Bk] at hu
 rcases hu with rfl | rfl | rfl | rfl | rfl | rfl | rfl | rfl | rfl | rfl | rfl | rfl <;> rfl
theorem Bo.fresh {w2 w : World} {base sz n lo : Nat} {e : TypeId} {v : Value} {xs : List Value} {t : Tr} (own : w2.ownsRow base e sz v n xs) (hlo : lo ≤ w2.heap.size) (h : Bo (Mk w2.heap.size) w t) : Bo (Ex lo v) w t :=
 h.mono (fun k _ hk => ⟨Nat.le_trans hlo hk, fun e => by
  obtain ⟨_, cur, h2⟩ := Aw own k e
  have h3 := Ac h2
  have h4 : w2.heap.size ≤ k := hk
  omega⟩)
structure N2 (w0 w : World) (g : Nat) (L : List Tk) (a b c d z : Int) (ao : Option Addr) (k cap : Nat) (t : Tr) (zc c' d' : Int) (wr : World) : Prop where
 tx : Tx w0 wr g L a b c' d'
 ch : Ch (Tb g) w wr
 pl : zc = -1 ∨ (0 ≤ z ∧ z ≤ zc ∧ zc ≤ L.length ∧ c' = c ∧ d' = d)
 own : wr.ownsRow w.heap.size 128 12 (.slice ao k cap) k t.cells
 tr : Bo (Ex w.heap.size (.slice ao k cap)) wr t
 len : t.len = k
theorem N2.out {w0 w wr w' : World} {g : Nat} {L : List Tk} {a b c d z c' d' zc r : Int} {ao : Option Addr} {k cap : Nat} {t : Tr} (h : N2 w0 w g L a b c d z ao k cap t zc c' d' wr) (hk : k ≤ 40) (hg : g < w.heap.size) {c'' d'' : Int} (hT : Tx w0 w' g L a b c'' d'') (hc : Ch (Tb g) wr w') (hr : r = -1 ∨ (zc < r ∧ zc ≠ -1 ∧ r ≤ L.length ∧ c'' = c' ∧ d'' = d')) :
 Ip w0 w g L a b c d z (.returned (.tuple #[.slice ao k cap, .int .i64 r])) w' := by
 obtain rfl := h.len
 refine ⟨t, ao, cap, r, rfl, ⟨hk, A5.own (Cn h.tx h.own hc (by decide)) (fun _ hk => hk), (h.tr.tb hc hg).mono (fun _ _ hp => hp.1)⟩, c'', d'', hT, h.ch.trans hc, ?_⟩
 rcases hr with hr | ⟨h1, h2, h3, h4, h5⟩
 {exact .inl hr}
 {rcases h.pl with h6 | ⟨h6, h7, h8, h9, h10⟩
  {exact absurd h6 h2}
  {exact .inr ⟨h6, by omega, h3, h4.trans h9, h5.trans h10⟩}}
section
variable {w0 w : World} {g : Nat} {L : List Tk} {a b c d : Int}
theorem Ac5 {p : Prop} (h : p := by
 go_wp2
 refine bodyPost_ret (v := .tuple #[.slice ao k cap, .int .i64 (-1)]) (by simp [results, Tryz.results60, go_sem]) rfl ?_
 exact HO.out
 ) : p := h
theorem Ac6 {p : Prop} (h : p := by
 rintro e w3 ⟨rfl, c3, d3, hT3, hc3⟩
 have HO := Aa (HA2.out.out hk hgl hT3 hc3 (r := -1) (.inl rfl))
 clear hT3 hc3
 exact Ac5
 ) : p := h
theorem Q7 {deep : Int} (hS : Q5 deep) : Jn deep := by
 intro w0 w g L a b c d h hL z hz hz9
 have HL := Aa hL
 have hLL := hL.1
 have HS := Aa hS
 have HT := Aa h
 have hgl := h.lt
 have h0w := h.ch.size
 clear h hL hS
 go_in
 go_wp2
 go_loopg [6, 7, 8, 1, 9, 10] 40000 (fun gg s6 s7 s8 s1 s9 s10 wr => ∃ (N : Nat) (zc c' d' : Int) (ao : Option Addr) (k cap : Nat) (t : Tr), -1 ≤ zc ∧ zc ≤ 20000 ∧ N ≤ gg ∧ (zc = -1 ∨ 30001 - zc ≤ (N : Int)) ∧ s1 = .int .i64 zc ∧ s8 = .slice ao k cap ∧ k ≤ 40 ∧ k ≤ cap ∧ cap ≤ 9223372036854775807 ∧ Hid (N2 w0 w g L a b c d z ao k cap t zc c' d' wr))
 case atStart => exact ⟨40000, z, c, d, none, 0, 0, .nil, by omega, by omega, by omega, by omega, rfl, rfl, by omega, by omega, by omega, Aa ⟨HT.out, Ch.refl _ _, by omega, World.ownsRow_nil _ _ _ _, trivial, rfl⟩⟩
 case round =>
  obtain ⟨N, zc, c', d', ao, k, cap, t, z1, z2, zN, z3, rfl, rfl, hk, hkc, hcm, HA⟩ := hrel
  by_cases z0 : 0 ≤ zc
  {have dz : decide (zc ≥ 0) = true := decide_eq_true z0
   have dn : decide (zc < 0) = false := decide_eq_false (by omega)
   have wz : IntKind.i64.wrap (zc + 1) = zc + 1 := by rw [IntKind.wrap_i64]; omega
   have htw := A6 HA.out.tx zc
   have hbg := Yl HA.out.tx HL.out zc
   obtain ⟨W, hW⟩ := Ax (Ar L zc)
   rw [hW] at htw hbg
   have HW := Aa hW
   clear hW
   by_cases hb : W = ⟨#[125]⟩
   {have e1 := lit _ [125] hb
    have en : (W.toList != [125]) = false := by rw [bne, e1]; rfl
    have hlt := (Be (L := L) (z := zc) (by rw [HW.out, hb]; decide)).2
    have HO := Aa (HA.out.out hk hgl HA.out.tx (Ch.refl _ _) (r := zc + 1) (.inr ⟨by omega, by omega, by omega, rfl, rfl⟩))
    clear hb hbg
    go_wp2_with fail
    refine htw.mono ?_
    rintro e wx ⟨rfl, rfl⟩
    go_wp2
    refine bodyPost_ret (v := .tuple #[.slice ao k cap, .int .i64 (zc + 1)]) (by simp [results, Tryz.results60, go_sem]) rfl ?_
    exact HO.out}
   {have e1 := Bf _ [125] hb
    have en : (W.toList != [125]) = true := by rw [bne, e1]; rfl
    clear hb
    go_wp2_with fail
    refine htw.mono ?_
    rintro e wx ⟨rfl, rfl⟩
    clear htw
    go_wp2_with fail
    refine hbg.mono ?_
    rintro e w2 ⟨r, rfl, _, hc2⟩
    have HA2 := Aa (show N2 w0 w g L a b c d z ao k cap t zc c' d' w2 from ⟨HA.out.tx.no hc2, HA.out.ch.trans (Ce hc2), HA.out.pl, An HA.out.own hc2 (fun _ _ _ _ _ h => h), HA.out.tr.no hc2, HA.out.len⟩)
    have hs2 : w.heap.size ≤ w2.heap.size := HA2.out.ch.size
    clear hc2 hbg
    cases r with
    | false =>
     go_wp2_with fail
     refine (B9 HA2.out.tx zc 10).mono ?_
     exact Ac6
    | true =>
     by_cases hk4 : k = 40
     {have d40 : ((k : Int) == 40) = true := by simpa using (show (k : Int) = 40 by omega)
      have HK := Aa hk4
      clear hk4
      go_wp2_with fail
      refine (B9 HA2.out.tx zc 13).mono ?_
      exact Ac6}
     {have d40 : ((k : Int) == 40) = false := by simpa using (show ¬ (k : Int) = 40 by omega)
      have hst := HS.out HA2.out.tx HL.out (z := zc) z0 (by rcases HA2.out.pl with h | h <;> omega)
      go_wp2_with fail
      refine hst.mono ?_
      rintro e w3 ⟨h, x, y, r, rfl, ht3, c3, d3, hT3, hc3, hr3⟩
      have hown3 := Cn HA2.out.tx HA2.out.own hc3 (by decide)
      have HOW3 := Aa hown3
      have HTR3 := Aa (HA2.out.tr.tb hc3 hgl)
      have HTN3 := Aa (Bo.fresh HA2.out.own hs2 ht3)
      have HT3 := Aa hT3
      have HC3 := Aa (HA2.out.ch.trans hc3)
      have HR3 := Aa (show r = -1 ∨ (0 ≤ z ∧ z ≤ r ∧ zc < r ∧ r ≤ L.length ∧ c3 = c ∧ d3 = d) from by
       rcases hr3 with h1 | ⟨h1, h2, h3, h4, h5⟩
       {exact .inl h1}
       {rcases HA2.out.pl with h6 | ⟨h6, h7, h8, h9, h10⟩
        {omega}
        {exact .inr ⟨h6, by omega, h2, h3, h4.trans h9, h5.trans h10⟩}})
      clear hown3 ht3 hT3 hc3 hr3 hst
      go_upto_region 8 with fail
      obtain ⟨w4, hw4, hb4, hc4⟩ := A2 w3 (.cells (Bk h x.len y.len).toArray 128)
      unfold Bk at hw4 hb4
      have hcA := (Ch.refl No w4).alloc (.cells (Bk h x.len y.len).toArray 128)
      have HCN := Aa (hc4.trans hcA)
      obtain ⟨m0, m1, m2, m3, m4, m5, m6, m7, m8, m9, m10, m11⟩ := Ap hb4
      have HOA := Aa (An HOW3.out HCN.out (fun _ _ _ _ _ h => h))
      have HCA := Aa (HC3.out.trans (Ce HCN.out))
      have hbase : w.heap.size ≤ (w4.alloc (.cells (Bk h x.len y.len).toArray 128)).heap.size := HCA.out.size
      clear hb4 hc4 hcA
      go_wp2_with (at_builtin; go_must (refine Cb rfl _ _ rfl Tryz.sliceStmt Tryz.infoStmt (lb rfl) (lb rfl) w.heap.size (.slice ao k cap) k t.cells rfl HOA.out w4.heap.size 1 (Bk h x.len y.len) rfl rfl (heap_alloc_new w4 _) (N1 _ _ _) (by omega) hbase ?_))
      intro v6 w6 hr6 hc6 hv6
      obtain ⟨a6, p6, e6, hp6, hp7⟩ := Dh hr6
      subst e6
      unfold maxLen at hp7
      have hv7 : (Value.slice a6 (k + 1) p6).ownBlock = (Value.slice ao k cap).ownBlock ∨ (Value.slice a6 (k + 1) p6).ownBlock = some (w4.alloc (.cells (Bk h x.len y.len).toArray 128)).heap.size := by rw [show (w4.alloc (.cells (Bk h x.len y.len).toArray 128)).heap.size = w4.heap.size + 1 from by simp]; exact hv6
      have HA6 := Aa (show N2 w0 w g L a b c d z a6 (k + 1) p6 (t.app (.cons h x y .nil)) r c3 d3 w6 from by
       refine ⟨(HT3.out.no HCN.out).app HOA.out hc6 (by decide) h0w, Q3 HCA.out HOA.out (Nat.le_refl _) hc6, ?_, ?_, ((HTR3.out.no HCN.out).grow hc6 hv7).app ((HTN3.out.no HCN.out).grow hc6 hv7), ?_⟩
       {rcases HR3.out with h1 | ⟨h1, h2, h3, h4, h5⟩
        {exact .inl h1}
        {exact .inr ⟨h1, h2, h4, h5⟩}}
       {rw [Tr.app_cells]
        show w6.ownsRow _ _ _ _ _ (t.cells ++ (Bk h x.len y.len ++ []))
        rw [List.append_nil]
        exact hr6}
       {rw [Tr.app_len, HA2.out.len]; rfl})
      have hR3 := HR3.out
      clear hr6 hc6 hv6 hv7 hbase hw4 m0 m1 m2 m3 m4 m5 m6 m7 m8 m9 m10 m11
      go_wp2
      go_roundg (N - 1)
      case rel => exact ⟨N - 1, r, c3, d3, a6, k + 1, p6, t.app (.cons h x y .nil), by omega, by omega, by omega, by omega, rfl, rfl, by omega, by omega, by omega, HA6⟩
      case measure => omega}}}
  {obtain rfl : zc = -1 := by omega
   have HO := Aa (HA.out.out hk hgl HA.out.tx (Ch.refl _ _) (r := -1) (.inl rfl))
   exact Ac5}
theorem Q8 : ∀ (n : Nat) (deep : Int), 0 ≤ deep → deep + n = 8 → Jn deep
 | 0, deep, h0, h8 => Q7 (U1 (Q6 (fun h => absurd h (by omega)) (by omega) (by omega)) h0 (by omega))
 | n + 1, deep, h0, h8 => Q7 (U1 (Q6 (fun _ => Q8 n (deep + 1) (by omega) (by omega)) (by omega) (by omega)) h0 (by omega))
theorem Ac7 : Jn 0 := Q8 8 0 (by omega) (by omega)
end
def Iq (lo : Nat) (w : World) (ao : Option Addr) (l : List Vr) (cap : Nat) : Prop := (l.length ≤ 41 ∧ ∀ v ∈ l, G0 v) ∧ A5 (Mk lo) w ao l.length cap (l.flatMap Vr.cells)
section
variable {lo lo' g : Nat} {w w' : World} {ao : Option Addr} {l : List Vr} {cap : Nat}
theorem Iq.tb (h : Iq lo w ao l cap) (hc : Ch (Tb g) w w') (hg : g < lo) : Iq lo w' ao l cap := ⟨h.1, h.2.tbF hc hg⟩
theorem Iq.up (h : Iq lo' w ao l cap) (hl : lo ≤ lo') : Iq lo w ao l cap := ⟨h.1, h.2.mono (fun _ _ hp => Nat.le_trans hl hp)⟩
theorem Iq.own {base : Nat} (h : Bp w base (.slice ao l.length cap) l) (h1 : l.length ≤ 41) (h2 : ∀ v ∈ l, G0 v) : Iq base w ao l cap := ⟨⟨h1, h2⟩, A5.own h (fun _ hk => hk)⟩
end
theorem B4 {w : World} {b : Nat} {x0 x1 x2 x3 x4 x5 x6 x7 x8 : Value} {t : TypeId} {fz : Nat × Nat} (h : w.heap[b]? = some (.cells #[x0, x1, x2, x3, x4, x5, x6, x7, x8] t fz)) :
 w.cell? ⟨b, 0, none⟩ = some x0 ∧ w.cell? ⟨b, 1, none⟩ = some x1 ∧ w.cell? ⟨b, 2, none⟩ = some x2 ∧ w.cell? ⟨b, 3, none⟩ = some x3 ∧ w.cell? ⟨b, 4, none⟩ = some x4 ∧ w.cell? ⟨b, 5, none⟩ = some x5 ∧ w.cell? ⟨b, 6, none⟩ = some x6 ∧ w.cell? ⟨b, 7, none⟩ = some x7 ∧ w.cell? ⟨b, 8, none⟩ = some x8 :=
 ⟨Ab h 0, Ab h 1, Ab h 2, Ab h 3, Ab h 4, Ab h 5, Ab h 6, Ab h 7, Ab h 8⟩
theorem Ki {w : World} {b : Nat} {cs : Array Value} {t : TypeId} (h : w.heap[b]? = some (.cells cs t (0, 0))) :
 w.frozen? ⟨b, 0, none⟩ = false ∧ w.frozen? ⟨b, 1, none⟩ = false ∧ w.frozen? ⟨b, 2, none⟩ = false ∧ w.frozen? ⟨b, 3, none⟩ = false ∧ w.frozen? ⟨b, 4, none⟩ = false ∧ w.frozen? ⟨b, 5, none⟩ = false ∧ w.frozen? ⟨b, 6, none⟩ = false ∧ w.frozen? ⟨b, 7, none⟩ = false ∧ w.frozen? ⟨b, 8, none⟩ = false :=
 ⟨Ad h 0, Ad h 1, Ad h 2, Ad h 3, Ad h 4, Ad h 5, Ad h 6, Ad h 7, Ad h 8⟩
theorem N3 {w : World} {b : Nat} {x0 x1 x2 x3 x4 x5 x6 x7 x8 : Value} {t : TypeId} (h : w.heap[b]? = some (.cells #[x0, x1, x2, x3, x4, x5, x6, x7, x8] t (0, 0))) (v0 v1 v2 v3 v4 v5 v6 v7 v8 : Value) :
 ∃ wf, ((((((((w.setCell ⟨b, 0, none⟩ v0).setCell ⟨b, 1, none⟩ v1).setCell ⟨b, 2, none⟩ v2).setCell ⟨b, 3, none⟩ v3).setCell ⟨b, 4, none⟩ v4).setCell ⟨b, 5, none⟩ v5).setCell ⟨b, 6, none⟩ v6).setCell ⟨b, 7, none⟩ v7).setCell ⟨b, 8, none⟩ v8 = wf ∧ wf.heap[b]? = some (.cells #[v0, v1, v2, v3, v4, v5, v6, v7, v8] t (0, 0)) ∧ Ch (Tb b) w wf := by
 obtain ⟨a0, e0, h0, c0⟩ := Ai h 0 v0
 obtain ⟨a1, e1, h1, c1⟩ := Ai h0 1 v1
 obtain ⟨a2, e2, h2, c2⟩ := Ai h1 2 v2
 obtain ⟨a3, e3, h3, c3⟩ := Ai h2 3 v3
 obtain ⟨a4, e4, h4, c4⟩ := Ai h3 4 v4
 obtain ⟨a5, e5, h5, c5⟩ := Ai h4 5 v5
 obtain ⟨a6, e6, h6, c6⟩ := Ai h5 6 v6
 obtain ⟨a7, e7, h7, c7⟩ := Ai h6 7 v7
 obtain ⟨a8, e8, h8, c8⟩ := Ai h7 8 v8
 exact ⟨a8, by rw [e0, e1, e2, e3, e4, e5, e6, e7, e8], by simpa using h8, (((((((c0.trans c1).trans c2).trans c3).trans c4).trans c5).trans c6).trans c7).trans c8⟩
def Sx : Array Value := #[.string ⟨#[]⟩, .string ⟨#[]⟩, .bool false, .bool false, .slice none 0 0, .slice none 0 0, .slice none 0 0, .int .i64 0, .int .i64 0]
def Ac8 (w0 w : World) (g : Nat) (L : List Tk) (a b c d z : Int) (ret mn : ByteArray) (st ba : Bool) (pa : Option Addr) (pn pc : Nat) (ml mc : Int) (e : Ending) (w' : World) : Prop :=
 ∃ (la : Option Addr) (ls : List Vr) (lc : Nat) (sa : Option Addr) (t : Tr) (sc : Nat) (r : Int), e = .returned (.tuple #[.agg #[.string ret, .string mn, .bool st, .bool ba, .slice pa pn pc, .slice la ls.length lc, .slice sa t.len sc, .int .i64 ml, .int .i64 mc], .int .i64 r]) ∧ Iq w.heap.size w' la ls lc ∧ Er w.heap.size w' sa t sc ∧ He w0 w g L a b c d z r w'
structure Sg (w0 w : World) (g : Nat) (L : List Tk) (a b c d z : Int) (A B : Nat) (ret mn : ByteArray) (st ba : Bool) (pa : Option Addr) (pn pc : Nat) (ml mc : Int) (ao : Option Addr) (k cap : Nat) (l : List Vr) (lo : Nat) (zc c' d' : Int) (wr : World) : Prop where
 tx : Tx w0 wr g L a b c' d'
 ch : Ch (Tb g) w wr
 pl : zc = -1 ∨ (0 ≤ z ∧ z < zc ∧ zc ≤ L.length ∧ c' = c ∧ d' = d)
 bA : wr.heap[A]? = some (.cells #[.string ret, .string mn, .bool st, .bool ba, .slice pa pn pc, .slice ao k cap, .slice none 0 0, .int .i64 ml, .int .i64 mc] 29 (0, 0))
 bB : wr.heap[B]? = some (.cells Sx 29 (0, 0))
 own : Bp wr lo (.slice ao k cap) l
 len : l.length = k
 sz : ∀ v ∈ l, G0 v
 sze : lo ≤ wr.heap.size
section
variable {w0 w w1 wr w' : World} {g A B lo : Nat} {L : List Tk} {a b c d z zc c' d' : Int} {ret mn : ByteArray} {st ba : Bool} {pa : Option Addr} {pn pc : Nat} {ml mc : Int} {ao : Option Addr} {k cap : Nat} {l : List Vr}
theorem Sg.step (h : Sg w0 w g L a b c d z A B ret mn st ba pa pn pc ml mc ao k cap l lo zc c' d' wr) (hA : A ≠ g) (hB : B ≠ g) {r c'' d'' : Int} (hT : Tx w0 w' g L a b c'' d'') (hc : Ch (Tb g) wr w') (hr : r = -1 ∨ (0 ≤ zc ∧ zc ≤ r ∧ r ≤ L.length ∧ c'' = c' ∧ d'' = d')) :
 Sg w0 w g L a b c d z A B ret mn st ba pa pn pc ml mc ao k cap l lo r c'' d'' w' := by
 refine ⟨hT, h.ch.trans hc, ?_, hc.keep _ _ h.bA (fun e => hA e), hc.keep _ _ h.bB (fun e => hB e), Cn h.tx h.own hc (by decide), h.len, h.sz, Nat.le_trans h.sze hc.size⟩
 rcases hr with hr | ⟨h1, h2, h3, h4, h5⟩
 {exact .inl hr}
 {rcases h.pl with h6 | ⟨h6, h7, h8, h9, h10⟩
  {omega}
  {exact .inr ⟨h6, by omega, h3, h4.trans h9, h5.trans h10⟩}}
end
section
variable {w0 w : World} {g : Nat} {L : List Tk} {a b c d : Int}
theorem Ht (h : Tx w0 w g L a b c d) (hL : Gq L) {z : Int} (hz : -1 ≤ z) (hz9 : z ≤ L.length) (ret mn : ByteArray) (st ba : Bool) (pa : Option Addr) (pn pc : Nat) (ml mc : Int) :
 Calls Tryz.prog 30 #[.pointer (some ⟨g, 0, none⟩), .agg #[.string ret, .string mn, .bool st, .bool ba, .slice pa pn pc, .slice none 0 0, .slice none 0 0, .int .i64 ml, .int .i64 mc], .int .i64 z] w (Ac8 w0 w g L a b c d z ret mn st ba pa pn pc ml mc) := by
 have HL := Aa hL
 have hLL := hL.1
 have hgl := h.lt
 have h0w := h.ch.size
 obtain ⟨wa, hwa, hba, hca⟩ := A2 w (.cells #[.string ret, .string mn, .bool st, .bool ba, .slice pa pn pc, .slice none 0 0, .slice none 0 0, .int .i64 ml, .int .i64 mc] 29)
 obtain ⟨wb, hwb, hbb, hcb⟩ := A2 wa (.cells Sx 29)
 have hbA := hcb.keep _ _ hba (fun h => h)
 have hTb := (h.no hca).no hcb
 have hsa := Ac hba
 obtain ⟨lo, hlo⟩ := Ax wb.heap.size
 have hlb := Ac hbb
 obtain ⟨B, hB⟩ := Ax wa.heap.size
 obtain ⟨A, hA⟩ := Ax w.heap.size
 rw [hA] at hba hbA
 rw [hB] at hbb
 have HB0 := Aa (show wb.heap[B]? = some (.cells Sx 29 (0, 0)) from hbb)
 have HA0 := Aa hbA
 have HT0 := Aa hTb
 have HC0 := Aa (Ce (S := Tb g) (hca.trans hcb))
 have neA : A ≠ g := by omega
 have Bm : B ≠ g := by omega
 have neAB : A ≠ B := by omega
 have hAlo : A < lo := by omega
 have hBlo : B < lo := by omega
 have hglo : g < lo := by omega
 have hwlo : w.heap.size ≤ lo := by omega
 have HLO := Aa (show lo ≤ wb.heap.size from by omega)
 have hon := Da hTb hz (by omega) ⟨#[123]⟩ (by decide)
 obtain ⟨r1, hr1⟩ : ∃ r, Gs L z ⟨#[123]⟩ = r := ⟨_, rfl⟩
 rw [hr1] at hon
 unfold Sx at hwb
 clear h hL hba hbA hTb hca hcb hbb hr1 hlo
 go_in
 go_wp2_with fail
 try rw [hA]
 try rw [hB]
 clear hwa hwb
 refine hon.mono ?_
 rintro e w1 ⟨rfl, c1, d1, hT1, hc1, hq1⟩
 have HS1 := Aa (show Sg w0 w g L a b c d z A B ret mn st ba pa pn pc ml mc none 0 0 [] lo r1 c1 d1 w1 from ⟨hT1, HC0.out.trans hc1, by omega, hc1.keep _ _ HA0.out (fun e => neA e), hc1.keep _ _ HB0.out (fun e => Bm e), Bp.nil _ _, rfl, (fun v hv => by cases hv), Nat.le_trans HLO.out hc1.size⟩)
 have hr9 : -1 ≤ r1 ∧ r1 ≤ 20000 := by omega
 clear hT1 hc1 hq1 hon
 go_wp2
 go_loopg [7, 2, 8, 9] 40000 (fun gg s7 s2 s8 s9 wr => ∃ (N : Nat) (zc c' d' : Int) (ao : Option Addr) (k cap : Nat) (l : List Vr), -1 ≤ zc ∧ zc ≤ 20000 ∧ N ≤ gg ∧ (zc = -1 ∨ 30001 - zc ≤ (N : Int)) ∧ s2 = .int .i64 zc ∧ k ≤ 40 ∧ k ≤ cap ∧ cap ≤ 9223372036854775807 ∧ Hid (Sg w0 w g L a b c d z A B ret mn st ba pa pn pc ml mc ao k cap l lo zc c' d' wr))
 case atStart => exact ⟨40000, r1, c1, d1, none, 0, 0, [], by omega, by omega, by omega, by omega, rfl, by omega, by omega, by omega, HS1⟩
 case round =>
  obtain ⟨N, zc, c', d', ao, k, cap, l, z1, z2, zN, z3, rfl, hk, hkc, hcm, HA⟩ := hrel
  have wz : IntKind.i64.wrap (zc + 1) = zc + 1 := by rw [IntKind.wrap_i64]; omega
  have hzl : zc ≤ L.length := by rcases HA.out.pl with h | h <;> omega
  have htw := A6 HA.out.tx zc
  obtain ⟨W, hW⟩ := Ax (Ar L zc)
  rw [hW] at htw
  have hWn : W ≠ ⟨#[]⟩ → zc < L.length := fun h => (Be (L := L) (z := zc) (by rw [hW]; exact h)).2
  clear hW
  rcases (show (0 ≤ zc ∧ W = ⟨#[118, 97, 114]⟩) ∨ (0 ≤ zc ∧ W ≠ ⟨#[118, 97, 114]⟩) ∨ zc = -1 from by
   by_cases h0 : 0 ≤ zc
   {by_cases h1 : W = ⟨#[118, 97, 114]⟩
    {exact .inl ⟨h0, h1⟩}
    {exact .inr (.inl ⟨h0, h1⟩)}}
   · exact .inr (.inr (by omega))) with ⟨z0, hv⟩ | ⟨z0, hv⟩ | hv
  rotate_left
  have dz : decide (zc ≥ 0) = true := decide_eq_true z0
  have e1 := Bf _ [118, 97, 114] hv
  clear hv hWn
  go_wp2_with fail
  refine htw.mono ?_
  rintro e wx ⟨rfl, rfl⟩
  clear htw
  go_wp2_with fail
  rotate_left
  subst hv
  clear htw hWn
  go_wp2_with fail
  rotate_left
  {have dz : decide (zc ≥ 0) = true := decide_eq_true z0
   have e1 := lit _ [118, 97, 114] hv
   have hlt := hWn (by rw [hv]; decide)
   have m5 := Ab HA.out.bA 5
   clear hv hWn
   go_wp2_with fail
   refine htw.mono ?_
   rintro e wx ⟨rfl, rfl⟩
   clear htw
   by_cases hk4 : k = 40
   {have d40 : ((k : Int) == 40) = true := by simpa using (show (k : Int) = 40 by omega)
    have HK := Aa hk4
    clear hk4
    go_upto_region 4 with fail
    have hk := B9 (HA.out.tx.no ((Ch.refl No wr).drew)) zc 13
    have HSa := Aa (B4 HA.out.bA)
    have HSd : Hid (wr.drew.cell? ⟨A, 0, none⟩ = some (.string ret) ∧ wr.drew.cell? ⟨A, 1, none⟩ = some (.string mn) ∧ wr.drew.cell? ⟨A, 2, none⟩ = some (.bool st) ∧ wr.drew.cell? ⟨A, 3, none⟩ = some (.bool ba) ∧ wr.drew.cell? ⟨A, 4, none⟩ = some (.slice pa pn pc) ∧ wr.drew.cell? ⟨A, 5, none⟩ = some (.slice ao k cap) ∧ wr.drew.cell? ⟨A, 6, none⟩ = some (.slice none 0 0) ∧ wr.drew.cell? ⟨A, 7, none⟩ = some (.int .i64 ml) ∧ wr.drew.cell? ⟨A, 8, none⟩ = some (.int .i64 mc)) := HSa
    clear m5
    go_region_held3 (fun w' => w'.cell? ⟨A, 0, none⟩ = some (.string ret) ∧ w'.cell? ⟨A, 1, none⟩ = some (.string mn) ∧ w'.cell? ⟨A, 2, none⟩ = some (.bool st) ∧ w'.cell? ⟨A, 3, none⟩ = some (.bool ba) ∧ w'.cell? ⟨A, 4, none⟩ = some (.slice pa pn pc) ∧ w'.cell? ⟨A, 5, none⟩ = some (.slice ao k cap) ∧ w'.cell? ⟨A, 6, none⟩ = some (.slice none 0 0) ∧ w'.cell? ⟨A, 7, none⟩ = some (.int .i64 ml) ∧ w'.cell? ⟨A, 8, none⟩ = some (.int .i64 mc)) (first | with_reducible exact HSa.out | with_reducible exact HSd.out | with_reducible exact HSb.out | with_reducible exact HSc.out | go_keep) (first | (go_at_call 26; refine hk.mono ?_; rintro e w5 ⟨rfl, c5, d5, hT5, hc7⟩; have HA5 := Aa (HA.out.step neA Bm (r := -1) hT5 ((Ch.refl (Tb g) _).drew.trans hc7) (.inl rfl)); have HSb := Aa (B4 HA5.out.bA); have hb7 := HA5.out.bB; unfold Sx at hb7; obtain ⟨q0, q1, q2, q3, q4, q5, q6, q7, q8⟩ := B4 hb7; obtain ⟨f0, f1, f2, f3, f4, f5, f6, f7, f8⟩ := Ki hb7; obtain ⟨w6, hw8, hb8, hfc⟩ := N3 hb7 (.string ret) (.string mn) (.bool st) (.bool ba) (.slice pa pn pc) (.slice ao k cap) (.slice none 0 0) (.int .i64 ml) (.int .i64 mc); have HSc := Aa (show w6.cell? ⟨A, 0, none⟩ = some (.string ret) ∧ w6.cell? ⟨A, 1, none⟩ = some (.string mn) ∧ w6.cell? ⟨A, 2, none⟩ = some (.bool st) ∧ w6.cell? ⟨A, 3, none⟩ = some (.bool ba) ∧ w6.cell? ⟨A, 4, none⟩ = some (.slice pa pn pc) ∧ w6.cell? ⟨A, 5, none⟩ = some (.slice ao k cap) ∧ w6.cell? ⟨A, 6, none⟩ = some (.slice none 0 0) ∧ w6.cell? ⟨A, 7, none⟩ = some (.int .i64 ml) ∧ w6.cell? ⟨A, 8, none⟩ = some (.int .i64 mc) from B4 (hfc.keep _ _ HA5.out.bA (fun e => neAB e))); have HFB := Aa hb8; have HFC := Aa hfc; clear hT5 hc7 hb7 hb8 hfc))
    all_goals (
     go_wp2_with fail
     have hfc := HFC.out
     try rw [hw8]
     obtain ⟨k0, k1, k2, k3, k4, k5, k6, k7, k8⟩ := B4 HFB.out
     refine bodyPost_ret (v := .tuple #[.agg #[.string ret, .string mn, .bool st, .bool ba, .slice pa pn pc, .slice ao k cap, .slice none 0 0, .int .i64 ml, .int .i64 mc], .int .i64 (-1)]) (by simp [results, Tryz.results30, go_sem, k0, k1, k2, k3, k4, k5, k6, k7, k8]) rfl ?_
     have h5 := HA5.out
     have ho := Bd h5.own hfc h5.bB (by decide)
     obtain rfl := h5.len
     exact ⟨ao, l, cap, none, .nil, 0, -1, rfl, ((Iq.own ho (by omega) h5.sz).up hwlo), .nil _ _, _, _, h5.tx.new hfc (by omega) (fun e => Bm e.symm), Ao h5.ch hfc (by omega), .inl rfl⟩)}
   {have d40 : ((k : Int) == 40) = false := by simpa using (show ¬ (k : Int) = 40 by omega)
    have hvr := N0 HA.out.tx HL.out (z := zc + 1) (by omega)
    have hsz := Mi HL.out a b (zc + 1)
    obtain ⟨n, hn⟩ := Ax (Sw L a b (zc + 1))
    rw [hn] at hvr hsz
    have HSZ := Aa hsz
    clear hn hsz
    go_wp2_with fail
    refine hvr.mono ?_
    rintro e w4 ⟨rfl, c4, d4, hT4, hc4, hr4⟩
    have HA4 := Aa (HA.out.step neA Bm (r := n.2) hT4 hc4 (by omega))
    have HR4 := Aa (show n.2 = -1 ∨ (zc < n.2 ∧ n.2 ≤ L.length) from by omega)
    clear hT4 hc4 hvr hr4 m5
    go_upto_region 6 with fail
    obtain ⟨w5, hw5, hb5, hcA⟩ := A2 w4 (.cells n.1.cells.toArray 64)
    unfold Vr.cells at hw5 hb5
    obtain ⟨x0, x1, x2, x3⟩ := F9 hb5
    have hbA5 := hcA.keep _ _ HA4.out.bA (fun h => h)
    have m5 := Ab hbA5 5
    have yA := Ac hbA5
    have hcB := (Ch.refl No w5).alloc (.cells n.1.cells.toArray 64)
    have HCN := Aa (hcA.trans hcB)
    have HOA := Aa (show Bp (w5.alloc (.cells n.1.cells.toArray 64)) lo (.slice ao k cap) l from Bp.no HA4.out.own HCN.out)
    have hbase : lo ≤ (w5.alloc (.cells n.1.cells.toArray 64)).heap.size := Nat.le_trans HA4.out.sze HCN.out.size
    have hownA := HOA.out
    rw [Bp, HA4.out.len] at hownA
    have HOK := Aa hownA
    clear hb5 hcA hcB hownA hbA5
    go_wp2_with (at_builtin; go_must (refine Cb rfl _ _ rfl Tryz.sliceVar Tryz.infoVar (lb rfl) (lb rfl) lo (.slice ao k cap) k (l.flatMap Vr.cells) rfl HOK.out w5.heap.size 1 n.1.cells rfl rfl (heap_alloc_new w5 _) (Vr.one _) (by omega) hbase ?_))
    intro v6 w6 hr6 hc6 hv6
    obtain ⟨a6, p6, e6, hp6, hp7⟩ := Dh hr6
    subst e6
    unfold maxLen at hp7
    have hbA6 := hc6.keep _ _ (HCN.out.keep _ _ HA4.out.bA (fun h => h)) (Bu HOK.out (HCN.out.keep _ _ HA4.out.bA (fun h => h)) (by decide))
    have hbB6 := hc6.keep _ _ (HCN.out.keep _ _ HA4.out.bB (fun h => h)) (Bu HOK.out (HCN.out.keep _ _ HA4.out.bB (fun h => h)) (by decide))
    have hT6 := (HA4.out.tx.no HCN.out).app HOK.out hc6 (by decide) (by omega)
    have hC6 := Q3 (HA4.out.ch.trans (Ce HCN.out)) HOK.out hwlo hc6
    have f5 := Ad hbA6 5
    clear m5
    have m5 := Ab hbA6 5
    obtain ⟨w7, hw7, hb7, hc7⟩ := Ai hbA6 5 (.slice a6 (k + 1) p6)
    have HA7 := Aa (show Sg w0 w g L a b c d z A B ret mn st ba pa pn pc ml mc a6 (k + 1) p6 (l ++ [n.1]) lo n.2 c4 d4 w7 from by
     refine ⟨hT6.new hc7 (by omega) (fun e => neA e.symm), Ao hC6 hc7 (by omega), HA4.out.pl, hb7, hc7.keep _ _ hbB6 (fun e => neAB e.symm), ?_, ?_, ?_, Nat.le_trans hbase (Nat.le_trans hc6.size hc7.size)⟩
     {have e : (l ++ [n.1]).length = k + 1 := by rw [List.length_append, HA4.out.len]; rfl
      show w7.ownsRow lo 64 4 _ _ _
      rw [e, List.flatMap_append, List.flatMap_singleton]
      exact Bd hr6 hc7 hbA6 (by decide)}
     {rw [List.length_append, HA4.out.len]; rfl}
     {intro v hv
      rcases List.mem_append.1 hv with h | h
      {exact HA4.out.sz v h}
      {simp at h; rw [h]; exact HSZ.out}})
    have hR4 := HR4.out
    clear hr6 hc6 hv6 hbase hw5 x0 x1 x2 x3 hbA6 hbB6 hT6 hC6 hb7 hc7
    go_upto_region 7 with fail
    clear hw7 m5 f5
    have hon := Da HA7.out.tx (z := n.2) (by omega) (by omega) ⟨#[59]⟩ (by decide)
    obtain ⟨r8, hr8⟩ : ∃ r, Gs L n.2 ⟨#[59]⟩ = r := ⟨_, rfl⟩
    rw [hr8] at hon
    clear hr8
    go_wp2_with fail
    refine hon.mono ?_
    rintro e w8 ⟨rfl, c8, d8, hT8, hc8, hq8⟩
    have HA8 := Aa (HA7.out.step neA Bm (r := r8) hT8 hc8 (by omega))
    have hq9 : r8 = -1 ∨ (zc < r8 ∧ r8 ≤ L.length) := by omega
    clear hT8 hc8 hq8 hon
    go_wp2
    go_roundg (N - 1)
    case rel => exact ⟨N - 1, r8, c8, d8, a6, k + 1, p6, l ++ [n.1], by omega, by omega, by omega, by omega, rfl, by omega, by omega, by omega, HA8⟩
    case measure => omega}}
  all_goals (
   have hst := Ac7 HA.out.tx HL.out z1 hzl
   go_wp2_with fail
   refine hst.mono ?_
   rintro e w3 ⟨t, sa, sc, r3, rfl, hb3, c3, d3, hT3, hc3, hq3⟩
   have HA3 := Aa (HA.out.step neA Bm (r := r3) hT3 hc3 (by omega))
   have HB3 := Aa (hb3.up HA.out.sze)
   clear hst hb3 hT3 hc3 hq3
   have ha3 := HA3.out.bA
   have f6 := Ad ha3 6
   have m6 := Ab ha3 6
   obtain ⟨w4, hw4, hb4, hc4⟩ := Ai ha3 6 (.slice sa t.len sc)
   have HA4 : Hid (w4.heap[A]? = some (.cells #[.string ret, .string mn, .bool st, .bool ba, .slice pa pn pc, .slice ao k cap, .slice sa t.len sc, .int .i64 ml, .int .i64 mc] 29 (0, 0))) := Aa hb4
   have HB4 := Aa (hc4.keep _ _ HA3.out.bB (fun e => neAB e.symm))
   have HC4 := Aa hc4
   clear ha3 hb4 hc4
   go_upto_region 9 with fail
   clear hw4 f6 m6
   have hb4 := HB4.out
   unfold Sx at hb4
   obtain ⟨p0, p1, p2, p3, p4, p5, p6, p7, p8⟩ := B4 HA4.out
   obtain ⟨q0, q1, q2, q3, q4, q5, q6, q7, q8⟩ := B4 hb4
   obtain ⟨f0, f1, f2, f3, f4, f5, f6, f7, f8⟩ := Ki hb4
   obtain ⟨wf, hwf, hfb, hfc⟩ := N3 hb4 (.string ret) (.string mn) (.bool st) (.bool ba) (.slice pa pn pc) (.slice ao k cap) (.slice sa t.len sc) (.int .i64 ml) (.int .i64 mc)
   have HFB := Aa hfb
   have HFC := Aa hfc
   clear hb4 hfb hfc
   go_wp2_with fail
   try rw [hwf]
   obtain ⟨k0, k1, k2, k3, k4, k5, k6, k7, k8⟩ := B4 HFB.out
   refine bodyPost_ret (v := .tuple #[.agg #[.string ret, .string mn, .bool st, .bool ba, .slice pa pn pc, .slice ao k cap, .slice sa t.len sc, .int .i64 ml, .int .i64 mc], .int .i64 r3]) (by simp [results, Tryz.results30, go_sem, k0, k1, k2, k3, k4, k5, k6, k7, k8]) rfl ?_
   have h3 := HA3.out
   have hfc := HFC.out
   have hc4 := HC4.out
   have ho := Bd (Bd h3.own hc4 h3.bA (by decide)) hfc HB4.out (by decide)
   have hpl := h3.pl
   have htx := (h3.tx.new hc4 (by omega) (fun e => neA e.symm)).new hfc (by omega) (fun e => Bm e.symm)
   have hcc := Ao (Ao h3.ch hc4 (by omega)) hfc (by omega)
   have hbk := ((HB3.out.tb hc4 hAlo).tb hfc hBlo).up hwlo
   have hsz := h3.sz
   obtain rfl := h3.len
   exact ⟨ao, l, cap, sa, t, sc, r3, rfl, ((Iq.own ho (by omega) hsz).up hwlo), hbk, _, _, htx, hcc, hpl⟩)
end
def Ym (w0 w : World) (g : Nat) (L : List Tk) (a b c d z : Int) (st ba : Bool) (ml mc : Int) (e : Ending) (w' : World) : Prop :=
 ∃ (ret mn : ByteArray) (pa : Option Addr) (ps : List Vr) (pc : Nat) (r : Int), e = .returned (.tuple #[.agg #[.string ret, .string mn, .bool st, .bool ba, .slice pa ps.length pc, .slice none 0 0, .slice none 0 0, .int .i64 ml, .int .i64 mc], .int .i64 r]) ∧ (ret.size ≤ 20002 ∧ mn.size ≤ 20000) ∧ Iq w.heap.size w' pa ps pc ∧ He w0 w g L a b c d z r w'
structure N7 (w0 w : World) (g : Nat) (L : List Tk) (a b c d z : Int) (A B : Nat) (ret mn : ByteArray) (st ba : Bool) (pa : Option Addr) (pn pc : Nat) (ml mc : Int) (lo : Nat) (zc c' d' : Int) (wr : World) : Prop where
 tx : Tx w0 wr g L a b c' d'
 ch : Ch (Tb g) w wr
 pl : zc = -1 ∨ (0 ≤ z ∧ z < zc ∧ zc ≤ L.length ∧ c' = c ∧ d' = d)
 bA : wr.heap[A]? = some (.cells #[.string ret, .string mn, .bool st, .bool ba, .slice pa pn pc, .slice none 0 0, .slice none 0 0, .int .i64 ml, .int .i64 mc] 29 (0, 0))
 bB : wr.heap[B]? = some (.cells Sx 29 (0, 0))
 sze : lo ≤ wr.heap.size
section
variable {w0 w wr w' : World} {g A B lo : Nat} {L : List Tk} {a b c d z zc c' d' : Int} {ret mn : ByteArray} {st ba : Bool} {pa : Option Addr} {pn pc : Nat} {ml mc : Int}
theorem N7.step (h : N7 w0 w g L a b c d z A B ret mn st ba pa pn pc ml mc lo zc c' d' wr) (hA : A ≠ g) (hB : B ≠ g) {r c'' d'' : Int} (hT : Tx w0 w' g L a b c'' d'') (hc : Ch (Tb g) wr w') (hr : r = -1 ∨ (0 ≤ zc ∧ zc ≤ r ∧ r ≤ L.length ∧ c'' = c' ∧ d'' = d')) :
 N7 w0 w g L a b c d z A B ret mn st ba pa pn pc ml mc lo r c'' d'' w' := by
 refine ⟨hT, h.ch.trans hc, ?_, hc.keep _ _ h.bA (fun e => hA e), hc.keep _ _ h.bB (fun e => hB e), Nat.le_trans h.sze hc.size⟩
 rcases hr with hr | ⟨h1, h2, h3, h4, h5⟩
 {exact .inl hr}
 {rcases h.pl with h6 | ⟨h6, h7, h8, h9, h10⟩
  {omega}
  {exact .inr ⟨h6, by omega, h3, h4.trans h9, h5.trans h10⟩}}
theorem N7.set (h : N7 w0 w g L a b c d z A B ret mn st ba pa pn pc ml mc lo zc c' d' wr) (hA : A ≠ g) (hAB : A ≠ B) (h0 : w0.heap.size ≤ A) (h1 : w.heap.size ≤ A) (hc : Ch (Tb A) wr w') {ret' mn' : ByteArray} {pa' : Option Addr} {pn' pc' : Nat}
 (hb : w'.heap[A]? = some (.cells #[.string ret', .string mn', .bool st, .bool ba, .slice pa' pn' pc', .slice none 0 0, .slice none 0 0, .int .i64 ml, .int .i64 mc] 29 (0, 0))) : N7 w0 w g L a b c d z A B ret' mn' st ba pa' pn' pc' ml mc lo zc c' d' w' :=
 ⟨h.tx.new hc h0 (fun e => hA e.symm), Ao h.ch hc h1, h.pl, hb, hc.keep _ _ h.bB (fun e => hAB e.symm), Nat.le_trans h.sze hc.size⟩
end
section
variable {w0 w : World} {g : Nat} {L : List Tk} {a b c d : Int}
theorem Ac9 {p : Prop} (h : p := by
 have hnm := Dz HS5.out.tx HL.out (z := p5) (by omega)
 have hnz := Bw HL.out p5
 obtain ⟨n, hn⟩ := Ax (Gm L p5)
 rw [hn] at hnm hnz
 clear hn
 go_wp2_with fail
 refine hnm.mono ?_
 rintro e w6 ⟨rfl, c6, d6, hT6, hc6, hq6⟩
 have HS6 := Aa (HS5.out.step neA Bm (r := n.2) hT6 hc6 (by omega))
 have hp6 : -1 ≤ n.2 ∧ n.2 ≤ L.length := by omega
 clear hT6 hc6 hq6 hnm
 have m1 := Ab HS6.out.bA 1
 have f1 := Ad HS6.out.bA 1
 obtain ⟨w7, hw7, hb7, hc7⟩ := Ai HS6.out.bA 1 (.string n.1)
 have HS7 := Aa (HS6.out.set neA neAB h0A hwA hc7 hb7)
 clear hb7 hc7
 go_upto_region 7 with fail
 clear hw7 m1 f1
 have hon := Da HS7.out.tx (z := n.2) (by omega) (by omega) ⟨#[40]⟩ (by decide)
 obtain ⟨r8, hr8⟩ : ∃ r, Gs L n.2 ⟨#[40]⟩ = r := ⟨_, rfl⟩
 rw [hr8] at hon
 clear hr8
 go_wp2_with fail
 refine hon.mono ?_
 rintro e w8 ⟨rfl, c8, d8, hT8, hc8, hq8⟩
 have HS8 := Aa (HS7.out.step neA Bm (r := r8) hT8 hc8 (by omega))
 have hp8 : -1 ≤ r8 ∧ r8 ≤ L.length := by omega
 clear hT8 hc8 hq8 hon
 have hpr := U0 HS8.out.tx HL.out (z := r8) (by omega) (by omega)
 go_wp2_with fail
 refine hpr.mono ?_
 rintro e w9 ⟨pa, pc, ps, r9, rfl, ho9, hl9, hs9, c9, d9, hT9, hc9, hq9⟩
 have HS9 := Aa (HS8.out.step neA Bm (r := r9) hT9 hc9 (by omega))
 have HP9 := Aa ((Iq.own ho9 hl9 hs9).up HS8.out.sze)
 clear ho9 hl9 hs9 hT9 hc9 hq9 hpr
 have m4 := Ab HS9.out.bA 4
 have f4 := Ad HS9.out.bA 4
 obtain ⟨w10, hw10, hb10, hc10⟩ := Ai HS9.out.bA 4 (.slice pa ps.length pc)
 have HS10 := Aa (HS9.out.set neA neAB h0A hwA hc10 hb10)
 have HP10 := Aa (HP9.out.tb hc10 hAlo)
 clear hb10 hc10
 go_upto_region 9 with fail
 clear hw10 m4 f4
 have hb := HS10.out.bB
 unfold Sx at hb
 obtain ⟨p0, p1, p2, p3, p4, p5, p6, p7, p8⟩ := B4 HS10.out.bA
 obtain ⟨q0, q1, q2, q3, q4, q5, q6, q7, q8⟩ := B4 hb
 obtain ⟨f0, f1, f2, f3, f4, f5, f6, f7, f8⟩ := Ki hb
 obtain ⟨wf, hwf, hfb, hfc⟩ := N3 hb (.string rt) (.string n.1) (.bool st) (.bool ba) (.slice pa ps.length pc) (.slice none 0 0) (.slice none 0 0) (.int .i64 ml) (.int .i64 mc)
 have HO := Aa (show Ym w0 w g L a b c d z st ba ml mc (.returned (.tuple #[.agg #[.string rt, .string n.1, .bool st, .bool ba, .slice pa ps.length pc, .slice none 0 0, .slice none 0 0, .int .i64 ml, .int .i64 mc], .int .i64 r9])) wf from
  ⟨rt, n.1, pa, ps, pc, r9, rfl, ⟨hrz, hnz⟩, (HP10.out.tb hfc hBlo).up hwlo, _, _, HS10.out.tx.new hfc (by omega) (fun e => Bm e.symm), Ao HS10.out.ch hfc (by omega), HS10.out.pl⟩)
 have HFB := Aa hfb
 clear hb hfb hfc
 go_wp2_with fail
 try rw [hwf]
 obtain ⟨k0, k1, k2, k3, k4, k5, k6, k7, k8⟩ := B4 HFB.out
 refine bodyPost_ret (v := .tuple #[.agg #[.string rt, .string n.1, .bool st, .bool ba, .slice pa ps.length pc, .slice none 0 0, .slice none 0 0, .int .i64 ml, .int .i64 mc], .int .i64 r9]) (by simp [results, Tryz.results57, go_sem, k0, k1, k2, k3, k4, k5, k6, k7, k8]) rfl ?_
 exact HO.out
 ) : p := h
theorem Ps (h : Tx w0 w g L a b c d) (hL : Gq L) {z : Int} (hz : 0 ≤ z) (hz9 : z < L.length) (ret mn : ByteArray) (st ba : Bool) (ml mc : Int) :
 Calls Tryz.prog 57 #[.pointer (some ⟨g, 0, none⟩), .agg #[.string ret, .string mn, .bool st, .bool ba, .slice none 0 0, .slice none 0 0, .slice none 0 0, .int .i64 ml, .int .i64 mc], .int .i64 z] w (Ym w0 w g L a b c d z st ba ml mc) := by
 have HL := Aa hL
 have hLL := hL.1
 have hgl := h.lt
 have h0w := h.ch.size
 obtain ⟨wa, hwa, hba, hca⟩ := A2 w (.cells #[.string ret, .string mn, .bool st, .bool ba, .slice none 0 0, .slice none 0 0, .slice none 0 0, .int .i64 ml, .int .i64 mc] 29)
 obtain ⟨wb, hwb, hbb, hcb⟩ := A2 wa (.cells Sx 29)
 have hbA := hcb.keep _ _ hba (fun h => h)
 have hTb := (h.no hca).no hcb
 have hsa := Ac hba
 obtain ⟨lo, hlo⟩ := Ax wb.heap.size
 have hlb := Ac hbb
 obtain ⟨B, hB⟩ := Ax wa.heap.size
 obtain ⟨A, hA⟩ := Ax w.heap.size
 rw [hA] at hba hbA
 rw [hB] at hbb
 have neA : A ≠ g := by omega
 have Bm : B ≠ g := by omega
 have neAB : A ≠ B := by omega
 have hAlo : A < lo := by omega
 have hBlo : B < lo := by omega
 have hglo : g < lo := by omega
 have hwlo : w.heap.size ≤ lo := by omega
 have h0A : w0.heap.size ≤ A := by omega
 have hwA : w.heap.size ≤ A := by omega
 have wz1 : IntKind.i64.wrap (z + 1) = z + 1 := by rw [IntKind.wrap_i64]; omega
 have wz2 : IntKind.i64.wrap (z + 1 + 1) = z + 1 + 1 := by rw [IntKind.wrap_i64]; omega
 obtain ⟨y, hy⟩ := Ax (z + 1)
 rw [hy] at wz1 wz2
 have HS0 := Aa (show N7 w0 w g L a b c d z A B ret mn st ba none 0 0 ml mc lo y c d wb from ⟨hTb, Ce (hca.trans hcb), by omega, hbA, hbb, by omega⟩)
 have htw := A6 hTb y
 obtain ⟨W, hW⟩ := Ax (Ar L y)
 rw [hW] at htw
 have hWn : W ≠ ⟨#[]⟩ → y < L.length := fun h => (Be (L := L) (z := y) (by rw [hW]; exact h)).2
 unfold Sx at hwb
 clear h hL hba hbA hTb hca hcb hbb hlo hW
 go_in
 go_wp2_with fail
 try rw [hA]
 try rw [hB]
 clear hwa hwb
 refine htw.mono ?_
 rintro e wx ⟨rfl, rfl⟩
 clear htw
 have m0 := Ab HS0.out.bA 0
 have f0 := Ad HS0.out.bA 0
 rcases (show W = ⟨#[118, 111, 105, 100]⟩ ∨ W ≠ ⟨#[118, 111, 105, 100]⟩ from by by_cases h : W = ⟨#[118, 111, 105, 100]⟩ <;> simp [h]) with hv | hv
 {have e1 := lit _ [118, 111, 105, 100] hv
  have hlt := hWn (by rw [hv]; decide)
  clear hv hWn
  obtain ⟨w5, hw5, hb5, hc5⟩ := Ai HS0.out.bA 0 (.string ⟨#[118, 111, 105, 100]⟩)
  have HS5 := Aa (show N7 w0 w g L a b c d z A B ⟨#[118, 111, 105, 100]⟩ mn st ba none 0 0 ml mc lo (y + 1) c d w5 from (HS0.out.set neA neAB h0A hwA hc5 hb5).step neA Bm (HS0.out.tx.new hc5 h0A (fun e => neA e.symm)) (Ch.refl _ _) (by omega))
  clear hb5 hc5
  go_upto_region 6 with fail
  clear hw5 m0 f0
  obtain ⟨p5, hp5⟩ : ∃ p, y + 1 = p := ⟨_, rfl⟩
  obtain ⟨rt, hrt⟩ : ∃ rt : ByteArray, ⟨#[118, 111, 105, 100]⟩ = rt := ⟨_, rfl⟩
  have hrz : rt.size ≤ 20002 := by rw [← hrt]; exact lb rfl
  rw [hp5, hrt] at HS5
  rw [hp5]
  have hp9 : -1 ≤ p5 ∧ p5 ≤ L.length := by omega
  clear hp5 hrt
  exact Ac9}
 {have e1 := Bf _ [118, 111, 105, 100] hv
  clear hv hWn
  have hkd := Ux HS0.out.tx HL.out (z := y) (by omega)
  have hkz := Uy HL.out y
  obtain ⟨q, hq⟩ := Ax (Q0 L y)
  rw [hq] at hkd hkz
  clear hq m0 f0
  go_wp2_with fail
  refine hkd.mono ?_
  rintro e w4 ⟨rfl, c4, d4, hT4, hc4, hq4⟩
  have HS4 := Aa (HS0.out.step neA Bm (r := q.2) hT4 hc4 (by omega))
  have hp9 : -1 ≤ q.2 ∧ q.2 ≤ L.length := by omega
  clear hT4 hc4 hq4 hkd
  have m0 := Ab HS4.out.bA 0
  have f0 := Ad HS4.out.bA 0
  obtain ⟨w5, hw5, hb5, hc5⟩ := Ai HS4.out.bA 0 (.string q.1)
  have HS5 := Aa (HS4.out.set neA neAB h0A hwA hc5 hb5)
  clear hb5 hc5
  go_upto_region 6 with fail
  clear hw5 m0 f0
  obtain ⟨p5, hp5⟩ : ∃ p, q.2 = p := ⟨_, rfl⟩
  obtain ⟨rt, hrt⟩ : ∃ rt : ByteArray, q.1 = rt := ⟨_, rfl⟩
  rw [hp5, hrt] at HS5
  rw [hrt] at hkz
  rw [hp5] at hp9 ⊢
  have hrz := hkz
  clear hp5 hrt hkz
  exact Ac9}
end
theorem Au {w : World} {b : Nat} {x0 x1 x2 x3 x4 x5 x6 x7 x8 x9 : Value} {t : TypeId} {fz : Nat × Nat} (h : w.heap[b]? = some (.cells #[x0, x1, x2, x3, x4, x5, x6, x7, x8, x9] t fz)) :
 w.cell? ⟨b, 0, none⟩ = some x0 ∧ w.cell? ⟨b, 1, none⟩ = some x1 ∧ w.cell? ⟨b, 2, none⟩ = some x2 ∧ w.cell? ⟨b, 3, none⟩ = some x3 ∧ w.cell? ⟨b, 4, none⟩ = some x4 ∧ w.cell? ⟨b, 5, none⟩ = some x5 ∧ w.cell? ⟨b, 6, none⟩ = some x6 ∧ w.cell? ⟨b, 7, none⟩ = some x7 ∧ w.cell? ⟨b, 8, none⟩ = some x8 ∧ w.cell? ⟨b, 9, none⟩ = some x9 :=
 ⟨Ab h 0, Ab h 1, Ab h 2, Ab h 3, Ab h 4, Ab h 5, Ab h 6, Ab h 7, Ab h 8, Ab h 9⟩
theorem Ef {w : World} {b : Nat} {cs : Array Value} {t : TypeId} (h : w.heap[b]? = some (.cells cs t (0, 0))) :
 w.frozen? ⟨b, 0, none⟩ = false ∧ w.frozen? ⟨b, 1, none⟩ = false ∧ w.frozen? ⟨b, 2, none⟩ = false ∧ w.frozen? ⟨b, 3, none⟩ = false ∧ w.frozen? ⟨b, 4, none⟩ = false ∧ w.frozen? ⟨b, 5, none⟩ = false ∧ w.frozen? ⟨b, 6, none⟩ = false ∧ w.frozen? ⟨b, 7, none⟩ = false ∧ w.frozen? ⟨b, 8, none⟩ = false ∧ w.frozen? ⟨b, 9, none⟩ = false :=
 ⟨Ad h 0, Ad h 1, Ad h 2, Ad h 3, Ad h 4, Ad h 5, Ad h 6, Ad h 7, Ad h 8, Ad h 9⟩
theorem F3 {w : World} {b : Nat} {x0 x1 x2 x3 x4 x5 x6 x7 x8 x9 : Value} {t : TypeId} (h : w.heap[b]? = some (.cells #[x0, x1, x2, x3, x4, x5, x6, x7, x8, x9] t (0, 0))) (v0 v1 v2 v3 v4 v5 v6 v7 v8 v9 : Value) :
 ∃ wf, (((((((((w.setCell ⟨b, 0, none⟩ v0).setCell ⟨b, 1, none⟩ v1).setCell ⟨b, 2, none⟩ v2).setCell ⟨b, 3, none⟩ v3).setCell ⟨b, 4, none⟩ v4).setCell ⟨b, 5, none⟩ v5).setCell ⟨b, 6, none⟩ v6).setCell ⟨b, 7, none⟩ v7).setCell ⟨b, 8, none⟩ v8).setCell ⟨b, 9, none⟩ v9 = wf ∧ wf.heap[b]? = some (.cells #[v0, v1, v2, v3, v4, v5, v6, v7, v8, v9] t (0, 0)) ∧ Ch (Tb b) w wf := by
 obtain ⟨a0, e0, h0, c0⟩ := Ai h 0 v0
 obtain ⟨a1, e1, h1, c1⟩ := Ai h0 1 v1
 obtain ⟨a2, e2, h2, c2⟩ := Ai h1 2 v2
 obtain ⟨a3, e3, h3, c3⟩ := Ai h2 3 v3
 obtain ⟨a4, e4, h4, c4⟩ := Ai h3 4 v4
 obtain ⟨a5, e5, h5, c5⟩ := Ai h4 5 v5
 obtain ⟨a6, e6, h6, c6⟩ := Ai h5 6 v6
 obtain ⟨a7, e7, h7, c7⟩ := Ai h6 7 v7
 obtain ⟨a8, e8, h8, c8⟩ := Ai h7 8 v8
 obtain ⟨a9, e9, h9, c9⟩ := Ai h8 9 v9
 exact ⟨a9, by rw [e0, e1, e2, e3, e4, e5, e6, e7, e8, e9], by simpa using h9, ((((((((c0.trans c1).trans c2).trans c3).trans c4).trans c5).trans c6).trans c7).trans c8).trans c9⟩
def Si : Array Value := #[.string ⟨#[]⟩, .string ⟨#[]⟩, .bool false, .slice none 0 0, .slice none 0 0, .slice none 0 0, .slice none 0 0, .pointer none, .int .i64 0, .int .i64 0]
def U2 (w0 w : World) (g : Nat) (L : List Tk) (a b c d z : Int) (X : Nat → Prop) (e : Ending) (w' : World) : Prop :=
 ∃ (K : KD) (r : Int), e = .returned (.tuple #[.agg #[.string K.name, .string K.sup, .bool K.face, .slice K.fa K.faces.length K.fc, .slice K.f4 K.fs.length K.c4, .slice K.f5 K.ss.length K.c5, .slice K.f6 K.ms.length K.c6, .pointer K.p7, .int .i64 K.line, .int .i64 K.col], .int .i64 r]) ∧ Ej X w' K ∧ Ch (fun k _ => k = g ∨ ¬ X k) w w' ∧ ∃ c' d', Tx w0 w' g L a b c' d' ∧ (r = -1 ∨ (0 ≤ z ∧ z < r ∧ r ≤ L.length ∧ c' = c ∧ d' = d))
def XB (X : Nat → Prop) (A B M : Nat) (k : Nat) : Prop := X k ∨ k = A ∨ k = B ∨ k = M
structure Du (w0 w : World) (g : Nat) (L : List Tk) (a b c d z : Int) (X : Nat → Prop) (A B M : Nat) (K : KD) (zc c' d' : Int) (wr : World) : Prop where
 tx : Tx w0 wr g L a b c' d'
 ch : Ch (fun k _ => k = g ∨ ¬ X k) w wr
 pl : zc = -1 ∨ (0 ≤ z ∧ z ≤ zc ∧ zc ≤ L.length ∧ c' = c ∧ d' = d)
 bA : wr.heap[A]? = some (.cells #[.string K.name, .string K.sup, .bool K.face, .slice K.fa K.faces.length K.fc, .slice K.f4 K.fs.length K.c4, .slice K.f5 K.ss.length K.c5, .slice K.f6 K.ms.length K.c6, .pointer K.p7, .int .i64 K.line, .int .i64 K.col] 50 (0, 0))
 bB : wr.heap[B]? = some (.cells Si 50 (0, 0))
 kin : Ej (XB X A B M) wr K
 mlt : M < wr.heap.size
structure Kj (w0 w : World) (g : Nat) (X : Nat → Prop) (A B M : Nat) : Prop where
 xl : ∀ k, X k → k < w.heap.size
 xg : X g
 x0 : ∀ k, k < w0.heap.size → X k
 nA : ¬ X A
 nB : ¬ X B
 wA : w.heap.size ≤ A
 wB : w.heap.size ≤ B
 AB : A ≠ B
 nM : ¬ X M
 wM : w.heap.size ≤ M
 MA : M ≠ A
section
variable {w0 w wr w' : World} {g A B M : Nat} {L : List Tk} {a b c d z zc c' d' : Int} {X : Nat → Prop} {K : KD}
theorem Kj.Ag (C : Kj w0 w g X A B M) : A ≠ g := fun e => C.nA (e ▸ C.xg)
theorem Kj.Bg (C : Kj w0 w g X A B M) : B ≠ g := fun e => C.nB (e ▸ C.xg)
theorem Kj.Mg (C : Kj w0 w g X A B M) : M ≠ g := fun e => C.nM (e ▸ C.xg)
theorem Kj.M0 (C : Kj w0 w g X A B M) : w0.heap.size ≤ M := Nat.le_of_not_lt (fun h => C.nM (C.x0 M h))
theorem Kj.A0 (C : Kj w0 w g X A B M) : w0.heap.size ≤ A := Nat.le_of_not_lt (fun h => C.nA (C.x0 A h))
theorem Kj.B0 (C : Kj w0 w g X A B M) : w0.heap.size ≤ B := Nat.le_of_not_lt (fun h => C.nB (C.x0 B h))
theorem Du.xlt (C : Kj w0 w g X A B M) (h : Du w0 w g L a b c d z X A B M K zc c' d' wr) : ∀ k, XB X A B M k → k < wr.heap.size := by
 rintro k (hk | rfl | rfl | rfl)
 {exact Nat.lt_of_lt_of_le (C.xl k hk) h.ch.size}
 {exact Ac h.bA}
 {exact Ac h.bB}
 {exact h.mlt}
theorem Ada {p : Prop} (h : p := by
 rcases hr with hr | ⟨h1, h2, h3, h4, h5⟩
 {exact .inl hr}
 {rcases h.pl with h6 | ⟨h6, h7, h8, h9, h10⟩
  {omega}
  {exact .inr ⟨h6, by omega, h3, h4.trans h9, h5.trans h10⟩}}
 ) : p := h
theorem Du.step (C : Kj w0 w g X A B M) (h : Du w0 w g L a b c d z X A B M K zc c' d' wr) {r c'' d'' : Int} (hT : Tx w0 w' g L a b c'' d'') (hc : Ch (Tb g) wr w') (hr : r = -1 ∨ (0 ≤ zc ∧ zc ≤ r ∧ r ≤ L.length ∧ c'' = c' ∧ d'' = d')) :
 Du w0 w g L a b c d z X A B M K r c'' d'' w' := by
 refine ⟨hT, h.ch.trans (hc.mono (fun k _ _ e => .inl e)), ?_, hc.keep _ _ h.bA (fun e => C.Ag e), hc.keep _ _ h.bB (fun e => C.Bg e), h.kin.tb hc (.inl C.xg), Nat.lt_of_lt_of_le h.mlt hc.size⟩
 exact Ada
theorem Du.no (C : Kj w0 w g X A B M) (h : Du w0 w g L a b c d z X A B M K zc c' d' wr) (hc : Ch No wr w') : Du w0 w g L a b c d z X A B M K zc c' d' w' :=
 ⟨h.tx.no hc, h.ch.trans (hc.mono (fun _ _ _ h => h.elim)), h.pl, hc.keep _ _ h.bA (fun h => h), hc.keep _ _ h.bB (fun h => h), h.kin.no hc, Nat.lt_of_lt_of_le h.mlt hc.size⟩
theorem Du.tbM (C : Kj w0 w g X A B M) (hMB : M ≠ B) (h : Du w0 w g L a b c d z X A B M K zc c' d' wr) (hc : Ch (Tb M) wr w') : Du w0 w g L a b c d z X A B M K zc c' d' w' :=
 ⟨h.tx.new hc C.M0 (fun e => C.Mg e.symm), h.ch.trans' hc (fun k o ho e => by
  have e' : k = M := e
  have h1 := Ac ho
  have h2 := C.wM
  omega), h.pl, hc.keep _ _ h.bA (fun e => C.MA e.symm), hc.keep _ _ h.bB (fun e => hMB e.symm), h.kin.tb hc (.inr (.inr (.inr rfl))), Nat.lt_of_lt_of_le h.mlt hc.size⟩
theorem Du.put (C : Kj w0 w g X A B M) (h : Du w0 w g L a b c d z X A B M K zc c' d' wr) {w1 w2 : World} {v : Value} (hvx : ∀ k, v.ownBlock = some k → ¬ XB X A B M k) (hc : Ch (fun k _ => v.ownBlock = some k) wr w1) (hc2 : Ch (Tb A) w1 w2) {K' : KD} (hk : Ej (XB X A B M) w1 K') (hA : w2.heap[A]? = some (.cells #[.string K'.name, .string K'.sup, .bool K'.face, .slice K'.fa K'.faces.length K'.fc, .slice K'.f4 K'.fs.length K'.c4, .slice K'.f5 K'.ss.length K'.c5, .slice K'.f6 K'.ms.length K'.c6, .pointer K'.p7, .int .i64 K'.line, .int .i64 K'.col] 50 (0, 0))) :
 Du w0 w g L a b c d z X A B M K' zc c' d' w2 := by
 have hg : ∀ o, wr.heap[g]? = some o → ¬ v.ownBlock = some g := fun o _ e => hvx g e (.inl C.xg)
 have h1 : Ch No w0 w1 := Ch.newOnly h.tx.ch hc (fun k o _ e => Nat.le_of_not_lt (fun hl => hvx k e (.inl (C.x0 k hl))))
 have hT1 := h.tx.keep hc hg h1
 refine ⟨hT1.new hc2 C.A0 (fun e => C.Ag e.symm), (h.ch.trans (hc.mono (fun k o _ e => .inr (fun hx => hvx k e (.inl hx))))).trans' hc2 (fun k o ho e => by
  have e' : k = A := e
  have h1 := Ac ho
  have h2 := C.wA
  omega), h.pl, hA, hc2.keep _ _ (hc.keep _ _ h.bB (fun e => hvx B e (.inr (.inr (.inl rfl))))) (fun e => C.AB e.symm), hk.tb hc2 (.inr (.inl rfl)), Nat.lt_of_lt_of_le h.mlt (Nat.le_trans hc.size hc2.size)⟩
theorem Du.set (C : Kj w0 w g X A B M) (h : Du w0 w g L a b c d z X A B M K zc c' d' wr) (hc2 : Ch (Tb A) wr w') {K' : KD} (hk : Ej (XB X A B M) wr K') (hA : w'.heap[A]? = some (.cells #[.string K'.name, .string K'.sup, .bool K'.face, .slice K'.fa K'.faces.length K'.fc, .slice K'.f4 K'.fs.length K'.c4, .slice K'.f5 K'.ss.length K'.c5, .slice K'.f6 K'.ms.length K'.c6, .pointer K'.p7, .int .i64 K'.line, .int .i64 K'.col] 50 (0, 0))) :
 Du w0 w g L a b c d z X A B M K' zc c' d' w' :=
 h.put C (v := .bool false) (fun k e => by cases e) ((Ch.refl _ _)) hc2 hk hA
theorem Du.mem (C : Kj w0 w g X A B M) (h : Du w0 w g L a b c d z X A B M K zc c' d' wr) (hc : Ch (fun k _ => k = g ∨ ¬ XB X A B M k) wr w') {r c'' d'' : Int} (hT : Tx w0 w' g L a b c'' d'') (hr : r = -1 ∨ (0 ≤ zc ∧ zc ≤ r ∧ r ≤ L.length ∧ c'' = c' ∧ d'' = d')) {K' : KD} (hk : Ej (XB X A B M) w' K') {w2 : World} (hc2 : Ch (Tb A) w' w2) (hA : w2.heap[A]? = some (.cells #[.string K'.name, .string K'.sup, .bool K'.face, .slice K'.fa K'.faces.length K'.fc, .slice K'.f4 K'.fs.length K'.c4, .slice K'.f5 K'.ss.length K'.c5, .slice K'.f6 K'.ms.length K'.c6, .pointer K'.p7, .int .i64 K'.line, .int .i64 K'.col] 50 (0, 0))) :
 Du w0 w g L a b c d z X A B M K' r c'' d'' w2 := by
 refine ⟨hT.new hc2 C.A0 (fun e => C.Ag e.symm), (h.ch.trans (hc.mono (fun k o _ e => by
  rcases e with e | e
  {exact .inl e}
  · exact .inr (fun hx => e (.inl hx))))).trans' hc2 (fun k o ho e => by
  have e' : k = A := e
  have h1 := Ac ho
  have h2 := C.wA
  omega), ?_, hA, hc2.keep _ _ (hc.keep _ _ h.bB (fun e => by
  rcases e with e | e
  {exact C.Bg e}
  · exact e (.inr (.inr (.inl rfl))))) (fun e => C.AB e.symm), hk.tb hc2 (.inr (.inl rfl)), Nat.lt_of_lt_of_le h.mlt (Nat.le_trans hc.size hc2.size)⟩
 exact Ada
theorem Du.memA (C : Kj w0 w g X A B M) (h : Du w0 w g L a b c d z X A B M K zc c' d' wr) (hc : Ch (fun k _ => k = g ∨ ¬ XB X A B M k) wr w') : w'.heap[A]? = some (.cells #[.string K.name, .string K.sup, .bool K.face, .slice K.fa K.faces.length K.fc, .slice K.f4 K.fs.length K.c4, .slice K.f5 K.ss.length K.c5, .slice K.f6 K.ms.length K.c6, .pointer K.p7, .int .i64 K.line, .int .i64 K.col] 50 (0, 0)) :=
 hc.keep _ _ h.bA (fun e => by
  rcases e with e | e
  {exact C.Ag e}
  {exact e (.inr (.inl rfl))})
theorem Du.fin (C : Kj w0 w g X A B M) (h : Du w0 w g L a b c d z X A B M K zc c' d' wr) (hz : zc = -1 ∨ z < zc) (hc : Ch (Tb B) wr w') : U2 w0 w g L a b c d z X (.returned (.tuple #[.agg #[.string K.name, .string K.sup, .bool K.face, .slice K.fa K.faces.length K.fc, .slice K.f4 K.fs.length K.c4, .slice K.f5 K.ss.length K.c5, .slice K.f6 K.ms.length K.c6, .pointer K.p7, .int .i64 K.line, .int .i64 K.col], .int .i64 zc])) w' :=
 ⟨K, zc, rfl, (h.kin.tb hc (.inr (.inr (.inl rfl)))).to (fun k _ hx => .inl hx), h.ch.trans' hc (fun k o ho e => by
  have e' : k = B := e
  have h1 := Ac ho
  have h2 := C.wB
  omega), c', d', h.tx.new hc C.B0 (fun e => C.Bg e.symm), by
  rcases h.pl with h6 | ⟨h6, h7, h8, h9, h10⟩
  {exact .inl h6}
  {rcases hz with h1 | h1
   {exact .inl h1}
   {exact .inr ⟨h6, h1, h8, h9, h10⟩}}⟩
end
section
variable {w0 w : World} {g : Nat} {L : List Tk} {a b c d : Int}
theorem Pt (x : Mt) : ∀ u ∈ x.cells, u.oneCell' = true := by
 intro u hu
 simp [Mt.cells] at hu
 rcases hu with rfl | rfl | rfl | rfl | rfl | rfl | rfl | rfl | rfl <;> rfl
theorem U3 {p : Prop} (h : p := by
 have HSa := Aa (Au HM.out.bA)
 have HSd := Aa (Wc HSa.out)
 go_region_held3 (fun w' => w'.cell? ⟨A, 0, none⟩ = some (.string K.name) ∧ w'.cell? ⟨A, 1, none⟩ = some (.string K.sup) ∧ w'.cell? ⟨A, 2, none⟩ = some (.bool K.face) ∧ w'.cell? ⟨A, 3, none⟩ = some (.slice K.fa K.faces.length K.fc) ∧ w'.cell? ⟨A, 4, none⟩ = some (.slice K.f4 K.fs.length K.c4) ∧ w'.cell? ⟨A, 5, none⟩ = some (.slice K.f5 K.ss.length K.c5) ∧ w'.cell? ⟨A, 6, none⟩ = some (.slice K.f6 K.ms.length K.c6) ∧ w'.cell? ⟨A, 7, none⟩ = some (.pointer K.p7) ∧ w'.cell? ⟨A, 8, none⟩ = some (.int .i64 K.line) ∧ w'.cell? ⟨A, 9, none⟩ = some (.int .i64 K.col)) (first | with_reducible exact HSa.out | with_reducible exact HSd.out | with_reducible exact HSb.out | with_reducible exact HSc.out | go_keep) (first | (go_at_call 26; refine hk.mono ?_; rintro e w5 ⟨rfl, c5, d5, hT5, hc7⟩; have HM5 := Aa (HM.out.step HC.out (r := (-1)) hT5 ((Ch.refl (Tb g) _).drew.trans hc7) (.inl rfl)); have HSb := Aa (Au HM5.out.bA); have hb7 := HM5.out.bB; unfold Si at hb7; obtain ⟨q0, q1, q2, q3, q4, q5, q6, q7, q8, q9⟩ := Au hb7; obtain ⟨f0, f1, f2, f3, f4, f5, f6, f7, f8, f9⟩ := Ef hb7; obtain ⟨w6, hw8, hb8, hfc⟩ := F3 hb7 (.string K.name) (.string K.sup) (.bool K.face) (.slice K.fa K.faces.length K.fc) (.slice K.f4 K.fs.length K.c4) (.slice K.f5 K.ss.length K.c5) (.slice K.f6 K.ms.length K.c6) (.pointer K.p7) (.int .i64 K.line) (.int .i64 K.col); have HSc := Aa (show w6.cell? ⟨A, 0, none⟩ = some (.string K.name) ∧ w6.cell? ⟨A, 1, none⟩ = some (.string K.sup) ∧ w6.cell? ⟨A, 2, none⟩ = some (.bool K.face) ∧ w6.cell? ⟨A, 3, none⟩ = some (.slice K.fa K.faces.length K.fc) ∧ w6.cell? ⟨A, 4, none⟩ = some (.slice K.f4 K.fs.length K.c4) ∧ w6.cell? ⟨A, 5, none⟩ = some (.slice K.f5 K.ss.length K.c5) ∧ w6.cell? ⟨A, 6, none⟩ = some (.slice K.f6 K.ms.length K.c6) ∧ w6.cell? ⟨A, 7, none⟩ = some (.pointer K.p7) ∧ w6.cell? ⟨A, 8, none⟩ = some (.int .i64 K.line) ∧ w6.cell? ⟨A, 9, none⟩ = some (.int .i64 K.col) from Au (hfc.keep _ _ HM5.out.bA (fun e => HC.out.AB e))); have HFB := Aa hb8; have HO := Aa (HM5.out.fin HC.out (.inl rfl) hfc); clear hT5 hc7 hb7 hb8 hfc))
 all_goals (
  go_wp2_with fail
  try rw [hw8]
  obtain ⟨k0, k1, k2, k3, k4, k5, k6, k7, k8, k9⟩ := Au HFB.out
  refine bodyPost_ret (v := .tuple #[.agg #[.string K.name, .string K.sup, .bool K.face, .slice K.fa K.faces.length K.fc, .slice K.f4 K.fs.length K.c4, .slice K.f5 K.ss.length K.c5, .slice K.f6 K.ms.length K.c6, .pointer K.p7, .int .i64 K.line, .int .i64 K.col], .int .i64 (-1)]) (by simp [results, Tryz.results56, go_sem, k0, k1, k2, k3, k4, k5, k6, k7, k8, k9]) rfl ?_
  exact HO.out)
 ) : p := h
theorem Adb {p : Prop} (h : p := by
 clear hw7 pj fj
 have hk := Da (HM7.out.tx.no ((Ch.refl No w7).drew)) (z := n.2) (by omega) (by omega) ⟨#[59]⟩ (by decide)
 obtain ⟨r8, hr8⟩ : ∃ r, Gs L n.2 ⟨#[59]⟩ = r := ⟨_, rfl⟩
 rw [hr8] at hk
 clear hr8
 have HM := HM7
 have HSa := Aa (Au HM.out.bA)
 have HSd := Aa (Wc HSa.out)
 go_region_held3 (fun w' => w'.cell? ⟨A, 0, none⟩ = some (.string K6.name) ∧ w'.cell? ⟨A, 1, none⟩ = some (.string K6.sup) ∧ w'.cell? ⟨A, 2, none⟩ = some (.bool K6.face) ∧ w'.cell? ⟨A, 3, none⟩ = some (.slice K6.fa K6.faces.length K6.fc) ∧ w'.cell? ⟨A, 4, none⟩ = some (.slice K6.f4 K6.fs.length K6.c4) ∧ w'.cell? ⟨A, 5, none⟩ = some (.slice K6.f5 K6.ss.length K6.c5) ∧ w'.cell? ⟨A, 6, none⟩ = some (.slice K6.f6 K6.ms.length K6.c6) ∧ w'.cell? ⟨A, 7, none⟩ = some (.pointer K6.p7) ∧ w'.cell? ⟨A, 8, none⟩ = some (.int .i64 K6.line) ∧ w'.cell? ⟨A, 9, none⟩ = some (.int .i64 K6.col)) (first | with_reducible exact HSa.out | with_reducible exact HSd.out | with_reducible exact HSb.out | with_reducible exact HSc.out | go_keep) (first | (go_at_call 29; refine hk.mono ?_; rintro e w5 ⟨rfl, c5, d5, hT5, hc7, hq7⟩; have HM5 := Aa (HM.out.step HC.out (r := r8) hT5 ((Ch.refl (Tb g) _).drew.trans hc7) (by omega)); have HSb := Aa (Au HM5.out.bA); have hb7 := HM5.out.bB; unfold Si at hb7; obtain ⟨q0, q1, q2, q3, q4, q5, q6, q7, q8, q9⟩ := Au hb7; obtain ⟨f0, f1, f2, f3, f4, f5, f6, f7, f8, f9⟩ := Ef hb7; obtain ⟨w6, hw8, hb8, hfc⟩ := F3 hb7 (.string K6.name) (.string K6.sup) (.bool K6.face) (.slice K6.fa K6.faces.length K6.fc) (.slice K6.f4 K6.fs.length K6.c4) (.slice K6.f5 K6.ss.length K6.c5) (.slice K6.f6 K6.ms.length K6.c6) (.pointer K6.p7) (.int .i64 K6.line) (.int .i64 K6.col); have HSc := Aa (show w6.cell? ⟨A, 0, none⟩ = some (.string K6.name) ∧ w6.cell? ⟨A, 1, none⟩ = some (.string K6.sup) ∧ w6.cell? ⟨A, 2, none⟩ = some (.bool K6.face) ∧ w6.cell? ⟨A, 3, none⟩ = some (.slice K6.fa K6.faces.length K6.fc) ∧ w6.cell? ⟨A, 4, none⟩ = some (.slice K6.f4 K6.fs.length K6.c4) ∧ w6.cell? ⟨A, 5, none⟩ = some (.slice K6.f5 K6.ss.length K6.c5) ∧ w6.cell? ⟨A, 6, none⟩ = some (.slice K6.f6 K6.ms.length K6.c6) ∧ w6.cell? ⟨A, 7, none⟩ = some (.pointer K6.p7) ∧ w6.cell? ⟨A, 8, none⟩ = some (.int .i64 K6.line) ∧ w6.cell? ⟨A, 9, none⟩ = some (.int .i64 K6.col) from Au (hfc.keep _ _ HM5.out.bA (fun e => HC.out.AB e))); have HFB := Aa hb8; have HO := Aa (HM5.out.fin HC.out (by omega) hfc); clear hT5 hc7 hb7 hb8 hfc))
 all_goals (
  go_wp2_with fail
  try rw [hw8]
  obtain ⟨k0, k1, k2, k3, k4, k5, k6, k7, k8, k9⟩ := Au HFB.out
  refine bodyPost_ret (v := .tuple #[.agg #[.string K6.name, .string K6.sup, .bool K6.face, .slice K6.fa K6.faces.length K6.fc, .slice K6.f4 K6.fs.length K6.c4, .slice K6.f5 K6.ss.length K6.c5, .slice K6.f6 K6.ms.length K6.c6, .pointer K6.p7, .int .i64 K6.line, .int .i64 K6.col], .int .i64 r8]) (by simp [results, Tryz.results56, go_sem, k0, k1, k2, k3, k4, k5, k6, k7, k8, k9]) rfl ?_
  exact HO.out)
 ) : p := h
theorem Adc {p : Prop} (h : p := by
 clear hw9 pj fj
 have HM := HM9
 obtain ⟨p0, p1, p2, p3, p4, p5, p6, p7, p8, p9⟩ := Au HM.out.bA
 have hb := HM.out.bB
 unfold Si at hb
 obtain ⟨q0, q1, q2, q3, q4, q5, q6, q7, q8, q9⟩ := Au hb
 obtain ⟨f0, f1, f2, f3, f4, f5, f6, f7, f8, f9⟩ := Ef hb
 obtain ⟨wf, hwf, hfb, hfc⟩ := F3 hb (.string K6.name) (.string K6.sup) (.bool K6.face) (.slice K6.fa K6.faces.length K6.fc) (.slice K6.f4 K6.fs.length K6.c4) (.slice K6.f5 K6.ss.length K6.c5) (.slice K6.f6 K6.ms.length K6.c6) (.pointer K6.p7) (.int .i64 K6.line) (.int .i64 K6.col)
 have HO := Aa (HM.out.fin HC.out (by omega) hfc)
 have HFB := Aa hfb
 clear hb hfb hfc
 go_wp2_with fail
 try rw [hwf]
 obtain ⟨k0, k1, k2, k3, k4, k5, k6, k7, k8, k9⟩ := Au HFB.out
 refine bodyPost_ret (v := .tuple #[.agg #[.string K6.name, .string K6.sup, .bool K6.face, .slice K6.fa K6.faces.length K6.fc, .slice K6.f4 K6.fs.length K6.c4, .slice K6.f5 K6.ss.length K6.c5, .slice K6.f6 K6.ms.length K6.c6, .pointer K6.p7, .int .i64 K6.line, .int .i64 K6.col], .int .i64 r6]) (by simp [results, Tryz.results56, go_sem, k0, k1, k2, k3, k4, k5, k6, k7, k8, k9]) rfl ?_
 exact HO.out
 ) : p := h
theorem Add {p : Prop} (h : p := by
 obtain ⟨K6, hKe⟩ : ∃ K6 : KD, { K with f6 := a8, ms := K.ms ++ [x], c6 := p8 } = K6 := ⟨_, rfl⟩
 rw [hKe] at hK8
 have hvx : ∀ k, K.v6.ownBlock = some k → ¬ XB X A B M k := fun k e => HMA.out.kin.nx k (.inr (.inr e))
 have hbA8 := hc8.keep _ _ HMA.out.bA (fun e => hvx A e (.inr (.inl rfl)))
 have fj := Ad hbA8 6
 clear pj
 have pj := Ab hbA8 6
 obtain ⟨w9, hw9, hb9, hc9⟩ := Ai hbA8 6 (.slice a8 (K.ms.length + 1) p8)
 have HM9 := Aa (HMA.out.put HC.out hvx hc8 hc9 hK8 (by
  rw [hb9, ← hKe]
  simp [List.length_append]
  rfl))
 clear hr8 hc8 hv8 m0 m1 m2 m3 m4 m5 m6 m7 m8 hbA8 hb9 hc9 hK8 hKe hvx HM HM4 HM5 HM6 HM7 HMA HMB2 HXC HMD
 go_upto_region 14 with fail
 exact Adc
 ) : p := h
theorem Ade {p : Prop} (h : p := by
 have HH := Aa h40
 clear h40
 have pj := Ab HM.out.bA 6
 go_upto_region 10 with fail
 clear pj
 have hk := B9 (HM.out.tx.no ((Ch.refl No w2).drew)) z 13
 exact U3
 ) : p := h
theorem Adf {p : Prop} (h : p := by
 have h1 := HV6.out.tb hc7 hM2
 have h2 := HL6.out.tb hc7 hM2
 have h3 := HT6.out.tb hc7 hM2
 rw [hx]
 exact ⟨rfl, rfl, HZ4.out, h1.1, h2.1, h3.1, h1.2, h2.2, h3.2.1, h3.2.2⟩
 ) : p := h
theorem U4 (h : Tx w0 w g L a b c d) (hL : Gq L) {z : Int} (hz : 0 ≤ z) (hz9 : z ≤ L.length) {X : Nat → Prop} {K : KD} (hK : Ej X w K) (hX : ∀ k, X k → k < w.heap.size) (hXg : X g) (hX0 : ∀ k, k < w0.heap.size → X k) :
 Calls Tryz.prog 56 #[.pointer (some ⟨g, 0, none⟩), .agg #[.string K.name, .string K.sup, .bool K.face, .slice K.fa K.faces.length K.fc, .slice K.f4 K.fs.length K.c4, .slice K.f5 K.ss.length K.c5, .slice K.f6 K.ms.length K.c6, .pointer K.p7, .int .i64 K.line, .int .i64 K.col], .int .i64 z] w (U2 w0 w g L a b c d z X) := by
 have HL := Aa hL
 have hLL := hL.1
 have hgl := h.lt
 have h0w := h.ch.size
 obtain ⟨wa, hwa, hba, hca⟩ := A2 w (.cells #[.string K.name, .string K.sup, .bool K.face, .slice K.fa K.faces.length K.fc, .slice K.f4 K.fs.length K.c4, .slice K.f5 K.ss.length K.c5, .slice K.f6 K.ms.length K.c6, .pointer K.p7, .int .i64 K.line, .int .i64 K.col] 50)
 obtain ⟨wb, hwb, hbb, hcb⟩ := A2 wa (.cells Si 50)
 have hbA := hcb.keep _ _ hba (fun h => h)
 have HTb := Aa ((h.no hca).no hcb)
 have hsa := Ac hba
 have hlb := Ac hbb
 obtain ⟨B, hB⟩ := Ax wa.heap.size
 obtain ⟨A, hA⟩ := Ax w.heap.size
 rw [hA] at hba hbA
 rw [hB] at hbb
 have HAb := Aa hbA
 have HBb := Aa (show wb.heap[B]? = some (.cells Si 50 (0, 0)) from hbb)
 have HCb := Aa (hca.trans hcb)
 have HK := Aa hK
 have HX := Aa hX
 have HX0 := Aa hX0
 have wz1 : IntKind.i64.wrap (z + 1) = z + 1 := by rw [IntKind.wrap_i64]; omega
 have wz2 : IntKind.i64.wrap (z + 1 + 1) = z + 1 + 1 := by rw [IntKind.wrap_i64]; omega
 have htw := A6 HTb.out z
 obtain ⟨W, hW⟩ := Ax (Ar L z)
 rw [hW] at htw
 have hWn : W ≠ ⟨#[]⟩ → z < L.length := fun h => (Be (L := L) (z := z) (by rw [hW]; exact h)).2
 obtain ⟨p, hp⟩ := Ax (Fx L a b z)
 have hpl := Ds HTb.out z
 rw [hp] at hpl
 obtain ⟨sb, hsb⟩ := Ax ((W.toList == [115, 116, 97, 116, 105, 99]))
 unfold Si at hwb
 clear h hL hba hbA hca hcb hbb hW hp hK hX hX0
 go_in
 go_wp2_with fail
 try rw [hA]
 try rw [hB]
 refine htw.mono ?_
 rintro e wx ⟨rfl, rfl⟩
 clear htw
 go_wp2_with fail
 refine hpl.mono ?_
 rintro e w1 ⟨rfl, hc1⟩
 have HA1 := Aa (hc1.keep _ _ HAb.out (fun h => h))
 have HB1 := Aa (hc1.keep _ _ HBb.out (fun h => h))
 have HT1 := Aa (HTb.out.no hc1)
 have HC1 := Aa (HCb.out.trans hc1)
 have Jj := hc1.size
 clear hc1 hpl hwa hwb
 go_upto_region 4 with fail
 obtain ⟨w2, hw2, hb2, hc2⟩ := A2 w1 (.cells #[.string ⟨#[]⟩, .string ⟨#[]⟩, .bool sb, .bool false, .slice none 0 0, .slice none 0 0, .slice none 0 0, .int .i64 p.1, .int .i64 p.2] 29)
 try rw [hw2]
 have hl2 := Ac hb2
 obtain ⟨M, hM⟩ := Ax w1.heap.size
 rw [hM] at hb2 ⊢
 have HC : Hid (Kj w0 w g X A B M) := Aa ⟨HX.out, hXg, HX0.out, fun h => by have := HX.out _ h; omega, fun h => by have := HX.out _ h; omega, by omega, by omega, by omega, fun h => by have := HX.out _ h; omega, by omega, by omega⟩
 have hMB : M ≠ B := by omega
 have HMB2 := Aa hb2
 have HM : Hid (Du w0 w g L a b c d z X A B M K z c d w2) := Aa ⟨HT1.out.no hc2, (HC1.out.trans hc2).mono (fun _ _ _ h => h.elim), .inr ⟨hz, by omega, hz9, rfl, rfl⟩, hc2.keep _ _ HA1.out (fun h => h), hc2.keep _ _ HB1.out (fun h => h), (HK.out.to (fun k hk hx => by
  rcases hx with hx | hx | hx | hx
  {exact hx}
  {omega}
  {omega}
  · omega)).no (HC1.out.trans hc2), by omega⟩
 have hM2 : M < w2.heap.size := by omega
 have hg2 : g < w2.heap.size := by omega
 clear hb2 hc2 hw2 HA1 HB1 HT1 HAb HBb HTb HK
 cases sb with
 | true =>
  have hlt := hWn (by rintro rfl; revert hsb; decide +kernel)
  have htw := A6 HM.out.tx (z + 1)
  obtain ⟨V, hV⟩ := Ax (Ar L (z + 1))
  rw [hV] at htw
  have hVn : V ≠ ⟨#[]⟩ → z + 1 < L.length := fun h => (Be (L := L) (z := z + 1) (by rw [hV]; exact h)).2
  clear hV hsb hWn
  go_wp2_with fail
  refine htw.mono ?_
  rintro e wx ⟨rfl, rfl⟩
  clear htw
  by_cases hm : V = ⟨#[109, 101, 116, 104, 111, 100]⟩
  {have e1 := lit _ [109, 101, 116, 104, 111, 100] hm
   have hlt2 := hVn (by rw [hm]; decide)
   clear hm hVn
   by_cases h40 : K.ms.length = 40
   {have d40 : ((K.ms.length : Int) == 40) = true := by simpa using (show (K.ms.length : Int) = 40 by omega)
    exact Ade}
   {have d40 : ((K.ms.length : Int) == 40) = false := by simpa using (show ¬ (K.ms.length : Int) = 40 by omega)
    have hz6 := HM.out.kin.z6
    have hhd := Ps HM.out.tx HL.out (z := (z + 1)) (by omega) (by omega) ⟨#[]⟩ ⟨#[]⟩ true false p.1 p.2
    have pj := Ab HM.out.bA 6
    obtain ⟨m0, m1, m2, m3, m4, m5, m6, m7, m8⟩ := B4 HMB2.out
    go_wp2_with fail
    refine hhd.mono ?_
    rintro e w4 ⟨ret, mn, pa, ps, pc, r4, rfl, hz4, hv4, c4, d4, hT4, hc4, hq4⟩
    have HM4 := Aa (HM.out.step HC.out (r := r4) hT4 hc4 (by omega))
    have hq4' : r4 = -1 ∨ (z < r4 ∧ r4 ≤ L.length) := by omega
    have hM4 := hc4.keep _ _ HMB2.out (fun e => HC.out.Mg e)
    have hs4 := hc4.size
    clear m0 m1 m2 m3 m4 m5 m6 m7 m8 pj
    have HV4 := Aa hv4
    have HZ4 := Aa hz4
    clear hT4 hc4 hq4 hv4 hz4 hhd
    obtain ⟨m0, m1, m2, m3, m4, m5, m6, m7, m8⟩ := B4 hM4
    obtain ⟨f0, f1, f2, f3, f4, f5, f6, f7, f8⟩ := Ki hM4
    obtain ⟨w5, hw5, hb5, hc5⟩ := N3 hM4 (.string ret) (.string mn) (.bool true) (.bool false) (.slice pa ps.length pc) (.slice none 0 0) (.slice none 0 0) (.int .i64 p.1) (.int .i64 p.2)
    have HM5 := Aa (HM4.out.tbM HC.out hMB hc5)
    have HV5 := Aa (HV4.out.tb hc5 hM2)
    have HB5 := Aa hb5
    have hs5 : w2.heap.size ≤ w5.heap.size := Nat.le_trans hs4 hc5.size
    clear hM4 hb5 hc5
    go_upto_region 12 with fail
    clear hw5 m0 m1 m2 m3 m4 m5 m6 m7 m8 f0 f1 f2 f3 f4 f5 f6 f7 f8
    have hbk := Ht HM5.out.tx HL.out (z := r4) (by omega) (by omega) ret mn true false pa ps.length pc p.1 p.2
    obtain ⟨m0, m1, m2, m3, m4, m5, m6, m7, m8⟩ := B4 HB5.out
    go_wp2_with fail
    refine hbk.mono ?_
    rintro e w6 ⟨la, ls, lc, sa, t, sc, r6, rfl, hv6, hb6, c6, d6, hT6, hc6, hq6⟩
    have HM6 := Aa (HM5.out.step HC.out (r := r6) hT6 hc6 (by omega))
    have hq6' : r6 = -1 ∨ (z < r6 ∧ r6 ≤ L.length) := by omega
    have hM6 := hc6.keep _ _ HB5.out (fun e => HC.out.Mg e)
    have HV6 := Aa (HV5.out.tb hc6 hg2)
    have HL6 := Aa (hv6.up hs5)
    have HT6 := Aa (hb6.up hs5)
    clear m0 m1 m2 m3 m4 m5 m6 m7 m8
    clear hT6 hc6 hq6 hv6 hb6 hbk
    obtain ⟨m0, m1, m2, m3, m4, m5, m6, m7, m8⟩ := B4 hM6
    obtain ⟨f0, f1, f2, f3, f4, f5, f6, f7, f8⟩ := Ki hM6
    obtain ⟨w7, hw7, hb7, hc7⟩ := N3 hM6 (.string ret) (.string mn) (.bool true) (.bool false) (.slice pa ps.length pc) (.slice la ls.length lc) (.slice sa t.len sc) (.int .i64 p.1) (.int .i64 p.2)
    have HM7 := Aa (HM6.out.tbM HC.out hMB hc7)
    have HB7 := Aa hb7
    obtain ⟨x, hx⟩ : ∃ x : Md, x = ⟨⟨ret, mn, true, false, ps, pa, pc, (la, ls.length, lc), (sa, t.len, sc), p.1, p.2⟩, ls, t⟩ := ⟨_, rfl⟩
    have hxc : x.m.cells = [.string ret, .string mn, .bool true, .bool false, .slice pa ps.length pc, .slice la ls.length lc, .slice sa t.len sc, .int .i64 p.1, .int .i64 p.2] := by rw [hx]; rfl
    have hmd : E8 (Mk w2.heap.size) w7 x := by
     exact Adf
    have HXC := Aa hxc
    have HMD := Aa (hmd.mono (P' := KP (XB X A B M) K) (fun k _ hk => HM.out.kin.freshP (HM.out.xlt HC.out) hk))
    clear hM6 hb7 hc7 hx hxc hmd
    go_upto_region 13 with fail
    clear hw7 m0 m1 m2 m3 m4 m5 m6 m7 m8 f0 f1 f2 f3 f4 f5 f6 f7 f8
    obtain ⟨m0, m1, m2, m3, m4, m5, m6, m7, m8⟩ := B4 HB7.out
    have hcB := (Ch.refl No w7).alloc (.cells #[.string ret, .string mn, .bool true, .bool false, .slice pa ps.length pc, .slice la ls.length lc, .slice sa t.len sc, .int .i64 p.1, .int .i64 p.2] 29)
    have HMA := Aa (HM7.out.no HC.out hcB)
    have HCB := Aa hcB
    have pj := Ab HM7.out.bA 6
    have yA := Ac HM7.out.bA
    clear hcB
    go_wp2_with (at_builtin; go_must (refine Cb rfl _ _ rfl Tryz.sliceMethod Tryz.infoMethod (lb rfl) (lb rfl) 0 K.v6 K.ms.length (K.ms.flatMap (fun x => x.m.cells)) rfl HMA.out.kin.o6 w7.heap.size 1 [.string ret, .string mn, .bool true, .bool false, .slice pa ps.length pc, .slice la ls.length lc, .slice sa t.len sc, .int .i64 p.1, .int .i64 p.2] rfl rfl (heap_alloc_new w7 _) (by rw [← HXC.out]; exact Pt _) (by omega) (Nat.zero_le _) ?_))
    intro v8 w8 hr8 hc8 hv8
    rw [← HXC.out] at hr8
    obtain ⟨a8, p8, e8, hp8, hp9⟩ := Dh hr8
    subst e8
    unfold maxLen at hp9
    have hK8 := HMA.out.kin.push6 (HMA.out.xlt HC.out) hr8 hc8 (by rw [show (w7.alloc (.cells #[.string ret, .string mn, .bool true, .bool false, .slice pa ps.length pc, .slice la ls.length lc, .slice sa t.len sc, .int .i64 p.1, .int .i64 p.2] 29)).heap.size = w7.heap.size + 1 from by simp]; exact hv8) (HMD.out.ch HCB.out (fun _ _ _ _ _ h => h)) (by omega)
    exact Add}}
  {have e1 := Bf _ [109, 101, 116, 104, 111, 100] hm
   clear hm hVn
   by_cases h40 : K.ss.length = 40
   {have d40 : ((K.ss.length : Int) == 40) = true := by simpa using (show (K.ss.length : Int) = 40 by omega)
    have HH := Aa h40
    clear h40
    have pj := Ab HM.out.bA 5
    go_upto_region 17 with fail
    clear pj
    have hk := B9 (HM.out.tx.no ((Ch.refl No w2).drew)) z 13
    exact U3}
   {have d40 : ((K.ss.length : Int) == 40) = false := by simpa using (show ¬ (K.ss.length : Int) = 40 by omega)
    have hz6 := HM.out.kin.z5.1
    have hvr := N0 HM.out.tx HL.out (z := (z + 1)) (by omega)
    have hsz := Mi HL.out a b (z + 1)
    obtain ⟨n, hn⟩ := Ax (Sw L a b (z + 1))
    rw [hn] at hvr hsz
    have HSZ := Aa hsz
    clear hn hsz
    have pj := Ab HM.out.bA 5
    go_wp2_with fail
    refine hvr.mono ?_
    rintro e w4 ⟨rfl, c4, d4, hT4, hc4, hr4⟩
    have HM4 := Aa (HM.out.step HC.out (r := n.2) hT4 hc4 (by omega))
    have HR4 := Aa (show n.2 = -1 ∨ (z < n.2 ∧ n.2 ≤ L.length) from by omega)
    clear hT4 hc4 hvr hr4 pj
    go_upto_region 19 with fail
    obtain ⟨w5, hw5, hb5, hcA⟩ := A2 w4 (.cells n.1.cells.toArray 64)
    unfold Vr.cells at hw5 hb5
    obtain ⟨x0, x1, x2, x3⟩ := F9 hb5
    have hcB := (Ch.refl No w5).alloc (.cells n.1.cells.toArray 64)
    have HMA := Aa (HM4.out.no HC.out (hcA.trans hcB))
    have pj := Ab (HM4.out.no HC.out hcA).bA 5
    have yA := Ac (HM4.out.no HC.out hcA).bA
    clear hb5 hcA hcB
    go_wp2_with (at_builtin; go_must (refine Cb rfl _ _ rfl Tryz.sliceVar Tryz.infoVar (lb rfl) (lb rfl) 0 K.v5 K.ss.length (K.ss.flatMap Vr.cells) rfl HMA.out.kin.o5 w5.heap.size 1 n.1.cells rfl rfl (heap_alloc_new w5 _) (Vr.one _) (by omega) (Nat.zero_le _) ?_))
    intro v6 w6 hr6 hc6 hv6
    obtain ⟨a6, p6, e6, hp6, hp7⟩ := Dh hr6
    subst e6
    unfold maxLen at hp7
    have hK6 := HMA.out.kin.push5 (HMA.out.xlt HC.out) hr6 hc6 (by rw [show (w5.alloc (.cells n.1.cells.toArray 64)).heap.size = w5.heap.size + 1 from by simp]; exact hv6) HSZ.out (by omega)
    obtain ⟨K6, hKe⟩ : ∃ K6 : KD, { K with f5 := a6, ss := K.ss ++ [n.1], c5 := p6 } = K6 := ⟨_, rfl⟩
    rw [hKe] at hK6
    have hvx : ∀ k, K.v5.ownBlock = some k → ¬ XB X A B M k := fun k e => HMA.out.kin.nx k (.inr (.inl e))
    have hbA6 := hc6.keep _ _ HMA.out.bA (fun e => hvx A e (.inr (.inl rfl)))
    have fj := Ad hbA6 5
    clear pj
    have pj := Ab hbA6 5
    obtain ⟨w7, hw7, hb7, hc7⟩ := Ai hbA6 5 (.slice a6 (K.ss.length + 1) p6)
    have HM7 := Aa (HMA.out.put HC.out hvx hc6 hc7 hK6 (by
     rw [hb7, ← hKe]
     simp [List.length_append]
     rfl))
    have hR4 := HR4.out
    clear hr6 hc6 hv6 hw5 x0 x1 x2 x3 hbA6 hb7 hc7 hK6 hKe hvx HM HM4 HMA HMB2
    go_upto_region 20 with fail
    exact Adb}}
 | false =>
  by_cases hm : W = ⟨#[109, 101, 116, 104, 111, 100]⟩
  {have e1 := lit _ [109, 101, 116, 104, 111, 100] hm
   have hlt2 := hWn (by rw [hm]; decide)
   clear hm hWn hsb
   by_cases h40 : K.ms.length = 40
   {have d40 : ((K.ms.length : Int) == 40) = true := by simpa using (show (K.ms.length : Int) = 40 by omega)
    exact Ade}
   {have d40 : ((K.ms.length : Int) == 40) = false := by simpa using (show ¬ (K.ms.length : Int) = 40 by omega)
    have hz6 := HM.out.kin.z6
    have hhd := Ps HM.out.tx HL.out (z := z) (by omega) (by omega) ⟨#[]⟩ ⟨#[]⟩ false false p.1 p.2
    have pj := Ab HM.out.bA 6
    obtain ⟨m0, m1, m2, m3, m4, m5, m6, m7, m8⟩ := B4 HMB2.out
    go_wp2_with fail
    refine hhd.mono ?_
    rintro e w4 ⟨ret, mn, pa, ps, pc, r4, rfl, hz4, hv4, c4, d4, hT4, hc4, hq4⟩
    have HM4 := Aa (HM.out.step HC.out (r := r4) hT4 hc4 (by omega))
    have hq4' : r4 = -1 ∨ (z < r4 ∧ r4 ≤ L.length) := by omega
    have hM4 := hc4.keep _ _ HMB2.out (fun e => HC.out.Mg e)
    have hs4 := hc4.size
    clear m0 m1 m2 m3 m4 m5 m6 m7 m8 pj
    have HV4 := Aa hv4
    have HZ4 := Aa hz4
    clear hT4 hc4 hq4 hv4 hz4 hhd
    obtain ⟨m0, m1, m2, m3, m4, m5, m6, m7, m8⟩ := B4 hM4
    obtain ⟨f0, f1, f2, f3, f4, f5, f6, f7, f8⟩ := Ki hM4
    obtain ⟨w5, hw5, hb5, hc5⟩ := N3 hM4 (.string ret) (.string mn) (.bool false) (.bool false) (.slice pa ps.length pc) (.slice none 0 0) (.slice none 0 0) (.int .i64 p.1) (.int .i64 p.2)
    have HM5 := Aa (HM4.out.tbM HC.out hMB hc5)
    have HV5 := Aa (HV4.out.tb hc5 hM2)
    have HB5 := Aa hb5
    have hs5 : w2.heap.size ≤ w5.heap.size := Nat.le_trans hs4 hc5.size
    clear hM4 hb5 hc5
    go_upto_region 12 with fail
    clear hw5 m0 m1 m2 m3 m4 m5 m6 m7 m8 f0 f1 f2 f3 f4 f5 f6 f7 f8
    have hbk := Ht HM5.out.tx HL.out (z := r4) (by omega) (by omega) ret mn false false pa ps.length pc p.1 p.2
    obtain ⟨m0, m1, m2, m3, m4, m5, m6, m7, m8⟩ := B4 HB5.out
    go_wp2_with fail
    refine hbk.mono ?_
    rintro e w6 ⟨la, ls, lc, sa, t, sc, r6, rfl, hv6, hb6, c6, d6, hT6, hc6, hq6⟩
    have HM6 := Aa (HM5.out.step HC.out (r := r6) hT6 hc6 (by omega))
    have hq6' : r6 = -1 ∨ (z < r6 ∧ r6 ≤ L.length) := by omega
    have hM6 := hc6.keep _ _ HB5.out (fun e => HC.out.Mg e)
    have HV6 := Aa (HV5.out.tb hc6 hg2)
    have HL6 := Aa (hv6.up hs5)
    have HT6 := Aa (hb6.up hs5)
    clear m0 m1 m2 m3 m4 m5 m6 m7 m8
    clear hT6 hc6 hq6 hv6 hb6 hbk
    obtain ⟨m0, m1, m2, m3, m4, m5, m6, m7, m8⟩ := B4 hM6
    obtain ⟨f0, f1, f2, f3, f4, f5, f6, f7, f8⟩ := Ki hM6
    obtain ⟨w7, hw7, hb7, hc7⟩ := N3 hM6 (.string ret) (.string mn) (.bool false) (.bool false) (.slice pa ps.length pc) (.slice la ls.length lc) (.slice sa t.len sc) (.int .i64 p.1) (.int .i64 p.2)
    have HM7 := Aa (HM6.out.tbM HC.out hMB hc7)
    have HB7 := Aa hb7
    obtain ⟨x, hx⟩ : ∃ x : Md, x = ⟨⟨ret, mn, false, false, ps, pa, pc, (la, ls.length, lc), (sa, t.len, sc), p.1, p.2⟩, ls, t⟩ := ⟨_, rfl⟩
    have hxc : x.m.cells = [.string ret, .string mn, .bool false, .bool false, .slice pa ps.length pc, .slice la ls.length lc, .slice sa t.len sc, .int .i64 p.1, .int .i64 p.2] := by rw [hx]; rfl
    have hmd : E8 (Mk w2.heap.size) w7 x := by
     exact Adf
    have HXC := Aa hxc
    have HMD := Aa (hmd.mono (P' := KP (XB X A B M) K) (fun k _ hk => HM.out.kin.freshP (HM.out.xlt HC.out) hk))
    clear hM6 hb7 hc7 hx hxc hmd
    go_upto_region 13 with fail
    clear hw7 m0 m1 m2 m3 m4 m5 m6 m7 m8 f0 f1 f2 f3 f4 f5 f6 f7 f8
    obtain ⟨m0, m1, m2, m3, m4, m5, m6, m7, m8⟩ := B4 HB7.out
    have hcB := (Ch.refl No w7).alloc (.cells #[.string ret, .string mn, .bool false, .bool false, .slice pa ps.length pc, .slice la ls.length lc, .slice sa t.len sc, .int .i64 p.1, .int .i64 p.2] 29)
    have HMA := Aa (HM7.out.no HC.out hcB)
    have HCB := Aa hcB
    have pj := Ab HM7.out.bA 6
    have yA := Ac HM7.out.bA
    clear hcB
    go_wp2_with (at_builtin; go_must (refine Cb rfl _ _ rfl Tryz.sliceMethod Tryz.infoMethod (lb rfl) (lb rfl) 0 K.v6 K.ms.length (K.ms.flatMap (fun x => x.m.cells)) rfl HMA.out.kin.o6 w7.heap.size 1 [.string ret, .string mn, .bool false, .bool false, .slice pa ps.length pc, .slice la ls.length lc, .slice sa t.len sc, .int .i64 p.1, .int .i64 p.2] rfl rfl (heap_alloc_new w7 _) (by rw [← HXC.out]; exact Pt _) (by omega) (Nat.zero_le _) ?_))
    intro v8 w8 hr8 hc8 hv8
    rw [← HXC.out] at hr8
    obtain ⟨a8, p8, e8, hp8, hp9⟩ := Dh hr8
    subst e8
    unfold maxLen at hp9
    have hK8 := HMA.out.kin.push6 (HMA.out.xlt HC.out) hr8 hc8 (by rw [show (w7.alloc (.cells #[.string ret, .string mn, .bool false, .bool false, .slice pa ps.length pc, .slice la ls.length lc, .slice sa t.len sc, .int .i64 p.1, .int .i64 p.2] 29)).heap.size = w7.heap.size + 1 from by simp]; exact hv8) (HMD.out.ch HCB.out (fun _ _ _ _ _ h => h)) (by omega)
    exact Add}}
  {have e1 := Bf _ [109, 101, 116, 104, 111, 100] hm
   by_cases hf : W = ⟨#[102, 105, 101, 108, 100]⟩
   {have e2 := lit _ [102, 105, 101, 108, 100] hf
    have hlt := hWn (by rw [hf]; decide)
    clear hm hf hWn hsb
    by_cases h40 : K.fs.length = 40
    {have d40 : ((K.fs.length : Int) == 40) = true := by simpa using (show (K.fs.length : Int) = 40 by omega)
     have HH := Aa h40
     clear h40
     have pj := Ab HM.out.bA 4
     go_upto_region 23 with fail
     clear pj
     have hk := B9 (HM.out.tx.no ((Ch.refl No w2).drew)) z 13
     exact U3}
    {have d40 : ((K.fs.length : Int) == 40) = false := by simpa using (show ¬ (K.fs.length : Int) = 40 by omega)
     have hz6 := HM.out.kin.z4.1
     have hvr := N0 HM.out.tx HL.out (z := (z + 1)) (by omega)
     have hsz := Mi HL.out a b (z + 1)
     obtain ⟨n, hn⟩ := Ax (Sw L a b (z + 1))
     rw [hn] at hvr hsz
     have HSZ := Aa hsz
     clear hn hsz
     have pj := Ab HM.out.bA 4
     go_wp2_with fail
     refine hvr.mono ?_
     rintro e w4 ⟨rfl, c4, d4, hT4, hc4, hr4⟩
     have HM4 := Aa (HM.out.step HC.out (r := n.2) hT4 hc4 (by omega))
     have HR4 := Aa (show n.2 = -1 ∨ (z < n.2 ∧ n.2 ≤ L.length) from by omega)
     clear hT4 hc4 hvr hr4 pj
     go_upto_region 25 with fail
     obtain ⟨w5, hw5, hb5, hcA⟩ := A2 w4 (.cells n.1.cells.toArray 64)
     unfold Vr.cells at hw5 hb5
     obtain ⟨x0, x1, x2, x3⟩ := F9 hb5
     have hcB := (Ch.refl No w5).alloc (.cells n.1.cells.toArray 64)
     have HMA := Aa (HM4.out.no HC.out (hcA.trans hcB))
     have pj := Ab (HM4.out.no HC.out hcA).bA 4
     have yA := Ac (HM4.out.no HC.out hcA).bA
     clear hb5 hcA hcB
     go_wp2_with (at_builtin; go_must (refine Cb rfl _ _ rfl Tryz.sliceVar Tryz.infoVar (lb rfl) (lb rfl) 0 K.v4 K.fs.length (K.fs.flatMap Vr.cells) rfl HMA.out.kin.o4 w5.heap.size 1 n.1.cells rfl rfl (heap_alloc_new w5 _) (Vr.one _) (by omega) (Nat.zero_le _) ?_))
     intro v6 w6 hr6 hc6 hv6
     obtain ⟨a6, p6, e6, hp6, hp7⟩ := Dh hr6
     subst e6
     unfold maxLen at hp7
     have hK6 := HMA.out.kin.push4 (HMA.out.xlt HC.out) hr6 hc6 (by rw [show (w5.alloc (.cells n.1.cells.toArray 64)).heap.size = w5.heap.size + 1 from by simp]; exact hv6) HSZ.out (by omega)
     obtain ⟨K6, hKe⟩ : ∃ K6 : KD, { K with f4 := a6, fs := K.fs ++ [n.1], c4 := p6 } = K6 := ⟨_, rfl⟩
     rw [hKe] at hK6
     have hvx : ∀ k, K.v4.ownBlock = some k → ¬ XB X A B M k := fun k e => HMA.out.kin.nx k (.inl e)
     have hbA6 := hc6.keep _ _ HMA.out.bA (fun e => hvx A e (.inr (.inl rfl)))
     have fj := Ad hbA6 4
     clear pj
     have pj := Ab hbA6 4
     obtain ⟨w7, hw7, hb7, hc7⟩ := Ai hbA6 4 (.slice a6 (K.fs.length + 1) p6)
     have HM7 := Aa (HMA.out.put HC.out hvx hc6 hc7 hK6 (by
      rw [hb7, ← hKe]
      simp [List.length_append]
      rfl))
     have hR4 := HR4.out
     clear hr6 hc6 hv6 hw5 x0 x1 x2 x3 hbA6 hb7 hc7 hK6 hKe hvx HM HM4 HMA HMB2
     go_upto_region 26 with fail
     exact Adb}}
   {have e2 := Bf _ [102, 105, 101, 108, 100] hf
    by_cases hi : W = ⟨#[105, 110, 105, 116]⟩
    {have e3 := lit _ [105, 110, 105, 116] hi
     have hlt := hWn (by rw [hi]; decide)
     clear hm hf hi hWn hsb
     cases hini : K.ini with
     | none =>
      have HI := Aa hini
      clear hini
      have hp7 : K.p7 = none := by unfold KD.p7; rw [HI.out]; rfl
      have pj : w2.cell? ⟨A, 7, none⟩ = some (.pointer none) := by rw [← hp7]; exact Ab HM.out.bA 7
      have hpl := Ds HM.out.tx z
      obtain ⟨q, hq⟩ := Ax (Fx L a b z)
      rw [hq] at hpl
      clear hq hp7
      go_wp2_with fail
      refine hpl.mono ?_
      rintro e w4 ⟨rfl, hc4⟩
      have HM4 := Aa (HM.out.no HC.out hc4)
      have hs4 := hc4.size
      clear hc4 hpl pj
      have hbk := Ht HM4.out.tx HL.out (z := z + 1) (by omega) (by omega) ⟨#[118, 111, 105, 100]⟩ ⟨#[105, 110, 105, 116]⟩ true false none 0 0 q.1 q.2
      go_wp2_with fail
      refine hbk.mono ?_
      rintro e w6 ⟨la, ls, lc, sa, t, sc, r6, rfl, hv6, hb6, c6, d6, hT6, hc6, hq6⟩
      have HM6 := Aa (HM4.out.step HC.out (r := r6) hT6 hc6 (by omega))
      have hq6' : r6 = -1 ∨ (z < r6 ∧ r6 ≤ L.length) := by omega
      have HL6 := Aa (hv6.up hs4)
      have HT6 := Aa (hb6.up hs4)
      have hs6 : w2.heap.size ≤ w6.heap.size := Nat.le_trans hs4 hc6.size
      clear hT6 hc6 hq6 hv6 hb6 hbk
      go_upto_region 29 with fail
      obtain ⟨w7, hw7, hb7, hc7⟩ := A2 w6 (.cells #[.string ⟨#[118, 111, 105, 100]⟩, .string ⟨#[105, 110, 105, 116]⟩, .bool true, .bool false, .slice none 0 0, .slice la ls.length lc, .slice sa t.len sc, .int .i64 q.1, .int .i64 q.2] 29)
      try rw [hw7]
      obtain ⟨x, hx⟩ : ∃ x : Md, x = ⟨⟨⟨#[118, 111, 105, 100]⟩, ⟨#[105, 110, 105, 116]⟩, true, false, [], none, 0, (la, ls.length, lc), (sa, t.len, sc), q.1, q.2⟩, ls, t⟩ := ⟨_, rfl⟩
      have hmd : E8 (Mk w2.heap.size) w7 x := by
       have h2 := HL6.out
       have h3 := HT6.out.no hc7
       rw [hx]
       exact ⟨rfl, rfl, ⟨lb rfl, lb rfl⟩, ⟨Nat.zero_le _, fun v hv => by cases hv⟩, h2.1, h3.1, .nil _ _ _, h2.2.ch hc7 (fun _ _ _ _ _ h => h), h3.2.1, h3.2.2⟩
      have hm2 := hmd.mono (P' := KP (XB X A B M) K) (fun k _ hk => HM.out.kin.freshP (HM.out.xlt HC.out) hk)
      have hM7 := HM6.out.no HC.out hc7
      have hK7 := hM7.kin.setI (b := w6.heap.size) (x := x) ⟨HM.out.kin.freshP (HM.out.xlt HC.out) hs6, by rw [hb7, hx]; rfl, hm2⟩
      obtain ⟨K6, hKe⟩ : ∃ K6 : KD, { K with ini := some (w6.heap.size, x) } = K6 := ⟨_, rfl⟩
      rw [hKe] at hK7
      have pj := Ab hM7.bA 7
      have fj := Ad hM7.bA 7
      obtain ⟨w9, hw9, hb9, hc9⟩ := Ai hM7.bA 7 (.pointer (some ⟨w6.heap.size, 0, none⟩))
      have HM9 := Aa (hM7.set HC.out hc9 hK7 (by rw [hb9, ← hKe]; rfl))
      clear hb7 hc7 hx hmd hm2 hM7 hK7 hKe hb9 hc9 HM HM4 HM6 HMB2 hw7
      go_upto_region 30 with fail
      exact Adc
     | some y =>
      have hp7 : K.p7 = some ⟨y.1, 0, none⟩ := by unfold KD.p7; rw [hini]; rfl
      have pj : w2.cell? ⟨A, 7, none⟩ = some (.pointer (some ⟨y.1, 0, none⟩)) := by rw [← hp7]; exact Ab HM.out.bA 7
      clear hini hp7
      go_upto_region 31 with fail
      clear pj
      go_upto_region 31 with fail
      have hk := B9 (HM.out.tx.no ((Ch.refl No w2).drew)) z 10
      exact U3}
    {have e3 := Bf _ [105, 110, 105, 116] hi
     clear hm hf hi hWn hsb
     go_upto_region 31 with fail
     have hk := B9 (HM.out.tx.no ((Ch.refl No w2).drew)) z 10
     exact U3}}}
end
section
variable {w0 w : World} {g : Nat} {L : List Tk} {a b c d : Int}
theorem Adg {p : Prop} (h : p := by
 obtain ⟨k0, k1, k2, k3, k4, k5, k6, k7, k8, k9⟩ := Au HFB.out
 refine bodyPost_ret (v := .tuple #[.agg #[.string K.name, .string K.sup, .bool K.face, .slice K.fa K.faces.length K.fc, .slice K.f4 K.fs.length K.c4, .slice K.f5 K.ss.length K.c5, .slice K.f6 K.ms.length K.c6, .pointer K.p7, .int .i64 K.line, .int .i64 K.col], .int .i64 (-1)]) (by simp [results, Tryz.results27, go_sem, k0, k1, k2, k3, k4, k5, k6, k7, k8, k9]) rfl ?_
 exact HO.out
 ) : p := h
theorem Adh {p : Prop} (h : p := by
 have HSa := Aa (Au HM.out.bA)
 have HSd := Aa (Wc HSa.out)
 go_region_held3 (fun w' => w'.cell? ⟨A, 0, none⟩ = some (.string K.name) ∧ w'.cell? ⟨A, 1, none⟩ = some (.string K.sup) ∧ w'.cell? ⟨A, 2, none⟩ = some (.bool K.face) ∧ w'.cell? ⟨A, 3, none⟩ = some (.slice K.fa K.faces.length K.fc) ∧ w'.cell? ⟨A, 4, none⟩ = some (.slice K.f4 K.fs.length K.c4) ∧ w'.cell? ⟨A, 5, none⟩ = some (.slice K.f5 K.ss.length K.c5) ∧ w'.cell? ⟨A, 6, none⟩ = some (.slice K.f6 K.ms.length K.c6) ∧ w'.cell? ⟨A, 7, none⟩ = some (.pointer K.p7) ∧ w'.cell? ⟨A, 8, none⟩ = some (.int .i64 K.line) ∧ w'.cell? ⟨A, 9, none⟩ = some (.int .i64 K.col)) (first | with_reducible exact HSa.out | with_reducible exact HSd.out | with_reducible exact HSb.out | with_reducible exact HSc.out | go_keep) (first | (go_at_call 26; refine hk.mono ?_; rintro e w5 ⟨rfl, c5, d5, hT5, hc7⟩; have HM5 := Aa (HM.out.step HC.out (r := (-1)) hT5 ((Ch.refl (Tb g) _).drew.trans hc7) (.inl rfl)); have HSb := Aa (Au HM5.out.bA); have hb7 := HM5.out.bB; unfold Si at hb7; obtain ⟨q0, q1, q2, q3, q4, q5, q6, q7, q8, q9⟩ := Au hb7; obtain ⟨f0, f1, f2, f3, f4, f5, f6, f7, f8, f9⟩ := Ef hb7; obtain ⟨w6, hw8, hb8, hfc⟩ := F3 hb7 (.string K.name) (.string K.sup) (.bool K.face) (.slice K.fa K.faces.length K.fc) (.slice K.f4 K.fs.length K.c4) (.slice K.f5 K.ss.length K.c5) (.slice K.f6 K.ms.length K.c6) (.pointer K.p7) (.int .i64 K.line) (.int .i64 K.col); have HSc := Aa (show w6.cell? ⟨A, 0, none⟩ = some (.string K.name) ∧ w6.cell? ⟨A, 1, none⟩ = some (.string K.sup) ∧ w6.cell? ⟨A, 2, none⟩ = some (.bool K.face) ∧ w6.cell? ⟨A, 3, none⟩ = some (.slice K.fa K.faces.length K.fc) ∧ w6.cell? ⟨A, 4, none⟩ = some (.slice K.f4 K.fs.length K.c4) ∧ w6.cell? ⟨A, 5, none⟩ = some (.slice K.f5 K.ss.length K.c5) ∧ w6.cell? ⟨A, 6, none⟩ = some (.slice K.f6 K.ms.length K.c6) ∧ w6.cell? ⟨A, 7, none⟩ = some (.pointer K.p7) ∧ w6.cell? ⟨A, 8, none⟩ = some (.int .i64 K.line) ∧ w6.cell? ⟨A, 9, none⟩ = some (.int .i64 K.col) from Au (hfc.keep _ _ HM5.out.bA (fun e => HC.out.AB e))); have HFB := Aa hb8; have HO := Aa (HM5.out.fin HC.out (.inl rfl) hfc); clear hT5 hc7 hb7 hb8 hfc))
 all_goals (
  go_wp2_with fail
  try rw [hw8]
  exact Adg)
 ) : p := h
theorem Adi {p : Prop} (h : p := by
 rw [hK2] at hk6
 have HM6 := Aa (HM5.out.set HC.out hc6 hk6 (by rw [hb6, ← hK2]; rfl))
 clear hb6 hc6 hk6 hK2
 go_wp2_with fail
 try rw [hw6]
 go_meet
 exact ⟨r5, _, _, K2, rfl, hr5, HM6⟩
 ) : p := h
theorem Xm (h : Tx w0 w g L a b c d) (hL : Gq L) {z : Int} (hz : 0 ≤ z) (hz9 : z < L.length) :
 Calls Tryz.prog 27 #[.pointer (some ⟨g, 0, none⟩), .int .i64 z] w (U2 w0 w g L a b c d z (fun k => k < w.heap.size)) := by
 have HL := Aa hL
 have hLL := hL.1
 have hgl := h.lt
 have h0w := h.ch.size
 obtain ⟨X, hX⟩ : ∃ X : Nat → Prop, (fun k => k < w.heap.size) = X := ⟨_, rfl⟩
 obtain ⟨wb, hwb, hbb, hcb⟩ := A2 w (.cells Si 50)
 have HTb := Aa (h.no hcb)
 have hlb := Ac hbb
 obtain ⟨B, hB⟩ := Ax w.heap.size
 have HX : Hid (∀ k, X k ↔ k < w.heap.size) := Aa (fun k => by rw [← hX])
 rw [hX]
 rw [hB] at hbb
 have HBb := Aa (show wb.heap[B]? = some (.cells Si 50 (0, 0)) from hbb)
 have HCb := Aa hcb
 have wz1 : IntKind.i64.wrap (z + 1) = z + 1 := by rw [IntKind.wrap_i64]; omega
 obtain ⟨p, hp⟩ := Ax (Fx L a b z)
 have hpl := Ds HTb.out z
 rw [hp] at hpl
 obtain ⟨W, hW⟩ := Ax (Ar L z)
 have HW := Aa hW
 obtain ⟨fb, hfb⟩ := Ax ((W.toList == [105, 110, 116, 101, 114, 102, 97, 99, 101]))
 unfold Si at hwb
 clear h hL hbb hcb hp hX hW
 go_in
 go_wp2_with fail
 try rw [hB]
 refine hpl.mono ?_
 rintro e w1 ⟨rfl, hc1⟩
 have HB1 := Aa (hc1.keep _ _ HBb.out (fun h => h))
 have HT1 := Aa (HTb.out.no hc1)
 have HC1 := Aa (HCb.out.trans hc1)
 have Jj := hc1.size
 have htw := A6 HT1.out z
 rw [HW.out] at htw
 clear hc1 hpl hwb
 go_wp2_with fail
 refine htw.mono ?_
 rintro e wx ⟨rfl, rfl⟩
 clear htw
 go_upto_region 2 with fail
 obtain ⟨w2, hw2, hb2, hc2⟩ := A2 w1 (.cells #[.string ⟨#[]⟩, .string ⟨#[]⟩, .bool fb, .slice none 0 0, .slice none 0 0, .slice none 0 0, .slice none 0 0, .pointer none, .int .i64 p.1, .int .i64 p.2] 50)
 try rw [hw2]
 have hl2 := Ac hb2
 obtain ⟨A, hA⟩ := Ax w1.heap.size
 rw [hA] at hb2
 try rw [hA]
 have HC : Hid (Kj w0 w g X A B B) := Aa ⟨fun k hk => (HX.out k).1 hk, (HX.out g).2 (by omega), fun k hk => (HX.out k).2 (by omega), fun h => by have := (HX.out _).1 h; omega, fun h => by have := (HX.out _).1 h; omega, by omega, by omega, by omega, fun h => by have := (HX.out _).1 h; omega, by omega, by omega⟩
 obtain ⟨K0, hK0⟩ : ∃ K0 : KD, (⟨⟨#[]⟩, ⟨#[]⟩, fb, none, [], 0, none, [], 0, none, [], 0, none, [], 0, none, p.1, p.2⟩ : KD) = K0 := ⟨_, rfl⟩
 have hk0 := Ej.new (XB X A B B) w2 fb p.1 p.2
 rw [hK0] at hk0
 have HM2 : Hid (Du w0 w g L a b c d z X A B B K0 z c d w2) := Aa ⟨HT1.out.no hc2, (HC1.out.trans hc2).mono (fun _ _ _ h => h.elim), .inr ⟨hz, by omega, by omega, rfl, rfl⟩, by rw [hb2, ← hK0]; rfl, hc2.keep _ _ HB1.out (fun h => h), hk0, by omega⟩
 have hg2 : g < w2.heap.size := by omega
 have hnm := Dz HM2.out.tx HL.out (z := z + 1) (by omega)
 have hnz := Bw HL.out (z + 1)
 obtain ⟨n, hn⟩ := Ax (Gm L (z + 1))
 rw [hn] at hnm hnz
 clear hb2 hc2 hw2 HB1 HT1 HC1 HBb HTb HCb hK0 hk0 hn hfb HW
 go_wp2_with fail
 refine hnm.mono ?_
 rintro e w3 ⟨rfl, c3, d3, hT3, hc3, hq3⟩
 have HM3 := Aa (HM2.out.step HC.out (r := n.2) hT3 hc3 (by omega))
 have hq9 : n.2 = -1 ∨ (z < n.2 ∧ n.2 ≤ L.length) := by omega
 clear hT3 hc3 hq3 hnm HM2
 have pj := Ab HM3.out.bA 0
 have fj := Ad HM3.out.bA 0
 obtain ⟨w4, hw4, hb4, hc4⟩ := Ai HM3.out.bA 0 (.string n.1)
 have hk4 := HM3.out.kin.setN hnz
 obtain ⟨K1, hK1⟩ : ∃ K1 : KD, { K0 with name := n.1 } = K1 := ⟨_, rfl⟩
 rw [hK1] at hk4
 have HM := Aa (HM3.out.set HC.out hc4 hk4 (by rw [hb4, ← hK1]; rfl))
 clear hb4 hc4 hk4 hK1 HM3 hnz
 go_upto_region 3 with fail
 clear hw4 pj fj
 obtain ⟨q, hq⟩ := Ax n.2
 rw [hq] at HM hq9
 try rw [hq]
 clear hq
 have wq : IntKind.i64.wrap (q + 1) = q + 1 := by rw [IntKind.wrap_i64]; omega
 go_cut [32] from 25 to 32 (fun s32 wz => ∃ r : Bool, s32 = .bool r ∧ Hid (r = true → 0 ≤ q ∧ q < L.length) ∧ wz = w4)
 case first =>
  have htw := A6 HM.out.tx q
  by_cases h0 : 0 ≤ q
  {have dz : decide (q ≥ 0) = true := decide_eq_true h0
   obtain ⟨V, hV⟩ := Ax (Ar L q)
   rw [hV] at htw
   have hVn : V ≠ ⟨#[]⟩ → q < L.length := fun h => (Be (L := L) (z := q) (by rw [hV]; exact h)).2
   clear hV
   by_cases he : V = ⟨#[101, 120, 116, 101, 110, 100, 115]⟩
   {have e1 := lit _ [101, 120, 116, 101, 110, 100, 115] he
    have hlt := hVn (by rw [he]; decide)
    clear he hVn
    go_wp2_with fail
    refine htw.mono ?_
    rintro e wx ⟨rfl, rfl⟩
    go_wp2
    go_meet
    exact ⟨true, rfl, Aa (fun _ => ⟨h0, hlt⟩), rfl⟩}
   {have e1 := Bf _ [101, 120, 116, 101, 110, 100, 115] he
    clear he hVn
    go_wp2_with fail
    refine htw.mono ?_
    rintro e wx ⟨rfl, rfl⟩
    go_wp2
    go_meet
    exact ⟨false, rfl, Aa (fun h => by cases h), rfl⟩}}
  {have dz : decide (q ≥ 0) = false := decide_eq_false h0
   clear htw
   go_wp2
   go_meet
   exact ⟨false, rfl, Aa (fun h => by cases h), rfl⟩}
 case rest =>
 obtain ⟨r, rfl, HR, rfl⟩ := hcut
 go_upto_if 32 with fail
 go_cut [1] from 33 to 50 (fun s1 wz => ∃ (zc c' d' : Int) (K : KD), s1 = .int .i64 zc ∧ (zc = -1 ∨ (z < zc ∧ zc ≤ L.length)) ∧ Hid (Du w0 w g L a b c d z X A B B K zc c' d' wz))
 case first =>
  cases r with
  | false =>
   go_wp2
   go_meet
   exact ⟨q, _, _, K1, rfl, hq9, HM⟩
  | true =>
   obtain ⟨h0, hlt⟩ := HR.out (by first | rfl | trivial)
   cases hf : K1.face with
   | true =>
    have p2 : wc.cell? ⟨A, 2, none⟩ = some (.bool true) := by rw [← hf]; exact Ab HM.out.bA 2
    clear hf
    have hns := Mh HM.out.tx HL.out (z := q + 1) (by omega) (by omega)
    go_wp2_with fail
    refine hns.mono ?_
    rintro e w5 ⟨ao, cap, l, r5, rfl, ho5, hl5, hs5, c5, d5, hT5, hc5, hq5⟩
    have hs45 := hc5.size
    have HF := Aa (show A5 (KP (XB X A B B) K1) w5 ao l.length cap (l.map .string) from (A5.own ho5 (P := Mk wc.heap.size) (fun _ hk => hk)).mono (fun k _ hk => HM.out.kin.freshP (HM.out.xlt HC.out) hk))
    have HM5 := Aa (HM.out.step HC.out (r := r5) hT5 hc5 (by omega))
    have hr5 : r5 = -1 ∨ (z < r5 ∧ r5 ≤ L.length) := by omega
    clear hT5 hc5 hq5 ho5 hns p2
    have pj := Ab HM5.out.bA 3
    have fj := Ad HM5.out.bA 3
    obtain ⟨w6, hw6, hb6, hc6⟩ := Ai HM5.out.bA 3 (.slice ao l.length cap)
    have hk6 := HM5.out.kin.setF ⟨hl5, hs5⟩ HF.out
    obtain ⟨K2, hK2⟩ : ∃ K2 : KD, { K1 with fa := ao, faces := l, fc := cap } = K2 := ⟨_, rfl⟩
    exact Adi
   | false =>
    have p2 : wc.cell? ⟨A, 2, none⟩ = some (.bool false) := by rw [← hf]; exact Ab HM.out.bA 2
    clear hf
    have hnm := Dz HM.out.tx HL.out (z := q + 1) (by omega)
    have hnz := Bw HL.out (q + 1)
    obtain ⟨m, hm⟩ := Ax (Gm L (q + 1))
    rw [hm] at hnm hnz
    clear hm
    go_wp2_with fail
    refine hnm.mono ?_
    rintro e w5 ⟨rfl, c5, d5, hT5, hc5, hq5⟩
    have HM5 := Aa (HM.out.step HC.out (r := m.2) hT5 hc5 (by omega))
    have hr5 : m.2 = -1 ∨ (z < m.2 ∧ m.2 ≤ L.length) := by omega
    clear hT5 hc5 hq5 hnm p2
    have pj := Ab HM5.out.bA 1
    have fj := Ad HM5.out.bA 1
    obtain ⟨w6, hw6, hb6, hc6⟩ := Ai HM5.out.bA 1 (.string m.1)
    have hk6 := HM5.out.kin.setS hnz
    obtain ⟨K2, hK2⟩ : ∃ K2 : KD, { K1 with sup := m.1 } = K2 := ⟨_, rfl⟩
    rw [hK2] at hk6
    have HM6 := Aa (HM5.out.set HC.out hc6 hk6 (by rw [hb6, ← hK2]; rfl))
    clear hb6 hc6 hk6 hK2
    go_wp2_with fail
    try rw [hw6]
    go_meet
    exact ⟨m.2, _, _, K2, rfl, hr5, HM6⟩
 case rest =>
 clear HM HR hq9
 obtain ⟨q, c4, d4, K, rfl, hq9, HM⟩ := hcut
 obtain ⟨w5, hw5⟩ := Ax wc
 subst hw5
 have wq : IntKind.i64.wrap (q + 1) = q + 1 := by rw [IntKind.wrap_i64]; omega
 obtain ⟨wy, hwy⟩ : ∃ wy, wy = wc := ⟨_, rfl⟩
 have HWY := Aa hwy
 clear hwy
 go_upto_region 7 with fail
 go_cut [63] from 51 to 63 (fun s63 wz => ∃ r : Bool, s63 = .bool r ∧ Hid (r = true → 0 ≤ q ∧ q < L.length) ∧ Hid (wy = wz))
 case first =>
  have htw := A6 HM.out.tx q
  by_cases h0 : 0 ≤ q
  {have dz : decide (q ≥ 0) = true := decide_eq_true h0
   obtain ⟨V, hV⟩ := Ax (Ar L q)
   rw [hV] at htw
   have hVn : V ≠ ⟨#[]⟩ → q < L.length := fun h => (Be (L := L) (z := q) (by rw [hV]; exact h)).2
   clear hV
   cases hf : K.face with
   | true =>
    have p2 : wc.cell? ⟨A, 2, none⟩ = some (.bool true) := by rw [← hf]; exact Ab HM.out.bA 2
    clear hf htw hVn
    go_wp2
    go_meet
    exact ⟨false, rfl, Aa (fun h => by cases h), HWY⟩
   | false =>
    have p2 : wc.cell? ⟨A, 2, none⟩ = some (.bool false) := by rw [← hf]; exact Ab HM.out.bA 2
    clear hf
    by_cases he : V = ⟨#[105, 109, 112, 108, 101, 109, 101, 110, 116, 115]⟩
    {have e1 := lit _ [105, 109, 112, 108, 101, 109, 101, 110, 116, 115] he
     have hlt := hVn (by rw [he]; decide)
     clear he hVn
     go_wp2_with fail
     refine htw.mono ?_
     rintro e wx ⟨rfl, rfl⟩
     go_wp2
     go_meet
     exact ⟨true, rfl, Aa (fun _ => ⟨h0, hlt⟩), HWY⟩}
    {have e1 := Bf _ [105, 109, 112, 108, 101, 109, 101, 110, 116, 115] he
     clear he hVn
     go_wp2_with fail
     refine htw.mono ?_
     rintro e wx ⟨rfl, rfl⟩
     go_wp2
     go_meet
     exact ⟨false, rfl, Aa (fun h => by cases h), HWY⟩}}
  {have dz : decide (q ≥ 0) = false := decide_eq_false h0
   clear htw
   go_wp2
   go_meet
   exact ⟨false, rfl, Aa (fun h => by cases h), HWY⟩}
 case rest =>
 obtain ⟨r, rfl, HR, HWZ⟩ := hcut
 obtain rfl := HWZ.out
 obtain rfl := HWY.out
 clear HWZ HWY
 go_upto_if 63 with fail
 go_cut [1] from 64 to 71 (fun s1 wz => ∃ (zc c' d' : Int) (K : KD), s1 = .int .i64 zc ∧ (zc = -1 ∨ (z < zc ∧ zc ≤ L.length)) ∧ Hid (Du w0 w g L a b c d z X A B B K zc c' d' wz))
 case first =>
  cases r with
  | false =>
   go_wp2
   go_meet
   exact ⟨q, _, _, K, rfl, hq9, HM⟩
  | true =>
   obtain ⟨h0, hlt⟩ := HR.out (by first | rfl | trivial)
   have hns := Mh HM.out.tx HL.out (z := q + 1) (by omega) (by omega)
   go_wp2_with fail
   refine hns.mono ?_
   rintro e w5 ⟨ao, cap, l, r5, rfl, ho5, hl5, hs5, c5, d5, hT5, hc5, hq5⟩
   have HF := Aa (show A5 (KP (XB X A B B) K) w5 ao l.length cap (l.map .string) from (A5.own ho5 (P := Mk _) (fun _ hk => hk)).mono (fun k _ hk => HM.out.kin.freshP (HM.out.xlt HC.out) hk))
   have HM5 := Aa (HM.out.step HC.out (r := r5) hT5 hc5 (by omega))
   have hr5 : r5 = -1 ∨ (z < r5 ∧ r5 ≤ L.length) := by omega
   clear hT5 hc5 hq5 ho5 hns
   have pj := Ab HM5.out.bA 3
   have fj := Ad HM5.out.bA 3
   obtain ⟨w6, hw6, hb6, hc6⟩ := Ai HM5.out.bA 3 (.slice ao l.length cap)
   have hk6 := HM5.out.kin.setF ⟨hl5, hs5⟩ HF.out
   obtain ⟨K2, hK2⟩ : ∃ K2 : KD, { K with fa := ao, faces := l, fc := cap } = K2 := ⟨_, rfl⟩
   exact Adi
 case rest =>
 clear HM HR hq9
 obtain ⟨q, c4, d4, K, rfl, hq9, HM⟩ := hcut
 have hon := Da HM.out.tx (z := q) (by omega) (by omega) ⟨#[123]⟩ (by decide)
 obtain ⟨r6, hr6⟩ : ∃ r, Gs L q ⟨#[123]⟩ = r := ⟨_, rfl⟩
 rw [hr6] at hon
 clear hr6
 go_wp2_with fail
 refine hon.mono ?_
 rintro e w6 ⟨rfl, c6, d6, hT6, hc6, hq6⟩
 have HM6 := Aa (HM.out.step HC.out (r := r6) hT6 hc6 (by omega))
 have hr6 : r6 = -1 ∨ (z < r6 ∧ r6 ≤ L.length) := by omega
 clear hT6 hc6 hq6 hon HM
 go_wp2
 go_loopg [5, 1, 7, 8] 40000 (fun gg s5 s1 s7 s8 wr => ∃ (N : Nat) (zc c' d' : Int) (K : KD), N ≤ gg ∧ (zc = -1 ∨ 30001 - zc ≤ (N : Int)) ∧ (zc = -1 ∨ (z < zc ∧ zc ≤ L.length)) ∧ s1 = .int .i64 zc ∧ Hid (Du w0 w g L a b c d z X A B B K zc c' d' wr))
 case atStart => exact ⟨40000, r6, c6, d6, K, by omega, by omega, hr6, rfl, HM6⟩
 case round =>
  clear HM6
  obtain ⟨N, zc, c', d', K, zN, z3, zp, rfl, HM⟩ := hrel
  have wz : IntKind.i64.wrap (zc + 1) = zc + 1 := by rw [IntKind.wrap_i64]; omega
  have htw := A6 HM.out.tx zc
  obtain ⟨W, hW⟩ := Ax (Ar L zc)
  rw [hW] at htw
  have hWn : W ≠ ⟨#[]⟩ → zc < L.length := fun h => (Be (L := L) (z := zc) (by rw [hW]; exact h)).2
  clear hW
  by_cases z0 : 0 ≤ zc
  {have dz : decide (zc ≥ 0) = true := decide_eq_true z0
   have dn : decide (zc < 0) = false := decide_eq_false (by omega)
   by_cases hb : W = ⟨#[125]⟩
   {have e1 := lit _ [125] hb
    have en : (W.toList != [125]) = false := by rw [bne, e1]; rfl
    have hlt := hWn (by rw [hb]; decide)
    have HM' := Aa (HM.out.step HC.out (r := zc + 1) HM.out.tx (Ch.refl _ _) (by omega))
    clear hb hWn HM
    go_wp2_with fail
    refine htw.mono ?_
    rintro e wx ⟨rfl, rfl⟩
    clear htw
    have HM := HM'
    obtain ⟨p0, p1, p2, p3, p4, p5, p6, p7, p8, p9⟩ := Au HM.out.bA
    have hb := HM.out.bB
    unfold Si at hb
    obtain ⟨q0, q1, q2, q3, q4, q5, q6, q7, q8, q9⟩ := Au hb
    obtain ⟨f0, f1, f2, f3, f4, f5, f6, f7, f8, f9⟩ := Ef hb
    obtain ⟨wf, hwf, hfb, hfc⟩ := F3 hb (.string K.name) (.string K.sup) (.bool K.face) (.slice K.fa K.faces.length K.fc) (.slice K.f4 K.fs.length K.c4) (.slice K.f5 K.ss.length K.c5) (.slice K.f6 K.ms.length K.c6) (.pointer K.p7) (.int .i64 K.line) (.int .i64 K.col)
    have HO := Aa (HM.out.fin HC.out (by omega) hfc)
    have HFB := Aa hfb
    clear hb hfb hfc
    go_wp2_with fail
    try rw [hwf]
    obtain ⟨k0, k1, k2, k3, k4, k5, k6, k7, k8, k9⟩ := Au HFB.out
    refine bodyPost_ret (v := .tuple #[.agg #[.string K.name, .string K.sup, .bool K.face, .slice K.fa K.faces.length K.fc, .slice K.f4 K.fs.length K.c4, .slice K.f5 K.ss.length K.c5, .slice K.f6 K.ms.length K.c6, .pointer K.p7, .int .i64 K.line, .int .i64 K.col], .int .i64 (zc + 1)]) (by simp [results, Tryz.results27, go_sem, k0, k1, k2, k3, k4, k5, k6, k7, k8, k9]) rfl ?_
    exact HO.out}
   {have e1 := Bf _ [125] hb
    have en : (W.toList != [125]) = true := by rw [bne, e1]; rfl
    clear hb
    have hzl : zc ≤ L.length := by omega
    cases hf : K.face with
    | false =>
     have p2 : wr.cell? ⟨A, 2, none⟩ = some (.bool false) := by rw [← hf]; exact Ab HM.out.bA 2
     clear hf hWn
     go_wp2_with fail
     refine htw.mono ?_
     rintro e wx ⟨rfl, rfl⟩
     go_upto_region 12 with fail
     clear p2 htw
     have hmb := U4 HM.out.tx HL.out z0 hzl HM.out.kin (HM.out.xlt HC.out) (.inl HC.out.xg) (fun k hk => .inl (HC.out.x0 k hk))
     obtain ⟨p0, p1, p2, p3, p4, p5, p6, p7, p8, p9⟩ := Au HM.out.bA
     go_wp2_with fail
     refine hmb.mono ?_
     rintro e w7 ⟨K', r7, rfl, hK7, hc7, c7, d7, hT7, hq7⟩
     clear p0 p1 p2 p3 p4 p5 p6 p7 p8 p9
     have hA7 := HM.out.memA HC.out hc7
     obtain ⟨p0, p1, p2, p3, p4, p5, p6, p7, p8, p9⟩ := Au hA7
     obtain ⟨f0, f1, f2, f3, f4, f5, f6, f7, f8, f9⟩ := Ef hA7
     obtain ⟨w8, hw8, hb8, hc8⟩ := F3 hA7 (.string K'.name) (.string K'.sup) (.bool K'.face) (.slice K'.fa K'.faces.length K'.fc) (.slice K'.f4 K'.fs.length K'.c4) (.slice K'.f5 K'.ss.length K'.c5) (.slice K'.f6 K'.ms.length K'.c6) (.pointer K'.p7) (.int .i64 K'.line) (.int .i64 K'.col)
     have HM8 := Aa (HM.out.mem HC.out hc7 hT7 (r := r7) (by omega) hK7 hc8 hb8)
     have hr7 : r7 = -1 ∨ (zc < r7 ∧ r7 ≤ L.length) := by omega
     clear hA7 hb8 hc8 hK7 hc7 hT7 hq7 hmb
     go_wp2_with fail
     try rw [hw8]
     go_roundg (N - 1)
     case rel => exact ⟨N - 1, r7, c7, d7, K', by omega, by omega, by omega, rfl, HM8⟩
     case measure => omega
    | true =>
     have p2 : wr.cell? ⟨A, 2, none⟩ = some (.bool true) := by rw [← hf]; exact Ab HM.out.bA 2
     clear hf
     go_wp2_with fail
     refine htw.mono ?_
     rintro e wx ⟨rfl, rfl⟩
     go_upto_region 13 with fail
     clear p2
     by_cases hm : W = ⟨#[109, 101, 116, 104, 111, 100]⟩
     {have e2 := lit _ [109, 101, 116, 104, 111, 100] hm
      have em : (W.toList != [109, 101, 116, 104, 111, 100]) = false := by rw [bne, e2]; rfl
      have hlt := hWn (by rw [hm]; decide)
      clear hm hWn
      go_wp2_with fail
      refine htw.mono ?_
      rintro e wx ⟨rfl, rfl⟩
      clear htw
      by_cases h40 : K.ms.length = 40
      {have d40 : ((K.ms.length : Int) == 40) = true := by simpa using (show (K.ms.length : Int) = 40 by omega)
       have HH := Aa h40
       clear h40
       have pj := Ab HM.out.bA 6
       go_upto_region 16 with fail
       clear pj
       have hk := B9 (HM.out.tx.no ((Ch.refl No wr).drew)) zc 13
       exact Adh}
      {have d40 : ((K.ms.length : Int) == 40) = false := by simpa using (show ¬ (K.ms.length : Int) = 40 by omega)
       have hz6 := HM.out.kin.z6
       have hpl := Ds HM.out.tx zc
       obtain ⟨p, hp⟩ := Ax (Fx L a b zc)
       rw [hp] at hpl
       clear hp
       have pj := Ab HM.out.bA 6
       go_wp2_with fail
       refine hpl.mono ?_
       rintro e w4 ⟨rfl, hc4⟩
       have HM4 := Aa (HM.out.no HC.out hc4)
       have hs4 := hc4.size
       clear hc4 hpl pj
       have hhd := Ps HM4.out.tx HL.out (z := zc) (by omega) (by omega) ⟨#[]⟩ ⟨#[]⟩ false true p.1 p.2
       go_wp2_with fail
       refine hhd.mono ?_
       rintro e w6 ⟨ret, mn, pa, ps, pc, r6, rfl, hz4, hv6, c6, d6, hT6, hc6, hq6⟩
       have HM6 := Aa (HM4.out.step HC.out (r := r6) hT6 hc6 (by omega))
       have hq6' : r6 = -1 ∨ (zc < r6 ∧ r6 ≤ L.length) := by omega
       have HV6 := Aa (hv6.up hs4)
       have HZ4 := Aa hz4
       clear hT6 hc6 hq6 hv6 hz4 hhd
       go_upto_region 18 with fail
       obtain ⟨w7, hw7, hb7, hc7⟩ := A2 w6 (.cells #[.string ret, .string mn, .bool false, .bool true, .slice pa ps.length pc, .slice none 0 0, .slice none 0 0, .int .i64 p.1, .int .i64 p.2] 29)
       obtain ⟨x, hx⟩ : ∃ x : Md, x = ⟨⟨ret, mn, false, true, ps, pa, pc, (none, 0, 0), (none, 0, 0), p.1, p.2⟩, [], .nil⟩ := ⟨_, rfl⟩
       have hxc : x.m.cells = [.string ret, .string mn, .bool false, .bool true, .slice pa ps.length pc, .slice none 0 0, .slice none 0 0, .int .i64 p.1, .int .i64 p.2] := by rw [hx]; rfl
       have hmd : E8 (Mk wr.heap.size) w7 x := by
        have h1 := HV6.out
        rw [hx]
        exact ⟨rfl, rfl, HZ4.out, h1.1, ⟨Nat.zero_le _, fun v hv => by cases hv⟩, Nat.zero_le _, h1.2.ch hc7 (fun _ _ _ _ _ h => h), .nil _ _ _, .nil _ _ _, trivial⟩
       have HXC := Aa hxc
       have HMD := Aa (hmd.mono (P' := KP (XB X A B B) K) (fun k _ hk => HM.out.kin.freshP (HM.out.xlt HC.out) hk))
       have HM7 := Aa (HM6.out.no HC.out hc7)
       obtain ⟨m0, m1, m2, m3, m4, m5, m6, m7, m8⟩ := B4 hb7
       have hcB := (Ch.refl No w7).alloc (.cells #[.string ret, .string mn, .bool false, .bool true, .slice pa ps.length pc, .slice none 0 0, .slice none 0 0, .int .i64 p.1, .int .i64 p.2] 29)
       have HMA := Aa (HM7.out.no HC.out hcB)
       have HCB := Aa hcB
       have pj := Ab HM7.out.bA 6
       have yA := Ac HM7.out.bA
       clear hcB hb7 hc7 hx hxc hmd
       go_wp2_with (at_builtin; go_must (refine Cb rfl _ _ rfl Tryz.sliceMethod Tryz.infoMethod (lb rfl) (lb rfl) 0 K.v6 K.ms.length (K.ms.flatMap (fun x => x.m.cells)) rfl HMA.out.kin.o6 w7.heap.size 1 [.string ret, .string mn, .bool false, .bool true, .slice pa ps.length pc, .slice none 0 0, .slice none 0 0, .int .i64 p.1, .int .i64 p.2] rfl rfl (heap_alloc_new w7 _) (by rw [← HXC.out]; exact Pt _) (by omega) (Nat.zero_le _) ?_))
       intro v8 w8 hr8 hc8 hv8
       rw [← HXC.out] at hr8
       obtain ⟨a8, p8, e8, hp8, hp9⟩ := Dh hr8
       subst e8
       unfold maxLen at hp9
       have hK8 := HMA.out.kin.push6 (HMA.out.xlt HC.out) hr8 hc8 (by rw [show (w7.alloc (.cells #[.string ret, .string mn, .bool false, .bool true, .slice pa ps.length pc, .slice none 0 0, .slice none 0 0, .int .i64 p.1, .int .i64 p.2] 29)).heap.size = w7.heap.size + 1 from by simp]; exact hv8) (HMD.out.ch HCB.out (fun _ _ _ _ _ h => h)) (by omega)
       obtain ⟨K6, hKe⟩ : ∃ K6 : KD, { K with f6 := a8, ms := K.ms ++ [x], c6 := p8 } = K6 := ⟨_, rfl⟩
       rw [hKe] at hK8
       have hvx : ∀ k, K.v6.ownBlock = some k → ¬ XB X A B B k := fun k e => HMA.out.kin.nx k (.inr (.inr e))
       have hbA8 := hc8.keep _ _ HMA.out.bA (fun e => hvx A e (.inr (.inl rfl)))
       have fj := Ad hbA8 6
       clear pj
       have pj := Ab hbA8 6
       obtain ⟨w9, hw9, hb9, hc9⟩ := Ai hbA8 6 (.slice a8 (K.ms.length + 1) p8)
       have HM9 := Aa (HMA.out.put HC.out hvx hc8 hc9 hK8 (by
        rw [hb9, ← hKe]
        simp [List.length_append]
        rfl))
       clear hr8 hc8 hv8 m0 m1 m2 m3 m4 m5 m6 m7 m8 hbA8 hb9 hc9 hK8 hKe hvx HM HM4 HM6 HM7 HMA HXC HMD hw7
       go_upto_region 19 with fail
       clear hw9 pj fj
       have hon := Da HM9.out.tx (z := r6) (by omega) (by omega) ⟨#[59]⟩ (by decide)
       obtain ⟨r10, hr10⟩ : ∃ r, Gs L r6 ⟨#[59]⟩ = r := ⟨_, rfl⟩
       rw [hr10] at hon
       clear hr10
       go_wp2_with fail
       refine hon.mono ?_
       rintro e w10 ⟨rfl, c10, d10, hT10, hc10, hq10⟩
       have HM10 := Aa (HM9.out.step HC.out (r := r10) hT10 hc10 (by omega))
       have hr10 : r10 = -1 ∨ (zc < r10 ∧ r10 ≤ L.length) := by omega
       clear hT10 hc10 hq10 hon
       go_wp2
       go_roundg (N - 1)
       case rel => exact ⟨N - 1, r10, c10, d10, K6, by omega, by omega, by omega, rfl, HM10⟩
       case measure => omega}}
     {have e2 := Bf _ [109, 101, 116, 104, 111, 100] hm
      have em : (W.toList != [109, 101, 116, 104, 111, 100]) = true := by rw [bne, e2]; rfl
      clear hm hWn
      go_wp2_with fail
      refine htw.mono ?_
      rintro e wx ⟨rfl, rfl⟩
      clear htw
      go_upto_region 14 with fail
      have hk := B9 (HM.out.tx.no ((Ch.refl No wr).drew)) zc 10
      exact Adh}}}
  {obtain rfl : zc = -1 := by omega
   clear htw hWn
   obtain ⟨p0, p1, p2, p3, p4, p5, p6, p7, p8, p9⟩ := Au HM.out.bA
   have hb := HM.out.bB
   unfold Si at hb
   obtain ⟨q0, q1, q2, q3, q4, q5, q6, q7, q8, q9⟩ := Au hb
   obtain ⟨f0, f1, f2, f3, f4, f5, f6, f7, f8, f9⟩ := Ef hb
   obtain ⟨wf, hwf, hfb, hfc⟩ := F3 hb (.string K.name) (.string K.sup) (.bool K.face) (.slice K.fa K.faces.length K.fc) (.slice K.f4 K.fs.length K.c4) (.slice K.f5 K.ss.length K.c5) (.slice K.f6 K.ms.length K.c6) (.pointer K.p7) (.int .i64 K.line) (.int .i64 K.col)
   have HO := Aa (HM.out.fin HC.out (.inl rfl) hfc)
   have HFB := Aa hfb
   clear hb hfb hfc
   go_wp2_with fail
   try rw [hwf]
   exact Adg}
end
end Go.Proofs.YtgjpgfedlgdjhaaGreatDoor
end
