/- Part 47. -/
import Derived.Test.YtgjpgfedlgdjhaaGreatDoorYbs
set_option linter.unusedVariables false
set_option linter.unusedSimpArgs false
set_option maxHeartbeats 64000000
set_option maxRecDepth 8192
section
namespace Go.Proofs.YtgjpgfedlgdjhaaGreatDoor
open Go.RowKit Go.W
def Tr.pre : Tr → Nat → Tr
 | .nil, _ => .nil
 | .cons _ _ _ _, 0 => .nil
 | .cons h b o r, k + 1 => .cons h b o (r.pre k)
theorem Tr.pre_len : ∀ {t : Tr} {k : Nat}, k ≤ t.len → (t.pre k).len = k
 | .nil, k, h => by
  have h' : k ≤ 0 := h
  show 0 = k
  omega
 | .cons _ _ _ _, 0, _ => rfl
 | .cons h b o r, k + 1, hk => by
  show (r.pre k).len + 1 = k + 1
  rw [Tr.pre_len (t := r) (Nat.le_of_succ_le_succ hk)]
theorem Tr.pre_cells : ∀ (t : Tr) (k : Nat), ∃ xs, t.cells = (t.pre k).cells ++ xs
 | .nil, _ => ⟨[], rfl⟩
 | .cons h b o r, 0 => ⟨_, rfl⟩
 | .cons h b o r, k + 1 => by
  obtain ⟨xs, hx⟩ := Tr.pre_cells r k
  exact ⟨xs, by show Bk h b.len o.len ++ r.cells = (Bk h b.len o.len ++ (r.pre k).cells) ++ xs; rw [hx, List.append_assoc]⟩
theorem Bo.pre {P : Nat → Prop} {w : World} : ∀ {t : Tr} {k : Nat}, Bo P w t → Bo P w (t.pre k)
 | .nil, _, _ => trivial
 | .cons _ _ _ _, 0, _ => trivial
 | .cons h b o r, k + 1, ⟨h1, h2, h3, h4⟩ => ⟨h1, h2, h3, Bo.pre h4⟩
theorem Ro {cs : List Aj} {ms : List Ba} {vs : ByteArray → Option ByteArray} {ret : ByteArray} : ∀ {t : Tr} {k : Nat}, I1 cs ms vs ret t → I1 cs ms vs ret (t.pre k)
 | .nil, _, _ => trivial
 | .cons _ _ _ _, 0, _ => trivial
 | .cons h b o r, k + 1, ⟨h1, h2, h3, h4⟩ => ⟨h1, h2, h3, Ro h4⟩
theorem A5.pre {P : Nat → Prop} {w : World} {ao : Option Addr} {n k cap : Nat} {xs ys zs : List Value} (h : A5 P w ao n cap xs) (hk : k ≤ n) (e : xs = ys ++ zs) (hl : ∀ (i : Nat) (u : Value), ys[i]? = some u → xs[i]? = some u) : A5 P w ao k cap ys := by
 obtain ⟨h1, h2, h3⟩ := h
 refine ⟨Nat.le_trans hk h1, h2, ?_⟩
 rcases h3 with h3 | ⟨b, e1, hb, hlt, hx⟩
 {exact .inl (by omega)}
 {exact .inr ⟨b, e1, hb, hlt, fun i u hi => hx i u (hl i u hi)⟩}
theorem Rp {w : World} {ca : Option Addr} {cc : Nat} {Ks : List KD} {la sa : Option Addr} {ln lc n k sc : Nat} {ls : List Vr} {t : Tr} {l c : Int} {rt nm : ByteArray} (h : Db w ca cc Ks ⟨⟨rt, nm, true, false, [], none, 0, (la, ln, lc), (sa, n, sc), l, c⟩, ls, t⟩) (hk : k ≤ n) :
 Db w ca cc Ks ⟨⟨rt, nm, true, false, [], none, 0, (la, ln, lc), (sa, k, sc), l, c⟩, ls, t.pre k⟩ := by
 have hm := h.main
 have e6 : n = t.len := hm.e6
 have hk' : k ≤ t.len := by omega
 refine ⟨h.row, h.ks, h.len, ⟨hm.e5, (Tr.pre_len hk').symm, hm.sz, hm.zp, hm.zl, ?_, hm.ps, hm.ls, ?_, hm.tr.pre⟩⟩
 {show (t.pre k).len ≤ 40
  rw [Tr.pre_len hk']
  have := hm.zt
  have h2 : t.len ≤ 40 := this
  omega}
 {obtain ⟨xs, hx⟩ := Tr.pre_cells t k
  have hst : A5 Tru w sa t.len sc t.cells := hm.st
  show A5 Tru w sa (t.pre k).len sc (t.pre k).cells
  rw [Tr.pre_len hk']
  exact A5.pre hst hk' hx (fun i u hi => by rw [hx, List.getElem?_append_left (gL hi)]; exact hi)}
theorem Ae0 {Ks : List KD} {la sa : Option Addr} {ln lc n k sc : Nat} {ls : List Vr} {t : Tr} {l c : Int} {rt nm : ByteArray} (h : S0 Ks ⟨⟨rt, nm, true, false, [], none, 0, (la, ln, lc), (sa, n, sc), l, c⟩, ls, t⟩) :
 S0 Ks ⟨⟨rt, nm, true, false, [], none, 0, (la, ln, lc), (sa, k, sc), l, c⟩, ls, t.pre k⟩ :=
 ⟨h.1, h.2.1, h.2.2.1, Ro h.2.2.2⟩
def Mu (w : World) (e : Ending) (w' : World) : Prop := e = .returned (.bool true) ∧ Ch No w w'
theorem Ae1 {p : Prop} (h : p := by
 rw [hw10]
 have hf10 := hc10.keep _ _ HF9.out (fun h => h)
 have HC10 := Aa (HC9.out.trans hc10)
 have y0 := Ab hf10 0
 obtain ⟨x0, x1, x2⟩ := Dy hb10
 clear hw10 hb10 hc10 hf10
 go_wp2
 go_ret
 exact ⟨rfl, by first | exact HC10.out | exact HC10.out.drew | exact HC10.out.alloc _⟩
 ) : p := h
theorem Ae2 {p : Prop} (h : p := by
 have HF9 := Aa (hc9.keep _ _ HF8.out (fun h => h))
 have HC9 := Aa (HC8.out.trans hc9)
 clear hc9 p0 p1 p2 p3 p4 p5 p6 p7 p8 p9
 go_upto_region 9 with fail
 obtain ⟨w10, hw10, hb10, hc10⟩ := A2 w9 (.cells #[.int .i64 (0), .int .i64 (0), .int .i64 (0)] 34)
 exact Ae1
 ) : p := h
theorem P7 {w : World} (hT : Ia w) (s : ByteArray) : Calls Tryz.prog 4 #[.string s] w (Mu w) := by
 have HT := Aa hT
 clear hT
 by_cases h25 : s.size ≤ 2500
 {have d1 : decide ((s.size : Int) > 2500) = false := decide_eq_false (by omega)
  have hs : s.size ≤ maxLen := Nat.le_trans h25 (lb rfl)
  have HS := Aa hs
  clear h25 hs
  go_in
  go_wp2_with fail
  refine (Gv HT.out).mono ?_
  rintro e w1 ⟨rfl, hc1⟩
  have HC1 := Aa hc1
  clear hc1
  go_wp2_with fail
  refine (Rd w1 s HS.out).mono ?_
  rintro e w2 ⟨hc2, ⟨ca, cc, Ks, la, ls, lc, sa, t, sc, l, c, rfl, hp⟩ | ⟨er, l, c, her, rfl⟩⟩
  {obtain ⟨n, hn⟩ := Ax t.len
   rw [hn] at hp ⊢
   have HC2 := Aa (HC1.out.trans hc2)
   have HP := Aa hp
   clear hp hc2 hn
   go_upto_region 4 with fail
   obtain ⟨w4, hw4⟩ := Ax ((w2.alloc (.cells #[.slice ca Ks.length cc, .string ⟨#[118, 111, 105, 100]⟩, .string ⟨#[109, 97, 105, 110]⟩, .bool true, .bool false, .slice none 0 0, .slice la ls.length lc, .slice sa n sc, .int .i64 l, .int .i64 c] 31)).alloc (.cells #[.int .i64 0, .int .i64 0, .int .i64 0] 34))
   have hb4 := Bh (heap_alloc_new w2 (.cells #[.slice ca Ks.length cc, .string ⟨#[118, 111, 105, 100]⟩, .string ⟨#[109, 97, 105, 110]⟩, .bool true, .bool false, .slice none 0 0, .slice la ls.length lc, .slice sa n sc, .int .i64 l, .int .i64 c] 31)) (.cells #[.int .i64 0, .int .i64 0, .int .i64 0] 34)
   have hg4 := heap_alloc_new (w2.alloc (.cells #[.slice ca Ks.length cc, .string ⟨#[118, 111, 105, 100]⟩, .string ⟨#[109, 97, 105, 110]⟩, .bool true, .bool false, .slice none 0 0, .slice la ls.length lc, .slice sa n sc, .int .i64 l, .int .i64 c] 31)) (.cells #[.int .i64 0, .int .i64 0, .int .i64 0] 34)
   have hc4 := ((Ch.refl No w2).alloc (.cells #[.slice ca Ks.length cc, .string ⟨#[118, 111, 105, 100]⟩, .string ⟨#[109, 97, 105, 110]⟩, .bool true, .bool false, .slice none 0 0, .slice la ls.length lc, .slice sa n sc, .int .i64 l, .int .i64 c] 31)).alloc (.cells #[.int .i64 0, .int .i64 0, .int .i64 0] 34)
   have es : (w2.alloc (.cells #[.slice ca Ks.length cc, .string ⟨#[118, 111, 105, 100]⟩, .string ⟨#[109, 97, 105, 110]⟩, .bool true, .bool false, .slice none 0 0, .slice la ls.length lc, .slice sa n sc, .int .i64 l, .int .i64 c] 31)).heap.size = w2.heap.size + 1 := by simp
   rw [es] at hg4
   rw [hw4] at hb4 hc4 hg4 ⊢
   have HB4 := Aa hb4
   have HP4 := Aa (HP.out.no hc4)
   have HC24 := Aa hc4
   have HC4 := Aa (HC2.out.trans hc4)
   have z0 := Ab hg4 0
   obtain ⟨p0, p1, p2, p3, p4, p5, p6, p7, p8, p9⟩ := Au hb4
   clear hw4 hb4 hc4 hg4 es
   go_wp2_with fail
   refine (Q9 HP4.out).mono ?_
   rintro e w5 ⟨⟨r, rfl, hr⟩, hc5⟩
   have HB5 := Aa (hc5.keep _ _ HB4.out (fun h => h))
   have HP5 := Aa (HP4.out.no hc5)
   have HC25 := Aa (HC24.out.trans hc5)
   have HC5 := Aa (HC4.out.trans hc5)
   have hb5 := HB5.out
   clear p0 p1 p2 p3 p4 p5 p6 p7 p8 p9 hc5
   obtain ⟨p0, p1, p2, p3, p4, p5, p6, p7, p8, p9⟩ := Au hb5
   clear hb5
   cases r with
   | false =>
    clear hr
    go_wp2
    go_ret
    exact ⟨rfl, by first | exact HC5.out | exact HC5.out.drew⟩
   | true =>
    have HSM := Aa (hr rfl)
    clear hr
    rcases Nat.eq_zero_or_pos n with h0 | h0
    {subst h0
     go_wp2
     go_ret
     exact ⟨rfl, by first | exact HC5.out | exact HC5.out.drew⟩}
    {obtain ⟨k, rfl⟩ : ∃ k, n = k + 1 := ⟨n - 1, by omega⟩
     have d2 : decide (((k + 1 : Nat) : Int) = 0) = false := decide_eq_false (by omega)
     have d3 : (((k + 1 : Nat) : Int) == 0) = false := by simpa using d2
     have k40 : k ≤ 40 := by have := HP.out.main.zt; have h6 : k + 1 = t.len := HP.out.main.e6; have h7 : t.len ≤ 40 := this; omega
     have ksc : k ≤ sc := by have h8 : t.len ≤ sc := HP.out.main.st.1; have h6 : k + 1 = t.len := HP.out.main.e6; omega
     have wz : IntKind.i64.wrap (((k + 1 : Nat) : Int) - 1) = (k : Int) := by rw [IntKind.wrap_i64]; omega
     clear h0
     go_wp2_with fail
     refine (Gu HP5.out (HT.out.no HC5.out) HSM.out).mono ?_
     rintro e w6 ⟨hc6, ⟨hok, mb, rfl⟩ | ⟨hno, l1, c1, rfl⟩⟩
     {have HOK := Aa hok
      have HC56 := Aa (Aa hc6)
      have HC26 := HC25
      clear hok
      have HC6 := Aa (HC5.out.trans hc6)
      have HB6 := Aa (hc6.keep _ _ HB5.out (fun h => h))
      have HP6 := Aa (HP5.out.no hc6)
      clear hc6 p0 p1 p2 p3 p4 p5 p6 p7 p8 p9 z0
      go_upto_region 7 with fail
      obtain ⟨w7, hw7, hb7, hc7⟩ := A2 w6 (.cells #[.int .i64 (0), .int .i64 (0), .int .i64 (0)] 34)
      rw [hw7]
      have HB7 := Aa (hc7.keep _ _ HB6.out (fun h => h))
      have hB6 := Ac HB6.out
      have HF7 := Aa hb7
      have HC7 := Aa (HC6.out.trans hc7)
      have h27 : Ch No w2 w7 := (HC26.out.trans HC56.out.out).trans hc7
      clear hw7 hb7 hc7
      have HC27 := Aa h27
      clear h27 d2 d3
      have hb7 := HB7.out
      have p7 := Ab hb7 7
      have f7 := Ad hb7 7
      obtain ⟨w8, hw8, hb8, hc8⟩ := Ai hb7 7 (.slice sa k sc)
      have hb8' : w8.heap[w2.heap.size]? = some (.cells #[.slice ca Ks.length cc, .string ⟨#[118, 111, 105, 100]⟩, .string ⟨#[109, 97, 105, 110]⟩, .bool true, .bool false, .slice none 0 0, .slice la ls.length lc, .slice sa k sc, .int .i64 l, .int .i64 c] 31 (0, 0)) := by simpa using hb8
      have HB8 := Aa hb8'
      have HF8 := Aa (hc8.keep _ _ HF7.out (Bm (by omega)))
      have HC8 := Aa (Ch.newOnly HC7.out hc8 (fun q _ _ e => by have e' : q = w2.heap.size := e; have := HC2.out.size; omega))
      have HP8 := Aa (HP.out.no (Ch.newOnly HC27.out hc8 (Eb (by omega))))
      clear hb7 hb8 hb8' hc8
      go_upto_region 8 with fail
      clear p7 f7 hw8
      obtain ⟨p0, p1, p2, p3, p4, p5, p6, p7, p8, p9⟩ := Au HB8.out
      go_wp2_with fail
      refine (Gu (Rp HP8.out (Nat.le_succ k)) (HT.out.no HC8.out) HSM.out).mono ?_
      rintro e w9 ⟨hc9, ⟨_, mb2, rfl⟩ | ⟨hno, l2, c2, rfl⟩⟩
      {skip
       exact Ae2}
      {exact absurd (Ae0 HOK.out) hno}}
     {have HC56 := Aa (Aa hc6)
      have HC26 := HC25
      clear hno
      have HC6 := Aa (HC5.out.trans hc6)
      have HB6 := Aa (hc6.keep _ _ HB5.out (fun h => h))
      have HP6 := Aa (HP5.out.no hc6)
      clear hc6 p0 p1 p2 p3 p4 p5 p6 p7 p8 p9 z0
      go_upto_region 7 with fail
      obtain ⟨w7, hw7, hb7, hc7⟩ := A2 w6 (.cells #[.int .i64 (11), .int .i64 (l1), .int .i64 (c1)] 34)
      rw [hw7]
      have HB7 := Aa (hc7.keep _ _ HB6.out (fun h => h))
      have hB6 := Ac HB6.out
      have HF7 := Aa hb7
      have HC7 := Aa (HC6.out.trans hc7)
      have h27 : Ch No w2 w7 := (HC26.out.trans HC56.out.out).trans hc7
      clear hw7 hb7 hc7
      have HC27 := Aa h27
      clear h27 d2 d3
      have hb7 := HB7.out
      have p7 := Ab hb7 7
      have f7 := Ad hb7 7
      obtain ⟨w8, hw8, hb8, hc8⟩ := Ai hb7 7 (.slice sa k sc)
      have hb8' : w8.heap[w2.heap.size]? = some (.cells #[.slice ca Ks.length cc, .string ⟨#[118, 111, 105, 100]⟩, .string ⟨#[109, 97, 105, 110]⟩, .bool true, .bool false, .slice none 0 0, .slice la ls.length lc, .slice sa k sc, .int .i64 l, .int .i64 c] 31 (0, 0)) := by simpa using hb8
      have HB8 := Aa hb8'
      have HF8 := Aa (hc8.keep _ _ HF7.out (Bm (by omega)))
      have HC8 := Aa (Ch.newOnly HC7.out hc8 (fun q _ _ e => by have e' : q = w2.heap.size := e; have := HC2.out.size; omega))
      have HP8 := Aa (HP.out.no (Ch.newOnly HC27.out hc8 (Eb (by omega))))
      clear hb7 hb8 hb8' hc8
      go_upto_region 8 with fail
      clear p7 f7 hw8
      obtain ⟨p0, p1, p2, p3, p4, p5, p6, p7, p8, p9⟩ := Au HB8.out
      go_wp2_with fail
      refine (Gu (Rp HP8.out (Nat.le_succ k)) (HT.out.no HC8.out) HSM.out).mono ?_
      rintro e w9 ⟨hc9, ⟨_, mb2, rfl⟩ | ⟨hno, l2, c2, rfl⟩⟩
      {skip
       exact Ae2}
      {clear hno
       have HF9 := Aa (hc9.keep _ _ HF8.out (fun h => h))
       have HC9 := Aa (HC8.out.trans hc9)
       clear hc9 p0 p1 p2 p3 p4 p5 p6 p7 p8 p9
       go_upto_region 9 with fail
       obtain ⟨w10, hw10, hb10, hc10⟩ := A2 w9 (.cells #[.int .i64 (11), .int .i64 (l2), .int .i64 (c2)] 34)
       exact Ae1}}}}
  {have HC2 := Aa (HC1.out.trans hc2)
   have de : (er != 0) = true := by simpa using her
   unfold Hy
   clear her hc2
   go_upto_region 4 with fail
   obtain ⟨w4, hw4⟩ := Ax ((w2.alloc (.cells Hy 31)).alloc (.cells #[.int .i64 er, .int .i64 l, .int .i64 c] 34))
   have hg4 := heap_alloc_new (w2.alloc (.cells Hy 31)) (.cells #[.int .i64 er, .int .i64 l, .int .i64 c] 34)
   have hc4 := ((Ch.refl No w2).alloc (.cells Hy 31)).alloc (.cells #[.int .i64 er, .int .i64 l, .int .i64 c] 34)
   have es : (w2.alloc (.cells Hy 31)).heap.size = w2.heap.size + 1 := by simp
   rw [es] at hg4
   rw [hw4] at hc4 hg4
   unfold Hy at hw4
   rw [hw4]
   have HC4 := Aa (HC2.out.trans hc4)
   have z0 := Ab hg4 0
   clear hw4 hc4 hg4 es
   go_wp2
   go_ret
   exact ⟨rfl, by first | exact HC4.out | exact HC4.out.drew⟩}}
 {have d1 : decide ((s.size : Int) > 2500) = true := decide_eq_true (by omega)
  clear h25
  go_in
  go_wp2_with fail
  refine (Gv HT.out).mono ?_
  rintro e w1 ⟨rfl, hc1⟩
  have HC1 := Aa hc1
  clear hc1
  go_wp2_with fail
  refine (Gv (HT.out.no HC1.out)).mono ?_
  rintro e w2 ⟨rfl, hc2⟩
  go_wp2
  go_ret
  exact ⟨rfl, HC1.out.trans hc2⟩}
end Go.Proofs.YtgjpgfedlgdjhaaGreatDoor
end
