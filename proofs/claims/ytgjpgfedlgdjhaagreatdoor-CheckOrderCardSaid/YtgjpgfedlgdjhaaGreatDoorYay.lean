/- Part 25. -/
import Derived.Test.YtgjpgfedlgdjhaaGreatDoorYao
import Derived.Test.YtgjpgfedlgdjhaaGreatDoorYax
import Derived.Test.YtgjpgfedlgdjhaaGreatDoorYap
import Derived.Deep.RegionHeld3
set_option linter.unusedVariables false
set_option linter.unusedSimpArgs false
set_option maxHeartbeats 64000000
set_option maxRecDepth 8192
section
namespace Go.Proofs.YtgjpgfedlgdjhaaGreatDoor
open Go.RowKit Go.W
theorem It {s : ByteArray} : ∀ (f a : Nat) (L : List Tk), Cm s f a = some L → ∀ t ∈ L, t.text.size ≤ s.size
 | 0, a, L, h, t, ht => by
  have : L = [] := by simpa [Cm] using h.symm
  subst this
  cases ht
 | f + 1, a, L, h, t, ht => by
  unfold Cm at h
  split at h
  {split at h
   {obtain ⟨r, hr, rfl⟩ := Option.map_eq_some_iff.1 h
    split at ht
    {rcases List.mem_cons.1 ht with rfl | ht
     {show (s.extract a _).size ≤ s.size
      rw [ByteArray.size_extract]
      omega}
     {exact It f _ r hr t ht}}
    {exact It f _ r hr t ht}}
   {cases h}}
  {cases h
   cases ht}
theorem Adj {w : World} {base n : Nat} {v : Value} {l : List Tk} (h : w.ownsRow base 116 4 v n ((l.map Tk.cells).flatten)) (hn : n = l.length) : B5 w v 4 (l.map Tk.cells) := by
 subst hn
 rcases h.2 with ⟨rfl, h0⟩ | ⟨g, cap, cur, rfl, hg, hh, h4, h5, h6, h7⟩
 {have : l = [] := List.length_eq_zero_iff.1 h0
  subst this
  exact ⟨none, 0, rfl, Nat.le_refl _, Nat.zero_le _, by simp, fun h => by simp at h⟩}
 {refine ⟨some ⟨g, 0, none⟩, cap, by rw [List.length_map], by rw [List.length_map]; exact h4, h5, fun c hc => ?_, fun _ => ⟨g, 0, rfl, fun i c hi j hj => ?_⟩⟩
  {obtain ⟨k, _, rfl⟩ := List.mem_map.1 hc
   rfl}
  {rw [List.getElem?_map] at hi
   cases hk : l[i]? with
   | none => rw [hk] at hi; cases hi
   | some k =>
    rw [hk] at hi
    have : c = k.cells := by simpa using hi.symm
    subst this
    have hil := (gL hk)
    rw [Ab hh, Nat.zero_add, ← Array.getElem?_toList]
    have hf := E9 Tk.cells 4 (fun _ => rfl) l i j k hk hj
    rw [List.flatMap_def, ← h7, List.getElem?_take, if_pos (by omega)] at hf
    exact hf}}
def Aae (s : ByteArray) (w : World) (e : Ending) (w' : World) : Prop :=
 ∃ (g : Nat) (er l c : Int), e = .returned (.tuple #[.pointer (some ⟨g, 0, none⟩), .agg #[.int .i64 er, .int .i64 l, .int .i64 c]]) ∧
  ((er = 0 ∧ l = 0 ∧ c = 0 ∧ ∃ (w0 : World) (L : List Tk) (a b : Int), Gq L ∧ Cm s (s.size + 1) 0 = some L ∧ Tx w0 w' g L a b 0 0 ∧ Ch No w w0) ∨ (er ≠ 0 ∧ Ch No w w' ∧ (s.size ≤ 20000 → Cm s (s.size + 1) 0 = none)))
theorem Adk (w : World) (s : ByteArray) (hs : s.size ≤ maxLen) : Calls Tryz.prog 24 #[.string s] w (Aae s w) := by
 obtain ⟨wa, hwa, hba, hca⟩ := A2 w (.cells #[.int .i64 0, .int .i64 0, .int .i64 0] 34)
 have HBA := Aa hba
 have HCA := Aa hca
 have hlt := Ac hba
 have hk := Xh wa s hs
 clear hba hca hs
 go_in
 go_wp2_with fail
 refine hk.mono ?_
 rintro e w1 ⟨hc1, hor⟩
 have hor2 : ∃ (A : Option Addr) (n cp : Nat) (el ec er l c : Int), e = .returned (.tuple #[.slice A n cp, .agg #[.int .i64 el, .int .i64 ec], .agg #[.int .i64 er, .int .i64 l, .int .i64 c]]) ∧ ((er = 0 ∧ l = 0 ∧ c = 0 ∧ ∃ L, Gq L ∧ Cm s (s.size + 1) 0 = some L ∧ n = L.length ∧ B5 w1 (.slice A n cp) 4 (L.map Tk.cells)) ∨ (er ≠ 0 ∧ (s.size ≤ 20000 → Cm s (s.size + 1) 0 = none))) := by
  rcases hor with ⟨L, v, h1, h2, h3, rfl, ho⟩ | ⟨er, l, c, h1, h2, rfl⟩
  {obtain ⟨A, cp, rfl, _, _⟩ := Dh ho
   exact ⟨A, L.length, cp, _, _, 0, 0, 0, rfl, .inl ⟨rfl, rfl, rfl, L, ⟨by omega, fun t ht => Nat.le_trans (It _ _ _ h2 t ht) h1⟩, h2, rfl, Adj ho rfl⟩⟩}
  {exact ⟨none, 0, 0, 0, 0, er, l, c, rfl, .inr ⟨h2, h1⟩⟩}
 obtain ⟨A, n, cp, el, ec, er, l, c, rfl, hfin⟩ := hor2
 have HF := Aa hfin
 have HC1 := Aa hc1
 have HB1 := Aa (HC1.out.keep _ _ HBA.out (fun h => h))
 have y1 := HC1.out.size
 clear hwa hk hc1 hor hfin
 go_upto_region 2 with fail
 obtain ⟨w3, hw3⟩ := Ax ((w1.alloc (.cells #[.int .i64 el, .int .i64 ec] 27)).alloc (.cells #[.int .i64 er, .int .i64 l, .int .i64 c] 34))
 rw [hw3]
 have hb2 := Bh (heap_alloc_new w1 (.cells #[.int .i64 el, .int .i64 ec] 27)) (.cells #[.int .i64 er, .int .i64 l, .int .i64 c] 34)
 have hb3 := heap_alloc_new (w1.alloc (.cells #[.int .i64 el, .int .i64 ec] 27)) (.cells #[.int .i64 er, .int .i64 l, .int .i64 c] 34)
 have hc3 := ((Ch.refl No w1).alloc (.cells #[.int .i64 el, .int .i64 ec] 27)).alloc (.cells #[.int .i64 er, .int .i64 l, .int .i64 c] 34)
 rw [hw3] at hb2 hb3 hc3
 have es : (w1.alloc (.cells #[.int .i64 el, .int .i64 ec] 27)).heap.size = w1.heap.size + 1 := by simp
 rw [es] at hb3
 have HB3 := Aa (hc3.keep _ _ HB1.out (fun h => h))
 have HC3 := Aa hc3
 obtain ⟨p0, p1⟩ := Co hb2
 obtain ⟨q0, q1, q2⟩ := Dy hb3
 have hr3 := HB3.out
 obtain ⟨r0, r1, r2⟩ := Dy hr3
 obtain ⟨f0, f1, f2⟩ := I5 hr3
 have y3 := hc3.size
 have y4 := Ac hb3
 have y5 : w.heap.size < w3.heap.size := by omega
 have HHW := Aa hw3
 clear hb2 hb3 hc3 hr3 hw3 es
 go_region
 all_goals (
  go_wp2_with fail
  obtain ⟨wf, hwf, hfb, hfc⟩ := Ev HB3.out (.int .i64 er) (.int .i64 l) (.int .i64 c)
  rw [hwf]
  have hz : wf.heap.size = w3.heap.size := by rw [← hwf]; simp
  have hob := Bh hfb (.cells #[.slice A n cp, .int .i64 el, .int .i64 ec, .int .i64 0, .int .i64 0] 79)
  have hnb := heap_alloc_new wf (.cells #[.slice A n cp, .int .i64 el, .int .i64 ec, .int .i64 0, .int .i64 0] 79)
  rw [hz] at hnb
  obtain ⟨wk, hwk⟩ := Ax ((wf.alloc (.cells #[.slice A n cp, .int .i64 el, .int .i64 ec, .int .i64 0, .int .i64 0] 79)).drew)
  have hob2 : wk.heap[w.heap.size]? = some (.cells #[.int .i64 er, .int .i64 l, .int .i64 c] 34 (0, 0)) := by rw [← hwk]; exact hob
  have hnb2 : wk.heap[w3.heap.size]? = some (.cells #[.slice A n cp, .int .i64 el, .int .i64 ec, .int .i64 0, .int .i64 0] 79 (0, 0)) := by rw [← hwk]; exact hnb
  have HKK : ∀ a : World, Ch No a wf → Ch No a wk := fun a h => by rw [← hwk]; exact (h.alloc _).drew
  rw [hwk]
  obtain ⟨k0, k1, k2⟩ := Dy hob2
  refine bodyPost_ret (v := .tuple #[.pointer (some ⟨w3.heap.size, 0, none⟩), .agg #[.int .i64 er, .int .i64 l, .int .i64 c]]) (by simp [results, Tryz.results24, go_sem, k0, k1, k2]) rfl ?_
  refine ⟨w3.heap.size, er, l, c, rfl, ?_⟩
  rcases HF.out with ⟨rfl, rfl, rfl, L, hL, htk, rfl, hrow⟩ | ⟨hne, htk⟩
  {have hk1 : Ch No w1 wf := Ch.same HB1.out hfb ((HC3.out.mono (fun _ _ _ h => h.elim)).trans hfc)
   exact .inl ⟨rfl, rfl, rfl, w1, L, el, ec, hL, htk, ⟨⟨A, cp, hnb2, hrow⟩, by omega, HKK _ hk1⟩, HCA.out.trans HC1.out⟩}
  {exact .inr ⟨hne, HKK _ (Ch.newOnly ((HCA.out.trans HC1.out).trans HC3.out) hfc (Eb (by omega))), htk⟩})
def Xn (w : World) (e : Ending) (w' : World) : Prop := ∃ er l c : Int, er ≠ 0 ∧ e = .returned (.agg #[.int .i64 er, .int .i64 l, .int .i64 c]) ∧ Ch No w w'
section
variable {w0 w : World} {g : Nat} {L : List Tk} {a b c d : Int}
theorem Aaf (h : Tx w0 w g L a b c d) (hc : c ≠ 0) : Calls Tryz.prog 31 #[.pointer (some ⟨g, 0, none⟩)] w (Xn w) := by
 obtain ⟨wa, hwa, hba, hca⟩ := A2 w (.cells #[.int .i64 0, .int .i64 0, .int .i64 0] 34)
 have HTa := Aa (h.no hca)
 have HBA := Aa hba
 have HCA := Aa hca
 have hlt := Ac hba
 obtain ⟨⟨A0, c0, hgb, _⟩, _, _⟩ := HTa.out
 have g2 := Ab hgb 2
 have g3 := Ab hgb 3
 have g4 := Ab hgb 4
 have d1 : (c == 0) = false := by simpa using hc
 have HNZ := Aa hc
 have hpl := Ds HTa.out d
 obtain ⟨p, hp⟩ := Ax (Fx L a b d)
 rw [hp] at hpl
 clear h hba hca hgb hc hp
 go_in
 go_wp2_with fail
 refine hpl.mono ?_
 rintro e w1 ⟨rfl, hc1⟩
 have HT1 := Aa (HTa.out.no hc1)
 have HB1 := Aa (hc1.keep _ _ HBA.out (fun h => h))
 have HC1 := Aa (HCA.out.trans hc1)
 clear hc1 hpl hwa g2 g3 g4
 go_upto_region 4 with fail
 obtain ⟨w2, hw2, hb2, hc2⟩ := A2 w1 (.cells #[.int .i64 p.1, .int .i64 p.2] 27)
 try rw [hw2]
 have HT2 := Aa (HT1.out.no hc2)
 obtain ⟨⟨A0, c0, hgb, _⟩, _, _⟩ := HT2.out
 have HB2 := Aa (hc2.keep _ _ HB1.out (fun h => h))
 have HC2 := Aa (HC1.out.trans hc2)
 have g3 := Ab hgb 3
 obtain ⟨q0, q1⟩ := Co hb2
 have hb := HB2.out
 obtain ⟨r0, r1, r2⟩ := Dy hb
 obtain ⟨f0, f1, f2⟩ := I5 hb
 clear hb2 hc2 hw2 hgb hb
 go_region
 all_goals (
  go_wp2_with fail
  obtain ⟨wf, hwf, hfb, hfc⟩ := Ev HB2.out (.int .i64 c) (.int .i64 p.1) (.int .i64 p.2)
  rw [hwf]
  obtain ⟨k0, k1, k2⟩ := Dy hfb
  refine bodyPost_ret (v := .agg #[.int .i64 c, .int .i64 p.1, .int .i64 p.2]) (by simp [results, Tryz.results31, go_sem, k0, k1, k2]) rfl ?_
  exact ⟨c, p.1, p.2, HNZ.out, rfl, Ch.newOnly HC2.out (by first | exact hfc | exact hfc.drew) (Eb (by omega))⟩)
end
theorem Tryz.infoCls2 : (Tryz.prog.info? 50).map (fun i => (i.zero.map (fun z => z.cells.size), i.size, i.bytes)) = some (some 10, 10, 160) := by kernel_rfl
theorem Tryz.sliceCls2 : Tryz.prog.underlying 23 = some (.slice 50) := by kernel_rfl
structure I0 (P : Nat → Prop) (w : World) (K : KD) : Prop where
 zn : K.name.size ≤ 20000 ∧ K.sup.size ≤ 20000 ∧ K.faces.length ≤ 41 ∧ ∀ s ∈ K.faces, s.size ≤ 20000
 z4 : K.fs.length ≤ 40 ∧ ∀ v ∈ K.fs, G0 v
 z5 : K.ss.length ≤ 40 ∧ ∀ v ∈ K.ss, G0 v
 z6 : K.ms.length ≤ 40
 r4 : A5 P w K.f4 K.fs.length K.c4 (K.fs.flatMap Vr.cells)
 r5 : A5 P w K.f5 K.ss.length K.c5 (K.ss.flatMap Vr.cells)
 r6 : A5 P w K.f6 K.ms.length K.c6 (K.ms.flatMap (fun x => x.m.cells))
 fa : A5 P w K.fa K.faces.length K.fc (K.faces.map .string)
 md : ∀ x ∈ K.ms, E8 P w x
 ini : Hs P w K.ini
theorem A5.ownP {P : Nat → Prop} {w : World} {ao : Option Addr} {n cap : Nat} {xs : List Value} {base : Nat} {e : TypeId} {sz : Nat} (h : w.ownsRow base e sz (.slice ao n cap) n xs) (hP : ∀ k, (Value.slice ao n cap).ownBlock = some k → P k) : A5 P w ao n cap xs := by
 rcases h.2 with ⟨h1, h0⟩ | ⟨g, cap', cur, h1, h2, h3, h4, h5, h6, h7⟩
 {cases h1; exact .nil _ _ _}
 {cases h1
  refine ⟨h4, h5, .inr ⟨g, rfl, hP g rfl, Ac h3, fun i u hi => ?_⟩⟩
  rw [Ab h3, ← Array.getElem?_toList]
  rw [← h7, List.getElem?_take] at hi
  split at hi
  {exact hi}
  {cases hi}}
theorem Ej.rd {X : Nat → Prop} {w : World} {K : KD} (h : Ej X w K) : I0 (fun k => ¬ X k) w K :=
 ⟨h.zn, h.z4, h.z5, h.z6, A5.ownP h.o4 (fun k e => h.nx k (.inl e)), A5.ownP h.o5 (fun k e => h.nx k (.inr (.inl e))), A5.ownP h.o6 (fun k e => h.nx k (.inr (.inr e))), h.fa.mono (fun _ _ hp => hp.1), fun x hx => (h.md x hx).mono (fun _ _ hp => hp.1), h.ini.mono (fun _ _ hp => hp.1)⟩
theorem I0.ch {P : Nat → Prop} {S : Nat → Obj → Prop} {w w' : World} {K : KD} (h : I0 P w K) (hc : Ch S w w') (hS : ∀ k o, k < w.heap.size → w.heap[k]? = some o → P k → ¬ S k o) : I0 P w' K :=
 ⟨h.zn, h.z4, h.z5, h.z6, h.r4.ch hc hS, h.r5.ch hc hS, h.r6.ch hc hS, h.fa.ch hc hS, fun x hx => (h.md x hx).ch hc hS, h.ini.ch hc hS⟩
theorem I0.mono {P P' : Nat → Prop} {w : World} {K : KD} (h : I0 P w K) (hP : ∀ k, k < w.heap.size → P k → P' k) : I0 P' w K :=
 ⟨h.zn, h.z4, h.z5, h.z6, h.r4.mono hP, h.r5.mono hP, h.r6.mono hP, h.fa.mono hP, fun x hx => (h.md x hx).mono hP, h.ini.mono hP⟩
theorem I0.no {P : Nat → Prop} {w w' : World} {K : KD} (h : I0 P w K) (hc : Ch No w w') : I0 P w' K := h.ch hc (fun _ _ _ _ _ h => h)
theorem I0.grow {lo : Nat} {v v' : Value} {w w' : World} {K : KD} (h : I0 (Ex lo v) w K) (hc : Ch (fun k _ => v.ownBlock = some k) w w') (hv : v'.ownBlock = v.ownBlock ∨ v'.ownBlock = some w.heap.size) : I0 (Ex lo v') w' K := by
 refine (((h.mono (P' := fun k => Ex lo v k ∧ k < w.heap.size) (fun k hk hp => ⟨hp, hk⟩)).ch hc (fun k o _ _ hp e => hp.1.2 e))).mono (fun k _ hp => ⟨hp.1.1, Ml hv hp.2 hp.1.2⟩)
theorem I0.fresh {w2 w : World} {base sz n lo : Nat} {e : TypeId} {v : Value} {xs : List Value} {K : KD} (own : w2.ownsRow base e sz v n xs) (hlo : lo ≤ w2.heap.size) (h : I0 (Mk w2.heap.size) w K) : I0 (Ex lo v) w K :=
 h.mono (fun k _ hk => ⟨Nat.le_trans hlo hk, fun e => by
  obtain ⟨_, cur, h2⟩ := Aw own k e
  have h3 := Ac h2
  have h4 : w2.heap.size ≤ k := hk
  omega⟩)
theorem Aag (K : KD) : ∀ u ∈ K.cells, u.oneCell' = true := by
 intro u hu
 simp [KD.cells] at hu
 rcases hu with rfl | rfl | rfl | rfl | rfl | rfl | rfl | rfl | rfl | rfl <;> rfl
def Hy : Array Value := #[.slice none 0 0, .string ⟨#[]⟩, .string ⟨#[]⟩, .bool false, .bool false, .slice none 0 0, .slice none 0 0, .slice none 0 0, .int .i64 0, .int .i64 0]
def Hd (ac : Option Addr) (k cc : Nat) : Array Value := #[.slice ac k cc, .string ⟨#[]⟩, .string ⟨#[]⟩, .bool false, .bool false, .slice none 0 0, .slice none 0 0, .slice none 0 0, .int .i64 0, .int .i64 0]
def Tru : Nat → Prop := fun _ => True
structure Db (w : World) (ca : Option Addr) (cc : Nat) (Ks : List KD) (M : Md) : Prop where
 row : A5 Tru w ca Ks.length cc (Ks.flatMap KD.cells)
 ks : ∀ K ∈ Ks, I0 Tru w K
 len : Ks.length ≤ 60
 main : E8 Tru w M
def Pu (w : World) (e : Ending) (w' : World) : Prop :=
 Ch No w w' ∧ ((∃ (ca : Option Addr) (cc : Nat) (Ks : List KD) (la : Option Addr) (ls : List Vr) (lc : Nat) (sa : Option Addr) (t : Tr) (sc : Nat) (l c : Int), e = .returned (.tuple #[.agg #[.slice ca Ks.length cc, .string ⟨#[118, 111, 105, 100]⟩, .string ⟨#[109, 97, 105, 110]⟩, .bool true, .bool false, .slice none 0 0, .slice la ls.length lc, .slice sa t.len sc, .int .i64 l, .int .i64 c], .agg #[.int .i64 0, .int .i64 0, .int .i64 0]]) ∧
  Db w' ca cc Ks ⟨⟨⟨#[118, 111, 105, 100]⟩, ⟨#[109, 97, 105, 110]⟩, true, false, [], none, 0, (la, ls.length, lc), (sa, t.len, sc), l, c⟩, ls, t⟩) ∨
  ∃ er l c : Int, er ≠ 0 ∧ e = .returned (.tuple #[.agg Hy, .agg #[.int .i64 er, .int .i64 l, .int .i64 c]]))
theorem U7 {w : World} {b : Nat} {x x0 x1 x2 x3 x4 x5 x6 x7 x8 : Value} {t : TypeId} (h : w.heap[b]? = some (.cells #[x, x0, x1, x2, x3, x4, x5, x6, x7, x8] t (0, 0))) (v0 v1 v2 v3 v4 v5 v6 v7 v8 : Value) :
 ∃ wf, ((((((((w.setCell ⟨b, 1, none⟩ v0).setCell ⟨b, 2, none⟩ v1).setCell ⟨b, 3, none⟩ v2).setCell ⟨b, 4, none⟩ v3).setCell ⟨b, 5, none⟩ v4).setCell ⟨b, 6, none⟩ v5).setCell ⟨b, 7, none⟩ v6).setCell ⟨b, 8, none⟩ v7).setCell ⟨b, 9, none⟩ v8 = wf ∧ wf.heap[b]? = some (.cells #[x, v0, v1, v2, v3, v4, v5, v6, v7, v8] t (0, 0)) ∧ Ch (Tb b) w wf := by
 obtain ⟨a0, e0, h0, c0⟩ := Ai h 1 v0
 obtain ⟨a1, e1, h1, c1⟩ := Ai h0 2 v1
 obtain ⟨a2, e2, h2, c2⟩ := Ai h1 3 v2
 obtain ⟨a3, e3, h3, c3⟩ := Ai h2 4 v3
 obtain ⟨a4, e4, h4, c4⟩ := Ai h3 5 v4
 obtain ⟨a5, e5, h5, c5⟩ := Ai h4 6 v5
 obtain ⟨a6, e6, h6, c6⟩ := Ai h5 7 v6
 obtain ⟨a7, e7, h7, c7⟩ := Ai h6 8 v7
 obtain ⟨a8, e8, h8, c8⟩ := Ai h7 9 v8
 exact ⟨a8, by rw [e0, e1, e2, e3, e4, e5, e6, e7, e8], by simpa using h8, ((((((((c0.trans c1).trans c2).trans c3).trans c4).trans c5).trans c6).trans c7).trans c8)⟩
structure Mm (w0 w : World) (g : Nat) (L : List Tk) (a b : Int) (PB FB pb lo : Nat) (ca : Option Addr) (k cc : Nat) (Ks : List KD) (zc c' d' : Int) (wr : World) : Prop where
 tx : Tx w0 wr g L a b c' d'
 ch : Ch No w wr
 pl : -1 ≤ zc ∧ zc ≤ L.length
 bP : wr.heap[PB]? = some (.cells Hy 31 (0, 0))
 bF : wr.heap[FB]? = some (.cells #[.int .i64 0, .int .i64 0, .int .i64 0] 34 (0, 0))
 bp : wr.heap[pb]? = some (.cells (Hd ca k cc) 31 (0, 0))
 own : wr.ownsRow lo 50 10 (.slice ca k cc) k (Ks.flatMap KD.cells)
 ks : ∀ K ∈ Ks, I0 (Ex lo (.slice ca k cc)) wr K
 len : Ks.length = k
 sze : lo ≤ wr.heap.size
structure PrC (w0 w : World) (g PB FB pb lo : Nat) : Prop where
 ww : w.heap.size ≤ w0.heap.size
 g0 : w0.heap.size ≤ g
 glo : g < lo
 Plo : PB < lo
 Flo : FB < lo
 plo : pb < lo
 Pg : PB ≠ g
 Fg : FB ≠ g
 pg : pb ≠ g
 PF : PB ≠ FB
 Pp : PB ≠ pb
 Fp : FB ≠ pb
 wP : w.heap.size ≤ PB
 wF : w.heap.size ≤ FB
 p0 : w0.heap.size ≤ pb
section
variable {w0 w wr w' : World} {g PB FB pb lo : Nat} {L : List Tk} {a b zc c' d' : Int} {ca : Option Addr} {k cc : Nat} {Ks : List KD}
theorem Mm.step (C : PrC w0 w g PB FB pb lo) (h : Mm w0 w g L a b PB FB pb lo ca k cc Ks zc c' d' wr) {r c'' d'' : Int} (hT : Tx w0 w' g L a b c'' d'') (hc : Ch (Tb g) wr w') (hr : -1 ≤ r ∧ r ≤ L.length) :
 Mm w0 w g L a b PB FB pb lo ca k cc Ks r c'' d'' w' :=
 ⟨hT, Ch.newOnly h.ch hc (fun q _ _ e => by have e' : q = g := e; have := C.ww; have := C.g0; omega), hr, hc.keep _ _ h.bP (fun e => C.Pg e), hc.keep _ _ h.bF (fun e => C.Fg e), hc.keep _ _ h.bp (fun e => C.pg e), Cn h.tx h.own hc (by decide),
  fun K hK => (h.ks K hK).ch hc (fun q o _ _ hp e => by have e' : q = g := e; have := hp.1; have := C.glo; omega), h.len, Nat.le_trans h.sze hc.size⟩
theorem Mm.no (h : Mm w0 w g L a b PB FB pb lo ca k cc Ks zc c' d' wr) (hc : Ch No wr w') : Mm w0 w g L a b PB FB pb lo ca k cc Ks zc c' d' w' :=
 ⟨h.tx.no hc, h.ch.trans hc, h.pl, hc.keep _ _ h.bP (fun h => h), hc.keep _ _ h.bF (fun h => h), hc.keep _ _ h.bp (fun h => h), An h.own hc (fun _ _ _ _ _ h => h), fun K hK => (h.ks K hK).no hc, h.len, Nat.le_trans h.sze hc.size⟩
end
theorem A5.stN {P : Nat → Prop} {w : World} {ao : Option Addr} {cap : Nat} {t : Tr} (h : A5 P w ao t.len cap t.cells) {k : Nat} {x : Sh} {b o : Tr} (hk : t.get k = some (x, b, o)) :
 ∃ g off, ao = some ⟨g, off, none⟩ ∧ ∀ j, j < 12 → w.cell? ⟨g, off + k * 12 + j, none⟩ = (Bk x b.len o.len)[j]? := by
 obtain ⟨g, e, _, h⟩ := h.st hk
 exact ⟨g, 0, e, fun j hj => by rw [Nat.zero_add]; exact h j hj⟩
def U8 (w : World) (e : Ending) (w' : World) : Prop := ∃ n : Int, e = .returned (.int .i64 n) ∧ Ch No w w'
theorem U9 {P : Nat → Prop} : ∀ t : Tr, ∀ {w : World} {ao : Option Addr} {cap : Nat}, Bo P w t → A5 P w ao t.len cap t.cells → Calls Tryz.prog 32 #[.slice ao t.len cap] w (U8 w) := by
 refine Tr.rule (fun t ih => ?_)
 intro w ao cap ht hr
 have hcap := hr.1
 have hmax := hr.2.1
 unfold maxLen at hmax
 have HR := Aa hr
 have HT := Aa ht
 have IH := Aa ih
 obtain ⟨len, Av⟩ := Ax t.len
 have HL := Aa Av
 rw [Av] at hcap ⊢
 clear hr ht ih Av
 go_in
 go_wp2
 go_loopg [3, 4] len (fun gg s3 s4 wr => ∃ (k : Nat) (n : Int), k ≤ len ∧ len - k ≤ gg ∧ s4 = .int .i64 k ∧ s3 = .int .i64 n ∧ Hid (Ch No w wr))
 case atStart => exact ⟨0, len, Nat.zero_le _, by omega, rfl, rfl, Aa (Ch.refl _ _)⟩
 case round =>
  obtain ⟨k, n, hk, hg, rfl, rfl, HCR⟩ := hrel
  cases hd : decide (k < len) with
  | true =>
   have hkl : k < len := by simpa using hd
   obtain ⟨h, b, o, hget⟩ := Tr.get_lt (t := t) (i := k) (by have := HL.out; omega)
   obtain ⟨g, off, rfl, hcell⟩ := HR.out.stN hget
   obtain ⟨⟨hok, hb9, ho9, hga, hba, hoa⟩, htb, hto⟩ := HT.out.get hget
   have hcr := HCR.out
   have q8 : wr.cell? ⟨g, off + k * 12 + 8, none⟩ = some (.slice h.ba b.len h.bc) := Ae (hcell 8 (by omega)) hcr (fun _ _ h => h)
   have q9 : wr.cell? ⟨g, off + k * 12 + 9, none⟩ = some (.slice h.oa o.len h.oc) := Ae (hcell 9 (by omega)) hcr (fun _ _ h => h)
   have q6 : wr.cell? ⟨g, off + k * 12 + 6, none⟩ = some (.slice h.ga h.gs.length h.gc) := Ae (hcell 6 (by omega)) hcr (fun _ _ h => h)
   have no8 : ∀ {w1 w2 : World}, Ch No w1 w2 → ∀ (q : Nat) (o' : Obj), q < w1.heap.size → w1.heap[q]? = some o' → P q → ¬ No q o' := fun _ _ _ _ _ _ h => h
   have hcd := hcr.trans ((Ch.refl No wr).drew)
   have hf1 := (IH.out k h b o hget).1 (htb.no hcd) (hba.ch hcd (fun _ _ _ _ _ h => h))
   have hf2 : ∀ w5, Ch No w w5 → Calls Tryz.prog 32 #[.slice h.oa o.len h.oc] w5 (U8 w5) := fun w5 hc => (IH.out k h b o hget).2 (hto.no hc) (hoa.ch hc (fun _ _ _ _ _ h => h))
   have HF2 := Aa hf2
   have hg9 : h.gs.length ≤ 41 := hok.2.1
   have HSx := Aa (show wr.cell? ⟨g, off + k * 12 + 8, none⟩ = some (.slice h.ba b.len h.bc) ∧ wr.cell? ⟨g, off + k * 12 + 9, none⟩ = some (.slice h.oa o.len h.oc) ∧ wr.cell? ⟨g, off + k * 12 + 6, none⟩ = some (.slice h.ga h.gs.length h.gc) from ⟨q8, q9, q6⟩)
   clear hcell hok hb9 ho9 hga hba hoa htb hto hcr hget no8 hcd hf2 q8 q9 q6
   go_upto_region 5 with fail
   have HSd := Aa (dr3 HSx.out)
   go_region_held3 (fun w' => w'.cell? ⟨g, off + k * 12 + 8, none⟩ = some (.slice h.ba b.len h.bc) ∧ w'.cell? ⟨g, off + k * 12 + 9, none⟩ = some (.slice h.oa o.len h.oc) ∧ w'.cell? ⟨g, off + k * 12 + 6, none⟩ = some (.slice h.ga h.gs.length h.gc)) (first | with_reducible exact HSx.out | with_reducible exact HSd.out | with_reducible exact HS4.out | with_reducible exact HS5.out | go_keep) (first | (go_at_call 32; refine (hf1).mono ?_; rintro e w4 ⟨n4, rfl, hc4⟩; have K4 := Aa (((Ch.refl No wr).drew).trans hc4); have HS4 := Aa (ch3 HSx.out K4.out); clear hc4; clear hf1) | (go_at_call 32; refine (HF2.out w4 (HCR.out.trans K4.out)).mono ?_; rintro e w5 ⟨n5, rfl, hc5⟩; have K5 := Aa (K4.out.trans hc5); have HS5 := Aa (ch3 HSx.out K5.out); clear hc5))
   all_goals (
    go_wp2
    go_roundg (len - k - 1)
    case rel => exact ⟨k + 1, _, by omega, by omega, by go_num, rfl, Aa (HCR.out.trans K5.out)⟩
    case measure => omega)
  | false =>
   go_wp2
   go_ret
   exact ⟨n, rfl, HCR.out⟩
def KD.c (K : KD) : Aj := ⟨K.name, K.sup, K.face, K.faces, K.fa, K.fc, (K.f4, K.fs.length, K.c4), (K.f5, K.ss.length, K.c5), (K.f6, K.ms.length, K.c6), K.p7, K.line, K.col⟩
def KD.m (K : KD) : Ba := ⟨K.fs, K.ss, K.ms.map Md.m⟩
theorem Es {α : Type} {P : Nat → Prop} {w : World} {ao : Option Addr} {cap sz : Nat} {l : List α} {f : α → List Value} (hf : ∀ x, (f x).length = sz) (h : A5 P w ao l.length cap (l.flatMap f)) : B5 w (.slice ao l.length cap) sz (l.map f) := by
 obtain ⟨h1, h2, h3⟩ := h
 refine ⟨ao, cap, by rw [List.length_map], by rw [List.length_map]; exact h1, h2, fun c hc => ?_, fun h0 => ?_⟩
 {obtain ⟨k, _, rfl⟩ := List.mem_map.1 hc
  exact hf k}
 {rw [List.length_map] at h0
  rcases h3 with h3 | ⟨b, rfl, _, _, hx⟩
  {omega}
  {refine ⟨b, 0, rfl, fun i c hi j hj => ?_⟩
   rw [List.getElem?_map] at hi
   cases hk : l[i]? with
   | none => rw [hk] at hi; cases hi
   | some k =>
    rw [hk] at hi
    have : c = f k := by simpa using hi.symm
    subst this
    have hg := E9 f sz hf l i j k hk hj
    rw [Nat.zero_add]
    have hl : j < (f k).length := by rw [hf]; exact hj
    rw [List.getElem?_eq_getElem hl]
    exact hx _ _ (hg.trans (List.getElem?_eq_getElem hl))}}
theorem Lq {P : Nat → Prop} {w : World} {ao : Option Addr} {cap : Nat} {l : List ByteArray} (h : A5 P w ao l.length cap (l.map .string)) : Ah w (.slice ao l.length cap) l := by
 obtain ⟨h1, h2, h3⟩ := h
 refine ⟨ao, cap, rfl, h1, h2, fun h0 => ?_⟩
 rcases h3 with h3 | ⟨b, rfl, _, _, hx⟩
 {omega}
 {exact ⟨b, 0, rfl, fun i x hi => by rw [Nat.zero_add]; exact hx i _ (by rw [List.getElem?_map, hi]; rfl)⟩}
theorem E8.mt {P : Nat → Prop} {w : World} {x : Md} (h : E8 P w x) : Bc w (.slice x.m.pa x.m.ps.length x.m.pc) x.m.ps ∧ Bc w (.slice x.m.s5.1 x.m.s5.2.1 x.m.s5.2.2) x.ls :=
 ⟨Es (fun _ => rfl) h.ps, by rw [h.e5]; exact Es (fun _ => rfl) h.ls⟩
theorem I0.mem {P : Nat → Prop} {w : World} {K : KD} (h : I0 P w K) : J5 w K.c K.m := by
 refine ⟨Es (fun _ => rfl) h.r4, Es (fun _ => rfl) h.r5, ?_, ?_⟩
 {have := Es (sz := 9) (f := fun x : Md => x.m.cells) (fun _ => rfl) h.r6
  show B5 w (.slice K.f6 K.ms.length K.c6) 9 ((K.ms.map Md.m).map Mt.cells)
  rw [List.map_map]
  exact this}
 {intro m hm
  obtain ⟨x, hx, rfl⟩ := List.mem_map.1 hm
  exact (h.md x hx).mt.1}
theorem Db.no {w w' : World} {ca : Option Addr} {cc : Nat} {Ks : List KD} {M : Md} (h : Db w ca cc Ks M) (hc : Ch No w w') : Db w' ca cc Ks M :=
 ⟨h.row.ch hc (fun _ _ _ _ _ h => h), fun K hK => (h.ks K hK).no hc, h.len, h.main.ch hc (fun _ _ _ _ _ h => h)⟩
section
variable {w : World} {ca : Option Addr} {cc : Nat} {Ks : List KD} {M : Md}
theorem Db.clss (h : Db w ca cc Ks M) : Ek w (.slice ca Ks.length cc) (Ks.map KD.c) := by
 refine ⟨?_, fun c hc => ?_⟩
 {have := Es (sz := 10) (f := KD.cells) (fun _ => rfl) h.row
  rw [List.map_map]
  exact this}
 {obtain ⟨K, hK, rfl⟩ := List.mem_map.1 hc
  exact Lq (h.ks K hK).fa}
theorem Db.mems (h : Db w ca cc Ks M) : En w (Ks.map KD.c) (Ks.map KD.m) := by
 refine ⟨by rw [List.length_map, List.length_map], fun i c m hc hm => ?_⟩
 rw [List.getElem?_map] at hc hm
 cases hk : Ks[i]? with
 | none => rw [hk] at hc; cases hc
 | some K =>
  rw [hk] at hc hm
  cases hc; cases hm
  exact (h.ks K (mG hk)).mem
end
theorem Ak {n : Nat} (h : n ≤ 20002) : n ≤ maxLen := by unfold maxLen; omega
theorem Iu {n : Nat} (h : n ≤ 20000) : n ≤ maxLen := by unfold maxLen; omega
section
variable {w : World} {ca : Option Addr} {cc : Nat} {Ks : List KD} {M : Md}
theorem Db.szp (h : Db w ca cc Ks M) : Sv (Ks.map KD.c) := by
 intro c hc
 obtain ⟨K, hK, rfl⟩ := List.mem_map.1 hc
 have hz := (h.ks K hK).zn
 exact ⟨Iu hz.1, Iu hz.2.1, fun f hf => Iu (hz.2.2.2 f hf)⟩
theorem Va {v : Vr} (h : G0 v) : v.nm.size ≤ maxLen ∧ v.ty.size ≤ maxLen := ⟨Iu h.1, Ak h.2⟩
theorem Db.szm (h : Db w ca cc Ks M) : W5 (Ks.map KD.m) := by
 intro m hm
 obtain ⟨K, hK, rfl⟩ := List.mem_map.1 hm
 have hr := h.ks K hK
 refine ⟨fun v hv => Va (hr.z4.2 v hv), fun v hv => Va (hr.z5.2 v hv), fun x hx => ?_⟩
 obtain ⟨y, hy, rfl⟩ := List.mem_map.1 hx
 have hd := hr.md y hy
 exact ⟨Iu hd.sz.2, Ak hd.sz.1, fun v hv => (Va (hd.zp.2 v hv)).2⟩
end
theorem Q9 {w : World} {ca : Option Addr} {cc : Nat} {Ks : List KD} {m : Mt} {ls : List Vr} {t : Tr} (h : Db w ca cc Ks ⟨m, ls, t⟩) :
 Calls Tryz.prog 10 #[.agg #[.slice ca Ks.length cc, .string m.ret, .string m.nm, .bool m.st, .bool m.ba, .slice m.pa m.ps.length m.pc, .slice m.s5.1 m.s5.2.1 m.s5.2.2, .slice m.s6.1 m.s6.2.1 m.s6.2.2, .int .i64 m.line, .int .i64 m.col]] w fun e w' => Dj (Ir (Ks.map KD.c) (Ks.map KD.m)) e ∧ Ch No w w' := by
 have H0 := Aa h
 have h60 := h.len
 have hcap := h.row.1
 have hmax := h.row.2.1
 unfold maxLen at hmax
 obtain ⟨N, hN⟩ := Ax Ks.length
 have HN := Aa hN
 rw [hN] at h60 hcap ⊢
 obtain ⟨wa, hwa, hba, hca⟩ := A2 w (.cells #[.slice ca N cc, .string m.ret, .string m.nm, .bool m.st, .bool m.ba, .slice m.pa m.ps.length m.pc, .slice m.s5.1 m.s5.2.1 m.s5.2.2, .slice m.s6.1 m.s6.2.1 m.s6.2.2, .int .i64 m.line, .int .i64 m.col] 31)
 have HBA := Aa hba
 have HCA := Aa hca
 have HM := Aa (h.no hca).main
 have hcd := hca.trans ((Ch.refl No wa).drew)
 have hf := U9 t (h.no hcd).main.tr (h.no hcd).main.st
 have e6 : m.s6.2.1 = t.len := h.main.e6
 rw [← e6] at hf
 have y0 := Ac hba
 have HSx := Aa (show wa.cell? ⟨w.heap.size, 7, none⟩ = some (.slice m.s6.1 m.s6.2.1 m.s6.2.2) ∧ wa.cell? ⟨w.heap.size, 6, none⟩ = some (.slice m.s5.1 m.s5.2.1 m.s5.2.2) from ⟨Ab hba 7, Ab hba 6⟩)
 have hl5 : m.s5.2.1 ≤ 41 := by have h1 := h.main.e5; have h2 := h.main.zl.1; rw [h1]; exact h2
 clear h hba hca hcd hN e6
 go_in
 go_upto_region 1 with fail
 try rw [hwa]
 clear hwa
 have HSd := Aa (dr2 HSx.out)
 go_region_held3 (fun w' => w'.cell? ⟨w.heap.size, 7, none⟩ = some (.slice m.s6.1 m.s6.2.1 m.s6.2.2) ∧ w'.cell? ⟨w.heap.size, 6, none⟩ = some (.slice m.s5.1 m.s5.2.1 m.s5.2.2)) (first | with_reducible exact HSx.out | with_reducible exact HSd.out | with_reducible exact HS4.out | go_keep) (first | (go_at_call 32; refine (hf).mono ?_; rintro e w4 ⟨n4, rfl, hc4⟩; have K4 := Aa (((Ch.refl No wa).drew).trans hc4); have HS4 := Aa (S1 HSx.out K4.out); clear hc4; clear hf))
 all_goals (
  have HC4 := Aa (HCA.out.trans K4.out)
  have HP4 := Aa (K4.out.keep _ _ HBA.out (fun h => h))
  have hs10 := U6 (w := w4) (pv := .agg #[.slice ca Ks.length cc, .string m.ret, .string m.nm, .bool m.st, .bool m.ba, .slice m.pa m.ps.length m.pc, .slice m.s5.1 m.s5.2.1 m.s5.2.2, .slice m.s6.1 m.s6.2.1 m.s6.2.2, .int .i64 m.line, .int .i64 m.col]) ⟨_, _, _, _, _, _, _, _, _, _, rfl, (H0.out.no HC4.out).clss⟩ (H0.out.no HC4.out).mems H0.out.szp
  rw [HN.out] at hs10
  obtain ⟨p0, p1, p2, p3, p4, p5, p6, p7, p8, p9⟩ := Au HP4.out
  clear HSx HS4
  go_wp2_with fail
  refine hs10.mono ?_
  rintro e w5 ⟨⟨r, rfl, hr⟩, hc5⟩
  clear p0 p1 p2 p3 p4 p5 p6 p7 p8 p9 hs10
  cases r with
  | false =>
   have HC5 := Aa (HC4.out.trans hc5)
   go_wp2
   go_ret
   exact ⟨Dj.f, HC5.out⟩
  | true =>
   have HSM := Aa (hr rfl)
   have HC5 := Aa (HC4.out.trans hc5)
   have HP5 := Aa (hc5.keep _ _ HP4.out (fun h => h))
   clear hr hc5
   have hp5 := Ab HP5.out 0
   go_wp2
   go_loopg [3, 4, 5, 6] N (fun gg s3 s4 s5 s6 wr => ∃ (k : Nat) (n : Int), k ≤ N ∧ N - k ≤ gg ∧ s4 = .int .i64 k ∧ s3 = .int .i64 n ∧ Hid (Ch No w5 wr))
   case atStart => exact ⟨0, _, Nat.zero_le _, by omega, rfl, rfl, Aa (Ch.refl _ _)⟩
   case round =>
    obtain ⟨k, n, hk, hg, rfl, rfl, HCR⟩ := hrel
    have hpr := HCR.out.keep _ _ HP5.out (fun h => h)
    clear hp5
    have hp5 := Ab hpr 0
    clear hpr
    cases hd : decide (k < N) with
    | true =>
     have hkl : k < N := by simpa using hd
     obtain ⟨K, hK⟩ := gE (l := Ks) (i := k) (by have := HN.out; omega)
     have HCW := Aa (HC5.out.trans HCR.out)
     obtain ⟨cb, co, cp, ecs, hcell, _, _⟩ := (H0.out.no HCW.out).clss.cell (k := k) (c := K.c) (by rw [List.getElem?_map, hK]; rfl)
     rw [List.length_map, HN.out] at ecs
     cases ecs
     obtain ⟨q0, q1, q2, q3, q4, q5, q6, q7, q8, q9⟩ := hcell
     obtain ⟨wx, hwx, hbx, hcx⟩ := A2 wr (.cells #[.string K.name, .string K.sup, .bool K.face, .slice K.fa K.faces.length K.fc, .slice K.f4 K.fs.length K.c4, .slice K.f5 K.ss.length K.c5, .slice K.f6 K.ms.length K.c6, .pointer K.p7, .int .i64 K.line, .int .i64 K.col] 50)
     have HBX := Aa hbx
     have HCX := Aa (HCR.out.trans hcx)
     have HKM := Aa (mG hK)
     have yx := Ac hbx
     unfold KD.c at q0 q1 q2 q3 q4 q5 q6 q7 q8 q9
     go_upto_region 8 with fail
     try rw [hwx]
     clear q0 q1 q2 q3 q4 q5 q6 q7 q8 q9 hwx hbx hcx hK hp5
     obtain ⟨J, hJ⟩ := Ax K.ms.length
     have HJ := Aa hJ
     have hJ9 : J ≤ 40 := by rw [← hJ]; exact (H0.out.ks K HKM.out).z6
     have hcap6 : J ≤ K.c6 := by rw [← hJ]; exact (H0.out.ks K HKM.out).r6.1
     have hbx := HBX.out
     rw [hJ] at hbx
     have HBJ := Aa hbx
     have d6 := Ab hbx 6
     clear hbx hJ
     go_wp2_with fail
     obtain ⟨w9, hw9⟩ : ∃ w9, w9 = wr := ⟨_, rfl⟩
     subst hw9
     go_loopg [3, 6] J (fun gg s3 s6 wr => ∃ (q : Nat) (n : Int), q ≤ J ∧ J - q ≤ gg ∧ s6 = .int .i64 q ∧ s3 = .int .i64 n ∧ Hid (Ch No w5 wr) ∧ Hid (Ch No wx wr))
     case atStart => exact ⟨0, _, Nat.zero_le _, by omega, rfl, rfl, HCX, Aa (Ch.refl _ _)⟩
     case round =>
      obtain ⟨q, n, hq, hg2, rfl, rfl, HCQ, HCQX⟩ := hrel
      have hbq := HCQX.out.keep _ _ HBJ.out (fun h => h)
      have HBQ := Aa hbq
      clear d6
      have d6 := Ab hbq 6
      have HPQ := Aa (HCQ.out.keep _ _ HP5.out (fun h => h))
      cases hd2 : decide (q < J) with
      | true =>
       have hqJ : q < J := by simpa using hd2
       obtain ⟨x, hx⟩ := gE (l := K.ms) (i := q) (by have := HJ.out; omega)
       have hmd := (H0.out.ks K HKM.out).md x (mG hx)
       obtain ⟨mb, mo, emb, hmc⟩ := ((H0.out.ks K HKM.out).mem.no (HC5.out.trans HCQ.out)).ms.cell (k := q) (x := x.m) (by show (K.ms.map Md.m)[q]? = _; rw [List.getElem?_map, hx]; rfl)
       have emb' : K.f6 = some ⟨mb, mo, none⟩ := emb
       have q5 := hmc.q5
       have q6 := hmc.q6
       have hcd2 := (HC5.out.trans HCQ.out).trans ((Ch.refl No wr).drew)
       have hf := U9 x.t (hmd.tr.no hcd2) (hmd.st.ch hcd2 (fun _ _ _ _ _ h => h))
       rw [← hmd.e6] at hf
       have hl9 : x.m.s5.2.1 ≤ 41 := by rw [hmd.e5]; exact hmd.zl.1
       rw [emb'] at d6
       have HSq := Aa (show wr.cell? ⟨w9.heap.size, 6, none⟩ = some (.slice (some ⟨mb, mo, none⟩) J K.c6) ∧ wr.cell? ⟨mb, mo + q * 9 + 5, none⟩ = some (.slice x.m.s5.1 x.m.s5.2.1 x.m.s5.2.2) ∧ wr.cell? ⟨mb, mo + q * 9 + 6, none⟩ = some (.slice x.m.s6.1 x.m.s6.2.1 x.m.s6.2.2) from ⟨d6, q5, q6⟩)
       clear hx hmd hmc emb emb' hbq q5 q6 hcd2
       go_upto_region 11 with fail
       clear d6
       have HSd := Aa (dr3 HSq.out)
       go_region_held3 (fun w' => w'.cell? ⟨w9.heap.size, 6, none⟩ = some (.slice (some ⟨mb, mo, none⟩) J K.c6) ∧ w'.cell? ⟨mb, mo + q * 9 + 5, none⟩ = some (.slice x.m.s5.1 x.m.s5.2.1 x.m.s5.2.2) ∧ w'.cell? ⟨mb, mo + q * 9 + 6, none⟩ = some (.slice x.m.s6.1 x.m.s6.2.1 x.m.s6.2.2)) (first | with_reducible exact HSq.out | with_reducible exact HSd.out | with_reducible exact HS7.out | go_keep) (first | (go_at_call 32; refine (hf).mono ?_; rintro e w7 ⟨n7, rfl, hc7⟩; have K7 := Aa (((Ch.refl No wr).drew).trans hc7); have HS7 := Aa (ch3 HSq.out K7.out); clear hc7; clear hf))
       all_goals (
        clear HSq HS7
        go_wp2
        go_roundg (J - q - 1)
        case rel => exact ⟨q + 1, _, by omega, by omega, by go_num, rfl, Aa (HCQ.out.trans K7.out), Aa (HCQX.out.trans K7.out)⟩
        case measure => omega)
      | false =>
       have hqJ : ¬ q < J := by simpa using hd2
       cases hini : K.ini with
       | none =>
        have d7 : wr.cell? ⟨w9.heap.size, 7, none⟩ = some (.pointer none) := by
         have := Ab hbq 7
         have e : K.p7 = none := by unfold KD.p7; rw [hini]; rfl
         rw [← e]; exact this
        clear hini hbq
        go_wp2
        go_roundg (N - k - 1)
        case rel => exact ⟨k + 1, _, by omega, by omega, by go_num, rfl, HCQ⟩
        case measure => omega
       | some y =>
        have hi := (H0.out.ks K HKM.out).ini
        rw [hini] at hi
        obtain ⟨_, hyb, hmd⟩ := hi
        have d7 : wr.cell? ⟨w9.heap.size, 7, none⟩ = some (.pointer (some ⟨y.1, 0, none⟩)) := by
         have := Ab hbq 7
         have e : K.p7 = some ⟨y.1, 0, none⟩ := by unfold KD.p7; rw [hini]; rfl
         rw [← e]; exact this
        have hyq := (HC5.out.trans HCQ.out).keep _ _ hyb (fun h => h)
        have q5 : wr.cell? ⟨y.1, 5, none⟩ = some (.slice y.2.m.s5.1 y.2.m.s5.2.1 y.2.m.s5.2.2) := Ab hyq 5
        have q6 : wr.cell? ⟨y.1, 6, none⟩ = some (.slice y.2.m.s6.1 y.2.m.s6.2.1 y.2.m.s6.2.2) := Ab hyq 6
        have hcd2 := (HC5.out.trans HCQ.out).trans ((Ch.refl No wr).drew)
        have hf := U9 y.2.t (hmd.tr.no hcd2) (hmd.st.ch hcd2 (fun _ _ _ _ _ h => h))
        rw [← hmd.e6] at hf
        have hl9 : y.2.m.s5.2.1 ≤ 41 := by rw [hmd.e5]; exact hmd.zl.1
        have HSq := Aa (show wr.cell? ⟨w9.heap.size, 7, none⟩ = some (.pointer (some ⟨y.1, 0, none⟩)) ∧ wr.cell? ⟨y.1, 5, none⟩ = some (.slice y.2.m.s5.1 y.2.m.s5.2.1 y.2.m.s5.2.2) ∧ wr.cell? ⟨y.1, 6, none⟩ = some (.slice y.2.m.s6.1 y.2.m.s6.2.1 y.2.m.s6.2.2) from ⟨d7, q5, q6⟩)
        clear hini hyb hyq hmd hbq q5 q6 hcd2
        go_upto_region 13 with fail
        clear d6 d7
        have HSd := Aa (dr3 HSq.out)
        go_region_held3 (fun w' => w'.cell? ⟨w9.heap.size, 7, none⟩ = some (.pointer (some ⟨y.1, 0, none⟩)) ∧ w'.cell? ⟨y.1, 5, none⟩ = some (.slice y.2.m.s5.1 y.2.m.s5.2.1 y.2.m.s5.2.2) ∧ w'.cell? ⟨y.1, 6, none⟩ = some (.slice y.2.m.s6.1 y.2.m.s6.2.1 y.2.m.s6.2.2)) (first | with_reducible exact HSq.out | with_reducible exact HSd.out | with_reducible exact HS7.out | go_keep) (first | (go_at_call 32; refine (hf).mono ?_; rintro e w7 ⟨n7, rfl, hc7⟩; have K7 := Aa (((Ch.refl No wr).drew).trans hc7); have HS7 := Aa (ch3 HSq.out K7.out); clear hc7; clear hf))
        all_goals (
         clear HSq HS7
         go_wp2
         go_roundg (N - k - 1)
         case rel => exact ⟨k + 1, _, by omega, by omega, by go_num, rfl, Aa (HCQ.out.trans K7.out)⟩
         case measure => omega)
    | false =>
     have hkl : ¬ k < N := by simpa using hd
     go_wp2
     go_ret
     exact ⟨⟨_, rfl, fun _ => HSM.out⟩, HC5.out.trans HCR.out⟩)
structure Dc (cs : List Aj) (ms : List Ba) : Prop where
 S : B2 cs
 no : A3 cs
 sm : Df cs
 ln : ms.length = cs.length
 fw : Gj ms
 zm : W5 ms
noncomputable def Ff (cs : List Aj) (t : ByteArray) : ByteArray := (F0 cs t).getD ⟨#[]⟩
def Yp (st : Bool) : Nat → Ba → ByteArray → Option Cy := if st then A8 else Bi
def Dk (cs : List Aj) (ms : List Ba) (st : Bool) (t nm : ByteArray) : ByteArray := match As cs t with
 | some i => if Fd cs i then ⟨#[]⟩ else (match (Fj cs (Yp st) ms nm (some i)).map Prod.snd with | some x => x.ty | none => ⟨#[]⟩)
 | none => ⟨#[]⟩
def Dw (cs : List Aj) (ms : List Ba) (vs : ByteArray → Option ByteArray) (t : ByteArray) (f x : ByteArray) (gs : List ByteArray) (may : Cy → Prop) : Prop :=
 ∃ i y, As cs t = some i ∧ C9 cs ms f (some i) = some y ∧ may y ∧ y.ps.length = gs.length ∧ (∀ (k : Nat) (a p : ByteArray), gs[k]? = some a → y.ps[k]? = some p → Eh cs (Di vs a) p) ∧ (x = ⟨#[]⟩ ∨ y.ty ≠ Gf ∧ Cx cs vs y.ty x)
def Fh (cs : List Aj) (ms : List Ba) (vs : ByteArray → Option ByteArray) (ret : ByteArray) (s : St) (gs : List ByteArray) : Prop :=
 let x := s.x; let y := Di vs s.y; let z := Di vs s.z; let t := s.t
 if s.k = 0 then Dv cs t ∧ Cx cs vs t x
 else if s.k = 1 then Cx cs vs (t ++ Wx) x
 else if s.k = 2 then Cx cs vs D9 x
 else if s.k = 3 then Cx cs vs y x
 else if s.k = 4 then t ≠ D9 ∧ (t ≠ Cl ∧ Lj cs t) ∧ Cx cs vs t x ∧ (y ≠ Cl ∧ Lj cs y)
 else if s.k = 5 then Cx cs vs (Dk cs ms false y s.f) x
 else if s.k = 6 then Eh cs y (Dk cs ms false (Di vs x) s.f)
 else if s.k = 7 then Cx cs vs (Dk cs ms true t s.f) x
 else if s.k = 8 then Eh cs y (Dk cs ms true t s.f)
 else if s.k = 9 then z = Cl ∧ Cx cs vs (Ff cs y) x
 else if s.k = 10 then z = Cl ∧ Eh cs y (Ff cs (Di vs x))
 else if s.k = 11 then Dw cs ms vs y s.f x gs (fun m => m.st = false)
 else if s.k = 12 then Dv cs t ∧ Eh cs y t ∧ Dw cs ms vs t s.f x gs (fun m => m.st = false ∧ m.ba = false)
 else if s.k = 13 then Dv cs t ∧ Dw cs ms vs t s.f x gs (fun m => m.st = true)
 else if s.k = 14 ∨ s.k = 17 then Di vs x = Cl
 else if s.k = 15 ∨ s.k = 16 then Di vs x = Cl ∧ y = Cl ∧ z = Cl
 else if s.k = 18 then Dv cs (Di vs x)
 else if s.k = 19 then Dv cs t ∧ Cx cs vs t x
 else if s.k = 20 ∨ s.k = 21 then y = Cl ∧ z = Cl
 else if s.k = 22 then (x = ⟨#[]⟩ ∧ ret = Gf ∨ x ≠ ⟨#[]⟩ ∧ Eh cs (Di vs x) ret)
 else False
def I1 (cs : List Aj) (ms : List Ba) (vs : ByteArray → Option ByteArray) (ret : ByteArray) : Tr → Prop
 | .nil => True
 | .cons h b o r => Fh cs ms vs ret h.s h.gs ∧ I1 cs ms vs ret b ∧ I1 cs ms vs ret o ∧ I1 cs ms vs ret r
theorem Ra {α : Type} {get : Nat → Option α} : ∀ {l : List Nat} {r : Nat × α}, Qp get l = some r → get r.1 = some r.2
 | [], r, h => by cases h
 | j :: l, r, h => by
  rw [Ea] at h
  cases hg : get j with
  | none => rw [hg] at h; exact Ra h
  | some x => rw [hg] at h; cases h; exact hg
theorem Adl {cs : List Aj} {ms : List Ba} (hz : W5 ms) {st : Bool} {nm : ByteArray} {o : Option Nat} {x : Cy} (h : (Fj cs (Yp st) ms nm o).map Prod.snd = some x) : x.ty.size ≤ maxLen := by
 obtain ⟨⟨j, y⟩, h1, rfl⟩ := Option.map_eq_some_iff.1 h
 have h2 := Ra h1
 unfold G9 at h2
 cases hm : ms[j]? with
 | none => rw [hm] at h2; cases h2
 | some m =>
  rw [hm] at h2
  have hs := hz m (mG hm)
  cases st with
  | false =>
   obtain ⟨v, hv, e⟩ := Option.map_eq_some_iff.1 (show (Qo m.fs nm).map _ = some y from h2)
   show y.ty.size ≤ maxLen
   rw [← e]
   exact (hs.fs v (List.mem_of_find?_eq_some hv)).2
  | true =>
   obtain ⟨v, hv, e⟩ := Option.map_eq_some_iff.1 (show (Qo m.ss nm).map _ = some y from h2)
   show y.ty.size ≤ maxLen
   rw [← e]
   exact (hs.ss v (List.mem_of_find?_eq_some hv)).2
theorem Mn {cs : List Aj} {ms : List Ba} (hz : W5 ms) (st : Bool) (t nm : ByteArray) : (Dk cs ms st t nm).size ≤ maxLen := by
 unfold Dk
 split
 {split
  {exact Nat.zero_le _}
  {split
   {rename_i x hx; exact Adl hz hx}
   {exact Nat.zero_le _}}}
 {exact Nat.zero_le _}
theorem Rb {cs : List Aj} {t : ByteArray} (ht : t.size ≤ maxLen) : (Ff cs t).size ≤ maxLen := by
 unfold Ff
 cases h : F0 cs t with
 | none => exact Nat.zero_le _
 | some e =>
  obtain ⟨_, rfl, _⟩ := J2.1 h
  exact Nat.le_trans (Qj t) ht
theorem Aah {cs : List Aj} {ms : List Ba} (hz : W5 ms) {nm : ByteArray} {o : Option Nat} {y : Cy} (h : C9 cs ms nm o = some y) : y.ty.size ≤ maxLen ∧ ∀ p ∈ y.ps, p.size ≤ maxLen := by
 cases o with
 | none => cases h
 | some i =>
  obtain ⟨r, _, h2⟩ := Option.bind_eq_some_iff.1 (show (Ez cs ms nm i).bind (Jc ms) = some y from h)
  unfold Jc at h2
  cases hm : ms[r.1]? with
  | none => rw [hm] at h2; cases h2
  | some m =>
   rw [hm] at h2
   obtain ⟨x, hx, rfl⟩ := Option.map_eq_some_iff.1 h2
   have hs := (hz m (mG hm)).ms x (mG hx)
   refine ⟨hs.2.1, fun p hp => ?_⟩
   obtain ⟨v, hv, rfl⟩ := List.mem_map.1 hp
   exact hs.2.2 v hv
section
variable {w0 w : World} {b : Nat} {cs : List Aj} {ms : List Ba} {xv : Value} {mb vb n : Nat} {vs : ByteArray → Option ByteArray} {ret : ByteArray} {l c : Int}
theorem Aai {w : World} {xv : Value} {cs : List Aj} (h : Bv w xv cs) {t : ByteArray} (ht : t.size ≤ maxLen) :
 Calls Tryz.prog 133 #[xv, .string t] w fun e w' => (∃ r : Bool, e = .returned (.tuple #[.string (Ff cs t), .bool r])) ∧ Ch No w w' :=
 (Yc h ht).mono (by
  rintro e w' ⟨⟨el, h1, rfl⟩ | ⟨h1, rfl⟩, rfl⟩
  {exact ⟨⟨true, by rw [Ff, h1]; rfl⟩, Ch.refl _ _⟩}
  {exact ⟨⟨false, by rw [Ff, h1]; rfl⟩, Ch.refl _ _⟩})
theorem Yq (h : Bl w0 w b cs ms xv mb vb n vs ret l c) (hv : F6 vs) {x : ByteArray} (hx : x.size ≤ maxLen) :
 Calls Tryz.prog 141 #[.pointer (some ⟨b, 0, none⟩), .string x] w fun e w' => e = .returned (.string (Ff cs (Di vs x))) ∧ Ch No w w' := by
 have H := Aa h
 have HT := Aa h.typ
 have HVZ := Aa (hv.of x)
 have HXZ := Aa hx
 have HSx := Aa (show w.cell? ⟨b, 0, none⟩ = some xv ∧ w.cell? ⟨b, 1, none⟩ = some (.pointer (some ⟨mb, 0, none⟩)) from ⟨Ab h.blk 0, Ab h.blk 1⟩)
 clear h hv hx
 go_in
 go_upto_region 1 with fail
 have HSd := Aa (dr2 HSx.out)
 go_region_held3 (fun w' => w'.cell? ⟨b, 0, none⟩ = some xv ∧ w'.cell? ⟨b, 1, none⟩ = some (.pointer (some ⟨mb, 0, none⟩))) (first | with_reducible exact HSx.out | with_reducible exact HSd.out | with_reducible exact HS1.out | with_reducible exact HS2.out | go_keep) (first | (go_at_call 136; refine (Hc (H.out.no ((Ch.refl No w).drew)) HXZ.out).mono ?_; rintro e w1 ⟨rfl, hc1⟩; have K1 := Aa (((Ch.refl No w).drew).trans hc1); have HS1 := Aa (S1 HSx.out K1.out); clear hc1) | (go_at_call 133; refine (Aai (HT.out.no K1.out) HVZ.out).mono ?_; rintro e w2 ⟨⟨r, hr0⟩, hc2⟩; have K2 := Aa (K1.out.trans hc2); have HS2 := Aa (S1 HSx.out K2.out); clear hc2; subst hr0))
 all_goals (
  go_wp2
  go_ret
  exact ⟨rfl, K2.out⟩)
theorem Kk (h : Bl w0 w b cs ms xv mb vb n vs ret l c) {v : Value} {ts : List ByteArray} (hv : Ah w v ts) (hz : ∀ t ∈ ts, t.size ≤ maxLen) (h9 : ts.length ≤ 1000) :
 Calls Tryz.prog 140 #[.pointer (some ⟨b, 0, none⟩), v] w fun e w' => Am (∀ t ∈ ts, Di vs t = Cl) e ∧ Ch No w w' := by
 have H := Aa h
 have hv' := hv
 obtain ⟨ao, cap, rfl, hcap, hmax, _⟩ := hv'
 obtain ⟨N, hN⟩ := Ax ts.length
 rw [hN] at hcap hv h9 ⊢
 have HN := Aa hN
 have HV := Aa hv
 have HZ := Aa hz
 unfold maxLen at hmax
 clear h hv hz hN
 go_in
 go_wp2
 go_loopg [4, 6, 9] N (fun gg s4 s6 s9 wr => ∃ k : Nat, k ≤ N ∧ N - k ≤ gg ∧ s9 = .int .i64 k ∧ Hid (∀ t ∈ ts.take k, Di vs t = Cl) ∧ Hid (w = wr))
 case atStart => exact ⟨0, Nat.zero_le _, by omega, rfl, Aa (fun t ht => by simp at ht), Aa rfl⟩
 case round =>
  obtain ⟨k, hk, hg, rfl, HA, HW⟩ := hrel
  obtain rfl := HW.out
  cases hd : decide (k < N) with
  | true =>
   have hkN : k < N := by simpa using hd
   obtain ⟨x, hx⟩ := gE (l := ts) (i := k) (by have := HN.out; omega)
   obtain ⟨ao2, cap2, e2, _, _, hcell⟩ := HV.out
   rw [HN.out] at e2 hcell
   cases e2
   obtain ⟨bb, off, rfl, hcell2⟩ := hcell (by omega)
   have q0 := hcell2 k x hx
   have hof := cof H.out (HZ.out x (mG hx))
   have HX := Aa hx
   clear hx hcell2 hcell
   obtain ⟨y, hy⟩ := Ax (Di vs x)
   rw [hy] at hof
   have HY := Aa hy
   clear hy
   by_cases he : y = Cl
   {have e1 := lit y [105, 110, 116] he
    have en : (y.toList != [105, 110, 116]) = false := by rw [bne, e1]; rfl
    have HE := Aa he
    clear he
    go_wp2_with fail
    refine hof.mono ?_
    rintro e w1 ⟨rfl, rfl⟩
    go_wp2
    go_roundg (N - k - 1)
    case rel => exact ⟨k + 1, by omega, by omega, by go_num, Aa (fun t ht => by
     rw [List.take_add_one, HX.out] at ht
     rcases List.mem_append.1 ht with ht | ht
     {exact HA.out t ht}
     · simp at ht; rw [ht, HY.out]; exact HE.out), Aa rfl⟩
    case measure => omega}
   {have e1 := Bf y [105, 110, 116] he
    have en : (y.toList != [105, 110, 116]) = true := by rw [bne, e1]; rfl
    have HE := Aa he
    clear he
    go_wp2_with fail
    refine hof.mono ?_
    rintro e w1 ⟨rfl, rfl⟩
    go_wp2
    go_ret
    exact ⟨.f (fun h => HE.out (HY.out.symm.trans (h x (mG HX.out)))), Ch.refl _ _⟩}
  | false =>
   go_wp2
   go_ret
   have hkN : ¬ k < N := by simpa using hd
   refine ⟨.t (fun t ht => HA.out t ?_), Ch.refl _ _⟩
   rw [List.take_of_length_le (by have := HN.out; omega)]
   exact ht
theorem Adm {p : Prop} (h : p := by
 rw [hface] at hfa
 rw [ho] at hup
 clear hf hk hfb hface ho
 go_in
 go_wp2_with fail
 refine hcl.mono ?_
 rintro e w1 ⟨rfl, rfl⟩
 go_wp2_with fail
 refine hfa.mono ?_
 rintro e w1 ⟨rfl, rfl⟩
 go_wp2_with fail
 refine hup.mono ?_
 rintro e w2 ⟨rfl, hc2⟩
 have HC2 := Aa hc2
 clear hc2 hup
 go_upto_region 5 with fail
 obtain ⟨w3, hw3⟩ := Ax (w2.alloc (.cells #[.int .i64 0, .string ⟨#[]⟩, .string ⟨#[]⟩, .slice none 0 0, .bool false, .bool false] 54))
 have hb3 := heap_alloc_new w2 (.cells #[.int .i64 0, .string ⟨#[]⟩, .string ⟨#[]⟩, .slice none 0 0, .bool false, .bool false] 54)
 have HC3 := Aa (HC2.out.alloc (.cells #[.int .i64 0, .string ⟨#[]⟩, .string ⟨#[]⟩, .slice none 0 0, .bool false, .bool false] 54))
 rw [hw3] at hb3 HC3
 try rw [hw3]
 have m2 := Ab hb3 2
 clear hb3 hw3
 go_wp2
 go_ret
 exact ⟨by rw [HF.out]; rfl, HC3.out⟩
 ) : p := h
theorem Adn {p : Prop} (h : p := by
 rw [hface] at hfa
 rw [ho] at hup
 clear hf hk hfb hface ho
 go_in
 go_wp2_with fail
 refine hcl.mono ?_
 rintro e w1 ⟨rfl, rfl⟩
 go_wp2_with fail
 refine hfa.mono ?_
 rintro e w1 ⟨rfl, rfl⟩
 go_wp2_with fail
 refine hup.mono ?_
 rintro e w2 ⟨⟨sa, sn, sc, rfl, _⟩, hc2⟩
 have HC2 := Aa hc2
 clear hc2 hup
 go_upto_region 5 with fail
 obtain ⟨w3, hw3⟩ := Ax (w2.alloc (.cells #[.int .i64 x.cls, .string x.nm, .string x.ty, .slice sa sn sc, .bool x.st, .bool x.ba] 54))
 have hb3 := heap_alloc_new w2 (.cells #[.int .i64 x.cls, .string x.nm, .string x.ty, .slice sa sn sc, .bool x.st, .bool x.ba] 54)
 have HC3 := Aa (HC2.out.alloc (.cells #[.int .i64 x.cls, .string x.nm, .string x.ty, .slice sa sn sc, .bool x.st, .bool x.ba] 54))
 rw [hw3] at hb3 HC3
 try rw [hw3]
 have m2 := Ab hb3 2
 clear hb3 hw3
 go_wp2
 go_ret
 exact ⟨by rw [HF.out]; rfl, HC3.out⟩
 ) : p := h
theorem Ado {p : Prop} (h : p := by
 rw [hface] at hfa
 clear hf hk hup hfb hface
 go_in
 go_wp2_with fail
 refine hcl.mono ?_
 rintro e w1 ⟨rfl, rfl⟩
 go_wp2_with fail
 refine hfa.mono ?_
 rintro e w1 ⟨rfl, rfl⟩
 go_wp2
 go_ret
 exact ⟨by rw [HF.out]; rfl, Ch.refl _ _⟩
 ) : p := h
theorem Adp {p : Prop} (h : p := by
 rw [Ii hf, show Cd (As cs) t = false from by unfold Cd; rw [hf]; rfl] at hcl
 clear hf
 go_in
 go_wp2_with fail
 refine hcl.mono ?_
 rintro e w1 ⟨rfl, rfl⟩
 go_wp2
 go_ret
 exact ⟨by rw [HF.out]; rfl, Ch.refl _ _⟩
 ) : p := h
theorem Vb (E : Dc cs ms) (h : Bl w0 w b cs ms xv mb vb n vs ret l c) {t nm : ByteArray} (ht : t.size ≤ maxLen) (hn : nm.size ≤ maxLen) :
 Calls Tryz.prog 138 #[.pointer (some ⟨b, 0, none⟩), .string t, .string nm, .func (.func 21) #[.pointer (some ⟨mb, 0, none⟩)] #[]] w fun e w' => e = .returned (.string (Dk cs ms false t nm)) ∧ Ch No w w' := by
 have c0 := Ab h.blk 0
 have hcl := Fr h.typ ht
 have HME := Aa h.mem
 obtain ⟨xb, tb, abv, ss, hxe, hx⟩ := h.typ
 subst hxe
 have x0 := Ab hx.blk 0
 have HTB := Aa hx.tab
 have HNZ := Aa hn
 clear h hx hn
 cases hf : As cs t with
 | none =>
  have HF := Aa (show Dk cs ms false t nm = ⟨#[]⟩ from by unfold Dk; rw [hf])
  exact Adp
 | some i =>
  obtain ⟨k, hk⟩ := gE (l := cs) (i := i) (Ey hf)
  have hfa := Qh HTB.out hk
  have hfb : Fd cs i = k.face := Fe hk
  rw [Ei hf, show Cd (As cs) t = true from by unfold Cd; rw [hf]; rfl] at hcl
  have hup := Ug HME.out E.S E.no E.ln E.fw (Ja.some (Ey hf)) HNZ.out
  cases hface : k.face with
  | true =>
   have HF := Aa (show Dk cs ms false t nm = ⟨#[]⟩ from by unfold Dk; rw [hf]; simp only [hfb, hface]; rfl)
   exact Ado
  | false =>
   cases ho : (Fj cs Bi ms nm (some i)).map Prod.snd with
   | none =>
    have HF := Aa (show Dk cs ms false t nm = ⟨#[]⟩ from by unfold Dk; rw [hf]; simp only [hfb, hface]; rw [show Yp false = Bi from rfl, ho]; rfl)
    exact Adm
   | some x =>
    have HF := Aa (show Dk cs ms false t nm = x.ty from by unfold Dk; rw [hf]; simp only [hfb, hface]; rw [show Yp false = Bi from rfl, ho]; rfl)
    exact Adn
theorem Rc (E : Dc cs ms) (h : Bl w0 w b cs ms xv mb vb n vs ret l c) {t nm : ByteArray} (ht : t.size ≤ maxLen) (hn : nm.size ≤ maxLen) :
 Calls Tryz.prog 138 #[.pointer (some ⟨b, 0, none⟩), .string t, .string nm, .func (.func 83) #[.pointer (some ⟨mb, 0, none⟩)] #[]] w fun e w' => e = .returned (.string (Dk cs ms true t nm)) ∧ Ch No w w' := by
 have c0 := Ab h.blk 0
 have hcl := Fr h.typ ht
 have HME := Aa h.mem
 obtain ⟨xb, tb, abv, ss, hxe, hx⟩ := h.typ
 subst hxe
 have x0 := Ab hx.blk 0
 have HTB := Aa hx.tab
 have HNZ := Aa hn
 clear h hx hn
 cases hf : As cs t with
 | none =>
  have HF := Aa (show Dk cs ms true t nm = ⟨#[]⟩ from by unfold Dk; rw [hf])
  exact Adp
 | some i =>
  obtain ⟨k, hk⟩ := gE (l := cs) (i := i) (Ey hf)
  have hfa := Qh HTB.out hk
  have hfb : Fd cs i = k.face := Fe hk
  rw [Ei hf, show Cd (As cs) t = true from by unfold Cd; rw [hf]; rfl] at hcl
  have hup := Qt HME.out E.S E.no E.ln E.fw (Ja.some (Ey hf)) HNZ.out
  cases hface : k.face with
  | true =>
   have HF := Aa (show Dk cs ms true t nm = ⟨#[]⟩ from by unfold Dk; rw [hf]; simp only [hfb, hface]; rfl)
   exact Ado
  | false =>
   cases ho : (Fj cs A8 ms nm (some i)).map Prod.snd with
   | none =>
    have HF := Aa (show Dk cs ms true t nm = ⟨#[]⟩ from by unfold Dk; rw [hf]; simp only [hfb, hface]; rw [show Yp true = A8 from rfl, ho]; rfl)
    exact Adm
   | some x =>
    have HF := Aa (show Dk cs ms true t nm = x.ty from by unfold Dk; rw [hf]; simp only [hfb, hface]; rw [show Yp true = A8 from rfl, ho]; rfl)
    exact Adn
end
end Go.Proofs.YtgjpgfedlgdjhaaGreatDoor
end
