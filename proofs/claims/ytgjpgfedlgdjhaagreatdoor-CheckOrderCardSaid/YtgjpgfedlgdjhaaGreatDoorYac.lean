/- Part 3. -/
import Derived.Test.YtgjpgfedlgdjhaaGreatDoorYab
import Derived.Test.YtgjpgfedlgdjhaaGreatDoorYaa
import Derived.Deep.OwnRows
import Derived.Deep.RegionHeld
set_option linter.unusedVariables false
set_option linter.unusedSimpArgs false
set_option maxHeartbeats 64000000
set_option maxRecDepth 8192
section
section
namespace Go.Proofs.YtgjpgfedlgdjhaaGreatDoor
open Go.RowKit Go.W
structure C6 where
 name : ByteArray
 face : Bool
 sup : Int
 fs : List Int
 fa : Option Addr
 fc : Nat
def C6.cells (k : C6) : List Value := [.string k.name, .bool k.face, .int .i64 k.sup, .slice k.fa k.fs.length k.fc]
structure El (w : World) (v : Value) (ks : List C6) : Prop where
 row : B5 w v 4 (ks.map C6.cells)
 fs : ∀ k ∈ ks, A9 w (.slice k.fa k.fs.length k.fc) k.fs
theorem El.no {w w' : World} {v : Value} {ks : List C6} (h : El w v ks) (hc : Ch No w w') : El w' v ks := ⟨h.row.no hc, fun k hk => (h.fs k hk).no hc⟩
structure A4 where
 b : Option Nat
 l : List Int
def A4.val (s : A4) : Value := .pointer (s.b.map (fun b => ⟨b, 0, none⟩))
structure D3 (w : World) (v : Value) (ss : List A4) : Prop where
 row : B5 w v 1 (ss.map (fun s => [s.val]))
 sets : ∀ s ∈ ss, ∀ b, s.b = some b → ∃ ob, Br w b s.l ob
 nil : ∀ s ∈ ss, s.b = none → s.l = []
theorem D3.no {w w' : World} {v : Value} {ss : List A4} (h : D3 w v ss) (hc : Ch No w w') : D3 w' v ss :=
 ⟨h.row.no hc, fun s hs b hb => (h.sets s hs b hb).imp fun _ h => h.no hc, h.nil⟩
structure E1 where
 allv : Value
 abv : Value
 ordv : Value
 mb : Nat
 mn : Nat
 ks : List C6
 get : ByteArray → Option Nat
 ss : List A4
 ord : List Int
def Ec (get : ByteArray → Option Nat) (s : ByteArray) : Option Value := (get s).map (fun i => .int .i64 (i : Int))
structure Ct (w : World) (tb : Nat) (T : E1) : Prop where
 blk : w.heap[tb]? = some (.cells #[T.allv, .map (some T.mb), T.abv, T.ordv] 145 (0, 0))
 all : El w T.allv T.ks
 names : A1 Tryz.prog 9 Bx w T.mb T.mn (Ec T.get)
 sets : D3 w T.abv T.ss
 ord : A9 w T.ordv T.ord
theorem Ct.no {w w' : World} {tb : Nat} {T : E1} (h : Ct w tb T) (hc : Ch No w w') : Ct w' tb T :=
 ⟨hc.keep _ _ h.blk (fun h => h), h.all.no hc, h.names.ch hc (fun _ _ h => h), h.sets.no hc, h.ord.no hc⟩
structure Tf (w : World) (b a : Nat) (k : C6) : Prop where
 q0 : w.cell? ⟨b, a, none⟩ = some (.string k.name)
 q1 : w.cell? ⟨b, a + 1, none⟩ = some (.bool k.face)
 q2 : w.cell? ⟨b, a + 2, none⟩ = some (.int .i64 k.sup)
 q3 : w.cell? ⟨b, a + 3, none⟩ = some (.slice k.fa k.fs.length k.fc)
theorem El.slice {w : World} {v : Value} {ks : List C6} (h : El w v ks) : ∃ ao cap, v = .slice ao ks.length cap ∧ ks.length ≤ cap ∧ cap ≤ maxLen := by
 obtain ⟨ao, cap, e, h1, h2, _⟩ := h.row
 rw [List.length_map] at e h1
 exact ⟨ao, cap, e, h1, h2⟩
theorem El.cell {w : World} {v : Value} {ks : List C6} (h : El w v ks) {i : Nat} {k : C6} (hk : ks[i]? = some k) :
 ∃ b off cap, v = .slice (some ⟨b, off, none⟩) ks.length cap ∧ Tf w b (off + i * 4) k ∧ ks.length ≤ cap ∧ cap ≤ maxLen := by
 obtain ⟨ao, cap, e, h1, h2, h3, h4⟩ := h.row
 have hl : i < ks.length := (gL hk)
 obtain ⟨b, off, rfl, h5⟩ := h4 (by rw [List.length_map]; omega)
 have h6 := fun j hj => h5 i k.cells (by rw [List.getElem?_map, hk]; rfl) j hj
 exact ⟨b, off, cap, by rw [e, List.length_map], ⟨h6 0 (by omega), h6 1 (by omega), h6 2 (by omega), h6 3 (by omega)⟩, by rw [List.length_map] at h1; exact h1, h2⟩
theorem Av {w : World} {tb : Nat} {T : E1} (h : Ct w tb T) :
 Calls Tryz.prog 75 #[.pointer (some ⟨tb, 0, none⟩)] w fun e w' => e = .returned (.int .i64 T.ks.length) ∧ w = w' := by
 obtain ⟨ao, cap, e, _, _⟩ := h.all.slice
 have c0 := Ab h.blk 0
 rw [e] at c0
 clear h e
 go_in
 go_wp2
 go_ret
 exact ⟨rfl, rfl⟩
theorem Tg {w : World} {tb : Nat} {T : E1} (h : Ct w tb T) (i : Int) :
 Calls Tryz.prog 88 #[.pointer (some ⟨tb, 0, none⟩), .int .i64 i] w fun e w' => e = .returned (.bool (decide (0 ≤ i ∧ i < T.ks.length))) ∧ w = w' := by
 obtain ⟨ao, cap, e, _, _⟩ := h.all.slice
 have c0 := Ab h.blk 0
 rw [e] at c0
 clear h e
 cases h0 : decide (0 ≤ i) with
 | true =>
  have h0' : 0 ≤ i := by simpa using h0
  go_in
  go_wp2
  go_ret
  exact ⟨Bn (by simp [h0']), rfl⟩
 | false =>
  have h0' : ¬ 0 ≤ i := by simpa using h0
  go_in
  go_wp2
  go_ret
  exact ⟨Bn (by simp [h0']), rfl⟩
theorem Fk {w : World} {tb : Nat} {T : E1} (h : Ct w tb T) {i : Nat} {k : C6} (hk : T.ks[i]? = some k) :
 Calls Tryz.prog 88 #[.pointer (some ⟨tb, 0, none⟩), .int .i64 i] w fun e w' => e = .returned (.bool true) ∧ w = w' :=
 (Tg h i).mono fun e w' ⟨he, hw⟩ => ⟨he.trans (Bn (by have := (gL hk); simp; omega)), hw⟩
theorem Ld {w : World} {tb : Nat} {T : E1} (h : Ct w tb T) {i : Int} (hi : ¬ (0 ≤ i ∧ i < T.ks.length)) :
 Calls Tryz.prog 88 #[.pointer (some ⟨tb, 0, none⟩), .int .i64 i] w fun e w' => e = .returned (.bool false) ∧ w = w' :=
 (Tg h i).mono fun e w' ⟨he, hw⟩ => ⟨he.trans (Bn (by simpa using hi)), hw⟩
def Ib (ks : List C6) (i : Int) : Option C6 := if 0 ≤ i then ks[i.toNat]? else none
theorem Ic {ks : List C6} {i : Int} (h : Ib ks i = none) : ¬ (0 ≤ i ∧ i < ks.length) := by
 unfold Ib at h
 rintro ⟨h0, h1⟩
 rw [if_pos h0] at h
 have := List.getElem?_eq_none_iff.1 h
 omega
theorem Id {ks : List C6} {i : Int} {k : C6} (h : Ib ks i = some k) : ∃ n : Nat, i = n ∧ ks[n]? = some k := by
 unfold Ib at h
 by_cases h0 : 0 ≤ i
 {rw [if_pos h0] at h
  exact ⟨i.toNat, by omega, h⟩}
 {rw [if_neg h0] at h; cases h}
theorem Nb {ks : List C6} {n : Nat} : Ib ks n = ks[n]? := by
 unfold Ib
 rw [if_pos (by omega)]; simp
theorem zt1 {p : Prop} (h : p := by
 have ht := Ld h (Ic hr)
 clear h hr
 go_in
 go_wp2_with fail
 refine ht.mono ?_
 rintro e w1 ⟨rfl, rfl⟩
 go_wp2
 go_ret
 exact ⟨rfl, rfl⟩
 ) : p := h
theorem X8 {w : World} {tb : Nat} {T : E1} (h : Ct w tb T) (i : Int) :
 Calls Tryz.prog 46 #[.pointer (some ⟨tb, 0, none⟩), .int .i64 i] w fun e w' => e = .returned (.bool (((Ib T.ks i).map C6.face).getD false)) ∧ w = w' := by
 cases hr : Ib T.ks i with
 | none =>
  exact zt1
 | some k =>
  obtain ⟨n, rfl, hk⟩ := Id hr
  have ht := Fk h hk
  obtain ⟨b, off, cap, e, hc, h1, h2⟩ := h.all.cell hk
  have hl := (gL hk)
  unfold maxLen at h2
  have c0 := Ab h.blk 0
  rw [e] at c0
  have q := hc.q1
  clear h hr e hc hk
  go_in
  go_wp2_with fail
  refine ht.mono ?_
  rintro e w1 ⟨rfl, rfl⟩
  go_wp2
  go_ret
  exact ⟨rfl, rfl⟩
theorem Zd {w : World} {tb : Nat} {T : E1} (h : Ct w tb T) (i : Int) :
 Calls Tryz.prog 50 #[.pointer (some ⟨tb, 0, none⟩), .int .i64 i] w fun e w' => e = .returned (.int .i64 (((Ib T.ks i).map C6.sup).getD (-1))) ∧ w = w' := by
 cases hr : Ib T.ks i with
 | none =>
  exact zt1
 | some k =>
  obtain ⟨n, rfl, hk⟩ := Id hr
  have ht := Fk h hk
  obtain ⟨b, off, cap, e, hc, h1, h2⟩ := h.all.cell hk
  have hl := (gL hk)
  unfold maxLen at h2
  have c0 := Ab h.blk 0
  rw [e] at c0
  have q := hc.q2
  clear h hr e hc hk
  go_in
  go_wp2_with fail
  refine ht.mono ?_
  rintro e w1 ⟨rfl, rfl⟩
  go_wp2
  go_ret
  exact ⟨rfl, rfl⟩
open Go.Maps (Keyed)
theorem Gx : Keyed Tryz.prog 9 := Go.Maps.string_keyed Tryz.underlying9
theorem Gy {s : ByteArray} (h : s.size ≤ maxLen) : keyOf Tryz.prog 9 (Bx.val s) = some (Bx.lit s) := Go.WideMaps.keyOf_string_mk Tryz.underlying9 h
theorem Th (w : World) : (zeroValue 3).run Tryz.prog w = .ok (.int .i64 0) w := by kernel_rfl
def G5 (get : ByteArray → Option Nat) (s : ByteArray) : Int := match get s with | some i => (i : Int) | none => 0
def Cd (get : ByteArray → Option Nat) (s : ByteArray) : Bool := (get s).isSome
theorem Ze {w : World} {tb : Nat} {T : E1} (h : Ct w tb T) {nm : ByteArray} (hn : nm.size ≤ maxLen) :
 Calls Tryz.prog 159 #[.pointer (some ⟨tb, 0, none⟩), .string nm] w fun e w' => e = .returned (.tuple #[.int .i64 (G5 T.get nm), .bool (Cd T.get nm)]) ∧ w = w' := by
 have c1 := Ab h.blk 1
 have hrun := h.names.lookOk Gx Tryz.underlying142 (Th w) (Gy hn)
 have e1 : ((Ec T.get nm).getD (.int .i64 0)) = .int .i64 (G5 T.get nm) := by
  unfold Ec G5; cases T.get nm <;> rfl
 have e2 : (Ec T.get nm).isSome = Cd T.get nm := by
  unfold Ec Cd; cases T.get nm <;> rfl
 rw [e1, e2] at hrun
 have hrun' : (Instr.lookup 142 (.map (some T.mb)) (.string nm) true).run Tryz.prog w = .ok (.tuple #[.int .i64 (G5 T.get nm), .bool (Cd T.get nm)]) w := hrun
 clear h e1 e2 hrun
 go_in
 go_wp2_with fail
 go_ret2
 exact ⟨rfl, rfl⟩
def C6.right (k : C6) : List Int := (if 0 ≤ k.sup then [k.sup] else []) ++ k.fs
theorem L1 {w : World} {tb : Nat} {T : E1} (h : Ct w tb T) {n : Nat} {k : C6} (hk : T.ks[n]? = some k) (hl : k.fs.length ≤ 1000000) :
 Calls Tryz.prog 49 #[.pointer (some ⟨tb, 0, none⟩), .int .i64 n] w fun e w' => ∃ u, e = .returned u ∧ Al w' w.heap.size u k.right ∧ Ch No w w' := by
 have ht := Fk h hk
 have hcl := S9 (h.all.fs k (mG hk)) (by omega)
 have H := Aa h
 obtain ⟨b, off, cap, e, hc, h1, h2⟩ := h.all.cell hk
 have HKC := Aa (show w.cell? ⟨b, off + n * 4 + 2, none⟩ = some (.int .i64 k.sup) from hc.q2)
 have hn := (gL hk)
 unfold maxLen at h2
 have c0 := Ab h.blk 0
 have HB := Aa h.blk
 have E := Aa e
 rw [e] at c0
 have q3 := hc.q3
 clear h e hc hk
 go_in
 go_wp2_with fail
 refine ht.mono ?_
 rintro e w1 ⟨rfl, rfl⟩
 go_wp2_with fail
 refine hcl.mono ?_
 rintro e w1 ⟨u, rfl, hu, hch⟩
 have c0' := Ab (hch.keep _ _ HB.out (fun h => h)) 0
 rw [E.out] at c0'
 have q2' := Ae HKC.out hch (fun _ _ h => h)
 cases hs : decide (0 ≤ k.sup) with
 | false =>
  have hs' : ¬ 0 ≤ k.sup := by simpa using hs
  go_wp2
  go_ret
  refine ⟨_, rfl, ?_, hch⟩
  unfold C6.right
  rw [if_neg (by omega)]
  exact hu
 | true =>
  have hs' : 0 ≤ k.sup := by simpa using hs
  have hub := fun g hg => hu.lt g hg
  have hvb := heap_alloc_new w1 (.cells #[.int .i64 k.sup] 3)
  have hz := hch.size
  have hins := Qb (hu.alloc (.cells #[.int .i64 k.sup] 3)) 0 (Nat.zero_le _) hl k.sup w1.heap.size hvb (fun e => by have := hub _ e; omega) (Nat.le_trans hz ((Ch.refl No w1).alloc (.cells #[.int .i64 k.sup] 3)).size)
  have HU := Aa hub
  clear hub hu
  go_wp2_with fail
  refine hins.mono ?_
  rintro e w2 ⟨v', rfl, hv', hc2, hg2⟩
  go_wp2
  go_ret
  refine ⟨_, rfl, ?_, ?_⟩
  {unfold C6.right
   rw [if_pos hs']
   simpa using hv'}
  {exact (hch.alloc _).trans' hc2 (fun j o ho h => by have := HU.out j h; have := Ac ho; omega)}
theorem D3.slice {w : World} {v : Value} {ss : List A4} (h : D3 w v ss) : ∃ ao cap, v = .slice ao ss.length cap ∧ ss.length ≤ cap ∧ cap ≤ maxLen := by
 obtain ⟨ao, cap, e, h1, h2, _⟩ := h.row
 rw [List.length_map] at e h1
 exact ⟨ao, cap, e, h1, h2⟩
theorem D3.cell {w : World} {v : Value} {ss : List A4} (h : D3 w v ss) {i : Nat} {s : A4} (hs : ss[i]? = some s) :
 ∃ b off cap, v = .slice (some ⟨b, off, none⟩) ss.length cap ∧ w.cell? ⟨b, off + i, none⟩ = some s.val ∧ ss.length ≤ cap ∧ cap ≤ maxLen := by
 obtain ⟨ao, cap, e, h1, h2, h3, h4⟩ := h.row
 have hl : i < ss.length := (gL hs)
 obtain ⟨b, off, rfl, h5⟩ := h4 (by rw [List.length_map]; omega)
 have h6 := h5 i [s.val] (by rw [List.getElem?_map, hs]; rfl) 0 (by omega)
 exact ⟨b, off, cap, by rw [e, List.length_map], by simpa using h6, by rw [List.length_map] at h1; exact h1, h2⟩
theorem D3.v {w : World} {v : Value} {ss : List A4} (h : D3 w v ss) {i : Nat} {s : A4} (hs : ss[i]? = some s) : ∃ sb ob, Gc w s.val s.l sb ob := by
 have hm := mG hs
 unfold A4.val
 cases hb : s.b with
 | none => rw [h.nil s hm hb]; exact ⟨_, _, Gc.nil w⟩
 | some b =>
  obtain ⟨ob, ho⟩ := h.sets s hm b hb
  exact ⟨_, _, ho.v⟩
def I7 (ss : List A4) (i : Int) : List Int := if 0 ≤ i then ((ss[i.toNat]?).map A4.l).getD [] else []
def G6 (ss : List A4) (is : List Int) : List Int := is.foldl (fun acc i => (I7 ss i).foldl Cq acc) []
theorem Le {ss : List A4} {is : List Int} {k : Nat} {i : Int} (h : is[k]? = some i) : G6 ss (is.take (k + 1)) = (I7 ss i).foldl Cq (G6 ss (is.take k)) := by
 unfold G6
 rw [List.take_add_one, h]
 simp
theorem Zf {w : World} {tb : Nat} {T : E1} (hT : Ia w) (h : Ct w tb T) (hn : T.ss.length = T.ks.length) {v : Value} {is : List Int} (hi : A9 w v is) :
 Calls Tryz.prog 77 #[.pointer (some ⟨tb, 0, none⟩), v] w fun e w' => ∃ u, e = .returned u ∧ Al w' w.heap.size u (G6 T.ss is) ∧ Ch No w w' := by
 have hof := sof (A9.nil w)
 have HT := Aa hT
 have H := Aa h
 have HI := Aa hi
 have HN := Aa hn
 obtain ⟨ao, cap, rfl, hcap, hmax, hnc, hcell⟩ := hi
 obtain ⟨len, Av⟩ := Ax is.length
 rw [Av] at hcap hcell HI ⊢
 unfold maxLen at hmax
 have HL := Aa Av
 have HC := Aa hcell
 obtain ⟨sa, sc, es, hsc, hsm⟩ := h.sets.slice
 unfold maxLen at hsm
 have ES := Aa es
 have hsl : T.ss.length ≤ 9223372036854775807 := by omega
 clear hT h Av hnc hcell hn es
 go_in
 go_wp2_with fail
 refine hof.mono ?_
 rintro e w1 ⟨u, rfl, hs, hc1⟩
 obtain ⟨sb, ob, rfl, hs, hr, hr'⟩ := hs.openIt
 go_wp2
 go_loopg [7, 11] len (fun g s7 s11 wr => ∃ (k : Nat) (ob : Option Nat), k ≤ len ∧ len - k ≤ g ∧ s11 = .int .i64 k ∧ Br wr sb (G6 T.ss (is.take k)) ob ∧ Ch No w wr ∧ (∀ b, ob = some b → w.heap.size ≤ b))
 case atStart => exact ⟨0, ob, Nat.zero_le _, by omega, rfl, hs, hc1, fun b hb => (hr' b hb).1⟩
 case round =>
  obtain ⟨k, ob, hk, hg, rfl, hset, hch, hob⟩ := hrel
  cases hd : decide (k < len) with
  | false =>
   have hli := X6 (HT.out.no hch) hset.v
   clear hs
   go_wp2_with fail
   refine hli.mono ?_
   rintro e w2 ⟨u2, rfl, hu2, hc2⟩
   go_wp2
   go_ret
   have hkl : ¬ k < len := by simpa using hd
   rw [List.take_of_length_le (by have := HL.out; omega)] at hu2
   exact ⟨_, rfl, hu2.base hch.size, hch.trans hc2⟩
  | true =>
   have hkl : k < len := by simpa using hd
   obtain ⟨b, off, rfl, hc⟩ := HC.out (by omega)
   obtain ⟨x, hx⟩ := gE (l := is) (i := k) (by have := HL.out; omega)
   have hq := Ae (hc k x hx) hch (fun _ _ h => h)
   have HX := Aa hx
   have htab := H.out.no hch
   clear hs hc hx
   cases hrw : Ib T.ks x with
   | none =>
    have ht := Ld htab (Ic hrw)
    have HR := Aa (Ic hrw)
    clear hrw htab
    go_wp2_with fail
    refine ht.mono ?_
    rintro e w2 ⟨rfl, rfl⟩
    go_wp2
    go_roundg (len - k - 1)
    case rel =>
     refine ⟨k + 1, ob, by omega, by omega, by go_num, ?_, hch, hob⟩
     rw [Le HX.out]
     have e0 : I7 T.ss x = [] := by
      unfold I7
      by_cases h0 : 0 ≤ x
      {rw [if_pos h0, List.getElem?_eq_none (by have := HN.out; have := HR.out; omega)]; rfl}
      {rw [if_neg h0]}
     rw [e0]
     exact hset
    case measure => omega
   | some kd =>
    obtain ⟨n, rfl, hkn⟩ := Id hrw
    have ht := Fk htab hkn
    have hnl := (gL hkn)
    obtain ⟨s, hs⟩ := gE (l := T.ss) (i := n) (by have := HN.out; omega)
    have hns : n < T.ss.length := (gL hs)
    obtain ⟨b2, off2, cap2, e2, hc2, _, _⟩ := htab.sets.cell hs
    obtain ⟨tsb, tob, hv⟩ := htab.sets.v hs
    have c2 := Ab htab.blk 2
    rw [e2] at c2
    have hme := Td (HT.out.no hch) hset hv
    have HS := Aa hs
    have HB := Aa (Ac htab.blk)
    clear hrw htab hkn hs e2 hv
    go_wp2_with fail
    refine ht.mono ?_
    rintro e w2 ⟨rfl, rfl⟩
    go_wp2_with fail
    refine hme.mono ?_
    rintro e w2 ⟨u2, ob2, rfl, _, hset2, hch2, hob2⟩
    go_wp2
    go_roundg (len - k - 1)
    case rel =>
     refine ⟨k + 1, ob2, by omega, by omega, by go_num, ?_, hch.trans' hch2 (fun j o ho h => ?_), ?_⟩
     {rw [Le HX.out]
      have e0 : I7 T.ss (n : Int) = s.l := by
       unfold I7
       rw [if_pos (by omega)]
       simp [HS.out]
      rw [e0]
      exact hset2}
     {have := Ac ho
      rcases h with h | h
      {omega}
      {have := hob _ h; omega}}
     {rintro b rfl
      rcases hob2 with h | ⟨g, h, hg⟩
      {exact hob b h.symm}
      {cases h
       have := hch.size
       omega}}
    case measure => omega
end Go.Proofs.YtgjpgfedlgdjhaaGreatDoor
end
section
namespace Gr
inductive Reach (up : Nat → List Nat) : Nat → Nat → Prop
 | one {i j} : j ∈ up i → Reach up i j
 | step {i j k} : j ∈ up i → Reach up j k → Reach up i k
theorem Reach.trans {up : Nat → List Nat} {i j k : Nat} (h : Reach up i j) (h' : Reach up j k) : Reach up i k := by
 induction h with
 | one h => exact .step h h'
 | step h _ ih => exact .step h (ih h')
theorem Reach.snoc {up : Nat → List Nat} {i j k : Nat} (h : Reach up i j) (h' : k ∈ up j) : Reach up i k := h.trans (.one h')
theorem Reach.lt {up : Nat → List Nat} {n : Nat} (hu : ∀ i, ∀ j ∈ up i, j < n) {i j : Nat} (h : Reach up i j) : j < n := by
 induction h with
 | one h => exact hu _ _ h
 | step _ _ ih => exact ih
theorem Reach.mem_of {up : Nat → List Nat} {S : Nat → Prop} (hS : ∀ i, S i → ∀ j ∈ up i, S j) {i j : Nat} (h : Reach up i j) (hi : S i) : S j := by
 induction h with
 | one h => exact hS _ hi _ h
 | step h _ ih => exact ih (hS _ hi _ h)
def pick (n : Nat) (up : Nat → List Nat) (done : List Nat) : Option Nat :=
 (List.range n).find? (fun i => !done.contains i && (up i).all (fun j => done.contains j))
inductive Ord (n : Nat) (up : Nat → List Nat) : List Nat → Prop
 | nil : Ord n up []
 | snoc {l i} : Ord n up l → i < n → i ∉ l → (∀ j ∈ up i, j ∈ l) → Ord n up (l ++ [i])
theorem Ord.lt {n : Nat} {up : Nat → List Nat} {l : List Nat} (h : Ord n up l) : ∀ i ∈ l, i < n := by
 induction h with
 | nil => simp
 | snoc _ h1 _ _ ih =>
  intro i hi
  rcases List.mem_append.1 hi with hi | hi
  {exact ih i hi}
  {simp at hi; omega}
theorem Ord.nodup {n : Nat} {up : Nat → List Nat} {l : List Nat} (h : Ord n up l) : l.Nodup := by
 induction h with
 | nil => simp
 | snoc _ _ h2 _ ih =>
  rw [List.nodup_append]
  exact ⟨ih, by simp, fun a ha b hb => by simp at hb; subst hb; intro e; subst e; exact h2 ha⟩
theorem Ord.closed {n : Nat} {up : Nat → List Nat} {l : List Nat} (h : Ord n up l) : ∀ i ∈ l, ∀ j ∈ up i, j ∈ l := by
 induction h with
 | nil => simp
 | snoc _ _ _ h3 ih =>
  intro i hi j hj
  rcases List.mem_append.1 hi with hi | hi
  {exact List.mem_append.2 (.inl (ih i hi j hj))}
  {simp at hi; subst hi; exact List.mem_append.2 (.inl (h3 j hj))}
theorem Ord.reach {n : Nat} {up : Nat → List Nat} {l : List Nat} (h : Ord n up l) {i j : Nat} (hi : i ∈ l) (hr : Reach up i j) : j ∈ l :=
 hr.mem_of (S := (· ∈ l)) (fun i hi j hj => h.closed i hi j hj) hi
theorem Ord.noring {n : Nat} {up : Nat → List Nat} {l : List Nat} (h : Ord n up l) : ∀ i ∈ l, ¬ Reach up i i := by
 induction h with
 | nil => simp
 | @snoc l i h h1 h2 h3 ih =>
  intro k hk hr
  rcases List.mem_append.1 hk with hk | hk
  {exact ih k hk hr}
  {simp at hk; subst hk
   cases hr with
   | one h => exact h2 (h3 _ h)
   | step h' h'' => exact h2 (h.reach (h3 _ h') h'')}
theorem least {up : Nat → List Nat} (hno : ∀ i, ¬ Reach up i i) : ∀ (m : Nat) (S : List Nat), S.length ≤ m → S ≠ [] → ∃ x ∈ S, ∀ y ∈ S, ¬ Reach up x y := by
 classical
 intro m
 induction m with
 | zero => intro S h hne; exact absurd (List.length_eq_zero_iff.1 (by omega)) hne
 | succ m ih =>
  intro S h hne
  obtain ⟨x, hx⟩ := List.exists_mem_of_ne_nil S hne
  by_cases he : ∃ y ∈ S, Reach up x y
  {obtain ⟨y, hy, hxy⟩ := he
   have hlt : (S.filter (fun z => decide (Reach up x z))).length < S.length := by
    rw [← List.countP_eq_length_filter]
    rcases Nat.lt_or_ge (S.countP (fun z => decide (Reach up x z))) S.length with h' | h'
    {exact h'}
    {have := List.countP_le_length (p := fun z => decide (Reach up x z)) (l := S)
     have h3 := List.countP_eq_length.1 (Nat.le_antisymm this h') x hx
     exact absurd (by simpa using h3) (hno x)}
   obtain ⟨z, hz, hz'⟩ := ih (S.filter (fun z => decide (Reach up x z))) (by omega) (by
    intro e
    have : y ∈ S.filter (fun z => decide (Reach up x z)) := List.mem_filter.2 ⟨hy, by simpa using hxy⟩
    rw [e] at this; cases this)
   have hz2 := List.mem_filter.1 hz
   refine ⟨z, hz2.1, fun u hu hzu => hz' u (List.mem_filter.2 ⟨hu, ?_⟩) hzu⟩
   have : Reach up x z := by simpa using hz2.2
   simpa using this.trans hzu}
  {exact ⟨x, hx, fun y hy h => he ⟨y, hy, h⟩⟩}
theorem pick_some {n : Nat} {up : Nat → List Nat} {done : List Nat} {i : Nat} (h : pick n up done = some i) : i < n ∧ i ∉ done ∧ ∀ j ∈ up i, j ∈ done := by
 unfold pick at h
 have h1 := List.find?_some h
 have h2 := List.mem_of_find?_eq_some h
 simp at h1 h2
 exact ⟨h2, h1.1, h1.2⟩
theorem pick_none {n : Nat} {up : Nat → List Nat} {done : List Nat} (h : pick n up done = none) {i : Nat} (hi : i < n) (hd : i ∉ done) : ∃ j ∈ up i, j ∉ done := by
 unfold pick at h
 rw [List.find?_eq_none] at h
 have := h i (List.mem_range.2 hi)
 simp at this
 exact this hd
theorem all_done {n : Nat} {up : Nat → List Nat} (hu : ∀ i, ∀ j ∈ up i, j < n) (hno : ∀ i, i < n → ¬ Reach up i i) {done : List Nat} (h : pick n up done = none) : ∀ i, i < n → i ∈ done := by
 intro i hi
 by_cases hd : i ∈ done
 {exact hd}
 exfalso
 have hno' : ∀ i, ¬ Reach up i i := fun i hr => hno i (hr.lt hu) hr
 obtain ⟨x, hx, hx'⟩ := least hno' _ ((List.range n).filter (fun k => !done.contains k)) (Nat.le_refl _) (by
  intro e
  have : i ∈ (List.range n).filter (fun k => !done.contains k) := List.mem_filter.2 ⟨List.mem_range.2 hi, by simpa using hd⟩
  rw [e] at this; cases this)
 have h1 := List.mem_filter.1 hx
 obtain ⟨j, hj, hjd⟩ := pick_none h (List.mem_range.1 h1.1) (by simpa using h1.2)
 exact hx' j (List.mem_filter.2 ⟨List.mem_range.2 (hu _ _ hj), by simpa using hjd⟩) (.one hj)
def order (n : Nat) (up : Nat → List Nat) : Nat → List Nat → List Nat
 | 0, done => done
 | m + 1, done => match pick n up done with
  | some i => order n up m (done ++ [i])
  | none => done
theorem order_ord {n : Nat} {up : Nat → List Nat} : ∀ (m : Nat) (done : List Nat), Ord n up done → Ord n up (order n up m done)
 | 0, done, h => h
 | m + 1, done, h => by
  unfold order
  cases hp : pick n up done with
  | none => exact h
  | some i =>
   obtain ⟨h1, h2, h3⟩ := pick_some hp
   exact order_ord m _ (.snoc h h1 h2 h3)
theorem nodup_sub {α : Type} [DecidableEq α] : ∀ (l m : List α), l.Nodup → (∀ x ∈ l, x ∈ m) → l.length ≤ m.length
 | [], m, _, _ => Nat.zero_le _
 | x :: l, m, hd, hl => by
  have hx := hl x (by simp)
  have h1 := List.nodup_cons.1 hd
  have := nodup_sub l (m.erase x) h1.2 (fun y hy => (List.mem_erase_of_ne (by intro e; subst e; exact h1.1 hy)).2 (hl y (by simp [hy])))
  rw [List.length_erase_of_mem hx] at this
  have : 0 < m.length := List.length_pos_of_mem hx
  simp; omega
theorem nodup_len {n : Nat} {l : List Nat} (hd : l.Nodup) (hl : ∀ i ∈ l, i < n) : l.length ≤ n := by
 have := nodup_sub l (List.range n) hd (fun i hi => List.mem_range.2 (hl i hi))
 simpa using this
theorem order_none {n : Nat} {up : Nat → List Nat} : ∀ (m : Nat) (done : List Nat), Ord n up done → n ≤ m + done.length → pick n up (order n up m done) = none
 | 0, done, h, hm => by
  unfold order
  cases hp : pick n up done with
  | none => rfl
  | some i =>
   obtain ⟨h1, h2, h3⟩ := pick_some hp
   have := nodup_len (Ord.snoc h h1 h2 h3).nodup (Ord.snoc h h1 h2 h3).lt
   simp at this
   omega
 | m + 1, done, h, hm => by
  unfold order
  cases hp : pick n up done with
  | none => exact hp
  | some i =>
   obtain ⟨h1, h2, h3⟩ := pick_some hp
   exact order_none m _ (.snoc h h1 h2 h3) (by simp; omega)
end Gr
end
section
namespace Go.Proofs.YtgjpgfedlgdjhaaGreatDoor
open Go.RowKit Go.W Gr
theorem Ti {a w : World} (h : Ch No a w) : ∀ b o, b < a.heap.size → w.frozen? ⟨b, o, none⟩ = a.frozen? ⟨b, o, none⟩ := by
 intro b o hb
 have ho : a.heap[b]? = some a.heap[b] := Array.getElem?_eq_getElem hb
 have := h.keep _ _ ho (fun h => h)
 simp [World.frozen?, ho, this]
theorem Qd {a w : World} (h : Ch No a w) : (∀ b o, b < a.heap.size → w.cell? ⟨b, o, none⟩ = a.cell? ⟨b, o, none⟩) ∧ (∀ b, b < a.heap.size → b < w.heap.size) := by
 refine ⟨fun b o hb => ?_, fun b hb => Nat.lt_of_lt_of_le hb h.size⟩
 have ho : a.heap[b]? = some a.heap[b] := Array.getElem?_eq_getElem hb
 exact World.cell?_of_block (by rw [ho]; exact h.keep _ _ ho (fun h => h))
theorem Wl (z : Value) (n : Nat) : madeCells #[z] n = (List.replicate n z).toArray := by
 apply Array.ext
 {simp [madeCells]}
 {intro i h1 h2
  simp [madeCells, Nat.mod_one]}
def Az (cs : List Aj) (i : Nat) : List Nat := match cs[i]? with | some c => c.ups.filterMap (As cs) | none => []
def B2 (cs : List Aj) : Prop := ∀ i c, cs[i]? = some c → V9 cs i c
theorem V9.up {cs : List Aj} {i : Nat} {c : Aj} (h : V9 cs i c) : ∀ x ∈ c.ups, ∃ j, As cs x = some j := by
 intro x hx
 unfold Aj.ups at hx
 rcases List.mem_append.1 hx with hx | hx
 {cases hs : c.sup.toList.isEmpty with
  | true => rw [hs] at hx; simp at hx
  | false =>
   rw [hs] at hx
   simp at hx; subst hx
   obtain ⟨s, _, h1, _⟩ := h.sup hs
   exact ⟨s, h1⟩}
 {obtain ⟨k, hk, rfl⟩ := List.mem_iff_getElem.1 hx
  obtain ⟨⟨j, _, h1, _⟩, _⟩ := h.faces k _ hk (List.getElem?_eq_getElem hk)
  exact ⟨j, h1⟩}
theorem G7 {cs : List Aj} {i : Nat} {c : Aj} (hi : cs[i]? = some c) (h : V9 cs i c) : L0 cs c = (Az cs i).map (fun j : Nat => (j : Int)) := by
 unfold L0 Az
 rw [hi]
 show c.ups.map (Cs cs) = (c.ups.filterMap (As cs)).map (fun j : Nat => (j : Int))
 have := h.up
 revert this
 generalize c.ups = l
 intro hl
 induction l with
 | nil => rfl
 | cons x l ih =>
  obtain ⟨j, hj⟩ := hl x (by simp)
  rw [List.map_cons, List.filterMap_cons, hj, ih (fun y hy => hl y (by simp [hy]))]
  simp [Cs, hj]
theorem Dq (cs : List Aj) : ∀ i, ∀ j ∈ Az cs i, j < cs.length := by
 intro i j hj
 unfold Az at hj
 cases hi : cs[i]? with
 | none => rw [hi] at hj; cases hj
 | some c =>
  rw [hi] at hj
  obtain ⟨x, _, hx⟩ := List.mem_filterMap.1 hj
  obtain ⟨d, hd, _⟩ := C5 hx
  exact (gL hd)
theorem Nc {w : World} {ao : Option Addr} {n cap : Nat} {l : List Int} (h : A9 w (.slice ao n cap) l) {k : Nat} {x : Int} (hk : l[k]? = some x) :
 ∃ b off, ao = some ⟨b, off, none⟩ ∧ w.cell? ⟨b, off + k, none⟩ = some (.int .i64 x) := by
 obtain ⟨ao', cap', e, h1, h2, _, h3⟩ := h
 cases e
 obtain ⟨b, off, rfl, h4⟩ := h3 (by have := (gL hk); omega)
 exact ⟨b, off, rfl, h4 k x hk⟩
def okI (cs : List Aj) (i : Nat) : Prop := ∀ c, cs[i]? = some c → V9 cs i c
def Bt (cs : List Aj) : Option Nat → Prop
 | some i => i < cs.length ∧ (¬ okI cs i ∧ (∀ j, j < i → okI cs j) ∨ B2 cs ∧ Gr.Reach (Az cs) i i ∧ ∀ j, j < i → ¬ Gr.Reach (Az cs) j j)
 | none => B2 cs ∧ ∀ i, i < cs.length → ¬ Gr.Reach (Az cs) i i
theorem B2.ok {cs : List Aj} (h : B2 cs) (i : Nat) : okI cs i := fun c hc => h i c hc
theorem Wm {cs : List Aj} (h : ∀ i, i < cs.length → okI cs i) : B2 cs := fun i c hc => h i (gL hc) c hc
theorem Bt.uniq {cs : List Aj} {a b : Option Nat} (h : Bt cs a) (h' : Bt cs b) : a = b := by
 cases a with
 | none => cases b with
  | none => rfl
  | some j =>
   exfalso
   rcases h'.2 with ⟨h1, _⟩ | ⟨_, h1, _⟩
   {exact h1 (h.1.ok j)}
   {exact h.2 j h'.1 h1}
 | some i => cases b with
  | none =>
   exfalso
   rcases h.2 with ⟨h1, _⟩ | ⟨_, h1, _⟩
   {exact h1 (h'.1.ok i)}
   {exact h'.2 i h.1 h1}
  | some j =>
   congr 1
   rcases Nat.lt_trichotomy i j with hij | hij | hij
   {exfalso
    rcases h.2 with ⟨h1, _⟩ | ⟨hs, h1, _⟩ <;> rcases h'.2 with ⟨g1, g2⟩ | ⟨gs, g1, g2⟩
    {exact h1 (g2 i hij)}
    {exact h1 (gs.ok i)}
    {exact g1 (hs.ok j)}
    {exact g2 i hij h1}}
   {exact hij}
   {exfalso
    rcases h.2 with ⟨h1, h2⟩ | ⟨hs, h1, h2⟩ <;> rcases h'.2 with ⟨g1, g2⟩ | ⟨gs, g1, g2⟩
    {exact g1 (h2 j hij)}
    {exact h1 (gs.ok i)}
    {exact g1 (hs.ok j)}
    {exact h2 j hij g1}}
def G8 (cs : List Aj) (o : Option Nat) : Int × Int × Int := match o with
 | some i => match cs[i]? with
  | some c => (11, c.line, c.col)
  | none => (11, 0, 0)
 | none => (0, 0, 0)
theorem Lf {cs : List Aj} {i : Nat} {c : Aj} (h : cs[i]? = some c) : G8 cs (some i) = (11, c.line, c.col) := by simp [G8, h]
def Cr (f : Int × Int × Int) : Value := .agg #[.int .i64 f.1, .int .i64 f.2.1, .int .i64 f.2.2]
theorem Ev {w : World} {b : Nat} {x0 x1 x2 : Value} {t : TypeId} (h : w.heap[b]? = some (.cells #[x0, x1, x2] t (0, 0))) (v0 v1 v2 : Value) :
 ∃ wf, ((w.setCell ⟨b, 0, none⟩ v0).setCell ⟨b, 1, none⟩ v1).setCell ⟨b, 2, none⟩ v2 = wf ∧ wf.heap[b]? = some (.cells #[v0, v1, v2] t (0, 0)) ∧ Ch (fun k _ => k = b) w wf := by
 refine ⟨_, rfl, ?_, (((Ch.refl _ _).setCell (fun _ _ => rfl) _).setCell (fun _ _ => rfl) _).setCell (fun _ _ => rfl) _⟩
 rw [Af (Af (Af h 0 v0) 1 v1) 2 v2]
 rfl
end Go.Proofs.YtgjpgfedlgdjhaaGreatDoor
end
end
section
namespace Go.Proofs.YtgjpgfedlgdjhaaGreatDoor
open Go.RowKit Go.W
def AbX (cs : List Aj) (x : Int) (k : Nat) : Prop := 0 ≤ x ∧ x < cs.length ∧ (x = k ∨ Gr.Reach (Az cs) x.toNat k)
def AbP (cs : List Aj) (is : List Int) (k : Nat) : Prop := ∃ x ∈ is, AbX cs x k
open Classical in
/-- those of the first n -/
noncomputable def Gz (cs : List Aj) (is : List Int) (n : Nat) : List Int := ((List.range n).filter (fun j => decide (AbP cs is j))).map (fun j : Nat => (j : Int))
theorem Fl {cs : List Aj} {is : List Int} {n : Nat} {z : Int} : z ∈ Gz cs is n ↔ ∃ k : Nat, z = k ∧ k < n ∧ AbP cs is k := by
 unfold Gz
 constructor
 {intro h
  obtain ⟨k, hk, rfl⟩ := List.mem_map.1 h
  have := List.mem_filter.1 hk
  exact ⟨k, rfl, by simpa using this.1, by simpa using this.2⟩}
 {rintro ⟨k, rfl, h1, h2⟩
  exact List.mem_map.2 ⟨k, List.mem_filter.2 ⟨by simpa using h1, by simpa using h2⟩, rfl⟩}
theorem Ju (cs : List Aj) (is : List Int) (n : Nat) : (Gz cs is n).Pairwise (· < ·) := by
 unfold Gz
 rw [List.pairwise_map]
 refine List.Pairwise.filter _ ((List.pairwise_lt_range).imp ?_)
 intro a b h; omega
end Go.Proofs.YtgjpgfedlgdjhaaGreatDoor
end
section
section
namespace Go.Proofs.YtgjpgfedlgdjhaaGreatDoor
open Go.RowKit Go.W
def Hj (cs : List Aj) : List Nat := Gr.order cs.length (Az cs) cs.length []
def Afb (cs : List Aj) : List Int := (Hj cs).map (fun j : Nat => (j : Int))
def A3 (cs : List Aj) : Prop := ∀ i, i < cs.length → ¬ Gr.Reach (Az cs) i i
def Gd (cs : List Aj) (d : List Nat) : Prop := Gr.Ord cs.length (Az cs) d ∧ Hj cs = Gr.order cs.length (Az cs) (cs.length - d.length) d
theorem Gd.start (cs : List Aj) : Gd cs [] := ⟨.nil, by unfold Hj; simp⟩
theorem Gd.len {cs : List Aj} {d : List Nat} (h : Gd cs d) : d.length ≤ cs.length := Gr.nodup_len h.1.nodup h.1.lt
theorem Gd.step {cs : List Aj} {d : List Nat} (h : Gd cs d) {i : Nat} (hp : Gr.pick cs.length (Az cs) d = some i) : Gd cs (d ++ [i]) := by
 obtain ⟨h1, h2, h3⟩ := Gr.pick_some hp
 have hn := Gr.Ord.snoc h.1 h1 h2 h3
 have Av := Gr.nodup_len hn.nodup hn.lt
 rw [List.length_append, List.length_singleton] at Av
 refine ⟨hn, ?_⟩
 rw [h.2, show cs.length - d.length = (cs.length - (d ++ [i]).length) + 1 from by rw [List.length_append, List.length_singleton]; omega, Gr.order, hp]
def R4 (cs : List Aj) (d : List Nat) (i : Nat) : Prop := i ∉ d ∧ ∀ j ∈ Az cs i, j ∈ d
theorem Zg {cs : List Aj} {d : List Nat} {i : Nat} (hi : i < cs.length) (hr : R4 cs d i) (hno : ∀ j, j < i → ¬ R4 cs d j) : Gr.pick cs.length (Az cs) d = some i := by
 unfold Gr.pick
 rw [List.find?_range_eq_some]
 refine ⟨by simp only [Bool.and_eq_true, Bool.not_eq_true', List.all_eq_true]; exact ⟨by simpa using hr.1, fun j hj => by simpa using hr.2 j hj⟩, by simpa using hi, fun j hj => ?_⟩
 have := hno j hj
 unfold R4 at this
 simp only [Bool.not_eq_true', Bool.and_eq_false_iff, Bool.not_eq_false']
 by_cases h : j ∈ d
 {exact .inl (by simpa using h)}
 {right
  rw [Bool.eq_false_iff]
  intro h2
  rw [List.all_eq_true] at h2
  exact this ⟨h, fun x hx => by simpa using h2 x hx⟩}
theorem Zh {cs : List Aj} {d : List Nat} (hno : ∀ j, j < cs.length → ¬ R4 cs d j) : Gr.pick cs.length (Az cs) d = none := by
 cases hp : Gr.pick cs.length (Az cs) d with
 | none => rfl
 | some i =>
  obtain ⟨h1, h2, h3⟩ := Gr.pick_some hp
  exact absurd ⟨h2, h3⟩ (hno i h1)
def Hk (l : List Int) (n : Int) (e : Ending) : Prop := ∃ i : Int, e = .returned (.int .i64 i) ∧ decide (0 ≤ i) = decide (n ∈ l)
theorem Hk.yes {l : List Int} {n : Int} (k : Nat) (h : n ∈ l) : Hk l n (.returned (.int .i64 k)) := ⟨k, rfl, by simp [h]⟩
theorem Hk.no {l : List Int} {n : Int} (h : n ∉ l) : Hk l n (.returned (.int .i64 (-1))) := ⟨-1, rfl, by simp [h]⟩
theorem Wn {w : World} {v : Value} {l : List Int} (h : A9 w v l) (n : Int) :
 Calls Tryz.prog 144 #[v, .int .i64 n] w fun e w' => Hk l n e ∧ w = w' := by
 obtain ⟨ao, cap, rfl, hcap, hmax, hnc, hcell⟩ := h
 obtain ⟨len, Av⟩ := Ax l.length
 rw [Av] at hcap hcell ⊢
 unfold maxLen at hmax
 have HL := Aa Av
 clear Av
 go_in
 go_wp2_with fail
 go_loop [8] (fun s8 => ∃ k : Nat, k ≤ len ∧ s8 = .int .i64 k ∧ Hid (¬ n ∈ l.take k)) (fun s8 => len - (intOf s8).toNat)
 case atStart => exact ⟨0, Nat.zero_le _, rfl, Aa (by simp)⟩
 case round =>
  obtain ⟨k, hk, rfl, HN⟩ := hrel
  cases hd : decide (k < len) with
  | true =>
   have hkl : k < len := by simpa using hd
   obtain ⟨b, off, rfl, hc⟩ := hcell (by omega)
   obtain ⟨x, hx⟩ := gE (l := l) (i := k) (by have := HL.out; omega)
   have hq := hc k x hx
   have HX := Aa hx
   clear hc hcell hx
   cases e0 : (n == x) with
   | true =>
    go_wp2
    go_ret
    have hxn : n = x := by simpa using e0
    exact ⟨.yes k (by rw [hxn]; exact mG HX.out), rfl⟩
   | false =>
    go_wp2_with fail
    go_round
    case rel =>
     have hxn : ¬ n = x := by simpa using e0
     refine ⟨k + 1, by omega, by go_num, Aa fun hm => ?_⟩
     rw [List.take_add_one, HX.out] at hm
     rcases List.mem_append.1 hm with hm | hm
     {exact HN.out hm}
     {simp at hm; exact hxn hm}
    case measure => simp [intOf]; omega
  | false =>
   have hkl : ¬ k < len := by simpa using hd
   go_wp2
   go_ret
   have := HN.out
   rw [List.take_of_length_le (by have := HL.out; omega)] at this
   exact ⟨.no this, rfl⟩
theorem Jv {w : World} {v : Value} {l : List Int} (h : A9 w v l) (n : Int) :
 Calls Tryz.prog 106 #[v, .int .i64 n] w fun e w' => e = .returned (.bool (decide (n ∈ l))) ∧ w = w' := by
 have hi := Wn h n
 clear h
 go_in
 go_wp2_with fail
 refine hi.mono ?_
 rintro e w' ⟨⟨i, rfl, hv⟩, rfl⟩
 go_wp2
 go_ret
 exact ⟨rfl, rfl⟩
theorem Cz.clss {w : World} {pv : Value} {cs : List Aj} (h : Cz w pv cs) (c : Aj) {i : Nat} (hi : cs[i]? = some c) : Ah w (.slice c.fa c.faces.length c.fc) c.faces := by
 obtain ⟨cv, m0, m1, m2, m3, m4, m5, m6, m7, m8, rfl, h⟩ := h
 exact h.faces c (mG hi)
theorem Al.shape {w : World} {base : Nat} {v : Value} {l : List Int} (h : Al w base v l) : ∃ fa fc, v = .slice fa l.length fc := by
 obtain ⟨fa, fc, e, _⟩ := h.at_
 exact ⟨fa, fc, e⟩
def Sv (cs : List Aj) : Prop := ∀ c ∈ cs, c.name.size ≤ maxLen ∧ c.sup.size ≤ maxLen ∧ ∀ f ∈ c.faces, f.size ≤ maxLen
structure okK (cs : List Aj) (c : Aj) : Prop where
 sup : c.sup.toList.isEmpty = false → ∃ s d, As cs c.sup = some s ∧ cs[s]? = some d ∧ d.face = false
 faces : X7 cs c c.faces.length
theorem L2 {cs : List Aj} {i : Nat} {c : Aj} : V9 cs i c ↔ As cs c.name = some i ∧ okK cs c :=
 ⟨fun h => ⟨h.own, h.sup, h.faces⟩, fun h => ⟨h.1, h.2.sup, h.2.faces⟩⟩
def Ed (cs : List Aj) (c : Aj) : Int := if c.sup.toList.isEmpty then -1 else Cs cs c.sup
theorem Qe {cs : List Aj} {c : Aj} (h : c.sup.toList.isEmpty = true) : Ed cs c = -1 := by unfold Ed; rw [h]; rfl
theorem Nd {cs : List Aj} {c : Aj} (h : c.sup.toList.isEmpty = false) : Ed cs c = Cs cs c.sup := by unfold Ed; rw [h]; rfl
def Wo (cs : List Aj) (c : Aj) (w : World) (e : Ending) (w' : World) : Prop :=
 Ch No w w' ∧ (okK cs c ∧ (∃ fa fc, e = .returned (.tuple #[.agg #[.string c.name, .bool c.face, .int .i64 (Ed cs c), .slice fa c.faces.length fc], .bool true]) ∧ Al w' w.heap.size (.slice fa c.faces.length fc) (c.faces.map (Cs cs))) ∨
  ¬ okK cs c ∧ ∃ (z : Int) (xa : Option Addr) (xn xc : Nat), e = .returned (.tuple #[.agg #[.string c.name, .bool c.face, .int .i64 z, .slice xa xn xc], .bool false]))
def O1 (cs : List Aj) (c : Aj) (k : Nat) : List Int := (c.faces.take k).map (Cs cs)
theorem Pb {cs : List Aj} {c : Aj} {k : Nat} (h : k ≤ c.faces.length) : (O1 cs c k).length = k := by unfold O1; rw [List.length_map, List.length_take]; omega
theorem Tj {cs : List Aj} {c : Aj} {k : Nat} (h : c.faces.length ≤ k) : O1 cs c k = c.faces.map (Cs cs) := by unfold O1; rw [List.take_of_length_le h]
theorem Wp {cs : List Aj} {c : Aj} {k j : Nat} {x : ByteArray} (h : c.faces[k]? = some x) (hf : As cs x = some j) : O1 cs c (k + 1) = O1 cs c k ++ [(j : Int)] := by
 unfold O1
 rw [List.take_add_one, h]
 simp [Dg hf]
theorem Tl {cs : List Aj} {x y : ByteArray} {i : Nat} (h : As cs x = some i) (h' : As cs y = some i) : x = y := by
 obtain ⟨c, hc, h1, _⟩ := C5 h
 obtain ⟨d, hd, h2, _⟩ := C5 h'
 rw [hc] at hd; cases hd
 rw [← h1, ← h2]
theorem Tm {cs : List Aj} {c : Aj} {k j : Nat} {x : ByteArray} (h : X7 cs c k) (hf : As cs x = some j) : (j : Int) ∈ O1 cs c k ↔ x ∈ c.faces.take k := by
 unfold O1
 constructor
 {intro hm
  obtain ⟨y, hy, e⟩ := List.mem_map.1 hm
  obtain ⟨q, hq, rfl⟩ := List.mem_take_iff_getElem.1 hy
  obtain ⟨⟨j', d, h1, _⟩, _⟩ := h q _ (by omega) (List.getElem?_eq_getElem (by omega))
  rw [Dg h1] at e
  have : j' = j := by omega
  subst this
  rw [Tl hf h1]
  exact hy}
 {intro hm
  exact List.mem_map.2 ⟨x, hm, Dg hf⟩}
theorem Wq {cs : List Aj} {c : Aj} {k j : Nat} {x : ByteArray} {d : Aj} (h : X7 cs c k) (hx : c.faces[k]? = some x) (hf : As cs x = some j) (hd : cs[j]? = some d) (hdf : d.face = true) (hn : x ∉ c.faces.take k) : X7 cs c (k + 1) := by
 intro q f hq hqf
 by_cases e : q < k
 {exact h q f e hqf}
 {have : q = k := by omega
  subst this
  rw [hx] at hqf; cases hqf
  refine ⟨⟨j, d, hf, hd, hdf⟩, fun r g hr hg => ?_⟩
  intro e; subst e
  exact hn (List.mem_take_iff_getElem.2 ⟨r, by have := (gL hg); omega, (List.getElem?_eq_some_iff.1 hg).2⟩)}
theorem Zi {cs : List Aj} {c : Aj} {k : Nat} {x : ByteArray} (hx : c.faces[k]? = some x) (hm : x ∈ c.faces.take k) : ¬ X7 cs c c.faces.length := by
 intro h
 obtain ⟨q, hq, e⟩ := List.mem_take_iff_getElem.1 hm
 exact (h k x (gL hx) hx).2 q _ (by omega) (List.getElem?_eq_getElem (by omega)) e
theorem Jw {w : World} {b : Nat} {x0 x1 x2 x3 : Value} {t : TypeId} (h : w.heap[b]? = some (.cells #[x0, x1, x2, x3] t (0, 0))) (v0 v1 v2 v3 : Value) :
 ∃ wf, (((w.setCell ⟨b, 0, none⟩ v0).setCell ⟨b, 1, none⟩ v1).setCell ⟨b, 2, none⟩ v2).setCell ⟨b, 3, none⟩ v3 = wf ∧ wf.heap[b]? = some (.cells #[v0, v1, v2, v3] t (0, 0)) ∧ Ch (fun k _ => k = b) w wf := by
 refine ⟨_, rfl, ?_, ((((Ch.refl _ _).setCell (fun _ _ => rfl) _).setCell (fun _ _ => rfl) _).setCell (fun _ _ => rfl) _).setCell (fun _ _ => rfl) _⟩
 rw [Af (Af (Af (Af h 0 v0) 1 v1) 2 v2) 3 v3]
 rfl
def R5 (ss : List A4) (u : Nat) : Bool := match ss[u]? with | some s => s.b.isNone | none => true
theorem Afc {w : World} {tb bx : Nat} {T : E1} (h : Ct w tb T) (hbx : w.cell? ⟨bx, 0, none⟩ = some (.pointer (some ⟨tb, 0, none⟩))) {u : Nat} {s : A4} (hs : T.ss[u]? = some s) :
 Calls Tryz.prog 110 #[.int .i64 u, .pointer (some ⟨bx, 0, none⟩)] w fun e w' => e = .returned (.bool (R5 T.ss u)) ∧ w = w' := by
 have e0 : R5 T.ss u = s.b.isNone := by unfold R5; rw [hs]
 rw [e0]
 obtain ⟨b2, off2, cap2, e2, hc2, hcap, hmx⟩ := h.sets.cell hs
 have hl := (gL hs)
 unfold maxLen at hmx
 have c2 := Ab h.blk 2
 rw [e2] at c2
 unfold A4.val at hc2
 clear h e2 hs e0
 cases hb : s.b with
 | none =>
  rw [hb] at hc2
  simp only [Option.map_none] at hc2
  go_in
  go_wp2
  go_ret
  exact ⟨rfl, rfl⟩
 | some b =>
  rw [hb] at hc2
  simp only [Option.map_some] at hc2
  go_in
  go_wp2
  go_ret
  exact ⟨rfl, rfl⟩
def Ne (b : Bool) (e : Ending) : Prop := ∃ i : Int, e = .returned (.int .i64 i) ∧ decide (0 ≤ i) = b
theorem Ne.yes (k : Nat) : Ne true (.returned (.int .i64 k)) := ⟨k, rfl, by simp⟩
theorem Ne.no : Ne false (.returned (.int .i64 (-1))) := ⟨-1, rfl, by simp⟩
theorem Wr {w : World} {tb bx : Nat} {T : E1} (h : Ct w tb T) (hbx : w.cell? ⟨bx, 0, none⟩ = some (.pointer (some ⟨tb, 0, none⟩))) {v : Value} {l : List Nat} (hv : A9 w v (l.map (fun j : Nat => (j : Int)))) (hl : ∀ u ∈ l, u < T.ss.length) :
 Calls Tryz.prog 145 #[v, .func (.func 110) #[] #[.pointer (some ⟨bx, 0, none⟩)]] w fun e w' => Ne (l.any (R5 T.ss)) e ∧ w = w' := by
 obtain ⟨ao, cap, rfl, hcap, hmax, hnc, hcell⟩ := hv
 rw [List.length_map] at hcap hcell ⊢
 obtain ⟨len, Av⟩ := Ax l.length
 rw [Av] at hcap hcell ⊢
 unfold maxLen at hmax
 have HL := Aa Av
 have HV := Aa h
 have HU := Aa hl
 obtain ⟨r, hr⟩ := Ax (l.any (R5 T.ss))
 have HR := Aa hr
 rw [hr]
 clear Av hnc h hr hl
 go_in
 go_wp2_with fail
 go_loop [8] (fun s8 => ∃ (k : Nat), k ≤ len ∧ s8 = .int .i64 k ∧ Hid (∀ x ∈ l.take k, R5 T.ss x = false)) (fun s8 => len - (intOf s8).toNat)
 case atStart => exact ⟨0, Nat.zero_le _, rfl, Aa (by simp)⟩
 case round =>
  obtain ⟨k, hk, rfl, HN⟩ := hrel
  cases hd : decide (k < len) with
  | false =>
   go_wp2
   go_ret
   have hkl : ¬ k < len := by simpa using hd
   have := HN.out
   rw [List.take_of_length_le (by have := HL.out; omega)] at this
   have e : r = false := by rw [← HR.out]; simpa using this
   subst e
   exact ⟨.no, rfl⟩
  | true =>
   have hkl : k < len := by simpa using hd
   obtain ⟨b, off, rfl, hc⟩ := hcell (by omega)
   obtain ⟨x, hx⟩ := gE (l := l) (i := k) (by have := HL.out; omega)
   have hq := hc k (x : Int) (by rw [List.getElem?_map, hx]; rfl)
   have hxn := HU.out x (mG hx)
   have HX := Aa hx
   have hcl := Afc HV.out hbx (List.getElem?_eq_getElem hxn)
   clear hc hcell hx
   cases hop : R5 T.ss x with
   | true =>
    rw [hop] at hcl
    have HO := Aa hop
    clear hop
    go_wp2_with fail
    refine hcl.mono ?_
    rintro e w1 ⟨rfl, rfl⟩
    go_wp2
    go_ret
    have e : r = true := by rw [← HR.out]; exact List.any_eq_true.2 ⟨x, mG HX.out, HO.out⟩
    subst e
    exact ⟨.yes k, rfl⟩
   | false =>
    rw [hop] at hcl
    have HO := Aa hop
    clear hop
    go_wp2_with fail
    refine hcl.mono ?_
    rintro e w1 ⟨rfl, rfl⟩
    go_wp2_with fail
    go_round
    case rel =>
     refine ⟨k + 1, by omega, by go_num, Aa ?_⟩
     rw [List.take_add_one, HX.out]
     intro y hy
     rcases List.mem_append.1 hy with hy | hy
     {exact HN.out y hy}
     {simp at hy; subst hy; exact HO.out}
    case measure => simp [intOf]; omega
theorem Pc {w : World} {tb bx : Nat} {T : E1} (h : Ct w tb T) (hbx : w.cell? ⟨bx, 0, none⟩ = some (.pointer (some ⟨tb, 0, none⟩))) {v : Value} {l : List Nat} (hv : A9 w v (l.map (fun j : Nat => (j : Int)))) (hl : ∀ u ∈ l, u < T.ss.length) :
 Calls Tryz.prog 109 #[v, .func (.func 110) #[] #[.pointer (some ⟨bx, 0, none⟩)]] w fun e w' => e = .returned (.bool (l.any (R5 T.ss))) ∧ w = w' := by
 have hi := Wr h hbx hv hl
 clear h hv hl hbx
 go_in
 go_wp2_with fail
 refine hi.mono ?_
 rintro e w' ⟨⟨i, rfl, hv⟩, rfl⟩
 go_wp2
 go_ret
 exact ⟨rfl, rfl⟩
structure Nf (cs : List Aj) (T : E1) : Prop where
 len : T.ks.length = cs.length
 slen : T.ss.length = cs.length
 row : ∀ (i : Nat) (c : Aj) (k : C6), cs[i]? = some c → T.ks[i]? = some k → k.name = c.name ∧ k.face = c.face ∧ k.sup = Ed cs c ∧ k.fs = c.faces.map (Cs cs)
theorem L3 {cs : List Aj} {T : E1} (h : Nf cs T) {i : Nat} {c : Aj} {k : C6} (hc : cs[i]? = some c) (hk : T.ks[i]? = some k) (ho : V9 cs i c) : k.right = (Az cs i).map (fun j : Nat => (j : Int)) := by
 obtain ⟨_, _, h3, h4⟩ := h.row i c k hc hk
 rw [← G7 hc ho]
 unfold C6.right L0 Aj.ups
 rw [h3, h4]
 cases hs : c.sup.toList.isEmpty with
 | true => rw [Qe hs]; simp
 | false =>
  obtain ⟨s, _, hf, _⟩ := ho.sup hs
  rw [Nd hs, Dg hf, if_pos (by omega)]
  simp [Dg hf]
def Jx (cs : List Aj) (ss : List A4) (i : Nat) : Bool := R5 ss i && !(Az cs i).any (R5 ss)
theorem X9 {w : World} {mb n : Nat} {get : ByteArray → Option Nat} (h : A1 Tryz.prog 9 Bx w mb n (Ec get)) {nm : ByteArray} (hn : nm.size ≤ maxLen) {i : Nat} (hf : get nm = some i) :
 (Instr.lookup 142 (.map (some mb)) (.string nm) false).run Tryz.prog w = .ok (.int .i64 (i : Int)) w := by
 have hrun := h.look Gx Tryz.underlying142 (Th w) (Gy hn)
 have e1 : ((Ec get nm).getD (.int .i64 0)) = .int .i64 (i : Int) := by unfold Ec; rw [hf]; rfl
 rw [e1] at hrun
 exact hrun
set_option maxRecDepth 100000 in
set_option maxHeartbeats 4000000 in
theorem Jj {w : World} {tb bx : Nat} {T : E1} {cs : List Aj} (h : Ct w tb T) (hK : Nf cs T) (hg : T.get = As cs) (hsz : Sv cs) (hS : B2 cs) (hsm : Df cs) (hbx : w.cell? ⟨bx, 0, none⟩ = some (.pointer (some ⟨tb, 0, none⟩)))
 {i : Nat} {c : Aj} {k : C6} (hc : cs[i]? = some c) (hk : T.ks[i]? = some k) :
 Calls Tryz.prog 108 #[.agg #[.string k.name, .bool k.face, .int .i64 k.sup, .slice k.fa k.fs.length k.fc], .pointer (some ⟨bx, 0, none⟩)] w fun e w' => e = .returned (.bool (Jx cs T.ss i)) ∧ Ch No w w' := by
 have ho := hS i c hc
 obtain ⟨h1, h2, h3, h4⟩ := hK.row i c k hc hk
 clear h2 h3
 have hfl : k.fs.length ≤ 1000000 := by rw [h4, List.length_map]; have := hsm.2 c (mG hc); omega
 have hil : i < T.ss.length := by rw [hK.slen]; exact (gL hc)
 obtain ⟨s, hs⟩ : ∃ s, T.ss[i]? = some s := ⟨_, List.getElem?_eq_getElem hil⟩
 have hup : ∀ u ∈ Az cs i, u < T.ss.length := fun u hu => by rw [hK.slen]; exact Dq cs i u hu
 have hrk := L3 hK hc hk ho
 obtain ⟨wa, hwa, hkb, hch⟩ := A2 w (.cells #[.string k.name, .bool k.face, .int .i64 k.sup, .slice k.fa k.fs.length k.fc] 147)
 have ht := h.no hch
 have hlk := fun n : Nat => X9 (ht.names.ch ((Ch.refl No wa).drewN n) (fun _ _ h => h)) (nm := k.name) (by rw [h1]; exact (hsz c (mG hc)).1) (i := i) (by rw [hg, h1]; exact ho.own)
 obtain ⟨b2, off2, cap2, e2, hc2, hcap, hmx⟩ := ht.sets.cell hs
 unfold maxLen at hmx
 have k0 := Ab hkb 0
 have c1 := Ab ht.blk 1
 have c2 := Ab ht.blk 2
 rw [e2] at c2
 have hbx' := Ae hbx hch (fun _ _ h => h)
 unfold A4.val at hc2
 have HT := Aa ht
 have HK := Aa hk
 have HRK := Aa hrk
 have HUP := Aa hup
 have HCH := Aa hch
 have HBX := Aa hbx'
 have hz := Ac hkb
 have HO := Aa (show R5 T.ss i = s.b.isNone by unfold R5; rw [hs])
 clear h hg hsz hS hsm hbx ho h1 h4 hrk hup hch hkb e2 ht hs hK hc hk
 cases hb : s.b with
 | some b =>
  rw [hb] at hc2
  simp only [Option.map_some] at hc2
  have HB := Aa hb
  clear hb
  go_in
  go_wp2_with fail
  clear hwa
  go_quiet (fail)
  go_wp2
  go_ret
  refine ⟨Bn ?_, HCH.out.drewN _⟩
  unfold Jx
  rw [HO.out, HB.out]; rfl
 | none =>
  rw [hb] at hc2
  simp only [Option.map_none] at hc2
  have HB := Aa hb
  clear hb
  go_in
  go_wp2_with fail
  clear hwa
  go_quiet (fail)
  go_wp2_with (first | (go_at_call 49; refine (L1 (HT.out.no ((Ch.refl No wa).drewN nq)) HK.out hfl).mono ?_; rintro e w2 ⟨u, rfl, hu, hc3⟩; rw [HRK.out] at hu; have hcf := Pc (HT.out.no (((Ch.refl No wa).drewN nq).trans hc3)) (Ae HBX.out (((Ch.refl No wa).drewN nq).trans hc3) (fun _ _ h => h)) hu.at_ HUP.out; have HC3 := Aa hc3; clear hu hc3) | (go_at_call 109; refine hcf.mono ?_; rintro e w3 ⟨rfl, rfl⟩))
  go_ret
  refine ⟨Bn ?_, (HCH.out.drewN _).trans HC3.out⟩
  unfold Jx
  rw [HO.out, HB.out]; rfl
def Hl (cs : List Aj) (ss : List A4) : Option Nat := (List.range cs.length).find? (Jx cs ss)
def Zj (o : Option Nat) : Int := match o with | some i => (i : Int) | none => -1
def Qf (cs : List Aj) (ss : List A4) (w : World) (e : Ending) (w' : World) : Prop := e = .returned (.int .i64 (Zj (Hl cs ss))) ∧ Ch No w w'
theorem Ws {cs : List Aj} {ss : List A4} {k : Nat} (hk : k < cs.length) (h : Jx cs ss k = true) (hno : ∀ j, j < k → Jx cs ss j = false) : Hl cs ss = some k := by
 unfold Hl
 rw [List.find?_range_eq_some]
 exact ⟨h, by simpa using hk, fun j hj => by rw [hno j hj]; rfl⟩
theorem Zk {cs : List Aj} {ss : List A4} (hno : ∀ j, j < cs.length → Jx cs ss j = false) : Hl cs ss = none := by
 unfold Hl
 rw [List.find?_eq_none]
 intro x hx
 rw [hno x (List.mem_range.1 hx)]
 simp
theorem Afd {w : World} {tb bx : Nat} {T : E1} {cs : List Aj} (h : Ct w tb T) (hK : Nf cs T) (hg : T.get = As cs) (hsz : Sv cs) (hS : B2 cs) (hsm : Df cs) (hbx : w.cell? ⟨bx, 0, none⟩ = some (.pointer (some ⟨tb, 0, none⟩))) :
 Calls Tryz.prog 107 #[T.allv, .func (.func 108) #[] #[.pointer (some ⟨bx, 0, none⟩)]] w (Qf cs T.ss w) := by
 obtain ⟨ao, cap, e0, hcap, hmax⟩ := h.all.slice
 have Av := hK.len
 obtain ⟨len, hl⟩ := Ax T.ks.length
 rw [hl] at e0 hcap Av
 rw [e0]
 unfold maxLen at hmax
 have H := Aa h
 have HK := Aa hK
 have HG := Aa hg
 have HZ := Aa hsz
 have HS := Aa hS
 have HM := Aa hsm
 have HBX := Aa hbx
 have HL := Aa Av
 have HL2 := Aa hl
 have HE := Aa e0
 clear h hK hg hsz hS hsm hbx Av hl e0
 go_in
 go_wp2
 go_loopg [8] len (fun g s8 wr => ∃ (k : Nat), k ≤ len ∧ len - k ≤ g ∧ s8 = .int .i64 k ∧ Hid (∀ j, j < k → Jx cs T.ss j = false) ∧ Ch No w wr)
 case atStart => exact ⟨0, Nat.zero_le _, by omega, rfl, Aa (fun j h => absurd h (Nat.not_lt_zero _)), Ch.refl _ _⟩
 case round =>
  obtain ⟨k, hk, hg, rfl, HN, hch⟩ := hrel
  cases hd : decide (k < len) with
  | false =>
   go_wp2
   go_ret
   have hkl : ¬ k < len := by simpa using hd
   refine ⟨Jh ?_, hch⟩
   rw [Zk (fun j hj => HN.out j (by have := HL.out; omega))]; rfl
  | true =>
   have hkl : k < len := by simpa using hd
   obtain ⟨x, hx⟩ := gE (l := T.ks) (i := k) (by have := HL2.out; omega)
   obtain ⟨c, hc⟩ := gE (l := cs) (i := k) (by have := HL.out; omega)
   obtain ⟨b, off, cap', e, hcell, _, _⟩ := (H.out.all.no hch).cell hx
   rw [HE.out, HL2.out] at e
   cases e
   obtain ⟨q0, q1, q2, q3⟩ := hcell
   have hcl := Jj (H.out.no hch) HK.out HG.out HZ.out HS.out HM.out (Ae HBX.out hch (fun _ _ h => h)) hc hx
   have HX := Aa hx
   have HC := Aa hc
   have HCH := Aa hch
   clear hx hc hch
   cases hop : Jx cs T.ss k with
   | true =>
    rw [hop] at hcl
    have HO := Aa hop
    clear hop
    go_wp2_with fail
    refine hcl.mono ?_
    rintro e w1 ⟨rfl, hc1⟩
    go_wp2
    go_ret
    refine ⟨Jh ?_, HCH.out.trans hc1⟩
    rw [Ws (by have := HL.out; omega) HO.out HN.out]; rfl
   | false =>
    rw [hop] at hcl
    have HO := Aa hop
    clear hop
    go_wp2_with fail
    refine hcl.mono ?_
    rintro e w1 ⟨rfl, hc1⟩
    go_wp2
    go_roundg (len - k - 1)
    case rel =>
     refine ⟨k + 1, by omega, by omega, by go_num, Aa (fun j hj => ?_), HCH.out.trans hc1⟩
     by_cases e : j = k
     {subst e; exact HO.out}
     {exact HN.out j (by omega)}
    case measure => omega
structure Fm (cs : List Aj) (ss : List A4) (d : List Nat) : Prop where
 len : ss.length = cs.length
 ord : Gd cs d
 yes : ∀ j ∈ d, ∃ b, ss[j]? = some ⟨some b, Gz cs [(j : Int)] cs.length⟩
 no : ∀ j, j < cs.length → j ∉ d → ss[j]? = some ⟨none, []⟩
theorem Fm.opn {cs : List Aj} {ss : List A4} {d : List Nat} (h : Fm cs ss d) {j : Nat} (hj : j < cs.length) : R5 ss j = !d.contains j := by
 unfold Go.Proofs.YtgjpgfedlgdjhaaGreatDoor.R5
 by_cases hd : j ∈ d
 {obtain ⟨b, hb⟩ := h.yes j hd
  rw [hb]; simp [hd]}
 {rw [h.no j hj hd]; simp [hd]}
theorem Fm.rdy {cs : List Aj} {ss : List A4} {d : List Nat} (h : Fm cs ss d) {j : Nat} (hj : j < cs.length) : Jx cs ss j = true ↔ R4 cs d j := by
 unfold Jx R4
 rw [h.opn hj, Bool.and_eq_true, Bool.not_eq_true', Bool.not_eq_true', List.any_eq_false]
 constructor
 {rintro ⟨h1, h2⟩
  refine ⟨by simpa using h1, fun u hu => ?_⟩
  have := h2 u hu
  rw [h.opn (Dq cs j u hu)] at this
  simpa using this}
 {rintro ⟨h1, h2⟩
  refine ⟨by simpa using h1, fun u hu => ?_⟩
  rw [h.opn (Dq cs j u hu)]
  simpa using h2 u hu}
theorem Fm.next {cs : List Aj} {ss : List A4} {d : List Nat} (h : Fm cs ss d) : Hl cs ss = Gr.pick cs.length (Az cs) d := by
 cases hn : Hl cs ss with
 | none =>
  unfold Hl at hn
  rw [List.find?_eq_none] at hn
  rw [Zh]
  intro j hj hr
  exact hn j (List.mem_range.2 hj) ((h.rdy hj).2 hr)
 | some i =>
  unfold Hl at hn
  rw [List.find?_range_eq_some] at hn
  obtain ⟨h1, h2, h3⟩ := hn
  have hi : i < cs.length := by simpa using h2
  rw [Zg hi ((h.rdy hi).1 h1)]
  intro j hj hr
  have := h3 j hj
  rw [(h.rdy (by omega)).2 hr] at this
  simp at this
theorem Fm.step {cs : List Aj} {ss : List A4} {d : List Nat} (h : Fm cs ss d) {i b : Nat} (hp : Gr.pick cs.length (Az cs) d = some i) : Fm cs (ss.set i ⟨some b, Gz cs [(i : Int)] cs.length⟩) (d ++ [i]) := by
 obtain ⟨h1, h2, _⟩ := Gr.pick_some hp
 refine ⟨by rw [List.length_set]; exact h.len, h.ord.step hp, fun j hj => ?_, fun j hj hd => ?_⟩
 {rcases List.mem_append.1 hj with hj | hj
  {have hne : i ≠ j := fun e => h2 (e ▸ hj)
   rw [List.getElem?_set, if_neg hne]
   exact h.yes j hj}
  {have e : j = i := by simpa using hj
   subst e
   rw [List.getElem?_set, if_pos rfl, if_pos (by rw [h.len]; exact h1)]
   exact ⟨b, rfl⟩}}
 {have hne : i ≠ j := fun e => hd (by simp [e])
  rw [List.getElem?_set, if_neg hne]
  exact h.no j hj (fun h => hd (by simp [h]))}
theorem Fm.start (cs : List Aj) : Fm cs (List.replicate cs.length ⟨none, []⟩) [] :=
 ⟨by simp, Gd.start cs, (fun j hj => by cases hj), (fun j hj _ => by rw [List.getElem?_replicate, if_pos hj])⟩
noncomputable def E2 (cs : List Aj) (i q : Nat) : List Int := ((Az cs i).take q).foldl (fun (acc : List Int) (u : Nat) => (Gz cs [(u : Int)] cs.length).foldl Cq acc) [(i : Int)]
theorem Qg {cs : List Aj} {i q u : Nat} (h : (Az cs i)[q]? = some u) : E2 cs i (q + 1) = (Gz cs [(u : Int)] cs.length).foldl Cq (E2 cs i q) := by
 unfold E2
 rw [List.take_add_one, h]
 simp
theorem Lg {cs : List Aj} {i : Nat} {z : Int} : z ∈ Gz cs [(i : Int)] cs.length ↔ ∃ k : Nat, z = k ∧ k < cs.length ∧ i < cs.length ∧ (i = k ∨ Gr.Reach (Az cs) i k) := by
 rw [Fl]
 unfold AbP AbX
 constructor
 {rintro ⟨k, rfl, h1, x, hx, h2, h3, h4⟩
  have : x = i := by simpa using hx
  subst this
  refine ⟨k, rfl, h1, by omega, ?_⟩
  rcases h4 with h | h
  {exact .inl (by omega)}
  {exact .inr (by simpa using h)}}
 {rintro ⟨k, rfl, h1, h2, h3⟩
  refine ⟨k, rfl, h1, (i : Int), by simp, by omega, by omega, ?_⟩
  rcases h3 with h | h
  {exact .inl (by omega)}
  {exact .inr (by simpa using h)}}
theorem Tn {cs : List Aj} {i : Nat} (hi : i < cs.length) (hn : cs.length ≤ 20) : ∀ (q : Nat), Eu (E2 cs i q) ∧ ∀ z, z ∈ E2 cs i q ↔ z = i ∨ ∃ u ∈ (Az cs i).take q, z ∈ Gz cs [(u : Int)] cs.length
 | 0 => by
  unfold E2
  refine ⟨⟨by simp, fun x hx => by simp at hx; omega⟩, fun z => by simp⟩
 | q + 1 => by
  obtain ⟨h1, h2⟩ := Tn hi hn q
  cases hu : (Az cs i)[q]? with
  | none =>
   have e : (Az cs i).take (q + 1) = (Az cs i).take q := by rw [List.take_add_one, hu]; simp
   unfold E2 at h1 h2 ⊢
   rw [e]; exact ⟨h1, h2⟩
  | some u =>
   rw [Qg hu]
   refine ⟨h1.fold _, fun z => ?_⟩
   rw [Hh, h2, List.take_add_one, hu]
   constructor
   {rintro ((h | ⟨v, hv, h⟩) | ⟨h, _⟩)
    {exact .inl h}
    {exact .inr ⟨v, List.mem_append.2 (.inl hv), h⟩}
    {exact .inr ⟨u, by simp, h⟩}}
   {rintro (h | ⟨v, hv, h⟩)
    {exact .inl (.inl h)}
    {rcases List.mem_append.1 hv with hv | hv
     {exact .inl (.inr ⟨v, hv, h⟩)}
     {have : v = u := by simpa using hv
      subst this
      refine .inr ⟨h, ?_⟩
      obtain ⟨k, rfl, hk, _⟩ := Lg.1 h
      omega}}}
theorem Zl {cs : List Aj} {i : Nat} (hi : i < cs.length) (hn : cs.length ≤ 20) : E2 cs i (Az cs i).length = Gz cs [(i : Int)] cs.length := by
 obtain ⟨h1, h2⟩ := Tn hi hn (Az cs i).length
 refine D2 h1.1 (Ju cs _ _) (fun z => ?_)
 rw [h2, Lg, List.take_length]
 constructor
 {rintro (rfl | ⟨u, hu, h⟩)
  {exact ⟨i, rfl, hi, hi, .inl rfl⟩}
  {obtain ⟨k, rfl, hk, _, h⟩ := Lg.1 h
   refine ⟨k, rfl, hk, hi, .inr ?_⟩
   rcases h with rfl | h
   {exact .one hu}
   {exact .step hu h}}}
 {rintro ⟨k, rfl, hk, _, h⟩
  rcases h with rfl | h
  {exact .inl rfl}
  {right
   cases h with
   | one h => exact ⟨k, h, Lg.2 ⟨k, rfl, hk, hk, .inl rfl⟩⟩
   | step h hh => exact ⟨_, h, Lg.2 ⟨k, rfl, hk, Dq cs i _ h, .inr hh⟩⟩}}
end Go.Proofs.YtgjpgfedlgdjhaaGreatDoor
end
end
