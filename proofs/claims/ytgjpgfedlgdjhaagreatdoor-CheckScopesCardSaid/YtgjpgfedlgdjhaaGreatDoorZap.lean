/- What the claim uses: part 16. -/
import Derived.Test.YtgjpgfedlgdjhaaGreatDoorZao
import Derived.Test.YtgjpgfedlgdjhaaGreatDoorZaa
import Derived.Deep.OwnRows
section
section
set_option linter.unusedVariables false
set_option linter.unusedSimpArgs false
namespace Go.Proofs.YtgjpgfedlgdjhaaGreatDoor
open Go.RowKit Go.W
structure Knd where
 name : ByteArray
 face : Bool
 sup : Int
 fs : List Int
 fa : Option Addr
 fc : Nat
def Knd.cells (k : Knd) : List Value := [.string k.name, .bool k.face, .int .i64 k.sup, .slice k.fa k.fs.length k.fc]
structure KndsAt (w : World) (v : Value) (ks : List Knd) : Prop where
 row : RowAt w v 4 (ks.map Knd.cells)
 fs : ∀ k ∈ ks, IntsAt w (.slice k.fa k.fs.length k.fc) k.fs
theorem KndsAt.no {w w' : World} {v : Value} {ks : List Knd} (h : KndsAt w v ks) (hc : Ch No w w') : KndsAt w' v ks := ⟨h.row.no hc, fun k hk => (h.fs k hk).no hc⟩
structure SetP where
 b : Option Nat
 l : List Int
def SetP.val (s : SetP) : Value := .pointer (s.b.map (fun b => ⟨b, 0, none⟩))
structure SetsAt (w : World) (v : Value) (ss : List SetP) : Prop where
 row : RowAt w v 1 (ss.map (fun s => [s.val]))
 sets : ∀ s ∈ ss, ∀ b, s.b = some b → ∃ ob, SetAt w b s.l ob
 nil : ∀ s ∈ ss, s.b = none → s.l = []
theorem SetsAt.no {w w' : World} {v : Value} {ss : List SetP} (h : SetsAt w v ss) (hc : Ch No w w') : SetsAt w' v ss :=
 ⟨h.row.no hc, fun s hs b hb => (h.sets s hs b hb).imp fun _ h => h.no hc, h.nil⟩
structure TabD where
 allv : Value
 abv : Value
 ordv : Value
 mb : Nat
 mn : Nat
 ks : List Knd
 get : ByteArray → Option Nat
 ss : List SetP
 ord : List Int
def getV (get : ByteArray → Option Nat) (s : ByteArray) : Option Value := (get s).map (fun i => .int .i64 (i : Int))
structure TabAt (w : World) (tb : Nat) (T : TabD) : Prop where
 blk : w.heap[tb]? = some (.cells #[T.allv, .map (some T.mb), T.abv, T.ordv] 145 (0, 0))
 all : KndsAt w T.allv T.ks
 names : MapIs Tryz.prog 9 strK w T.mb T.mn (getV T.get)
 sets : SetsAt w T.abv T.ss
 ord : IntsAt w T.ordv T.ord
theorem TabAt.no {w w' : World} {tb : Nat} {T : TabD} (h : TabAt w tb T) (hc : Ch No w w') : TabAt w' tb T :=
 ⟨hc.keep _ _ h.blk (fun h => h), h.all.no hc, h.names.ch hc (fun _ _ h => h), h.sets.no hc, h.ord.no hc⟩
structure KndCells (w : World) (b a : Nat) (k : Knd) : Prop where
 q0 : w.cell? ⟨b, a, none⟩ = some (.string k.name)
 q1 : w.cell? ⟨b, a + 1, none⟩ = some (.bool k.face)
 q2 : w.cell? ⟨b, a + 2, none⟩ = some (.int .i64 k.sup)
 q3 : w.cell? ⟨b, a + 3, none⟩ = some (.slice k.fa k.fs.length k.fc)
theorem KndsAt.slice {w : World} {v : Value} {ks : List Knd} (h : KndsAt w v ks) : ∃ ao cap, v = .slice ao ks.length cap ∧ ks.length ≤ cap ∧ cap ≤ maxLen := by
 obtain ⟨ao, cap, e, h1, h2, _⟩ := h.row
 rw [List.length_map] at e h1
 exact ⟨ao, cap, e, h1, h2⟩
theorem KndsAt.cell {w : World} {v : Value} {ks : List Knd} (h : KndsAt w v ks) {i : Nat} {k : Knd} (hk : ks[i]? = some k) :
   ∃ b off cap, v = .slice (some ⟨b, off, none⟩) ks.length cap ∧ KndCells w b (off + i * 4) k ∧ ks.length ≤ cap ∧ cap ≤ maxLen := by
 obtain ⟨ao, cap, e, h1, h2, h3, h4⟩ := h.row
 have hl : i < ks.length := (List.getElem?_eq_some_iff.1 hk).1
 obtain ⟨b, off, rfl, h5⟩ := h4 (by rw [List.length_map]; omega)
 have h6 := fun j hj => h5 i k.cells (by rw [List.getElem?_map, hk]; rfl) j hj
 exact ⟨b, off, cap, by rw [e, List.length_map], ⟨h6 0 (by omega), h6 1 (by omega), h6 2 (by omega), h6 3 (by omega)⟩, by rw [List.length_map] at h1; exact h1, h2⟩
set_option maxHeartbeats 1000000 in
theorem hlen {w : World} {tb : Nat} {T : TabD} (h : TabAt w tb T) :
   Calls Tryz.prog 75 #[.pointer (some ⟨tb, 0, none⟩)] w fun e w' => e = .returned (.int .i64 T.ks.length) ∧ w = w' := by
 obtain ⟨ao, cap, e, _, _⟩ := h.all.slice
 have c0 := cellAt h.blk 0
 rw [e] at c0
 clear h e
 go_enter Tryz.func75, Tryz.ntmps75
 go_wp2_with fail
 go_ret
 exact ⟨rfl, rfl⟩
set_option maxHeartbeats 1000000 in
theorem hthere {w : World} {tb : Nat} {T : TabD} (h : TabAt w tb T) (i : Int) :
   Calls Tryz.prog 88 #[.pointer (some ⟨tb, 0, none⟩), .int .i64 i] w fun e w' => e = .returned (.bool (decide (0 ≤ i ∧ i < T.ks.length))) ∧ w = w' := by
 obtain ⟨ao, cap, e, _, _⟩ := h.all.slice
 have c0 := cellAt h.blk 0
 rw [e] at c0
 clear h e
 cases h0 : decide (0 ≤ i) with
 | true =>
   have h0' : 0 ≤ i := by simpa using h0
   go_enter Tryz.func88, Tryz.ntmps88
   go_wp2_with fail
   go_ret
   exact ⟨ret_bool (by simp [h0']), rfl⟩
 | false =>
   have h0' : ¬ 0 ≤ i := by simpa using h0
   go_enter Tryz.func88, Tryz.ntmps88
   go_wp2_with fail
   go_ret
   exact ⟨ret_bool (by simp [h0']), rfl⟩
theorem hthere_yes {w : World} {tb : Nat} {T : TabD} (h : TabAt w tb T) {i : Nat} {k : Knd} (hk : T.ks[i]? = some k) :
   Calls Tryz.prog 88 #[.pointer (some ⟨tb, 0, none⟩), .int .i64 i] w fun e w' => e = .returned (.bool true) ∧ w = w' :=
 (hthere h i).mono fun e w' ⟨he, hw⟩ => ⟨he.trans (ret_bool (by have := (List.getElem?_eq_some_iff.1 hk).1; simp; omega)), hw⟩
theorem hthere_no {w : World} {tb : Nat} {T : TabD} (h : TabAt w tb T) {i : Int} (hi : ¬ (0 ≤ i ∧ i < T.ks.length)) :
   Calls Tryz.prog 88 #[.pointer (some ⟨tb, 0, none⟩), .int .i64 i] w fun e w' => e = .returned (.bool false) ∧ w = w' :=
 (hthere h i).mono fun e w' ⟨he, hw⟩ => ⟨he.trans (ret_bool (by simpa using hi)), hw⟩
def rowZ (ks : List Knd) (i : Int) : Option Knd := if 0 ≤ i then ks[i.toNat]? else none
theorem rowZ_none {ks : List Knd} {i : Int} (h : rowZ ks i = none) : ¬ (0 ≤ i ∧ i < ks.length) := by
 unfold rowZ at h
 rintro ⟨h0, h1⟩
 rw [if_pos h0] at h
 have := List.getElem?_eq_none_iff.1 h
 omega
theorem rowZ_some {ks : List Knd} {i : Int} {k : Knd} (h : rowZ ks i = some k) : ∃ n : Nat, i = n ∧ ks[n]? = some k := by
 unfold rowZ at h
 by_cases h0 : 0 ≤ i
 · rw [if_pos h0] at h
   exact ⟨i.toNat, by omega, h⟩
 · rw [if_neg h0] at h; cases h
theorem rowZ_nat {ks : List Knd} {n : Nat} : rowZ ks n = ks[n]? := by
 unfold rowZ
 rw [if_pos (by omega)]; simp
set_option maxHeartbeats 1000000 in
theorem hFace {w : World} {tb : Nat} {T : TabD} (h : TabAt w tb T) (i : Int) :
   Calls Tryz.prog 46 #[.pointer (some ⟨tb, 0, none⟩), .int .i64 i] w fun e w' => e = .returned (.bool (((rowZ T.ks i).map Knd.face).getD false)) ∧ w = w' := by
 cases hr : rowZ T.ks i with
 | none =>
   have ht := hthere_no h (rowZ_none hr)
   clear h hr
   go_enter Tryz.func46, Tryz.ntmps46
   go_wp2_with fail
   refine ht.mono ?_
   rintro e w1 ⟨rfl, rfl⟩
   go_wp2_with fail
   go_ret
   exact ⟨rfl, rfl⟩
 | some k =>
   obtain ⟨n, rfl, hk⟩ := rowZ_some hr
   have ht := hthere_yes h hk
   obtain ⟨b, off, cap, e, hc, h1, h2⟩ := h.all.cell hk
   have hl := (List.getElem?_eq_some_iff.1 hk).1
   unfold maxLen at h2
   have c0 := cellAt h.blk 0
   rw [e] at c0
   have q := hc.q1
   clear h hr e hc hk
   go_enter Tryz.func46, Tryz.ntmps46
   go_wp2_with fail
   refine ht.mono ?_
   rintro e w1 ⟨rfl, rfl⟩
   go_wp2_with fail
   go_ret
   exact ⟨rfl, rfl⟩
set_option maxHeartbeats 1000000 in
theorem hSuper {w : World} {tb : Nat} {T : TabD} (h : TabAt w tb T) (i : Int) :
   Calls Tryz.prog 50 #[.pointer (some ⟨tb, 0, none⟩), .int .i64 i] w fun e w' => e = .returned (.int .i64 (((rowZ T.ks i).map Knd.sup).getD (-1))) ∧ w = w' := by
 cases hr : rowZ T.ks i with
 | none =>
   have ht := hthere_no h (rowZ_none hr)
   clear h hr
   go_enter Tryz.func50, Tryz.ntmps50
   go_wp2_with fail
   refine ht.mono ?_
   rintro e w1 ⟨rfl, rfl⟩
   go_wp2_with fail
   go_ret
   exact ⟨rfl, rfl⟩
 | some k =>
   obtain ⟨n, rfl, hk⟩ := rowZ_some hr
   have ht := hthere_yes h hk
   obtain ⟨b, off, cap, e, hc, h1, h2⟩ := h.all.cell hk
   have hl := (List.getElem?_eq_some_iff.1 hk).1
   unfold maxLen at h2
   have c0 := cellAt h.blk 0
   rw [e] at c0
   have q := hc.q2
   clear h hr e hc hk
   go_enter Tryz.func50, Tryz.ntmps50
   go_wp2_with fail
   refine ht.mono ?_
   rintro e w1 ⟨rfl, rfl⟩
   go_wp2_with fail
   go_ret
   exact ⟨rfl, rfl⟩
end Go.Proofs.YtgjpgfedlgdjhaaGreatDoor
end
section
set_option linter.unusedVariables false
set_option linter.unusedSimpArgs false
namespace Go.Proofs.YtgjpgfedlgdjhaaGreatDoor
open Go.RowKit Go.W
open Go.Maps (Keyed)
theorem lawS : Keyed Tryz.prog 9 := Go.Maps.string_keyed Tryz.underlying9
theorem keyS {s : ByteArray} (h : s.size ≤ maxLen) : keyOf Tryz.prog 9 (strK.val s) = some (strK.lit s) := Go.WideMaps.keyOf_string_mk Tryz.underlying9 h
theorem zeroI (w : World) : (zeroValue 3).run Tryz.prog w = .ok (.int .i64 0) w := by kernel_rfl
def getI (get : ByteArray → Option Nat) (s : ByteArray) : Int := match get s with | some i => (i : Int) | none => 0
def getB (get : ByteArray → Option Nat) (s : ByteArray) : Bool := (get s).isSome
set_option maxHeartbeats 1000000 in
theorem hindex {w : World} {tb : Nat} {T : TabD} (h : TabAt w tb T) {nm : ByteArray} (hn : nm.size ≤ maxLen) :
   Calls Tryz.prog 159 #[.pointer (some ⟨tb, 0, none⟩), .string nm] w fun e w' => e = .returned (.tuple #[.int .i64 (getI T.get nm), .bool (getB T.get nm)]) ∧ w = w' := by
 have c1 := cellAt h.blk 1
 have hrun := h.names.lookOk lawS Tryz.underlying142 (zeroI w) (keyS hn)
 have e1 : ((getV T.get nm).getD (.int .i64 0)) = .int .i64 (getI T.get nm) := by
   unfold getV getI; cases T.get nm <;> rfl
 have e2 : (getV T.get nm).isSome = getB T.get nm := by
   unfold getV getB; cases T.get nm <;> rfl
 rw [e1, e2] at hrun
 have hrun' : (Instr.lookup 142 (.map (some T.mb)) (.string nm) true).run Tryz.prog w = .ok (.tuple #[.int .i64 (getI T.get nm), .bool (getB T.get nm)]) w := hrun
 clear h e1 e2 hrun
 go_enter Tryz.func159, Tryz.ntmps159
 go_wp2_with fail
 go_ret2
 exact ⟨rfl, rfl⟩
def Knd.right (k : Knd) : List Int := (if 0 ≤ k.sup then [k.sup] else []) ++ k.fs
set_option maxHeartbeats 2000000 in
theorem hright {w : World} {tb : Nat} {T : TabD} (h : TabAt w tb T) {n : Nat} {k : Knd} (hk : T.ks[n]? = some k) (hl : k.fs.length ≤ 1000000) :
   Calls Tryz.prog 49 #[.pointer (some ⟨tb, 0, none⟩), .int .i64 n] w fun e w' => ∃ u, e = .returned u ∧ IntsOwn w' w.heap.size u k.right ∧ Ch No w w' := by
 have ht := hthere_yes h hk
 have hcl := sclone (h.all.fs k (List.mem_of_getElem? hk)) (by omega)
 have H := hid h
 obtain ⟨b, off, cap, e, hc, h1, h2⟩ := h.all.cell hk
 have HKC := hid (show w.cell? ⟨b, off + n * 4 + 2, none⟩ = some (.int .i64 k.sup) from hc.q2)
 have hn := (List.getElem?_eq_some_iff.1 hk).1
 unfold maxLen at h2
 have c0 := cellAt h.blk 0
 have HB := hid h.blk
 have E := hid e
 rw [e] at c0
 have q3 := hc.q3
 clear h e hc hk
 go_enter Tryz.func49, Tryz.ntmps49
 go_wp2_with fail
 refine ht.mono ?_
 rintro e w1 ⟨rfl, rfl⟩
 go_wp2_with fail
 refine hcl.mono ?_
 rintro e w1 ⟨u, rfl, hu, hch⟩
 have c0' := cellAt (hch.keep _ _ HB.out (fun h => h)) 0
 rw [E.out] at c0'
 have q2' := cell_ch HKC.out hch (fun _ _ h => h)
 cases hs : decide (0 ≤ k.sup) with
 | false =>
   have hs' : ¬ 0 ≤ k.sup := by simpa using hs
   go_wp2_with fail
   go_ret
   refine ⟨_, rfl, ?_, hch⟩
   unfold Knd.right
   rw [if_neg (by omega)]
   exact hu
 | true =>
   have hs' : 0 ≤ k.sup := by simpa using hs
   have hub := fun g hg => hu.lt g hg
   have hvb := heap_alloc_new w1 (.cells #[.int .i64 k.sup] 3)
   have hz := hch.size
   have hins := insertS (hu.alloc (.cells #[.int .i64 k.sup] 3)) 0 (Nat.zero_le _) hl k.sup w1.heap.size hvb (fun e => by have := hub _ e; omega) (Nat.le_trans hz ((Ch.refl No w1).alloc (.cells #[.int .i64 k.sup] 3)).size)
   have HU := hid hub
   clear hub hu
   go_wp2_with fail
   refine hins.mono ?_
   rintro e w2 ⟨v', rfl, hv', hc2, hg2⟩
   go_wp2_with fail
   go_ret
   refine ⟨_, rfl, ?_, ?_⟩
   · unfold Knd.right
     rw [if_pos hs']
     simpa using hv'
   · exact (hch.alloc _).trans' hc2 (fun j o ho h => by have := HU.out j h; have := lt_size ho; omega)
theorem SetsAt.slice {w : World} {v : Value} {ss : List SetP} (h : SetsAt w v ss) : ∃ ao cap, v = .slice ao ss.length cap ∧ ss.length ≤ cap ∧ cap ≤ maxLen := by
 obtain ⟨ao, cap, e, h1, h2, _⟩ := h.row
 rw [List.length_map] at e h1
 exact ⟨ao, cap, e, h1, h2⟩
theorem SetsAt.cell {w : World} {v : Value} {ss : List SetP} (h : SetsAt w v ss) {i : Nat} {s : SetP} (hs : ss[i]? = some s) :
   ∃ b off cap, v = .slice (some ⟨b, off, none⟩) ss.length cap ∧ w.cell? ⟨b, off + i, none⟩ = some s.val ∧ ss.length ≤ cap ∧ cap ≤ maxLen := by
 obtain ⟨ao, cap, e, h1, h2, h3, h4⟩ := h.row
 have hl : i < ss.length := (List.getElem?_eq_some_iff.1 hs).1
 obtain ⟨b, off, rfl, h5⟩ := h4 (by rw [List.length_map]; omega)
 have h6 := h5 i [s.val] (by rw [List.getElem?_map, hs]; rfl) 0 (by omega)
 exact ⟨b, off, cap, by rw [e, List.length_map], by simpa using h6, by rw [List.length_map] at h1; exact h1, h2⟩
end Go.Proofs.YtgjpgfedlgdjhaaGreatDoor
end
section
set_option linter.unusedVariables false
set_option linter.unusedSimpArgs false
namespace Go.Proofs.YtgjpgfedlgdjhaaGreatDoor
open Go.RowKit Go.W
theorem SetsAt.v {w : World} {v : Value} {ss : List SetP} (h : SetsAt w v ss) {i : Nat} {s : SetP} (hs : ss[i]? = some s) : ∃ sb ob, SetV w s.val s.l sb ob := by
 have hm := List.mem_of_getElem? hs
 unfold SetP.val
 cases hb : s.b with
 | none => rw [h.nil s hm hb]; exact ⟨_, _, SetV.nil w⟩
 | some b =>
   obtain ⟨ob, ho⟩ := h.sets s hm b hb
   exact ⟨_, _, ho.v⟩
def rowS (ss : List SetP) (i : Int) : List Int := if 0 ≤ i then ((ss[i.toNat]?).map SetP.l).getD [] else []
def aboveF (ss : List SetP) (is : List Int) : List Int := is.foldl (fun acc i => (rowS ss i).foldl putS acc) []
theorem aboveSnoc {ss : List SetP} {is : List Int} {k : Nat} {i : Int} (h : is[k]? = some i) : aboveF ss (is.take (k + 1)) = (rowS ss i).foldl putS (aboveF ss (is.take k)) := by
 unfold aboveF
 rw [List.take_add_one, h]
 simp
set_option maxHeartbeats 2000000 in
theorem habove {w : World} {tb : Nat} {T : TabD} (hT : Tab w) (h : TabAt w tb T) (hn : T.ss.length = T.ks.length) {v : Value} {is : List Int} (hi : IntsAt w v is) :
   Calls Tryz.prog 77 #[.pointer (some ⟨tb, 0, none⟩), v] w fun e w' => ∃ u, e = .returned u ∧ IntsOwn w' w.heap.size u (aboveF T.ss is) ∧ Ch No w w' := by
 have hof := sof (IntsAt.nil w)
 have HT := hid hT
 have H := hid h
 have HI := hid hi
 have HN := hid hn
 obtain ⟨ao, cap, rfl, hcap, hmax, hnc, hcell⟩ := hi
 obtain ⟨len, hlen⟩ : ∃ len, is.length = len := ⟨_, rfl⟩
 rw [hlen] at hcap hcell HI ⊢
 unfold maxLen at hmax
 have HL := hid hlen
 have HC := hid hcell
 obtain ⟨sa, sc, es, hsc, hsm⟩ := h.sets.slice
 unfold maxLen at hsm
 have ES := hid es
 have hsl : T.ss.length ≤ 9223372036854775807 := by omega
 clear hT h hlen hnc hcell hn es
 go_enter Tryz.func77, Tryz.ntmps77
 go_wp2_with fail
 refine hof.mono ?_
 rintro e w1 ⟨u, rfl, hs, hc1⟩
 obtain ⟨sb, ob, rfl, hs, hr, hr'⟩ := hs.openIt
 go_wp2_with fail
 go_loopg [7, 11] len (fun g s7 s11 wr => ∃ (k : Nat) (ob : Option Nat), k ≤ len ∧ len - k ≤ g ∧ s11 = .int .i64 k ∧ SetAt wr sb (aboveF T.ss (is.take k)) ob ∧ Ch No w wr ∧ (∀ b, ob = some b → w.heap.size ≤ b))
 case atStart => exact ⟨0, ob, Nat.zero_le _, by omega, rfl, hs, hc1, fun b hb => (hr' b hb).1⟩
 case round =>
   obtain ⟨k, ob, hk, hg, rfl, hset, hch, hob⟩ := hrel
   cases hd : decide (k < len) with
   | false =>
     have hli := slist (HT.out.no hch) hset.v
     clear hs
     go_wp2_with fail
     refine hli.mono ?_
     rintro e w2 ⟨u2, rfl, hu2, hc2⟩
     go_wp2_with fail
     go_ret
     have hkl : ¬ k < len := by simpa using hd
     rw [List.take_of_length_le (by have := HL.out; omega)] at hu2
     exact ⟨_, rfl, hu2.base hch.size, hch.trans hc2⟩
   | true =>
     have hkl : k < len := by simpa using hd
     obtain ⟨b, off, rfl, hc⟩ := HC.out (by omega)
     obtain ⟨x, hx⟩ : ∃ x, is[k]? = some x := ⟨_, List.getElem?_eq_getElem (by have := HL.out; omega)⟩
     have hq := cell_ch (hc k x hx) hch (fun _ _ h => h)
     have HX := hid hx
     have htab := H.out.no hch
     clear hs hc hx
     cases hrw : rowZ T.ks x with
     | none =>
       have ht := hthere_no htab (rowZ_none hrw)
       have HR := hid (rowZ_none hrw)
       clear hrw htab
       go_wp2_with fail
       refine ht.mono ?_
       rintro e w2 ⟨rfl, rfl⟩
       go_wp2_with fail
       go_roundg (len - k - 1)
       case rel =>
         refine ⟨k + 1, ob, by omega, by omega, by go_num, ?_, hch, hob⟩
         rw [aboveSnoc HX.out]
         have e0 : rowS T.ss x = [] := by
           unfold rowS
           by_cases h0 : 0 ≤ x
           · rw [if_pos h0, List.getElem?_eq_none (by have := HN.out; have := HR.out; omega)]; rfl
           · rw [if_neg h0]
         rw [e0]
         exact hset
       case measure => omega
     | some kd =>
       obtain ⟨n, rfl, hkn⟩ := rowZ_some hrw
       have ht := hthere_yes htab hkn
       have hnl := (List.getElem?_eq_some_iff.1 hkn).1
       obtain ⟨s, hs⟩ : ∃ s, T.ss[n]? = some s := ⟨_, List.getElem?_eq_getElem (by have := HN.out; omega)⟩
       have hns : n < T.ss.length := (List.getElem?_eq_some_iff.1 hs).1
       obtain ⟨b2, off2, cap2, e2, hc2, _, _⟩ := htab.sets.cell hs
       obtain ⟨tsb, tob, hv⟩ := htab.sets.v hs
       have c2 := cellAt htab.blk 2
       rw [e2] at c2
       have hme := smerge (HT.out.no hch) hset hv
       have HS := hid hs
       have HB := hid (lt_size htab.blk)
       clear hrw htab hkn hs e2 hv
       go_wp2_with fail
       refine ht.mono ?_
       rintro e w2 ⟨rfl, rfl⟩
       go_wp2_with fail
       refine hme.mono ?_
       rintro e w2 ⟨u2, ob2, rfl, _, hset2, hch2, hob2⟩
       go_wp2_with fail
       go_roundg (len - k - 1)
       case rel =>
         refine ⟨k + 1, ob2, by omega, by omega, by go_num, ?_, hch.trans' hch2 (fun j o ho h => ?_), ?_⟩
         · rw [aboveSnoc HX.out]
           have e0 : rowS T.ss (n : Int) = s.l := by
             unfold rowS
             rw [if_pos (by omega)]
             simp [HS.out]
           rw [e0]
           exact hset2
         · have := lt_size ho
           rcases h with h | h
           · omega
           · have := hob _ h; omega
         · rintro b rfl
           rcases hob2 with h | ⟨g, h, hg⟩
           · exact hob b h.symm
           · cases h
             have := hch.size
             omega
       case measure => omega
end Go.Proofs.YtgjpgfedlgdjhaaGreatDoor
end
section
namespace Gr
inductive Reach (up : Nat → List Nat) : Nat → Nat → Prop
 | one {i j} : j ∈ up i → Reach up i j
 | step {i j k} : j ∈ up i → Reach up j k → Reach up i k
theorem Reach.trans {up : Nat → List Nat} {i j k : Nat} (h : Reach up i j) (h' : Reach up j k) : Reach up i k := by
 induction h with
 | one h => exact .step h h'
 | step h _ ih => exact .step h (ih h')
theorem Reach.snoc {up : Nat → List Nat} {i j k : Nat} (h : Reach up i j) (h' : k ∈ up j) : Reach up i k := h.trans (.one h')
theorem Reach.lt {up : Nat → List Nat} {n : Nat} (hu : ∀ i, ∀ j ∈ up i, j < n) {i j : Nat} (h : Reach up i j) : j < n := by
 induction h with
 | one h => exact hu _ _ h
 | step _ _ ih => exact ih
theorem Reach.mem_of {up : Nat → List Nat} {S : Nat → Prop} (hS : ∀ i, S i → ∀ j ∈ up i, S j) {i j : Nat} (h : Reach up i j) (hi : S i) : S j := by
 induction h with
 | one h => exact hS _ hi _ h
 | step h _ ih => exact ih (hS _ hi _ h)
def pick (n : Nat) (up : Nat → List Nat) (done : List Nat) : Option Nat :=
 (List.range n).find? (fun i => !done.contains i && (up i).all (fun j => done.contains j))
inductive Ord (n : Nat) (up : Nat → List Nat) : List Nat → Prop
 | nil : Ord n up []
 | snoc {l i} : Ord n up l → i < n → i ∉ l → (∀ j ∈ up i, j ∈ l) → Ord n up (l ++ [i])
theorem Ord.lt {n : Nat} {up : Nat → List Nat} {l : List Nat} (h : Ord n up l) : ∀ i ∈ l, i < n := by
 induction h with
 | nil => simp
 | snoc _ h1 _ _ ih =>
   intro i hi
   rcases List.mem_append.1 hi with hi | hi
   · exact ih i hi
   · simp at hi; omega
theorem Ord.nodup {n : Nat} {up : Nat → List Nat} {l : List Nat} (h : Ord n up l) : l.Nodup := by
 induction h with
 | nil => simp
 | snoc _ _ h2 _ ih =>
   rw [List.nodup_append]
   exact ⟨ih, by simp, fun a ha b hb => by simp at hb; subst hb; intro e; subst e; exact h2 ha⟩
theorem Ord.closed {n : Nat} {up : Nat → List Nat} {l : List Nat} (h : Ord n up l) : ∀ i ∈ l, ∀ j ∈ up i, j ∈ l := by
 induction h with
 | nil => simp
 | snoc _ _ _ h3 ih =>
   intro i hi j hj
   rcases List.mem_append.1 hi with hi | hi
   · exact List.mem_append.2 (.inl (ih i hi j hj))
   · simp at hi; subst hi; exact List.mem_append.2 (.inl (h3 j hj))
theorem Ord.reach {n : Nat} {up : Nat → List Nat} {l : List Nat} (h : Ord n up l) {i j : Nat} (hi : i ∈ l) (hr : Reach up i j) : j ∈ l :=
 hr.mem_of (S := (· ∈ l)) (fun i hi j hj => h.closed i hi j hj) hi
theorem Ord.noring {n : Nat} {up : Nat → List Nat} {l : List Nat} (h : Ord n up l) : ∀ i ∈ l, ¬ Reach up i i := by
 induction h with
 | nil => simp
 | @snoc l i h h1 h2 h3 ih =>
   intro k hk hr
   rcases List.mem_append.1 hk with hk | hk
   · exact ih k hk hr
   · simp at hk; subst hk
     cases hr with
     | one h => exact h2 (h3 _ h)
     | step h' h'' => exact h2 (h.reach (h3 _ h') h'')
theorem least {up : Nat → List Nat} (hno : ∀ i, ¬ Reach up i i) : ∀ (m : Nat) (S : List Nat), S.length ≤ m → S ≠ [] → ∃ x ∈ S, ∀ y ∈ S, ¬ Reach up x y := by
 classical
 intro m
 induction m with
 | zero => intro S h hne; exact absurd (List.length_eq_zero_iff.1 (by omega)) hne
 | succ m ih =>
   intro S h hne
   obtain ⟨x, hx⟩ := List.exists_mem_of_ne_nil S hne
   by_cases he : ∃ y ∈ S, Reach up x y
   · obtain ⟨y, hy, hxy⟩ := he
     have hlt : (S.filter (fun z => decide (Reach up x z))).length < S.length := by
       rw [← List.countP_eq_length_filter]
       rcases Nat.lt_or_ge (S.countP (fun z => decide (Reach up x z))) S.length with h' | h'
       · exact h'
       · have := List.countP_le_length (p := fun z => decide (Reach up x z)) (l := S)
         have h3 := List.countP_eq_length.1 (Nat.le_antisymm this h') x hx
         exact absurd (by simpa using h3) (hno x)
     obtain ⟨z, hz, hz'⟩ := ih (S.filter (fun z => decide (Reach up x z))) (by omega) (by
       intro e
       have : y ∈ S.filter (fun z => decide (Reach up x z)) := List.mem_filter.2 ⟨hy, by simpa using hxy⟩
       rw [e] at this; cases this)
     have hz2 := List.mem_filter.1 hz
     refine ⟨z, hz2.1, fun u hu hzu => hz' u (List.mem_filter.2 ⟨hu, ?_⟩) hzu⟩
     have : Reach up x z := by simpa using hz2.2
     simpa using this.trans hzu
   · exact ⟨x, hx, fun y hy h => he ⟨y, hy, h⟩⟩
theorem pick_some {n : Nat} {up : Nat → List Nat} {done : List Nat} {i : Nat} (h : pick n up done = some i) : i < n ∧ i ∉ done ∧ ∀ j ∈ up i, j ∈ done := by
 unfold pick at h
 have h1 := List.find?_some h
 have h2 := List.mem_of_find?_eq_some h
 simp at h1 h2
 exact ⟨h2, h1.1, h1.2⟩
theorem pick_none {n : Nat} {up : Nat → List Nat} {done : List Nat} (h : pick n up done = none) {i : Nat} (hi : i < n) (hd : i ∉ done) : ∃ j ∈ up i, j ∉ done := by
 unfold pick at h
 rw [List.find?_eq_none] at h
 have := h i (List.mem_range.2 hi)
 simp at this
 exact this hd
theorem all_done {n : Nat} {up : Nat → List Nat} (hu : ∀ i, ∀ j ∈ up i, j < n) (hno : ∀ i, i < n → ¬ Reach up i i) {done : List Nat} (h : pick n up done = none) : ∀ i, i < n → i ∈ done := by
 intro i hi
 by_cases hd : i ∈ done
 · exact hd
 exfalso
 have hno' : ∀ i, ¬ Reach up i i := fun i hr => hno i (hr.lt hu) hr
 obtain ⟨x, hx, hx'⟩ := least hno' _ ((List.range n).filter (fun k => !done.contains k)) (Nat.le_refl _) (by
   intro e
   have : i ∈ (List.range n).filter (fun k => !done.contains k) := List.mem_filter.2 ⟨List.mem_range.2 hi, by simpa using hd⟩
   rw [e] at this; cases this)
 have h1 := List.mem_filter.1 hx
 obtain ⟨j, hj, hjd⟩ := pick_none h (List.mem_range.1 h1.1) (by simpa using h1.2)
 exact hx' j (List.mem_filter.2 ⟨List.mem_range.2 (hu _ _ hj), by simpa using hjd⟩) (.one hj)
def order (n : Nat) (up : Nat → List Nat) : Nat → List Nat → List Nat
 | 0, done => done
 | m + 1, done => match pick n up done with
   | some i => order n up m (done ++ [i])
   | none => done
theorem order_ord {n : Nat} {up : Nat → List Nat} : ∀ (m : Nat) (done : List Nat), Ord n up done → Ord n up (order n up m done)
 | 0, done, h => h
 | m + 1, done, h => by
   unfold order
   cases hp : pick n up done with
   | none => exact h
   | some i =>
     obtain ⟨h1, h2, h3⟩ := pick_some hp
     exact order_ord m _ (.snoc h h1 h2 h3)
theorem nodup_sub {α : Type} [DecidableEq α] : ∀ (l m : List α), l.Nodup → (∀ x ∈ l, x ∈ m) → l.length ≤ m.length
 | [], m, _, _ => Nat.zero_le _
 | x :: l, m, hd, hl => by
   have hx := hl x (by simp)
   have h1 := List.nodup_cons.1 hd
   have := nodup_sub l (m.erase x) h1.2 (fun y hy => (List.mem_erase_of_ne (by intro e; subst e; exact h1.1 hy)).2 (hl y (by simp [hy])))
   rw [List.length_erase_of_mem hx] at this
   have : 0 < m.length := List.length_pos_of_mem hx
   simp; omega
theorem nodup_len {n : Nat} {l : List Nat} (hd : l.Nodup) (hl : ∀ i ∈ l, i < n) : l.length ≤ n := by
 have := nodup_sub l (List.range n) hd (fun i hi => List.mem_range.2 (hl i hi))
 simpa using this
theorem order_none {n : Nat} {up : Nat → List Nat} : ∀ (m : Nat) (done : List Nat), Ord n up done → n ≤ m + done.length → pick n up (order n up m done) = none
 | 0, done, h, hm => by
   unfold order
   cases hp : pick n up done with
   | none => rfl
   | some i =>
     obtain ⟨h1, h2, h3⟩ := pick_some hp
     have := nodup_len (Ord.snoc h h1 h2 h3).nodup (Ord.snoc h h1 h2 h3).lt
     simp at this
     omega
 | m + 1, done, h, hm => by
   unfold order
   cases hp : pick n up done with
   | none => exact hp
   | some i =>
     obtain ⟨h1, h2, h3⟩ := pick_some hp
     exact order_none m _ (.snoc h h1 h2 h3) (by simp; omega)
end Gr
end
section
set_option linter.unusedVariables false
set_option linter.unusedSimpArgs false
namespace Go.Proofs.YtgjpgfedlgdjhaaGreatDoor
open Go.RowKit Go.W Gr
theorem chFroz {a w : World} (h : Ch No a w) : ∀ b o, b < a.heap.size → w.frozen? ⟨b, o, none⟩ = a.frozen? ⟨b, o, none⟩ := by
 intro b o hb
 have ho : a.heap[b]? = some a.heap[b] := Array.getElem?_eq_getElem hb
 have := h.keep _ _ ho (fun h => h)
 simp [World.frozen?, ho, this]
theorem chRules {a w : World} (h : Ch No a w) : (∀ b o, b < a.heap.size → w.cell? ⟨b, o, none⟩ = a.cell? ⟨b, o, none⟩) ∧ (∀ b, b < a.heap.size → b < w.heap.size) := by
 refine ⟨fun b o hb => ?_, fun b hb => Nat.lt_of_lt_of_le hb h.size⟩
 have ho : a.heap[b]? = some a.heap[b] := Array.getElem?_eq_getElem hb
 exact World.cell?_of_block (by rw [ho]; exact h.keep _ _ ho (fun h => h))
theorem made_eq (z : Value) (n : Nat) : madeCells #[z] n = (List.replicate n z).toArray := by
 apply Array.ext
 · simp [madeCells]
 · intro i h1 h2
   simp [madeCells, Nat.mod_one]
def upsN (cs : List Cls) (i : Nat) : List Nat := match cs[i]? with | some c => c.ups.filterMap (find cs) | none => []
def SoundP (cs : List Cls) : Prop := ∀ i c, cs[i]? = some c → okC cs i c
theorem okC.up {cs : List Cls} {i : Nat} {c : Cls} (h : okC cs i c) : ∀ x ∈ c.ups, ∃ j, find cs x = some j := by
 intro x hx
 unfold Cls.ups at hx
 rcases List.mem_append.1 hx with hx | hx
 · cases hs : c.sup.toList.isEmpty with
   | true => rw [hs] at hx; simp at hx
   | false =>
     rw [hs] at hx
     simp at hx; subst hx
     obtain ⟨s, _, h1, _⟩ := h.sup hs
     exact ⟨s, h1⟩
 · obtain ⟨k, hk, rfl⟩ := List.mem_iff_getElem.1 hx
   obtain ⟨⟨j, _, h1, _⟩, _⟩ := h.faces k _ hk (List.getElem?_eq_getElem hk)
   exact ⟨j, h1⟩
theorem rightZ_ups {cs : List Cls} {i : Nat} {c : Cls} (hi : cs[i]? = some c) (h : okC cs i c) : rightZ cs c = (upsN cs i).map (fun j : Nat => (j : Int)) := by
 unfold rightZ upsN
 rw [hi]
 show c.ups.map (findZ cs) = (c.ups.filterMap (find cs)).map (fun j : Nat => (j : Int))
 have := h.up
 revert this
 generalize c.ups = l
 intro hl
 induction l with
 | nil => rfl
 | cons x l ih =>
   obtain ⟨j, hj⟩ := hl x (by simp)
   rw [List.map_cons, List.filterMap_cons, hj, ih (fun y hy => hl y (by simp [hy]))]
   simp [findZ, hj]
theorem upsN_lt (cs : List Cls) : ∀ i, ∀ j ∈ upsN cs i, j < cs.length := by
 intro i j hj
 unfold upsN at hj
 cases hi : cs[i]? with
 | none => rw [hi] at hj; cases hj
 | some c =>
   rw [hi] at hj
   obtain ⟨x, _, hx⟩ := List.mem_filterMap.1 hj
   obtain ⟨d, hd, _⟩ := find_some hx
   exact (List.getElem?_eq_some_iff.1 hd).1
end Go.Proofs.YtgjpgfedlgdjhaaGreatDoor
end
end
