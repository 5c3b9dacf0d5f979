/- The table of classes: Index, Order, Right, Above. -/
import Derived.Test.YtkffejgjpnnkmaaDoorHk
set_option linter.unusedVariables false
set_option linter.unusedSimpArgs false
namespace Go.Proofs.YtkffejgjpnnkmaaDoor
open Go.RowKit Go.W
open Go.Maps (Keyed)

theorem lawS : Keyed Tryd.prog 9 := Go.Maps.string_keyed Tryd.underlying9
theorem keyS {s : ByteArray} (h : s.size ≤ maxLen) : keyOf Tryd.prog 9 (strK.val s) = some (strK.lit s) := Go.WideMaps.keyOf_string_mk Tryd.underlying9 h
theorem zeroI (w : World) : (zeroValue 3).run Tryd.prog w = .ok (.int .i64 0) w := by kernel_rfl

/-- what a look-up answers -/
def getI (get : ByteArray → Option Nat) (s : ByteArray) : Int := match get s with | some i => (i : Int) | none => 0
def getB (get : ByteArray → Option Nat) (s : ByteArray) : Bool := (get s).isSome
set_option maxHeartbeats 1000000 in
theorem hindex {w : World} {tb : Nat} {T : TabD} (h : TabAt w tb T) {nm : ByteArray} (hn : nm.size ≤ maxLen) :
    Calls Tryd.prog 24 #[.pointer (some ⟨tb, 0, none⟩), .string nm] w fun e w' => e = .returned (.tuple #[.int .i64 (getI T.get nm), .bool (getB T.get nm)]) ∧ w = w' := by
  have c1 := cellAt h.blk 1
  have hrun := h.names.lookOk lawS Tryd.underlying80 (zeroI w) (keyS hn)
  have e1 : ((getV T.get nm).getD (.int .i64 0)) = .int .i64 (getI T.get nm) := by
    unfold getV getI; cases T.get nm <;> rfl
  have e2 : (getV T.get nm).isSome = getB T.get nm := by
    unfold getV getB; cases T.get nm <;> rfl
  rw [e1, e2] at hrun
  have hrun' : (Instr.lookup 80 (.map (some T.mb)) (.string nm) true).run Tryd.prog w = .ok (.tuple #[.int .i64 (getI T.get nm), .bool (getB T.get nm)]) w := hrun
  clear h e1 e2 hrun
  go_enter Tryd.func24, Tryd.ntmps24
  go_wp2_with fail
  go_ret2
  exact ⟨rfl, rfl⟩

set_option maxHeartbeats 1000000 in
theorem horder {w : World} {tb : Nat} {T : TabD} (h : TabAt w tb T) (hl : T.ord.length ≤ 5000000) :
    Calls Tryd.prog 16 #[.pointer (some ⟨tb, 0, none⟩)] w fun e w' => ∃ u, e = .returned u ∧ IntsOwn w' w.heap.size u T.ord ∧ Ch No w w' := by
  have c3 := cellAt h.blk 3
  have hcl := sclone h.ord hl
  clear h
  go_enter Tryd.func16, Tryd.ntmps16
  go_wp2_with fail
  refine hcl.mono ?_
  rintro e w1 ⟨u, rfl, hu, hc⟩
  go_wp2_with fail
  go_ret
  exact ⟨_, rfl, hu, hc⟩

/-- those right above a class, as its row tells them -/
def Knd.right (k : Knd) : List Int := (if 0 ≤ k.sup then [k.sup] else []) ++ k.fs

set_option maxHeartbeats 2000000 in
theorem hright {w : World} {tb : Nat} {T : TabD} (h : TabAt w tb T) {n : Nat} {k : Knd} (hk : T.ks[n]? = some k) (hl : k.fs.length ≤ 1000000) :
    Calls Tryd.prog 28 #[.pointer (some ⟨tb, 0, none⟩), .int .i64 n] w fun e w' => ∃ u, e = .returned u ∧ IntsOwn w' w.heap.size u k.right ∧ Ch No w w' := by
  have ht := hthere_yes h hk
  have hcl := sclone (h.all.fs k (List.mem_of_getElem? hk)) (by omega)
  have H := hid h
  obtain ⟨b, off, cap, e, hc, h1, h2⟩ := h.all.cell hk
  have HKC := hid (show w.cell? ⟨b, off + n * 4 + 2, none⟩ = some (.int .i64 k.sup) from hc.q2)
  have hn := (List.getElem?_eq_some_iff.1 hk).1
  unfold maxLen at h2
  have c0 := cellAt h.blk 0
  have HB := hid h.blk
  have E := hid e
  rw [e] at c0
  have q3 := hc.q3
  clear h e hc hk
  go_enter Tryd.func28, Tryd.ntmps28
  go_wp2_with fail
  refine ht.mono ?_
  rintro e w1 ⟨rfl, rfl⟩
  go_wp2_with fail
  refine hcl.mono ?_
  rintro e w1 ⟨u, rfl, hu, hch⟩
  have c0' := cellAt (hch.keep _ _ HB.out (fun h => h)) 0
  rw [E.out] at c0'
  have q2' := cell_ch HKC.out hch (fun _ _ h => h)
  cases hs : decide (0 ≤ k.sup) with
  | false =>
    have hs' : ¬ 0 ≤ k.sup := by simpa using hs
    go_wp2_with fail
    go_ret
    refine ⟨_, rfl, ?_, hch⟩
    unfold Knd.right
    rw [if_neg (by omega)]
    exact hu
  | true =>
    have hs' : 0 ≤ k.sup := by simpa using hs
    have hub := fun g hg => hu.lt g hg
    have hvb := heap_alloc_new w1 (.cells #[.int .i64 k.sup] 3)
    have hz := hch.size
    have hins := insertS (hu.alloc (.cells #[.int .i64 k.sup] 3)) 0 (Nat.zero_le _) hl k.sup w1.heap.size hvb (fun e => by have := hub _ e; omega) (Nat.le_trans hz ((Ch.refl No w1).alloc (.cells #[.int .i64 k.sup] 3)).size)
    have HU := hid hub
    clear hub hu
    go_wp2_with fail
    refine hins.mono ?_
    rintro e w2 ⟨v', rfl, hv', hc2, hg2⟩
    go_wp2_with fail
    go_ret
    refine ⟨_, rfl, ?_, ?_⟩
    · unfold Knd.right
      rw [if_pos hs']
      simpa using hv'
    · exact (hch.alloc _).trans' hc2 (fun j o ho h => by have := HU.out j h; have := lt_size ho; omega)

theorem SetsAt.slice {w : World} {v : Value} {ss : List SetP} (h : SetsAt w v ss) : ∃ ao cap, v = .slice ao ss.length cap ∧ ss.length ≤ cap ∧ cap ≤ maxLen := by
  obtain ⟨ao, cap, e, h1, h2, _⟩ := h.row
  rw [List.length_map] at e h1
  exact ⟨ao, cap, e, h1, h2⟩
theorem SetsAt.cell {w : World} {v : Value} {ss : List SetP} (h : SetsAt w v ss) {i : Nat} {s : SetP} (hs : ss[i]? = some s) :
    ∃ b off cap, v = .slice (some ⟨b, off, none⟩) ss.length cap ∧ w.cell? ⟨b, off + i, none⟩ = some s.val ∧ ss.length ≤ cap ∧ cap ≤ maxLen := by
  obtain ⟨ao, cap, e, h1, h2, h3, h4⟩ := h.row
  have hl : i < ss.length := (List.getElem?_eq_some_iff.1 hs).1
  obtain ⟨b, off, rfl, h5⟩ := h4 (by rw [List.length_map]; omega)
  have h6 := h5 i [s.val] (by rw [List.getElem?_map, hs]; rfl) 0 (by omega)
  exact ⟨b, off, cap, by rw [e, List.length_map], by simpa using h6, by rw [List.length_map] at h1; exact h1, h2⟩
end Go.Proofs.YtkffejgjpnnkmaaDoor
