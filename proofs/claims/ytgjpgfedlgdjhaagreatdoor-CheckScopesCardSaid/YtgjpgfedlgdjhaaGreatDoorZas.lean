/- What the claim uses: part 19. -/
import Derived.Test.YtgjpgfedlgdjhaaGreatDoorZar
import Derived.Test.YtgjpgfedlgdjhaaGreatDoorZaq
import Derived.Test.YtgjpgfedlgdjhaaGreatDoorZap
section
section
set_option linter.unusedVariables false
set_option linter.unusedSimpArgs false
namespace Go.Proofs.YtgjpgfedlgdjhaaGreatDoor
open Go.RowKit Go.W
def ordN (cs : List Cls) : List Nat := Gr.order cs.length (upsN cs) cs.length []
def ordL (cs : List Cls) : List Int := (ordN cs).map (fun j : Nat => (j : Int))
def NoRing (cs : List Cls) : Prop := ∀ i, i < cs.length → ¬ Gr.Reach (upsN cs) i i
def OrdSo (cs : List Cls) (d : List Nat) : Prop := Gr.Ord cs.length (upsN cs) d ∧ ordN cs = Gr.order cs.length (upsN cs) (cs.length - d.length) d
theorem OrdSo.start (cs : List Cls) : OrdSo cs [] := ⟨.nil, by unfold ordN; simp⟩
theorem OrdSo.len {cs : List Cls} {d : List Nat} (h : OrdSo cs d) : d.length ≤ cs.length := Gr.nodup_len h.1.nodup h.1.lt
theorem OrdSo.step {cs : List Cls} {d : List Nat} (h : OrdSo cs d) {i : Nat} (hp : Gr.pick cs.length (upsN cs) d = some i) : OrdSo cs (d ++ [i]) := by
 obtain ⟨h1, h2, h3⟩ := Gr.pick_some hp
 have hn := Gr.Ord.snoc h.1 h1 h2 h3
 have hlen := Gr.nodup_len hn.nodup hn.lt
 rw [List.length_append, List.length_singleton] at hlen
 refine ⟨hn, ?_⟩
 rw [h.2, show cs.length - d.length = (cs.length - (d ++ [i]).length) + 1 from by rw [List.length_append, List.length_singleton]; omega, Gr.order, hp]
def RdyP (cs : List Cls) (d : List Nat) (i : Nat) : Prop := i ∉ d ∧ ∀ j ∈ upsN cs i, j ∈ d
theorem pickIs {cs : List Cls} {d : List Nat} {i : Nat} (hi : i < cs.length) (hr : RdyP cs d i) (hno : ∀ j, j < i → ¬ RdyP cs d j) : Gr.pick cs.length (upsN cs) d = some i := by
 unfold Gr.pick
 rw [List.find?_range_eq_some]
 refine ⟨by simp only [Bool.and_eq_true, Bool.not_eq_true', List.all_eq_true]; exact ⟨by simpa using hr.1, fun j hj => by simpa using hr.2 j hj⟩, by simpa using hi, fun j hj => ?_⟩
 have := hno j hj
 unfold RdyP at this
 simp only [Bool.not_eq_true', Bool.and_eq_false_iff, Bool.not_eq_false']
 by_cases h : j ∈ d
 · exact .inl (by simpa using h)
 · right
   rw [Bool.eq_false_iff]
   intro h2
   rw [List.all_eq_true] at h2
   exact this ⟨h, fun x hx => by simpa using h2 x hx⟩
theorem pickNo {cs : List Cls} {d : List Nat} (hno : ∀ j, j < cs.length → ¬ RdyP cs d j) : Gr.pick cs.length (upsN cs) d = none := by
 cases hp : Gr.pick cs.length (upsN cs) d with
 | none => rfl
 | some i =>
   obtain ⟨h1, h2, h3⟩ := Gr.pick_some hp
   exact absurd ⟨h2, h3⟩ (hno i h1)
end Go.Proofs.YtgjpgfedlgdjhaaGreatDoor
end
section
set_option linter.unusedVariables false
set_option linter.unusedSimpArgs false
namespace Go.Proofs.YtgjpgfedlgdjhaaGreatDoor
open Go.RowKit Go.W
def PlaceIs (l : List Int) (n : Int) (e : Ending) : Prop := ∃ i : Int, e = .returned (.int .i64 i) ∧ decide (0 ≤ i) = decide (n ∈ l)
theorem PlaceIs.yes {l : List Int} {n : Int} (k : Nat) (h : n ∈ l) : PlaceIs l n (.returned (.int .i64 k)) := ⟨k, rfl, by simp [h]⟩
theorem PlaceIs.no {l : List Int} {n : Int} (h : n ∉ l) : PlaceIs l n (.returned (.int .i64 (-1))) := ⟨-1, rfl, by simp [h]⟩
set_option maxHeartbeats 1000000 in
theorem sindexI {w : World} {v : Value} {l : List Int} (h : IntsAt w v l) (n : Int) :
   Calls Tryz.prog 144 #[v, .int .i64 n] w fun e w' => PlaceIs l n e ∧ w = w' := by
 obtain ⟨ao, cap, rfl, hcap, hmax, hnc, hcell⟩ := h
 obtain ⟨len, hlen⟩ : ∃ len, l.length = len := ⟨_, rfl⟩
 rw [hlen] at hcap hcell ⊢
 unfold maxLen at hmax
 have HL := hid hlen
 clear hlen
 go_enter Tryz.func144, Tryz.ntmps144
 go_wp2_with fail
 go_loop [8] (fun s8 => ∃ k : Nat, k ≤ len ∧ s8 = .int .i64 k ∧ Hid (¬ n ∈ l.take k)) (fun s8 => len - (intOf s8).toNat)
 case atStart => exact ⟨0, Nat.zero_le _, rfl, hid (by simp)⟩
 case round =>
   obtain ⟨k, hk, rfl, HN⟩ := hrel
   cases hd : decide (k < len) with
   | true =>
     have hkl : k < len := by simpa using hd
     obtain ⟨b, off, rfl, hc⟩ := hcell (by omega)
     obtain ⟨x, hx⟩ : ∃ x, l[k]? = some x := ⟨_, List.getElem?_eq_getElem (by have := HL.out; omega)⟩
     have hq := hc k x hx
     have HX := hid hx
     clear hc hcell hx
     cases e0 : (n == x) with
     | true =>
       go_wp2_with fail
       go_ret
       have hxn : n = x := by simpa using e0
       exact ⟨.yes k (by rw [hxn]; exact List.mem_of_getElem? HX.out), rfl⟩
     | false =>
       go_wp2_with fail
       go_round
       case rel =>
         have hxn : ¬ n = x := by simpa using e0
         refine ⟨k + 1, by omega, by go_num, hid fun hm => ?_⟩
         rw [List.take_add_one, HX.out] at hm
         rcases List.mem_append.1 hm with hm | hm
         · exact HN.out hm
         · simp at hm; exact hxn hm
       case measure => simp [intOf]; omega
   | false =>
     have hkl : ¬ k < len := by simpa using hd
     go_wp2_with fail
     go_ret
     have := HN.out
     rw [List.take_of_length_le (by have := HL.out; omega)] at this
     exact ⟨.no this, rfl⟩
set_option maxHeartbeats 1000000 in
theorem scontainsI {w : World} {v : Value} {l : List Int} (h : IntsAt w v l) (n : Int) :
   Calls Tryz.prog 106 #[v, .int .i64 n] w fun e w' => e = .returned (.bool (decide (n ∈ l))) ∧ w = w' := by
 have hi := sindexI h n
 clear h
 go_enter Tryz.func106, Tryz.ntmps106
 go_wp2_with fail
 refine hi.mono ?_
 rintro e w' ⟨⟨i, rfl, hv⟩, rfl⟩
 go_wp2_with fail
 go_ret
 exact ⟨rfl, rfl⟩
theorem ProgAt.clss {w : World} {pv : Value} {cs : List Cls} (h : ProgAt w pv cs) (c : Cls) {i : Nat} (hi : cs[i]? = some c) : StrsAt w (.slice c.fa c.faces.length c.fc) c.faces := by
 obtain ⟨cv, m0, m1, m2, m3, m4, m5, m6, m7, m8, rfl, h⟩ := h
 exact h.faces c (List.mem_of_getElem? hi)
theorem IntsOwn.shape {w : World} {base : Nat} {v : Value} {l : List Int} (h : IntsOwn w base v l) : ∃ fa fc, v = .slice fa l.length fc := by
 obtain ⟨fa, fc, e, _⟩ := h.at_
 exact ⟨fa, fc, e⟩
def SzP (cs : List Cls) : Prop := ∀ c ∈ cs, c.name.size ≤ maxLen ∧ c.sup.size ≤ maxLen ∧ ∀ f ∈ c.faces, f.size ≤ maxLen
structure okK (cs : List Cls) (c : Cls) : Prop where
 sup : c.sup.toList.isEmpty = false → ∃ s d, find cs c.sup = some s ∧ cs[s]? = some d ∧ d.face = false
 faces : okF cs c c.faces.length
theorem okC_iff {cs : List Cls} {i : Nat} {c : Cls} : okC cs i c ↔ find cs c.name = some i ∧ okK cs c :=
 ⟨fun h => ⟨h.own, h.sup, h.faces⟩, fun h => ⟨h.1, h.2.sup, h.2.faces⟩⟩
def supZ (cs : List Cls) (c : Cls) : Int := if c.sup.toList.isEmpty then -1 else findZ cs c.sup
theorem supZ_no {cs : List Cls} {c : Cls} (h : c.sup.toList.isEmpty = true) : supZ cs c = -1 := by unfold supZ; rw [h]; rfl
theorem supZ_yes {cs : List Cls} {c : Cls} (h : c.sup.toList.isEmpty = false) : supZ cs c = findZ cs c.sup := by unfold supZ; rw [h]; rfl
def KindOut (cs : List Cls) (c : Cls) (w : World) (e : Ending) (w' : World) : Prop :=
 Ch No w w' ∧ (okK cs c ∧ (∃ fa fc, e = .returned (.tuple #[.agg #[.string c.name, .bool c.face, .int .i64 (supZ cs c), .slice fa c.faces.length fc], .bool true]) ∧ IntsOwn w' w.heap.size (.slice fa c.faces.length fc) (c.faces.map (findZ cs))) ∨
   ¬ okK cs c ∧ ∃ (z : Int) (xa : Option Addr) (xn xc : Nat), e = .returned (.tuple #[.agg #[.string c.name, .bool c.face, .int .i64 z, .slice xa xn xc], .bool false]))
def fzL (cs : List Cls) (c : Cls) (k : Nat) : List Int := (c.faces.take k).map (findZ cs)
theorem fzLlen {cs : List Cls} {c : Cls} {k : Nat} (h : k ≤ c.faces.length) : (fzL cs c k).length = k := by unfold fzL; rw [List.length_map, List.length_take]; omega
theorem fzLend {cs : List Cls} {c : Cls} {k : Nat} (h : c.faces.length ≤ k) : fzL cs c k = c.faces.map (findZ cs) := by unfold fzL; rw [List.take_of_length_le h]
theorem fzLsucc {cs : List Cls} {c : Cls} {k j : Nat} {x : ByteArray} (h : c.faces[k]? = some x) (hf : find cs x = some j) : fzL cs c (k + 1) = fzL cs c k ++ [(j : Int)] := by
 unfold fzL
 rw [List.take_add_one, h]
 simp [findZ_some hf]
theorem find_inj {cs : List Cls} {x y : ByteArray} {i : Nat} (h : find cs x = some i) (h' : find cs y = some i) : x = y := by
 obtain ⟨c, hc, h1, _⟩ := find_some h
 obtain ⟨d, hd, h2, _⟩ := find_some h'
 rw [hc] at hd; cases hd
 rw [← h1, ← h2]
theorem okFmem {cs : List Cls} {c : Cls} {k j : Nat} {x : ByteArray} (h : okF cs c k) (hf : find cs x = some j) : (j : Int) ∈ fzL cs c k ↔ x ∈ c.faces.take k := by
 unfold fzL
 constructor
 · intro hm
   obtain ⟨y, hy, e⟩ := List.mem_map.1 hm
   obtain ⟨q, hq, rfl⟩ := List.mem_take_iff_getElem.1 hy
   obtain ⟨⟨j', d, h1, _⟩, _⟩ := h q _ (by omega) (List.getElem?_eq_getElem (by omega))
   rw [findZ_some h1] at e
   have : j' = j := by omega
   subst this
   rw [find_inj hf h1]
   exact hy
 · intro hm
   exact List.mem_map.2 ⟨x, hm, findZ_some hf⟩
theorem okFstep {cs : List Cls} {c : Cls} {k j : Nat} {x : ByteArray} {d : Cls} (h : okF cs c k) (hx : c.faces[k]? = some x) (hf : find cs x = some j) (hd : cs[j]? = some d) (hdf : d.face = true) (hn : x ∉ c.faces.take k) : okF cs c (k + 1) := by
 intro q f hq hqf
 by_cases e : q < k
 · exact h q f e hqf
 · have : q = k := by omega
   subst this
   rw [hx] at hqf; cases hqf
   refine ⟨⟨j, d, hf, hd, hdf⟩, fun r g hr hg => ?_⟩
   intro e; subst e
   exact hn (List.mem_take_iff_getElem.2 ⟨r, by have := (List.getElem?_eq_some_iff.1 hg).1; omega, (List.getElem?_eq_some_iff.1 hg).2⟩)
theorem okFnot {cs : List Cls} {c : Cls} {k : Nat} {x : ByteArray} (hx : c.faces[k]? = some x) (hm : x ∈ c.faces.take k) : ¬ okF cs c c.faces.length := by
 intro h
 obtain ⟨q, hq, e⟩ := List.mem_take_iff_getElem.1 hm
 exact (h k x (List.getElem?_eq_some_iff.1 hx).1 hx).2 q _ (by omega) (List.getElem?_eq_getElem (by omega)) e
theorem put4 {w : World} {b : Nat} {x0 x1 x2 x3 : Value} {t : TypeId} (h : w.heap[b]? = some (.cells #[x0, x1, x2, x3] t (0, 0))) (v0 v1 v2 v3 : Value) :
   ∃ wf, (((w.setCell ⟨b, 0, none⟩ v0).setCell ⟨b, 1, none⟩ v1).setCell ⟨b, 2, none⟩ v2).setCell ⟨b, 3, none⟩ v3 = wf ∧ wf.heap[b]? = some (.cells #[v0, v1, v2, v3] t (0, 0)) ∧ Ch (fun k _ => k = b) w wf := by
 refine ⟨_, rfl, ?_, ((((Ch.refl _ _).setCell (fun _ _ => rfl) _).setCell (fun _ _ => rfl) _).setCell (fun _ _ => rfl) _).setCell (fun _ _ => rfl) _⟩
 rw [setCell_heap (setCell_heap (setCell_heap (setCell_heap h 0 v0) 1 v1) 2 v2) 3 v3]
 rfl
end Go.Proofs.YtgjpgfedlgdjhaaGreatDoor
end
end
