/- Of and Merge of sets. -/
import Derived.Test.YtkffejgjpnnkmaaDoorIn
set_option linter.unusedVariables false
set_option linter.unusedSimpArgs false
namespace Go.Proofs.YtkffejgjpnnkmaaDoor
open Go.RowKit Go.W

/-- pv: a set of the numbers l, in blocks from B on -/
def SetNew (B : Nat) (w : World) (pv : Value) (l : List Int) : Prop :=
  ∃ sb ob, pv = .pointer (some ⟨sb, 0, none⟩) ∧ SetAt w sb l ob ∧ B ≤ sb ∧ ∀ b, ob = some b → B ≤ b

theorem set_zero (w : World) : SetAt (w.alloc (.cells #[.slice none 0 0, .slice none 0 0, .int .i64 0] 108)) w.heap.size [] none :=
  ⟨good_nil, .inl ⟨.slice none 0 0, heap_alloc_new w _, IntsOwn.nil _ _, rfl, (fun h => by cases h), by simp⟩⟩

set_option maxHeartbeats 2000000 in
theorem sof {w : World} {v : Value} {ns : List Int} (h : IntsAt w v ns) :
    Calls Tryd.prog 53 #[v] w fun e w' => ∃ u, e = .returned u ∧ SetNew w.heap.size w' u (ns.foldl putS []) ∧ Ch No w w' := by
  obtain ⟨ao, cap, rfl, hcap, hmax, hnc, hcell⟩ := h
  obtain ⟨len, hlen⟩ : ∃ len, ns.length = len := ⟨_, rfl⟩
  rw [hlen] at hcap hcell ⊢
  unfold maxLen at hmax
  have HL := hid hlen
  have HZ := hid (set_zero w)
  have HCZ := hid ((Ch.refl No w).alloc (.cells #[.slice none 0 0, .slice none 0 0, .int .i64 0] 108))
  clear hlen hnc
  go_enter Tryd.func53, Tryd.ntmps53
  go_wp2_with fail
  go_loopg [10] len (fun g s10 wr => ∃ (k : Nat) (ob : Option Nat), k ≤ len ∧ len - k ≤ g ∧ s10 = .int .i64 k ∧ SetAt wr w.heap.size ((ns.take k).foldl putS []) ob ∧ Ch No w wr ∧ (∀ b, ob = some b → w.heap.size ≤ b))
  case atStart => exact ⟨0, none, Nat.zero_le _, by omega, rfl, HZ.out, HCZ.out, fun _ h => by cases h⟩
  case round =>
    obtain ⟨k, ob, hk, hg, rfl, hset, hch, hob⟩ := hrel
    cases hd : decide (k < len) with
    | false =>
      go_wp2_with fail
      go_ret
      have hkl : ¬ k < len := by simpa using hd
      rw [List.take_of_length_le (by have := HL.out; omega)] at hset
      exact ⟨_, rfl, ⟨_, ob, rfl, hset, Nat.le_refl _, hob⟩, hch⟩
    | true =>
      have hkl : k < len := by simpa using hd
      obtain ⟨b, off, rfl, hc⟩ := hcell (by omega)
      obtain ⟨x, hx⟩ : ∃ x, ns[k]? = some x := ⟨_, List.getElem?_eq_getElem (by have := HL.out; omega)⟩
      have hq := cell_ch (hc k x hx) hch (fun _ _ h => h)
      have HX := hid hx
      have hcall := sadd hset x
      clear hc hcell hx hset
      go_wp2_with fail
      refine hcall.mono ?_
      rintro e w' ⟨rfl, ob', hset', hch', hob'⟩
      go_wp2_with fail
      go_roundg (len - k - 1)
      case rel =>
        refine ⟨k + 1, ob', by omega, by omega, by go_num, ?_, hch.trans' hch' (fun j o ho h => ?_), fun b hb => ?_⟩
        · rw [List.take_add_one, HX.out, List.foldl_append]
          exact hset'
        · have := lt_size ho
          rcases h with h | h
          · omega
          · have := hob j h; omega
        · rcases hob' with h | ⟨g, h, h2⟩
          · exact hob b (h ▸ hb)
          · rw [h] at hb; cases hb
            have := hch.size; omega
      case measure => omega

theorem grown_ch {w w' : World} {o : Obj} {row : Option Nat} (hg : (w.alloc o).grownBy w' row) : Ch (fun j _ => row = some j) w w' := ((Ch.refl _ w).alloc o).grown hg (fun _ _ h _ => h)

/-- what Merge does: those of l' that are new to l -/
def fresh (l l' : List Int) : List Int := l'.filter (fun x => !decide (x ∈ l))

theorem mem_fold {l l' : List Int} {m : Int} : m ∈ l'.foldl putS l ↔ m ∈ l ∨ (m ∈ l' ∧ 0 ≤ m ∧ m ≤ 1048575) := by
  induction l' generalizing l with
  | nil => simp
  | cons x r ih =>
    simp only [List.foldl_cons]
    rw [ih, mem_putS, List.mem_cons]
    constructor
    · rintro ((h | ⟨rfl, h⟩) | ⟨h, h2⟩)
      · exact .inl h
      · exact .inr ⟨.inl rfl, h⟩
      · exact .inr ⟨.inr h, h2⟩
    · rintro (h | ⟨rfl | h, h2⟩)
      · exact .inl (.inl h)
      · exact .inl (.inr ⟨rfl, h2⟩)
      · exact .inr ⟨h, h2⟩

theorem Good.fold {l : List Int} (h : Good l) (l' : List Int) : Good (l'.foldl Go.Proofs.YtkffejgjpnnkmaaDoor.putS l) := by
  induction l' generalizing l with
  | nil => exact h
  | cons x r ih => exact ih (h.putS x)

theorem not_before {l : List Int} (h : Good l) {k : Nat} {x : Int} (hx : l[k]? = some x) : x ∉ l.take k := by
  intro hm
  have hp := h.1
  rw [← List.take_append_drop k l] at hp
  have h3 := (List.pairwise_append.1 hp).2.2 x hm x (by
    rw [← Nat.add_zero k, ← List.getElem?_drop] at hx
    exact List.mem_of_getElem? hx)
  omega

set_option maxHeartbeats 4000000 in
theorem smerge {w : World} {sb : Nat} {l : List Int} {ob : Option Nat} {tv : Value} {l' : List Int} {tsb tob : Option Nat} (hT : Tab w) (h : SetAt w sb l ob) (h' : SetV w tv l' tsb tob) :
    Calls Tryd.prog 55 #[.pointer (some ⟨sb, 0, none⟩), tv] w fun e w' => ∃ u ob', e = .returned u ∧ IntsOwn w' w.heap.size u (fresh l l') ∧ SetAt w' sb (l'.foldl putS l) ob' ∧
      Ch (So sb ob) w w' ∧ (ob' = ob ∨ ∃ g, ob' = some g ∧ w.heap.size ≤ g) := by
  have hli := slist hT h'
  have hg' := h'.good
  have hlt := h.lt
  have hl2 := hg'.len
  clear h' hT
  go_enter Tryd.func55, Tryd.ntmps55
  go_wp2_with fail
  refine hli.mono ?_
  rintro e w0 ⟨u0, rfl, hu0, hch0⟩
  have hlt0 := fun k => hu0.lt k
  have hat := hu0.at_
  obtain ⟨ao, cap, rfl, hcap, hmax, hnc, hcell⟩ := hat
  obtain ⟨len, hlen⟩ : ∃ len, l'.length = len := ⟨_, rfl⟩
  rw [hlen] at hcap hcell hlt0 hl2 ⊢
  unfold maxLen at hmax
  have HL := hid hlen
  have HG := hid hg'
  have hs0 := h.no hch0
  have hsz0 := hch0.size
  clear hlen hnc hli h hg' hu0
  go_wp2_with fail
  go_loopg [5, 13] len (fun g s5 s13 wr => ∃ (k : Nat) (ob' : Option Nat), k ≤ len ∧ len - k ≤ g ∧ s13 = .int .i64 k ∧ IntsOwn wr w0.heap.size s5 (fresh l (l'.take k)) ∧ SetAt wr sb ((l'.take k).foldl putS l) ob' ∧
    Ch (So sb ob) w0 wr ∧ (ob' = ob ∨ ∃ g, ob' = some g ∧ w0.heap.size ≤ g) ∧ (∀ g, s5.ownBlock = some g → ob' ≠ some g))
  case atStart => exact ⟨0, ob, Nat.zero_le _, by omega, rfl, IntsOwn.nil _ _, hs0, Ch.refl _ _, .inl rfl, fun _ h => by cases h⟩
  case round =>
    obtain ⟨k, ob', hk, hg, rfl, hown, hset, hch, hob, hdis⟩ := hrel
    cases hd : decide (k < len) with
    | false =>
      go_wp2_with fail
      go_ret
      have hkl : ¬ k < len := by simpa using hd
      rw [List.take_of_length_le (by have := HL.out; omega)] at hset hown
      refine ⟨_, ob', rfl, hown.base hsz0, hset, (hch0.mono (fun _ _ _ h => False.elim h)).trans hch, ?_⟩
      rcases hob with h | ⟨g, h, h2⟩
      · exact .inl h
      · exact .inr ⟨g, h, by omega⟩
    | true =>
      have hkl : k < len := by simpa using hd
      obtain ⟨b, off, rfl, hc⟩ := hcell (by omega)
      obtain ⟨x, hx⟩ : ∃ x, l'[k]? = some x := ⟨_, List.getElem?_eq_getElem (by have := HL.out; omega)⟩
      have hb0 := hlt0 b rfl
      have hq := cell_ch (hc k x hx) hch (fun o _ h => by
        rcases h with h | h
        · have : b = sb := h
          omega
        · have := hlt.2 _ h
          have : b < w.heap.size := this
          omega)
      have HX := hid hx
      have hxr := HG.out.2 x (List.mem_of_getElem? hx)
      have hcall := sadd hset x
      have hnb := not_before HG.out hx
      have hmx : x ∈ (l'.take k).foldl putS l ↔ x ∈ l := by
        rw [mem_fold]
        exact ⟨fun h => h.elim id (fun h => absurd h.1 hnb), .inl⟩
      have hdec : decide (0 ≤ x ∧ x ≤ 1048575 ∧ x ∉ (l'.take k).foldl putS l) = !decide (x ∈ l) := by
        cases hxl : decide (x ∈ l) with
        | true => have : x ∈ l := by simpa using hxl
                  simp [hmx.2 this]
        | false => have : x ∉ l := by simpa using hxl
                   have h2 : x ∉ (l'.take k).foldl putS l := fun h => this (hmx.1 h)
                   simp [h2, hxr.1, hxr.2]
      unfold AddP at hcall
      rw [hdec] at hcall
      have HM := hid hmx
      have hfl : (fresh l (l'.take k)).length ≤ 1048576 := Nat.le_trans (List.length_filter_le _ _) (by rw [List.length_take]; omega)
      have hb1 : (fresh l (l'.take k)).length + [x].length ≤ 10000000 := by simp only [List.length_singleton]; omega
      have hsetlt := hset.lt
      clear hc hcell hx hset hdec hmx hnb
      go_wp2_with fail
      refine hcall.mono ?_
      rintro e w1 ⟨rfl, ob1, hset1, hch1, hob1⟩
      have hown1 := hown.ch hch1 (fun g o h1 h2 _ h => by
        rcases h with h | h
        · omega
        · exact hdis g h1 h)
      have hlt5 := fun j h => hown1.lt j h
      have hlt6 := fun j h => hown.lt j h
      have hch2 : Ch (So sb ob) w0 w1 := hch.trans' hch1 (fun j o ho h => by
        rcases h with h | h
        · exact .inl h
        · rcases hob with h2 | ⟨g, h2, h3⟩
          · exact .inr (h2 ▸ h)
          · rw [h2] at h; cases h
            have := lt_size ho; omega)
      have hob2 : ob1 = ob ∨ ∃ g, ob1 = some g ∧ w0.heap.size ≤ g := by
        rcases hob1 with h | ⟨g, h, h2⟩
        · rw [h]; exact hob
        · have := hch.size
          exact .inr ⟨g, h, by omega⟩
      have htk : l'.take (k + 1) = l'.take k ++ [x] := by rw [List.take_add_one, HX.out]; rfl
      have hset2 : SetAt w1 sb ((l'.take (k + 1)).foldl putS l) ob1 := by
        rw [htk, List.foldl_append]; exact hset1
      have hfr : fresh l (l'.take (k + 1)) = fresh l (l'.take k) ++ (if decide (x ∈ l) = true then [] else [x]) := by
        unfold fresh
        rw [htk, List.filter_append]
        congr 1
        cases h : decide (x ∈ l) <;> simp [h]
      have dis1 := fun g (h : _ = some g) (e : ob1 = some g) => show False from by
        rcases hob1 with h2 | ⟨g2, h2, h3⟩
        · exact hdis g h (h2.symm.trans e)
        · have := hlt6 g h
          rw [h2] at e; cases e
          omega
      cases hxl : decide (x ∈ l) with
      | true =>
        rw [hxl] at hfr
        go_wp2_with fail
        go_roundg (len - k - 1)
        case rel =>
          refine ⟨k + 1, ob1, by omega, by omega, by go_num, ?_, hset2, hch2, hob2, dis1⟩
          rw [hfr]; simpa using hown1
        case measure => omega
      | false =>
        rw [hxl] at hfr
        have hsz1 : w0.heap.size ≤ w1.heap.size := hch2.size
        have hch3 := (Ch.refl No w1).alloc (.cells #[.int .i64 x] 3)
        go_wp2_with (at_builtin; go_must (refine wpAppendI2 rfl _ _ rfl w0.heap.size _ _ [x] rfl (hown1.alloc _) (.slice (some ⟨w1.heap.size, 0, none⟩) 1 1) rfl (one_at w1 x) Nat.zero_lt_one hb1 (Nat.le_trans hsz1 hch3.size) ?_))
        intro v2 w2 hown2 hgrow2 hblk2
        go_wp2_with fail
        go_roundg (len - k - 1)
        case rel =>
          have hsetlt1 := hset1.lt
          have hgc := grown_ch hgrow2
          refine ⟨k + 1, ob1, by omega, by omega, by go_num, ?_, ?_, ?_, hob2, fun g h e => ?_⟩
          · rw [hfr]; simpa using hown2
          · exact hset2.ch hgc (fun o h => by have := (hlt5 _ h).1; omega) (fun b o h1 h2 => dis1 b h2 h1)
          · exact hch2.trans' hgc (fun j o ho h => by have := (hlt5 _ h).1; have := lt_size ho; omega)
          · rcases hblk2 with h2 | h2
            · exact dis1 g (h2.symm.trans h) e
            · rw [h2] at h; cases h
              have := hsetlt1.2 _ e
              have := hch3.size
              omega
        case measure => omega
end Go.Proofs.YtkffejgjpnnkmaaDoor
