/- Slices of int in memory; what Has, Put, Of, Minus and Same of the reference 01 answer. -/
import Derived.Test.YtkffejgjpnnkmaaDoorRows
import Derived.Test.YtkffejgjpnnkmaaDoorLib
import Derived.Laws.AppendOwnNone
set_option linter.unusedVariables false
set_option linter.unusedSimpArgs false
namespace Go.Proofs.YtkffejgjpnnkmaaDoor
open Go.RowKit Go.W

/-- v is a slice of the numbers l -/
def IntsAt (w : World) (v : Value) (l : List Int) : Prop :=
  ∃ ao cap, v = .slice ao l.length cap ∧ l.length ≤ cap ∧ cap ≤ maxLen ∧ (ao = none → cap = 0) ∧
    (0 < l.length → ∃ b off, ao = some ⟨b, off, none⟩ ∧ ∀ (i : Nat) (x : Int), l[i]? = some x → w.cell? ⟨b, off + i, none⟩ = some (.int .i64 x))

theorem IntsAt.nil (w : World) : IntsAt w (.slice none 0 0) [] := ⟨none, 0, rfl, Nat.le_refl _, Nat.zero_le _, fun _ => rfl, fun h => by simp at h⟩

theorem IntsAt.ch {S : Nat → Obj → Prop} {w w' : World} {v : Value} {l : List Int} (h : IntsAt w v l) (hc : Ch S w w') (hS : ∀ k o, v.ownBlock = some k → w.heap[k]? = some o → ¬ S k o) : IntsAt w' v l := by
  obtain ⟨ao, cap, rfl, h2, h3, hn, h4⟩ := h
  refine ⟨ao, cap, rfl, h2, h3, hn, fun h0 => ?_⟩
  obtain ⟨b, off, rfl, h5⟩ := h4 h0
  exact ⟨b, off, rfl, fun i x hx => cell_ch (h5 i x hx) hc (fun o ho => hS b o rfl ho)⟩

theorem IntsAt.no {w w' : World} {v : Value} {l : List Int} (h : IntsAt w v l) (hc : Ch No w w') : IntsAt w' v l := h.ch hc (fun _ _ _ _ h => h)
theorem IntsAt.alloc {w : World} {v : Value} {l : List Int} (h : IntsAt w v l) (o : Obj) : IntsAt (w.alloc o) v l := h.no ((Ch.refl _ _).alloc o)
theorem IntsAt.drewN {w : World} {v : Value} {l : List Int} (h : IntsAt w v l) (n : Nat) : IntsAt (w.drewN n) v l := h.no ((Ch.refl _ _).drewN n)

theorem IntsAt.of_row {w : World} {base n : Nat} {v : Value} {l : List Int} (h : w.ownsRow base 3 1 v n (l.map (Value.int .i64))) : IntsAt w v l := by
  have hn : n = l.length := by have := h.1; simp at this; omega
  subst hn
  have h0 := h
  rcases h.2 with ⟨h1, h2⟩ | ⟨g, cap, cur, h1, _, _, h2, h3, _⟩
  · refine ⟨none, 0, by rw [h1, h2], by omega, Nat.zero_le _, fun _ => rfl, fun h => by omega⟩
  · subst h1
    refine ⟨_, cap, rfl, h2, h3, (fun h => by cases h), fun _ => ⟨g, 0, rfl, fun i x hx => ?_⟩⟩
    have hi := (List.getElem?_eq_some_iff.1 hx).1
    rw [Nat.zero_add, h0.cellAt i (by omega), List.getElem?_map, hx]; rfl

theorem Tryd.infoInt : (Tryd.prog.info? 3).map (fun i => (i.zero, i.size, i.bytes)) = some (some (.int .i64 0), 1, 8) := by kernel_rfl

theorem one_news {w : World} {x : Value} {t : TypeId} : ∀ j u, [x][j]? = some u → (w.alloc (.cells #[x] t)).cell? ((⟨w.heap.size, 0, none⟩ : Addr).add j) = some u := by
  intro j u hj
  match j, hj with
  | 0, hj =>
    simp at hj; subst hj
    have : (⟨w.heap.size, 0, none⟩ : Addr).add 0 = ⟨w.heap.size, 0, none⟩ := rfl
    rw [this, World.cell?_alloc_new]; rfl

theorem ret_bool {a b : Bool} (h : a = b) : Ending.returned (.bool a) = .returned (.bool b) := by rw [h]
theorem ret_int {k : IntKind} {a b : Int} (h : a = b) : Ending.returned (.int k a) = .returned (.int k b) := by rw [h]

/-- the row v owns: the numbers l -/
def IntsOwn (w : World) (base : Nat) (v : Value) (l : List Int) : Prop := w.ownsRow base 3 1 v l.length (l.map (Value.int .i64))

theorem IntsOwn.at_ {w : World} {base : Nat} {v : Value} {l : List Int} (h : IntsOwn w base v l) : IntsAt w v l := IntsAt.of_row h
theorem IntsOwn.nil (w : World) (base : Nat) : IntsOwn w base (.slice none 0 0) [] := World.ownsRow_nil _ _ _ _
theorem IntsOwn.ch {S : Nat → Obj → Prop} {w w' : World} {base : Nat} {v : Value} {l : List Int} (h : IntsOwn w base v l) (hc : Ch S w w')
    (hS : ∀ g o, v.ownBlock = some g → base ≤ g → w.heap[g]? = some o → ¬ S g o) : IntsOwn w' base v l :=
  ownsRow_ch h hc (fun g cur h1 h2 h3 => hS g _ h1 h2 h3)
theorem IntsOwn.no {w w' : World} {base : Nat} {v : Value} {l : List Int} (h : IntsOwn w base v l) (hc : Ch No w w') : IntsOwn w' base v l := h.ch hc (fun _ _ _ _ _ h => h)
theorem IntsOwn.alloc {w : World} {base : Nat} {v : Value} {l : List Int} (h : IntsOwn w base v l) (o : Obj) : IntsOwn (w.alloc o) base v l := h.no ((Ch.refl _ _).alloc o)

theorem IntsOwn.base {w : World} {base base' : Nat} {v : Value} {l : List Int} (h : IntsOwn w base v l) (hb : base' ≤ base) : IntsOwn w base' v l := by
  obtain ⟨h1, h2⟩ := h
  refine ⟨h1, ?_⟩
  rcases h2 with h2 | ⟨g, cap, cur, a, b, c⟩
  · exact .inl h2
  · exact .inr ⟨g, cap, cur, a, Nat.le_trans hb b, c⟩

/-- append to an own row, of any slice of numbers -/
theorem wpAppendI {w : World} {ops : Array Oper} {rest : List Oper} {o : Oper} {a : Act} {Q : Exit → Act → World → Prop} (hgd : o.guard = none) (s x : Operand)
    (ho : o.op = .call { callee := .builtin .append, args := #[s, x], argTypes := #[41, 41] })
    (base : Nat) (v : Value) (xs l : List Int) (hs : a.eval s = v) (hown : IntsOwn w base v xs) (u : Value) (hx : a.eval x = u) (hu : IntsAt w u l)
    (hb : xs.length + l.length ≤ 10000000) (hbase : base ≤ w.heap.size)
    (h : ∀ v' w', IntsOwn w' base v' (xs ++ l) → w.grownBy w' v.ownBlock → wpList Tryd.prog ops Q rest (a.put o.dst v') w') : wpList Tryd.prog ops Q (o :: rest) a w := by
  obtain ⟨ao, cap, rfl, h1, h2, h3, h4⟩ := hu
  obtain ⟨i, z, hi, hz, hc, hsz, hby⟩ := infoOf (P := Tryd.prog) (t := 3) (a := 1) (s := 1) (b := 8) (by kernel_rfl)
  have hT : Tryd.prog.underlying 41 = some (.slice 3) := by kernel_rfl
  cases ao with
  | none =>
    obtain rfl := h3 rfl
    have hl : l.length = 0 := by omega
    obtain rfl := List.length_eq_zero_iff.1 hl
    refine wpList_append_own_none hgd s x _ ho base 3 i 1 hT hi v xs.length (xs.map (Value.int .i64)) hs hown hx ?_
    exact h v w (by rw [List.append_nil]; exact hown) (World.grownBy.refl _ _)
  | some ad =>
    have hm : maxLen = 9223372036854775807 := rfl
    refine wpList_append_own w hgd s x _ ho base 3 i z 1 8 hT hi hz hsz hby hc (by omega) v xs.length (xs.map (Value.int .i64)) hs hown ad l.length cap (l.map (Value.int .i64)) hx (by simp) ?_ ?_ ?_ ?_ hbase ?_
    · intro j u hj
      rw [List.getElem?_map, Option.map_eq_some_iff] at hj
      obtain ⟨y, hy, rfl⟩ := hj
      have hlt := (List.getElem?_eq_some_iff.1 hy).1
      obtain ⟨b, off, e, h5⟩ := h4 (by omega)
      cases e
      rw [Addr.add_lit]
      exact h5 j y hy
    · intro u hu
      obtain ⟨y, _, rfl⟩ := List.mem_map.1 hu
      rfl
    · have : l.length ≤ 10000000 := by omega
      rw [hm]; omega
    · omega
    · intro v' w' hown' hg _
      refine h v' w' ?_ hg
      unfold IntsOwn
      rw [List.length_append, List.map_append]
      exact hown'

theorem rhas {w : World} {v : Value} {l : List Int} (h : IntsAt w v l) (n : Int) :
    Calls Tryd.prog 57 #[v, .int .i64 n] w fun e w' => e = .returned (.bool (decide (n ∈ l))) ∧ w' = w := by
  obtain ⟨ao, cap, rfl, hcap, hmax, hnc, hcell⟩ := h
  obtain ⟨len, hlen⟩ : ∃ len, l.length = len := ⟨_, rfl⟩
  rw [hlen] at hcap hcell ⊢
  unfold maxLen at hmax
  have HL := hid hlen
  obtain ⟨r, hr⟩ : ∃ r, decide (n ∈ l) = r := ⟨_, rfl⟩
  rw [hr]
  have HR := hid hr
  clear hlen hr
  go_enter Tryd.func57, Tryd.ntmps57
  go_wp2_with fail
  go_loop [5] (fun s5 => ∃ k : Nat, k ≤ len ∧ s5 = .int .i64 k ∧ ¬ n ∈ l.take k) (fun s5 => len - (intOf s5).toNat)
  case atStart => exact ⟨0, Nat.zero_le _, rfl, by simp⟩
  case round =>
    obtain ⟨k, hk, rfl, hno⟩ := hrel
    have HN := hid hno
    clear hno
    cases hd : decide (k < len) with
    | true =>
      have hkl : k < len := by simpa using hd
      obtain ⟨b, off, rfl, hc⟩ := hcell (by omega)
      obtain ⟨x, hx⟩ : ∃ x, l[k]? = some x := ⟨_, List.getElem?_eq_getElem (by have := HL.out; omega)⟩
      have hq := hc k x hx
      have HX := hid hx
      clear hc hcell hx
      cases e0 : (x == n) with
      | true =>
        go_wp2_with fail
        go_ret
        have := HX.out
        have hxn : x = n := by simpa using e0
        exact ⟨ret_bool (by rw [← HR.out]; symm; rw [decide_eq_true_eq]; subst hxn; exact List.mem_of_getElem? this), rfl⟩
      | false =>
        go_wp2_with fail
        go_round
        case rel =>
          refine ⟨k + 1, by omega, by go_num, fun hm => ?_⟩
          have hx := HX.out
          have hk' := (List.getElem?_eq_some_iff.1 hx).1
          rw [List.take_succ_eq_append_getElem hk', List.mem_append] at hm
          rcases hm with hm | hm
          · exact HN.out hm
          · have : l[k] = x := (List.getElem?_eq_some_iff.1 hx).2
            rw [this] at hm
            simp at hm
            subst hm; simp at e0
        case measure => simp [intOf]; omega
    | false =>
      go_wp2_with fail
      go_ret
      refine ⟨ret_bool ?_, rfl⟩
      rw [← HR.out]; symm; rw [decide_eq_false_iff_not]
      have hkl : ¬ k < len := by simpa using hd
      have := HN.out
      rwa [List.take_of_length_le (by have := HL.out; omega)] at this
end Go.Proofs.YtkffejgjpnnkmaaDoor
