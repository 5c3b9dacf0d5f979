/- Appending to a row of one's own. -/
import Derived.Test.YtkffejgjpnnkmaaDoorHzb
set_option linter.unusedVariables false
set_option linter.unusedSimpArgs false
namespace Go.Proofs.YtkffejgjpnnkmaaDoor
open Go.RowKit Go.W

theorem run_appendOwn (w : World) {t e : TypeId} {sz bytes : Nat} (ht : Tryd.prog.underlying t = some (.slice e)) (hinfo : (Tryd.prog.info? e).map (fun i => (i.zero.map (fun z => z.cells.size), i.size, i.bytes)) = some (some sz, sz, bytes)) (hsz : 0 < sz) (hby : bytes ≤ 1000)
    (base : Nat) (v : Value) (n : Nat) (xs : List Value) (hown : w.ownsRow base e sz v n xs) (b m c : Nat) (news : List Value) (hl : news.length = m * sz) (hb : w.heap[b]? = some (.cells news.toArray e (0, 0))) (h1 : ∀ u ∈ news, u.oneCell' = true)
    (hn : n + m ≤ 100000) (hbase : base ≤ w.heap.size) (ty : TypeId) :
    ∃ v' w', (Builtin.append_ #[t, t] ty #[v, .slice (some ⟨b, 0, none⟩) m c]).run Tryd.prog w = .ok v' w' ∧ w'.ownsRow base e sz v' (n + m) (xs ++ news) ∧ Ch (fun j _ => v.ownBlock = some j) w w' := by
  obtain ⟨i, z, hi, hz, h2, h3, h4⟩ := infoOf hinfo
  have hm : maxLen = 9223372036854775807 := rfl
  obtain ⟨v', w', hr, ho, hg, _⟩ := run_append_own (P := Tryd.prog) w base t ty e i z sz bytes ht hi hz h3 h4 h2 hsz v n xs hown ⟨b, 0, none⟩ m c news hl
    (fun j u hj => by
      rw [Addr.add_lit, cellAt hb, Nat.zero_add, ← Array.getElem?_toList]
      exact hj) h1 (by omega) (by
        have : (n + m) * bytes ≤ 100000 * 1000 := Nat.mul_le_mul hn hby
        omega) hbase
  exact ⟨v', w', hr, ho, (Ch.refl _ w).grown hg (fun _ _ h _ => h)⟩

theorem wpAppendOwn {w : World} {ops : Array Oper} {rest : List Oper} {o : Oper} {a : Act} {Q : Exit → Act → World → Prop} (hgd : o.guard = none) (s x : Operand) {t e : TypeId} {sz bytes : Nat}
    (ho : o.op = .call { callee := .builtin .append, args := #[s, x], argTypes := #[t, t] })
    (ht : Tryd.prog.underlying t = some (.slice e)) (hinfo : (Tryd.prog.info? e).map (fun i => (i.zero.map (fun z => z.cells.size), i.size, i.bytes)) = some (some sz, sz, bytes)) (hsz : 0 < sz) (hby : bytes ≤ 1000)
    (base : Nat) (v : Value) (n : Nat) (xs : List Value) (hsv : a.eval s = v) (hown : w.ownsRow base e sz v n xs) (b m c : Nat) (news : List Value) (hxv : a.eval x = .slice (some ⟨b, 0, none⟩) m c) (hl : news.length = m * sz) (hb : w.heap[b]? = some (.cells news.toArray e (0, 0))) (h1 : ∀ u ∈ news, u.oneCell' = true)
    (hn : n + m ≤ 100000) (hbase : base ≤ w.heap.size)
    (hK : ∀ v' w', w'.ownsRow base e sz v' (n + m) (xs ++ news) → Ch (fun k _ => v.ownBlock = some k) w w' → wpList Tryd.prog ops Q rest (a.put o.dst v') w') :
    wpList Tryd.prog ops Q (o :: rest) a w := by
  refine wpList_plain hgd fun K hK' => ?_
  obtain ⟨v', w', hr, h2, h3⟩ := run_appendOwn w ht hinfo hsz hby base v n xs hown b m c news hl hb h1 hn hbase o.type
  unfold Oper.wp
  simp [execOp, ho, resolve, invoke, builtin, hsv, hxv, hr, Result.andThen]
  exact hK' _ _ (hK v' w' h2 h3)

theorem step_appendOwn {ops : Array Oper} {o : Oper} {a : Act} {w : World} {K : Act → World → Prop} {Q : Exit → Act → World → Prop} {E : Prop}
    (hg : o.guard = none) (s x : Operand) {t e : TypeId} {sz bytes : Nat} (hop : o.op = Op.call { callee := Callee.builtin Builtin.append, args := #[s, x], argTypes := #[t, t] })
    (ht : Tryd.prog.underlying t = some (.slice e)) (hinfo : (Tryd.prog.info? e).map (fun i => (i.zero.map (fun z => z.cells.size), i.size, i.bytes)) = some (some sz, sz, bytes)) (hsz : 0 < sz) (hby : bytes ≤ 1000)
    (base : Nat) (v : Value) (n : Nat) (xs : List Value) (hs : a.eval s = v) (hown : w.ownsRow base e sz v n xs) (b m c : Nat) (news : List Value) (hx : a.eval x = .slice (some ⟨b, 0, none⟩) m c) (hl : news.length = m * sz) (hb : w.heap[b]? = some (.cells news.toArray e (0, 0))) (h1 : ∀ u ∈ news, u.oneCell' = true)
    (hn : n + m ≤ 100000) (hbase : base ≤ w.heap.size)
    (hK : ∀ v' w', w'.ownsRow base e sz v' (n + m) (xs ++ news) → Ch (fun k _ => v.ownBlock = some k) w w' → K (a.put o.dst v') w') :
    if Region.wanted o (yielded ops a.tmps) = true then Oper.wp Tryd.prog o a w K Q else E := by
  have hw : Region.wanted o (yielded ops a.tmps) = true := by simp [Region.wanted, hg]
  rw [if_pos hw]
  obtain ⟨v', w', hr, h2, h3⟩ := run_appendOwn w ht hinfo hsz hby base v n xs hown b m c news hl hb h1 hn hbase o.type
  unfold Oper.wp
  simp [execOp, hop, resolve, invoke, builtin, hs, hx, hr, Result.andThen]
  exact hK v' w' h2 h3

theorem owned_typed {w : World} {base sz n : Nat} {e : TypeId} {v : Value} {xs : List Value} (h : w.ownsRow base e sz v n xs) : ∀ g, v.ownBlock = some g → base ≤ g ∧ ∃ cur, w.heap[g]? = some (.cells cur e (0, 0)) := by
  intro g hg
  rcases h.2 with ⟨rfl, _⟩ | ⟨g', cap, cur, rfl, h2, h3, _⟩
  · simp [Value.ownBlock] at hg
  · have e : g' = g := by simpa [Value.ownBlock] using hg
    subst e
    exact ⟨h2, cur, h3⟩
/-- a block of another type is no row's own -/
theorem not_own {w : World} {base sz n : Nat} {e t : TypeId} {v : Value} {xs : List Value} {cur : Array Value} {g : Nat} (h : w.ownsRow base e sz v n xs) (hg : w.heap[g]? = some (.cells cur t (0, 0))) (hne : t ≠ e) : ¬ v.ownBlock = some g := by
  intro hv
  obtain ⟨_, cur2, h2⟩ := owned_typed h g hv
  rw [hg] at h2
  have : t = e := by
    have := Option.some.inj h2
    cases this; rfl
  exact hne this
theorem Tryd.sliceStr : Tryd.prog.underlying 45 = some (.slice 9) := by kernel_rfl
theorem Tryd.infoStr : (Tryd.prog.info? 9).map (fun i => (i.zero.map (fun z => z.cells.size), i.size, i.bytes)) = some (some 1, 1, 16) := by kernel_rfl

/-- texts in a row of one's own -/
def StrsOwn (w : World) (base : Nat) (v : Value) (l : List ByteArray) : Prop := w.ownsRow base 9 1 v l.length (l.map Value.string)
theorem StrsOwn.nil (w : World) (base : Nat) : StrsOwn w base (.slice none 0 0) [] := World.ownsRow_nil _ _ _ _
theorem StrsOwn.ch {S : Nat → Obj → Prop} {w w' : World} {base : Nat} {v : Value} {l : List ByteArray} (h : StrsOwn w base v l) (hc : Ch S w w') (hS : ∀ g cur, v.ownBlock = some g → base ≤ g → ¬ S g (.cells cur 9 (0, 0))) : StrsOwn w' base v l :=
  ownsRow_ch h hc (fun g cur e hg _ => hS g cur e hg)
theorem StrsOwn.no {w w' : World} {base : Nat} {v : Value} {l : List ByteArray} (h : StrsOwn w base v l) (hc : Ch No w w') : StrsOwn w' base v l := h.ch hc (fun _ _ _ _ h => h)
theorem StrsOwn.at_ {w : World} {base : Nat} {v : Value} {l : List ByteArray} (h : StrsOwn w base v l) : StrsAt w v l := by
  rcases h.2 with ⟨rfl, h0⟩ | ⟨g, cap, cur, rfl, hg, hh, h4, h5, h6, h7⟩
  · have : l = [] := List.length_eq_zero_iff.1 h0
    subst this
    exact ⟨none, 0, rfl, Nat.le_refl _, Nat.zero_le _, fun h => by simp at h⟩
  · refine ⟨some ⟨g, 0, none⟩, cap, rfl, h4, h5, fun _ => ⟨g, 0, rfl, fun i x hx => ?_⟩⟩
    have hi := (List.getElem?_eq_some_iff.1 hx).1
    have : (l.map Value.string)[i]? = some (.string x) := by rw [List.getElem?_map, hx]; rfl
    rw [← h7, List.getElem?_take, if_pos (by omega)] at this
    rw [cellAt hh, Nat.zero_add, ← Array.getElem?_toList]
    exact this
theorem StrsOwn.base {w : World} {base base' : Nat} {v : Value} {l : List ByteArray} (h : StrsOwn w base v l) (hb : base' ≤ base) : StrsOwn w base' v l := by
  refine ⟨h.1, ?_⟩
  rcases h.2 with h | ⟨g, cap, cur, h1, h2, h3⟩
  · exact .inl h
  · exact .inr ⟨g, cap, cur, h1, Nat.le_trans hb h2, h3⟩
/-- texts laid by a literal -/
theorem strsBuilt (w : World) (l : List ByteArray) (h0 : 0 < l.length) (hl : l.length ≤ 1000) : StrsOwn (w.alloc (.cells (l.map Value.string).toArray 9)) w.heap.size (.slice (some ⟨w.heap.size, 0, none⟩) l.length l.length) l := by
  refine ⟨by simp, .inr ⟨w.heap.size, l.length, _, rfl, Nat.le_refl _, heap_alloc_new w _, Nat.le_refl _, by unfold maxLen; omega, by simp, ?_⟩⟩
  rw [List.take_of_length_le (by simp)]
end Go.Proofs.YtkffejgjpnnkmaaDoor
