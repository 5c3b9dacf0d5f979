/- The rows of the table, as New lays them; the first place of each name. -/
import Derived.Test.YtkffejgjpnnkmaaDoorHy
import Derived.Test.YtkffejgjpnnkmaaDoorHv2
import Derived.Test.YtkffejgjpnnkmaaDoorHza
set_option linter.unusedVariables false
set_option linter.unusedSimpArgs false
namespace Go.Proofs.YtkffejgjpnnkmaaDoor
open Go.RowKit Go.W

theorem Tryd.infoKind : (Tryd.prog.info? 86).map (fun i => (i.zero.map (fun z => z.cells.size), i.size, i.bytes)) = some (some 4, 4, 56) := by kernel_rfl
theorem Tryd.sliceKind : Tryd.prog.underlying 81 = some (.slice 86) := by kernel_rfl

structure KndsOwn (w : World) (base : Nat) (v : Value) (ks : List Knd) : Prop where
  row : w.ownsRow base 86 4 v ks.length (ks.flatMap Knd.cells)
  fs : ∀ k ∈ ks, IntsOwn w base (.slice k.fa k.fs.length k.fc) k.fs
theorem KndsOwn.nil (w : World) (base : Nat) : KndsOwn w base (.slice none 0 0) [] := ⟨World.ownsRow_nil _ _ _ _, fun k hk => by cases hk⟩
theorem KndsOwn.ch {S : Nat → Obj → Prop} {w w' : World} {base : Nat} {v : Value} {ks : List Knd} (h : KndsOwn w base v ks) (hc : Ch S w w') (hS : ∀ g o, base ≤ g → ¬ S g o) : KndsOwn w' base v ks :=
  ⟨ownsRow_ch h.row hc (fun g cur _ hg _ => hS g _ hg), fun k hk => (h.fs k hk).ch hc (fun g o _ hg _ => hS g o hg)⟩
theorem KndsOwn.no {w w' : World} {base : Nat} {v : Value} {ks : List Knd} (h : KndsOwn w base v ks) (hc : Ch No w w') : KndsOwn w' base v ks := h.ch hc (fun _ _ _ h => h)
theorem KndsOwn.lt {w : World} {base : Nat} {v : Value} {ks : List Knd} (h : KndsOwn w base v ks) : ∀ g, v.ownBlock = some g → base ≤ g ∧ ∃ cur, w.heap[g]? = some (.cells cur 86 (0, 0)) := by
  intro g hg
  rcases h.row.2 with ⟨rfl, _⟩ | ⟨g', cap, cur, rfl, h2, h3, _⟩
  · simp [Value.ownBlock] at hg
  · have e : g' = g := by simpa [Value.ownBlock] using hg
    subst e
    exact ⟨h2, cur, h3⟩
theorem IntsOwn.typed {w : World} {base : Nat} {v : Value} {l : List Int} (h : IntsOwn w base v l) : ∀ g, v.ownBlock = some g → ∃ cur, w.heap[g]? = some (.cells cur 3 (0, 0)) := by
  intro g hg
  rcases h.2 with ⟨rfl, _⟩ | ⟨g', cap, cur, rfl, h2, h3, _⟩
  · simp [Value.ownBlock] at hg
  · have e : g' = g := by simpa [Value.ownBlock] using hg
    subst e
    exact ⟨cur, h3⟩
theorem Knd.cells_len (k : Knd) : k.cells.length = 4 := rfl
theorem KndsOwn.shape {w : World} {base : Nat} {v : Value} {ks : List Knd} (h : KndsOwn w base v ks) : ∃ ao cap, v = .slice ao ks.length cap ∧ ks.length ≤ cap ∧ cap ≤ maxLen := by
  rcases h.row.2 with ⟨rfl, h0⟩ | ⟨g, cap, cur, rfl, _, _, h4, h5, _⟩
  · rw [h0]; exact ⟨_, _, rfl, Nat.le_refl _, Nat.zero_le _⟩
  · exact ⟨_, _, rfl, h4, h5⟩
theorem KndsOwn.at_ {w : World} {base : Nat} {v : Value} {ks : List Knd} (h : KndsOwn w base v ks) : KndsAt w v ks := by
  refine ⟨?_, fun k hk => (h.fs k hk).at_⟩
  rcases h.row.2 with ⟨rfl, h0⟩ | ⟨g, cap, cur, rfl, hg, hh, h4, h5, h6, h7⟩
  · have : ks = [] := List.length_eq_zero_iff.1 h0
    subst this
    exact ⟨none, 0, rfl, Nat.le_refl _, Nat.zero_le _, by simp, fun h => by simp at h⟩
  · refine ⟨some ⟨g, 0, none⟩, cap, by rw [List.length_map], by rw [List.length_map]; exact h4, h5, fun c hc => ?_, fun _ => ⟨g, 0, rfl, fun i c hi j hj => ?_⟩⟩
    · obtain ⟨k, _, rfl⟩ := List.mem_map.1 hc
      rfl
    · rw [List.getElem?_map] at hi
      cases hk : ks[i]? with
      | none => rw [hk] at hi; cases hi
      | some k =>
        rw [hk] at hi
        have : c = k.cells := by simpa using hi.symm
        subst this
        have hil := (List.getElem?_eq_some_iff.1 hk).1
        rw [cellAt hh, Nat.zero_add, ← Array.getElem?_toList]
        have hf := flat_get Knd.cells 4 Knd.cells_len ks i j k hk hj
        rw [← h7, List.getElem?_take, if_pos (by omega)] at hf
        exact hf

/-- a row more -/
theorem run_appendK (w : World) (base : Nat) (v : Value) (ks : List Knd) (hown : KndsOwn w base v ks) (k : Knd) (b c : Nat) (hb : w.heap[b]? = some (.cells #[.string k.name, .bool k.face, .int .i64 k.sup, .slice k.fa k.fs.length k.fc] 86 (0, 0)))
    (hn : ks.length ≤ 1000) (hbase : base ≤ w.heap.size) (hfs : IntsOwn w base (.slice k.fa k.fs.length k.fc) k.fs) (ty : TypeId) :
    ∃ v' w', (Builtin.append_ #[81, 81] ty #[v, .slice (some ⟨b, 0, none⟩) 1 c]).run Tryd.prog w = .ok v' w' ∧ KndsOwn w' base v' (ks ++ [k]) ∧ Ch (fun j _ => v.ownBlock = some j) w w' := by
  obtain ⟨i, z, hi, hz, h1, h2, h3⟩ := infoOf Tryd.infoKind
  have hm : maxLen = 9223372036854775807 := rfl
  obtain ⟨v', w', hr, ho, hg, _⟩ := run_append_own (P := Tryd.prog) w base 81 ty 86 i z 4 56 Tryd.sliceKind hi hz h2 h3 h1 (by decide) v ks.length _ hown.row ⟨b, 0, none⟩ 1 c k.cells rfl
    (fun j u hj => by
      rw [Addr.add_lit, cellAt hb, Nat.zero_add]
      have : k.cells[j]? = (#[.string k.name, .bool k.face, .int .i64 k.sup, .slice k.fa k.fs.length k.fc] : Array Value)[j]? := by
        rw [← Array.getElem?_toList]; rfl
      rw [← this]; exact hj) (by intro u hu; simp [Knd.cells] at hu; rcases hu with rfl | rfl | rfl | rfl <;> rfl) (by omega) (by omega) hbase
  have hch : Ch (fun j _ => v.ownBlock = some j) w w' := (Ch.refl _ w).grown hg (fun _ _ h _ => h)
  refine ⟨v', w', hr, ⟨?_, fun x hx => ?_⟩, hch⟩
  · rw [List.length_append, List.flatMap_append]
    simpa using ho
  · have hx' : IntsOwn w base (.slice x.fa x.fs.length x.fc) x.fs := by
      rcases List.mem_append.1 hx with hx | hx
      · exact hown.fs x hx
      · have : x = k := by simpa using hx
        subst this; exact hfs
    refine hx'.ch hch (fun g o hg hbg ho e => ?_)
    obtain ⟨cur, h5⟩ := hx'.typed g hg
    obtain ⟨_, cur2, h6⟩ := hown.lt g e
    rw [h5] at h6
    simp at h6

theorem step_appendK {ops : Array Oper} {o : Oper} {a : Act} {w : World} {K : Act → World → Prop} {Q : Exit → Act → World → Prop} {E : Prop}
    (hg : o.guard = none) (s x : Operand) (hop : o.op = Op.call { callee := Callee.builtin Builtin.append, args := #[s, x], argTypes := #[81, 81] })
    (base : Nat) (v : Value) (ks : List Knd) (hs : a.eval s = v) (hown : KndsOwn w base v ks) (k : Knd) (b c : Nat) (hx : a.eval x = .slice (some ⟨b, 0, none⟩) 1 c)
    (hb : w.heap[b]? = some (.cells #[.string k.name, .bool k.face, .int .i64 k.sup, .slice k.fa k.fs.length k.fc] 86 (0, 0)))
    (hn : ks.length ≤ 1000) (hbase : base ≤ w.heap.size) (hfs : IntsOwn w base (.slice k.fa k.fs.length k.fc) k.fs)
    (hK : ∀ v' w', KndsOwn w' base v' (ks ++ [k]) → Ch (fun j _ => v.ownBlock = some j) w w' → K (a.put o.dst v') w') :
    if Region.wanted o (yielded ops a.tmps) = true then Oper.wp Tryd.prog o a w K Q else E := by
  have hw : Region.wanted o (yielded ops a.tmps) = true := by simp [Region.wanted, hg]
  rw [if_pos hw]
  obtain ⟨v', w', hr, h1, h2⟩ := run_appendK w base v ks hown k b c hb hn hbase hfs o.type
  unfold Oper.wp
  simp [execOp, hop, resolve, invoke, builtin, hs, hx, hr, Result.andThen]
  exact hK v' w' h1 h2

/-- names, as far as they are laid -/
theorem find_snoc {cs : List Cls} {k : Nat} {c : Cls} (hc : cs[k]? = some c) (nm : ByteArray) :
    find (cs.take (k + 1)) nm = match find (cs.take k) nm with | some i => some i | none => if c.name = nm then some k else none := by
  have hk := (List.getElem?_eq_some_iff.1 hc).1
  rw [List.take_add_one, hc]
  unfold find
  simp only [Option.toList_some]
  rw [List.findIdx?_append]
  cases h : List.findIdx? (fun c => decide (c.name = nm)) (cs.take k) with
  | some i => rfl
  | none =>
    by_cases e : c.name = nm
    · simp [List.findIdx?_cons, e, List.length_take, Nat.min_eq_left (Nat.le_of_lt hk)]
    · simp [List.findIdx?_cons, e]
theorem take_old {cs : List Cls} {k : Nat} {c : Cls} (hc : cs[k]? = some c) (h : (find (cs.take k) c.name).isSome = true) : find (cs.take (k + 1)) = find (cs.take k) := by
  funext nm
  rw [find_snoc hc]
  cases hf : find (cs.take k) nm with
  | some i => rfl
  | none =>
    rw [if_neg]
    intro e
    rw [e, hf] at h
    cases h
theorem take_new {cs : List Cls} {k : Nat} {c : Cls} (hc : cs[k]? = some c) (h : find (cs.take k) c.name = none) : ∀ nm, getV (find (cs.take (k + 1))) nm = if nm = c.name then some (.int .i64 (k : Int)) else getV (find (cs.take k)) nm := by
  intro nm
  unfold getV
  rw [find_snoc hc]
  by_cases e : nm = c.name
  · subst e
    rw [h]; simp
  · rw [if_neg e]
    cases find (cs.take k) nm with
    | some i => rfl
    | none => rw [if_neg (fun h => e h.symm)]
end Go.Proofs.YtkffejgjpnnkmaaDoor
