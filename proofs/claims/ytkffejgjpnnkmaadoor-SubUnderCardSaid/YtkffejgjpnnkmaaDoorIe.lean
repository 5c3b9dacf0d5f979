/- slices.Insert of one number into an own row. -/
import Derived.Test.YtkffejgjpnnkmaaDoorId
set_option linter.unusedVariables false
set_option linter.unusedSimpArgs false
namespace Go.Proofs.YtkffejgjpnnkmaaDoor
open Go.RowKit Go.W Go.Shelf

theorem map_one (l : List Int) : ∀ v ∈ l.map (Value.int .i64), v.oneCell' = true := by
  intro v hv
  obtain ⟨y, _, rfl⟩ := List.mem_map.1 hv
  rfl

set_option maxHeartbeats 2000000 in
theorem insertS {w : World} {base : Nat} {v : Value} {l : List Int} (h : IntsOwn w base v l) (i : Nat) (hi : i ≤ l.length) (hl : l.length ≤ 1000000) (x : Int) (vb : Nat)
    (hvb : w.heap[vb]? = some (.cells #[.int .i64 x] 3 (0, 0))) (hne : v.ownBlock ≠ some vb) (hbase : base ≤ w.heap.size) :
    Calls Tryd.prog 58 #[v, .int .i64 i, .slice (some ⟨vb, 0, none⟩) 1 1] w fun e w' => ∃ v', e = .returned v' ∧ IntsOwn w' base v' (l.take i ++ x :: l.drop i) ∧
      Ch (fun k _ => v.ownBlock = some k) w w' ∧ (v'.ownBlock = v.ownBlock ∨ ∃ g, v'.ownBlock = some g ∧ w.heap.size ≤ g) := by
  have hvs : ∀ (j : Nat) (u : Value), [Value.int .i64 x][j]? = some u → w.cell? ⟨vb, 0 + j, none⟩ = some u := by
    intro j u hj
    rw [cellAt hvb, Nat.zero_add]
    simpa using hj
  have h1v : ∀ u ∈ [Value.int .i64 x], u.oneCell' = true := by intro u hu; simp at hu; subst hu; rfl
  have hml : (l.map (Value.int .i64)).length = l.length := by simp
  have hr : (l.map (Value.int .i64)).take i ++ (Value.int .i64 x :: (l.map (Value.int .i64)).drop i) = (l.take i ++ x :: l.drop i).map (Value.int .i64) := by
    rw [List.map_append, List.map_cons, List.map_take, List.map_drop]
  have hrl : (l.take i ++ x :: l.drop i).length = l.length + 1 := by simp only [List.length_append, List.length_cons, List.length_take, List.length_drop]; omega
  have hm : maxLen = 9223372036854775807 := rfl
  have grow : ∀ (base' : Option Addr) (c : Nat), l.length ≤ c → c < l.length + 1 → i = l.length → (base' = none → l.length = 0) →
      (∀ a, base' = some a → ∀ j v, (l.map (Value.int .i64))[j]? = some v → w.cell? (a.add j) = some v) →
      Calls Tryd.prog 58 #[.slice base' l.length c, .int .i64 i, .slice (some ⟨vb, 0, none⟩) 1 1] w fun e w' => ∃ v', e = .returned v' ∧ IntsOwn w' base v' (l.take i ++ x :: l.drop i) ∧
      Ch (fun k _ => (Value.slice base' l.length c).ownBlock = some k) w w' ∧ (v'.ownBlock = (Value.slice base' l.length c).ownBlock ∨ ∃ g, v'.ownBlock = some g ∧ w.heap.size ≤ g) := by
    intro base' c h1 h2 h3 h4 h5
    subst h3
    refine Calls.mono (Any2.slices_Insert_int_end_grow lays21 base' l.length c vb 0 1 1 _ _ w (by omega) h1 h2 (by omega) hml rfl h4 h5 hvs h1v) ?_
    rintro e w' ⟨rfl, rfl⟩
    show ∃ v', Ending.returned (.slice (some ⟨w.heap.size, 0, none⟩) (l.length + 1) (grownCap w (l.length + 1) c 3)) = .returned v' ∧ IntsOwn (w.drew.alloc (.cells ((l.map (Value.int .i64) ++ [Value.int .i64 x]).toArray ++ Builtin.zeroCells (Value.int .i64 0).cells (grownCap w (l.length + 1) c 3 - (l.length + 1))) 3)) base v' _ ∧ _ ∧ _
    have hG1 := grownCap_ge w (l.length + 1) c 3
    have hG2 := grownCap_le_maxLen w (l.length + 1) c 3 (by omega)
    generalize grownCap w (l.length + 1) c 3 = G at hG1 hG2
    refine ⟨_, rfl, ?_, ((Ch.refl _ _).drew).alloc _, .inr ⟨_, rfl, Nat.le_refl _⟩⟩
    refine ⟨by simp, .inr ⟨w.heap.size, _, _, by rw [hrl], hbase, heap_alloc_new w.drew _, by rw [hrl]; exact hG1, hG2, ?_, ?_⟩⟩
    · rw [Array.size_append, size_zeroCells]
      have e : (Value.int .i64 0).cells.size = 1 := rfl
      rw [e]
      simp
      omega
    · rw [hrl, ← hr, Nat.mul_one]
      rw [List.take_of_length_le (i := l.length) (by simp), List.drop_of_length_le (by simp), Array.toList_append, List.take_append_of_le_length (by simp)]
      rw [List.take_of_length_le (by simp)]
  rcases h.2 with ⟨rfl, hl0⟩ | ⟨g, cap, cur, rfl, hg, hh, hcap, hmax, hcs, hct⟩
  · obtain rfl := List.length_eq_zero_iff.1 hl0
    have hi0 : i = 0 := by simpa using hi
    exact grow none 0 (by simp) (by simp) hi0 (fun _ => rfl) (fun _ h => by cases h)
  · rw [Nat.mul_one] at hct hcs
    have hcell : ∀ (j : Nat) (u : Value), (l.map (Value.int .i64))[j]? = some u → w.cell? ⟨g, 0 + j, none⟩ = some u := by
      intro j u hj
      have hj' := (List.getElem?_eq_some_iff.1 hj).1
      rw [hml] at hj'
      rw [cellAt hh, Nat.zero_add, ← Array.getElem?_toList]
      rw [← hct, List.getElem?_take, if_pos hj'] at hj
      exact hj
    have hcurl : cur.toList.length = cap := by simpa using hcs
    have hgv : vb ≠ g := fun e => hne (by rw [e]; rfl)
    by_cases hroom : l.length + 1 ≤ cap
    · by_cases hil : i = l.length
      · subst hil
        refine Calls.mono (Any2.slices_Insert_int_end_room lays21 g 0 l.length cap vb 0 1 1 [.int .i64 x] w (by omega) hroom (by omega) rfl
          (fun j hj => by rw [cellAt hh, Array.getElem?_eq_getElem (by omega)]; rfl) (fun j hj => freeAt hh _) hvs h1v) ?_
        rintro e w' ⟨rfl, rfl⟩
        obtain ⟨cur', h1, h2, h3⟩ := setCells_heap [.int .i64 x] (0 + l.length) w cur hh (by simp; omega)
        refine ⟨_, rfl, ⟨by simp, .inr ⟨g, cap, cur', by rw [hrl], hg, h1, by rw [hrl]; exact hroom, hmax, by omega, ?_⟩⟩, ?_, .inl rfl⟩
        · rw [hrl, h3, Nat.zero_add, hct, Nat.mul_one, List.take_append_of_le_length (by simp)]
          rw [List.take_of_length_le (by simp)]
          simp
        · exact (setCells_ch _ _ _).mono (fun k o _ e => by rw [e]; rfl)
      · refine Calls.mono (Any2.slices_Insert_int_shift lays21 g 0 l.length cap i vb 0 1 1 _ [.int .i64 x] w (by omega) (by omega) hroom (by omega) hgv hml rfl hcell
          (fun j hj => by rw [cellAt hh, Array.getElem?_eq_getElem (by omega)]; rfl) (fun j hj => freeAt hh _) hvs (map_one l) h1v
          3 3 1 cap (by simp [World.shape?, hvb]) (by simp [World.shape?, hh, hcs]) (by omega) (freeAt hvb _) (freeAt hvb _)) ?_
        rintro e w' ⟨rfl, rfl⟩
        have hdl : ((l.map (Value.int .i64)).drop i).length = l.length - i := by rw [List.length_drop, hml]
        obtain ⟨cur', h1, h2, h3⟩ := setCells_heap ((l.map (Value.int .i64)).drop i) (0 + (i + 1)) w.drew cur hh (by rw [hdl]; omega)
        obtain ⟨cur2, h4, h5, h6⟩ := setCells_heap [.int .i64 x] (0 + i) _ cur' h1 (by simp; omega)
        refine ⟨_, rfl, ⟨by simp, .inr ⟨g, cap, cur2, by rw [hrl], hg, h4, by rw [hrl]; exact hroom, hmax, by omega, ?_⟩⟩, ?_, .inl rfl⟩
        · rw [hrl, h6, h3, Nat.mul_one, ← hr]
          simp only [Nat.zero_add, List.length_singleton]
          exact ins_take hml hct (by omega) hi
        · exact (((Ch.refl _ w).drew.trans' (setCells_ch _ _ _) (fun _ _ _ h => h)).trans' (setCells_ch _ _ _) (fun _ _ _ h => h)).mono (fun k o _ e => by rw [e]; rfl)
    · by_cases hil : i = l.length
      · exact grow (some ⟨g, 0, none⟩) cap hcap (by omega) hil (fun h => by cases h) (fun a ha j u hu => by cases ha; rw [Addr.add_lit]; exact hcell j u hu)
      · refine Calls.mono (Any2.slices_Insert_int_grow lays21 g 0 l.length cap i vb 0 1 1 _ [.int .i64 x] w (by omega) (by omega) hcap (by omega) (by omega) hml rfl hcell hvs (map_one l) h1v) ?_
        rintro e w' ⟨rfl, rfl⟩
        have hG1 := grownCap_ge w (l.length + 1) cap 3
        have hG2 := grownCap_le_maxLen w (l.length + 1) cap 3 (by omega)
        have hdl : ((l.map (Value.int .i64)).drop i).length = l.length - i := by rw [List.length_drop, hml]
        have e1 : (Value.int .i64 0).cells.size = 1 := rfl
        obtain ⟨cur0, hcur⟩ : ∃ cur0, cur0 = ((l.map (Value.int .i64)).take i).toArray ++ Builtin.zeroCells (Value.int .i64 0).cells (l.length + 1 - i) ++ Builtin.zeroCells (Value.int .i64 0).cells (grownCap w (l.length + 1) cap 3 - (l.length + 1)) := ⟨_, rfl⟩
        have hc0 : cur0.size = grownCap w (l.length + 1) cap 3 := by
          rw [hcur, Array.size_append, Array.size_append, size_zeroCells, size_zeroCells, e1]
          simp
          omega
        have hct0 : cur0.toList.take i = (l.map (Value.int .i64)).take i := by
          rw [hcur, Array.toList_append, Array.toList_append, List.append_assoc, List.take_append_of_le_length (by simp; omega), List.take_of_length_le (by simp; omega)]
        show ∃ v', Ending.returned (.slice (some ⟨w.heap.size, 0, none⟩) (l.length + 1) (grownCap w (l.length + 1) cap 3)) = .returned v' ∧ IntsOwn ((((w.alloc (.cells (((l.map (Value.int .i64)).take i).toArray ++ Builtin.zeroCells (Value.int .i64 0).cells (l.length + 1 - i) ++ Builtin.zeroCells (Value.int .i64 0).cells (grownCap w (l.length + 1) cap 3 - (l.length + 1))) 3)).drew.setCells w.heap.size i [Value.int .i64 x]).drew).setCells w.heap.size (i + 1) ((l.map (Value.int .i64)).drop i)) base v' _ ∧ Ch _ w ((((w.alloc (.cells (((l.map (Value.int .i64)).take i).toArray ++ Builtin.zeroCells (Value.int .i64 0).cells (l.length + 1 - i) ++ Builtin.zeroCells (Value.int .i64 0).cells (grownCap w (l.length + 1) cap 3 - (l.length + 1))) 3)).drew.setCells w.heap.size i [Value.int .i64 x]).drew).setCells w.heap.size (i + 1) ((l.map (Value.int .i64)).drop i)) ∧ _
        rw [← hcur]
        clear hcur
        generalize grownCap w (l.length + 1) cap 3 = G at hG1 hG2 hc0
        obtain ⟨cur', h1, h2, h3⟩ := setCells_heap [.int .i64 x] i (w.alloc (.cells cur0 3)).drew cur0 (heap_alloc_new w _) (by simp; omega)
        obtain ⟨cur2, h4, h5, h6⟩ := setCells_heap ((l.map (Value.int .i64)).drop i) (i + 1) ((w.alloc (.cells cur0 3)).drew.setCells w.heap.size i [.int .i64 x]).drew cur' h1 (by rw [hdl]; omega)
        refine ⟨_, rfl, ⟨by simp, .inr ⟨w.heap.size, G, cur2, by rw [hrl], hbase, h4, by rw [hrl]; exact hG1, hG2, by omega, ?_⟩⟩, ?_, .inr ⟨_, rfl, Nat.le_refl _⟩⟩
        · have hti : ((l.map (Value.int .i64)).take i).length = i := by rw [List.length_take]; omega
          have e3 : cur'.toList.take (i + 1) = (l.map (Value.int .i64)).take i ++ [Value.int .i64 x] := by
            rw [h3, hct0]
            rw [List.take_append_of_le_length (by simp; omega), List.take_of_length_le (by simp; omega)]
          rw [hrl, h6, Nat.mul_one, ← hr, e3]
          rw [List.take_append_of_le_length (by simp; omega), List.take_of_length_le (by simp; omega)]
          simp
        · exact ((((Ch.refl _ w).alloc _).drew).trans' (setCells_ch (b := w.heap.size) _ _ _) (fun k o ho h => absurd (lt_size ho) (by omega))).drew.trans' (setCells_ch (b := w.heap.size) _ _ _) (fun k o ho h => absurd (lt_size ho) (by omega))
end Go.Proofs.YtkffejgjpnnkmaaDoor
