/- The claim. -/
import Derived.Test.YtgjpgfedlgdjhaaGreatDoorZaa
import Derived.ProofKit
import Derived.OpenShut
import Derived.SizedLaws
import Derived.Lib.SmallJoins
import Derived.Test.YtgjpgfedlgdjhaaGreatDoorZas
import Derived.Test.YtgjpgfedlgdjhaaGreatDoorCards
import Derived.Test.YtgjpgfedlgdjhaaGreatDoorTie
import Derived.Deep.DeepHandedRow
import Derived.Lib.LaidTab
import Derived.Test.YtgjpgfedlgdjhaaGreatDoorZbc
import Derived.Test.YtgjpgfedlgdjhaaGreatDoorZca
section
set_option linter.unusedVariables false
set_option linter.unusedSimpArgs false
namespace Go.W
open Go.ChangeShapes Go.WideShapes Go.ChangeAt Go.RowKit
variable {H : Type} {enc : TypeId × Value → H} {P : Program}
theorem trodAll_stays {W W' : World} (hl : laidOutB P = true) (hb : Below W.heap.size W W') : ∀ (ts : List TypeId) (vs : List Value) (ds : List (DataW H)) (ps : List MemPlace),
   (∀ t ∈ ts, P.readableRec t = true ∧ t < P.types.size) → DataW.TrodAll enc P W 0 (fun _ => true) true ts vs ds ps → (∀ x ∈ ps, x.block < W.heap.size) →
   DataW.TrodAll enc P W' 0 (fun b => decide (b < W.heap.size)) true ts vs ds ps
 | [], vs, ds, ps, _, h, _ => by
   obtain ⟨rfl, rfl, rfl⟩ := trodAll_nil h
   exact trodAll_mk0
 | t :: ts, vs, ds, ps, hr, h, hlt => by
   obtain ⟨v, vs', d, ds', p, q, rfl, rfl, rfl, h1, h2⟩ := trodAll_cons h
   exact trodAll_cons_mk (Below.trod hl (hr t (by simp)).1 (hr t (by simp)).2 h1 hb (fun x hx => hlt x (by simp [hx])))
     (trodAll_stays hl hb ts vs' ds' q (fun t' ht' => hr t' (by simp [ht'])) h2 (fun x hx => hlt x (by simp [hx])))
theorem law_post {f : Func} {s : ChangeSpec} {apart : Bool} {W W' : World} {args : Array Value} {ds gs : List (DataW H)} {before : List MemPlace} {bt : TypeId}
   (hW : DataW.Whole enc P f.params.toList s.vars apart W args.toList ds gs before) (hl : laidOutB P = true) (hr : ∀ t ∈ f.params.toList, P.readableRec t = true ∧ t < P.types.size)
   (hv : s.vars = []) (hres : f.resultTypes = #[bt]) (hbt : P.underlying bt = some .bool) (hspec : s.fn H (ds ++ gs) = { results := [.lit (.bool true)], args := ds })
   (hb : Below W.heap.size W W') : s.post enc P f apart true false false W args (.bool true) W' := by
 have hW0 := hW
 have hlt : ∀ x ∈ before, x.block < W.heap.size := fun x hx => by simpa using hW.lt x hx
 obtain ⟨p, q, hA, hV, rfl, _, _⟩ := hW
 refine ⟨ds, gs, p ++ q, [], p, [], hW0, ?_, ?_, ?_, hb.frame _, fun h => by cases h⟩
 · rw [hspec, hres]
   exact trodAll_mk1 (shut_bool hbt true)
 · rw [hspec]
   exact trodAll_stays hl hb _ _ _ _ hr hA (fun x hx => hlt x (by simp [hx]))
 · rw [hspec, hv]
   rfl
theorem Ch.no_below {w w' : World} (h : Ch No w w') : Below w.heap.size w w' := h.below (fun _ _ _ h => absurd h id) (Nat.le_refl _)
theorem open_row {t e : TypeId} {n fuel : Nat} {W : World} {base : Nat} {spare : Nat → Bool} {held : Bool} {cs : List Value} {x : DataW H × List MemPlace}
   (ht : P.underlying t = some (.slice e)) (hc : P.cellsOf e = n) (hn : 0 < n) (h : DataW.trod enc P W base spare held fuel t cs = some x) :
   ∃ v css, cs = [v] ∧ RowAt W v n css ∧ (∀ c ∈ css, ∃ m y, DataW.trod enc P W base spare held m e c = some y) ∧ (∃ k, k = css.length ∧ (x.1 = .nil ∧ k = 0 ∨ ∃ es sp, x.1 = .slice es sp ∧ es.length = k)) := by
 rcases DataW.trod_slice ht h with ⟨rfl, rfl⟩ | ⟨a, len, cap, elems, rest, m, _, rfl, rfl, hb, hl, hm, hlen, hel, _⟩
 · exact ⟨_, [], rfl, ⟨none, 0, rfl, Nat.le_refl _, Nat.zero_le _, by simp, fun h => by simp at h⟩, by simp, 0, rfl, .inl ⟨rfl, rfl⟩⟩
 · rw [hc] at hel
   have key : ∀ i, i < len → ∃ c y, W.cells? base (a.add (i * n)) n = some c ∧ DataW.trod enc P W base spare held m e c = some y := by
     intro i hi
     have := hel i hi
     rw [List.getElem?_eq_getElem (by omega)] at this
     cases hcc : W.cells? base (a.add (i * n)) n with
     | none => rw [hcc] at this; simp at this
     | some c => rw [hcc] at this; exact ⟨c, _, rfl, this⟩
   refine ⟨_, (List.range len).map (fun i => (W.cells? base (a.add (i * n)) n).getD []), rfl, ⟨some a, cap, by simp, by simpa using hl, hm, ?_, fun h0 => ?_⟩, ?_, len, by simp, .inr ⟨_, _, rfl, by simpa using hlen⟩⟩
   · intro c hcm
     obtain ⟨i, hi, rfl⟩ := List.mem_map.1 hcm
     obtain ⟨c, y, h1, _⟩ := key i (by simpa using hi)
     rw [h1]
     exact (World.cells?_some h1).2.1
   · simp only [List.length_map, List.length_range] at h0
     have hsp : a.spot = none := by
       obtain ⟨c, y, h1, _⟩ := key 0 h0
       obtain ⟨_, hlc, hcell⟩ := World.cells?_some h1
       have := hcell 0 hn
       rw [List.getElem?_eq_getElem (by omega)] at this
       have e0 : (a.add (0 * n)).add 0 = a := by simp [Addr.add]
       rw [e0] at this
       unfold World.cell? at this
       split at this
       · split at this
         · cases this
         · rename_i hs; simpa using hs
       · cases this
     refine ⟨a.block, a.off, by cases a; simp_all, fun i c hi j hj => ?_⟩
     rw [List.getElem?_map] at hi
     have hil : i < len := by
       cases hr : (List.range len)[i]? with
       | none => rw [hr] at hi; simp at hi
       | some k => have := (List.getElem?_eq_some_iff.1 hr).1; simpa using this
     rw [List.getElem?_range hil] at hi
     obtain ⟨c', y, h1, _⟩ := key i hil
     simp only [Option.map_some, h1, Option.getD_some, Option.some.injEq] at hi
     subst hi
     rw [← (World.cells?_some h1).2.2 j hj]
     congr 1
     unfold Addr.add
     by_cases hi0 : i * n = 0 <;> by_cases hj0 : j = 0 <;> simp [hi0, hj0, hsp] <;> (try cases a; simp_all) <;> (try omega)
   · intro c hcm
     obtain ⟨i, hi, rfl⟩ := List.mem_map.1 hcm
     obtain ⟨c, y, h1, h2⟩ := key i (by simpa using hi)
     rw [h1]
     exact ⟨m, y, h2⟩
theorem fields2 {t : TypeId} {f0 f1 : Field} {fuel : Nat} {W : World} {base : Nat} {spare : Nat → Bool} {held : Bool} {cs : List Value} {x : DataW H × List MemPlace} (ht : P.underlying t = some (.struct #[f0, f1])) (h : DataW.trod enc P W base spare held fuel t cs = some x) :
   ∃ m y0 y1, DataW.trod enc P W base spare held m f0.type ((cs.drop f0.offset).take (P.cellsOf f0.type)) = some y0 ∧ DataW.trod enc P W base spare held m f1.type ((cs.drop f1.offset).take (P.cellsOf f1.type)) = some y1 := by
 obtain ⟨xs, m, _, _, _, hlen, hf⟩ := DataW.trod_struct ht h
 match xs, hlen with
 | [y0, y1], _ => exact ⟨m, y0, y1, hf 0 f0 rfl, hf 1 f1 rfl⟩
theorem fields3 {t : TypeId} {f0 f1 f2 : Field} {fuel : Nat} {W : World} {base : Nat} {spare : Nat → Bool} {held : Bool} {cs : List Value} {x : DataW H × List MemPlace} (ht : P.underlying t = some (.struct #[f0, f1, f2])) (h : DataW.trod enc P W base spare held fuel t cs = some x) :
   ∃ m y0 y1 y2, DataW.trod enc P W base spare held m f0.type ((cs.drop f0.offset).take (P.cellsOf f0.type)) = some y0 ∧ DataW.trod enc P W base spare held m f1.type ((cs.drop f1.offset).take (P.cellsOf f1.type)) = some y1 ∧ DataW.trod enc P W base spare held m f2.type ((cs.drop f2.offset).take (P.cellsOf f2.type)) = some y2 := by
 obtain ⟨xs, m, _, _, _, hlen, hf⟩ := DataW.trod_struct ht h
 match xs, hlen with
 | [y0, y1, y2], _ => exact ⟨m, y0, y1, y2, hf 0 f0 rfl, hf 1 f1 rfl, hf 2 f2 rfl⟩
theorem fields8 {t : TypeId} {f0 f1 f2 f3 f4 f5 f6 f7 : Field} {fuel : Nat} {W : World} {base : Nat} {spare : Nat → Bool} {held : Bool} {cs : List Value} {x : DataW H × List MemPlace} (ht : P.underlying t = some (.struct #[f0, f1, f2, f3, f4, f5, f6, f7])) (h : DataW.trod enc P W base spare held fuel t cs = some x) :
   ∃ m y0 y1 y2 y3 y4 y5 y6 y7, DataW.trod enc P W base spare held m f0.type ((cs.drop f0.offset).take (P.cellsOf f0.type)) = some y0 ∧ DataW.trod enc P W base spare held m f1.type ((cs.drop f1.offset).take (P.cellsOf f1.type)) = some y1 ∧ DataW.trod enc P W base spare held m f2.type ((cs.drop f2.offset).take (P.cellsOf f2.type)) = some y2 ∧ DataW.trod enc P W base spare held m f3.type ((cs.drop f3.offset).take (P.cellsOf f3.type)) = some y3 ∧ DataW.trod enc P W base spare held m f4.type ((cs.drop f4.offset).take (P.cellsOf f4.type)) = some y4 ∧ DataW.trod enc P W base spare held m f5.type ((cs.drop f5.offset).take (P.cellsOf f5.type)) = some y5 ∧ DataW.trod enc P W base spare held m f6.type ((cs.drop f6.offset).take (P.cellsOf f6.type)) = some y6 ∧ DataW.trod enc P W base spare held m f7.type ((cs.drop f7.offset).take (P.cellsOf f7.type)) = some y7 := by
 obtain ⟨xs, m, _, _, _, hlen, hf⟩ := DataW.trod_struct ht h
 match xs, hlen with
 | [y0, y1, y2, y3, y4, y5, y6, y7], _ => exact ⟨m, y0, y1, y2, y3, y4, y5, y6, y7, hf 0 f0 rfl, hf 1 f1 rfl, hf 2 f2 rfl, hf 3 f3 rfl, hf 4 f4 rfl, hf 5 f5 rfl, hf 6 f6 rfl, hf 7 f7 rfl⟩
theorem fields9 {t : TypeId} {f0 f1 f2 f3 f4 f5 f6 f7 f8 : Field} {fuel : Nat} {W : World} {base : Nat} {spare : Nat → Bool} {held : Bool} {cs : List Value} {x : DataW H × List MemPlace} (ht : P.underlying t = some (.struct #[f0, f1, f2, f3, f4, f5, f6, f7, f8])) (h : DataW.trod enc P W base spare held fuel t cs = some x) :
   ∃ m y0 y1 y2 y3 y4 y5 y6 y7 y8, DataW.trod enc P W base spare held m f0.type ((cs.drop f0.offset).take (P.cellsOf f0.type)) = some y0 ∧ DataW.trod enc P W base spare held m f1.type ((cs.drop f1.offset).take (P.cellsOf f1.type)) = some y1 ∧ DataW.trod enc P W base spare held m f2.type ((cs.drop f2.offset).take (P.cellsOf f2.type)) = some y2 ∧ DataW.trod enc P W base spare held m f3.type ((cs.drop f3.offset).take (P.cellsOf f3.type)) = some y3 ∧ DataW.trod enc P W base spare held m f4.type ((cs.drop f4.offset).take (P.cellsOf f4.type)) = some y4 ∧ DataW.trod enc P W base spare held m f5.type ((cs.drop f5.offset).take (P.cellsOf f5.type)) = some y5 ∧ DataW.trod enc P W base spare held m f6.type ((cs.drop f6.offset).take (P.cellsOf f6.type)) = some y6 ∧ DataW.trod enc P W base spare held m f7.type ((cs.drop f7.offset).take (P.cellsOf f7.type)) = some y7 ∧ DataW.trod enc P W base spare held m f8.type ((cs.drop f8.offset).take (P.cellsOf f8.type)) = some y8 := by
 obtain ⟨xs, m, _, _, _, hlen, hf⟩ := DataW.trod_struct ht h
 match xs, hlen with
 | [y0, y1, y2, y3, y4, y5, y6, y7, y8], _ => exact ⟨m, y0, y1, y2, y3, y4, y5, y6, y7, y8, hf 0 f0 rfl, hf 1 f1 rfl, hf 2 f2 rfl, hf 3 f3 rfl, hf 4 f4 rfl, hf 5 f5 rfl, hf 6 f6 rfl, hf 7 f7 rfl, hf 8 f8 rfl⟩
end Go.W
end
section
set_option linter.unusedVariables false
set_option linter.unusedSimpArgs false
set_option linter.constructorNameAsVariable false
set_option maxRecDepth 100000
namespace Go.Proofs.YtgjpgfedlgdjhaaGreatDoor
open Go.ChangeShapes Go.WideShapes Go.ChangeAt Go.RowKit Go.W Go.Joins
theorem i_own : ownKnob Tryz.prog.godebug = none := by kernel_rfl
theorem i_laidOut : laidOutB Tryz.prog = true := by kernel_rfl
theorem i_gTab : Tryz.prog.globalNamed "math/bits.deBruijn64tab" = some 0 := by kernel_rfl
theorem i_gTabType : (Tryz.prog.globals[0]?).map (·.type) = some 216 := by kernel_rfl
theorem i_cellsTab : Tryz.prog.cellsOf 216 = 64 := by kernel_rfl
theorem i_cellsU8 : Tryz.prog.cellsOf 5 = 1 := by kernel_rfl
theorem i_cellsInt : Tryz.prog.cellsOf 3 = 1 := by kernel_rfl
theorem i_underTab : Tryz.prog.underlying 216 = some (.array 64 5) := by kernel_rfl
theorem i_underU8 : Tryz.prog.underlying 5 = some (.int .u8) := by kernel_rfl
theorem i_underInt : Tryz.prog.underlying 3 = some (.int .i64) := by kernel_rfl
theorem i_underInts : Tryz.prog.underlying 59 = some (.slice 3) := by kernel_rfl
theorem i_underBool : Tryz.prog.underlying 4 = some .bool := by kernel_rfl
theorem tabLaid {W : World} {H : Type} {enc : TypeId × Value → H} (h : laidMetH Tryz.prog [("math/bits.deBruijn64tab", Rows.laid_math_bits_deBruijn64tab)] W) : Tab W := by
 have ht : Go.Lib.TabIs Tryz.prog W "math/bits.deBruijn64tab" .u8 (Go.Lib.deBruijn64tab.map (fun (n : Nat) => (n : Int))) :=
   Go.Lib.tabIs_of_head (rest := []) i_gTab i_gTabType i_underTab i_underU8 i_cellsU8 i_cellsTab h
 intro j hj
 have := ht.cell i_gTab j (by simpa using hj)
 rw [this]
 rw [List.getD_eq_getElem?_getD, List.getElem?_map, List.getD_eq_getElem?_getD]
 rw [List.getElem?_eq_getElem hj]
 rfl
theorem open_ints {H : Type} {enc : TypeId × Value → H} {W : World} {base : Nat} {v : Value} {d : DataW H} {ps : List MemPlace} (hv : Value.okWide Tryz.prog W .any base 59 v) (h : DataW.Trod enc Tryz.prog W 0 (fun _ => true) true 59 v d ps) :
   ∃ l : List Int, IntsAt W v l := by
 obtain ⟨a0, len, cap, rfl⟩ := okWide_slice i_underInts hv
 obtain ⟨fuel, hf⟩ := h
 obtain ⟨v', css, e, hrow, hcs, _⟩ := open_row i_underInts i_cellsInt (by omega) hf
 obtain rfl : v' = .slice a0 len cap := by simpa [Value.cells] using e.symm
 obtain ⟨ao, cap', e2, h2, h3, h6, h7⟩ := hrow
 obtain ⟨l, rfl, _⟩ := exists_map (fun (x : Int) => [Value.int .i64 x]) (fun _ => True) css (fun c hc => by
   obtain ⟨m, y, hy⟩ := hcs c hc
   obtain ⟨a, e, _⟩ := DataW.trod_int i_underInt hy
   exact ⟨a, e, trivial⟩)
 cases e2
 rw [List.length_map] at *
 refine ⟨l, _, _, rfl, h2, h3, fun hn => ?_, fun h0 => ?_⟩
 · subst hn
   rcases DataW.trod_slice i_underInts hf with ⟨e, _⟩ | ⟨a, len, cap, _, _, _, _, e, _⟩
   · simp [Value.cells] at e
     exact e.2
   · simp [Value.cells] at e
 · obtain ⟨b, off, rfl, h8⟩ := h7 h0
   refine ⟨b, off, rfl, fun i x hx => ?_⟩
   have := h8 i [Value.int .i64 x] (by rw [List.getElem?_map, hx]; rfl) 0 (by omega)
   simpa using this
theorem i_cellsProg : Tryz.prog.cellsOf 31 = 10 := by kernel_rfl
theorem i_cellsCls : Tryz.prog.cellsOf 50 = 10 := by kernel_rfl
theorem i_cellsStr : Tryz.prog.cellsOf 9 = 1 := by kernel_rfl
theorem i_underClss : Tryz.prog.underlying 23 = some (.slice 50) := by kernel_rfl
theorem i_underStrs : Tryz.prog.underlying 46 = some (.slice 9) := by kernel_rfl
theorem i_underStr : Tryz.prog.underlying 9 = some .string := by kernel_rfl
section
variable {H : Type} {enc : TypeId × Value → H} {W : World} {base : Nat} {spare : Nat → Bool} {held : Bool}
theorem sl_form {t e : TypeId} {fuel : Nat} {cs : List Value} {x : DataW H × List MemPlace} (ht : Tryz.prog.underlying t = some (.slice e)) (h : DataW.trod enc Tryz.prog W base spare held fuel t cs = some x) : ∃ ao n c, cs = [.slice ao n c] := by
 rcases DataW.trod_slice ht h with ⟨rfl, _⟩ | ⟨a, len, cap, _, _, _, _, rfl, _⟩
 · exact ⟨none, 0, 0, rfl⟩
 · exact ⟨some a, len, cap, rfl⟩
theorem pt_form {t e : TypeId} {fuel : Nat} {cs : List Value} {x : DataW H × List MemPlace} (ht : Tryz.prog.underlying t = some (.pointer e)) (h : DataW.trod enc Tryz.prog W base spare held fuel t cs = some x) : ∃ p, cs = [.pointer p] := by
 rcases DataW.trod_pointer ht h with ⟨rfl, _⟩ | ⟨a, _, _, _, _, rfl, _⟩
 · exact ⟨none, rfl⟩
 · exact ⟨some a, rfl⟩
theorem open_strs {fuel : Nat} {cs : List Value} {x : DataW H × List MemPlace} (h : DataW.trod enc Tryz.prog W base spare held fuel 46 cs = some x) : ∃ ao n cap l, cs = [.slice ao n cap] ∧ n = l.length ∧ StrsAt W (.slice ao n cap) l ∧ ∀ s ∈ l, s.size ≤ maxLen := by
 obtain ⟨v, css, rfl, hrow, hcs, _⟩ := open_row i_underStrs i_cellsStr (by omega) h
 obtain ⟨ao, cap, rfl, h2, h3, h6, h7⟩ := hrow
 obtain ⟨l, rfl, hl⟩ := exists_map (fun (s : ByteArray) => [Value.string s]) (fun s => s.size ≤ maxLen) css (fun c hc => by
   obtain ⟨m, y, hy⟩ := hcs c hc
   obtain ⟨s, e, _, hs⟩ := DataW.trod_string i_underStr hy
   exact ⟨s, e, hs⟩)
 rw [List.length_map] at *
 refine ⟨ao, l.length, cap, l, rfl, rfl, ⟨ao, cap, rfl, h2, h3, fun h0 => ?_⟩, hl⟩
 obtain ⟨b, off, rfl, h8⟩ := h7 h0
 refine ⟨b, off, rfl, fun i x hx => ?_⟩
 have := h8 i [Value.string x] (by rw [List.getElem?_map, hx]; rfl) 0 (by omega)
 simpa using this
theorem open_cls {fuel : Nat} {cs : List Value} {x : DataW H × List MemPlace} (hl : cs.length = 10) (h : DataW.trod enc Tryz.prog W base spare held fuel 50 cs = some x) :
   ∃ c : Cls, cs = c.cells ∧ StrsAt W (.slice c.fa c.faces.length c.fc) c.faces ∧ c.name.size ≤ maxLen ∧ c.sup.size ≤ maxLen ∧ ∀ f ∈ c.faces, f.size ≤ maxLen := by
 match cs, hl with
 | [x0, x1, x2, x3, x4, x5, x6, x7, x8, x9], _ =>
   obtain ⟨m, y0, y1, y2, y3, y4, y5, y6, y7, y8, h0, h1, h2, h3, h4, h5, h6, h7, h8⟩ := fields9 Tryz.underlying50 h
   obtain ⟨s0, e0, _, z0⟩ := DataW.trod_string i_underStr h0
   obtain ⟨s1, e1, _, z1⟩ := DataW.trod_string i_underStr h1
   obtain ⟨b2, e2, _⟩ := DataW.trod_bool i_underBool h2
   obtain ⟨a3, n3, c3, l3, e3, rfl, g3, z3⟩ := open_strs h3
   obtain ⟨a4, n4, c4, e4⟩ := sl_form Tryz.underlying24 h4
   obtain ⟨a5, n5, c5, e5⟩ := sl_form Tryz.underlying24 h5
   obtain ⟨a6, n6, c6, e6⟩ := sl_form Tryz.underlying47 h6
   obtain ⟨p7, e7⟩ := pt_form Tryz.underlying48 h7
   obtain ⟨_, w0, w1, h80, h81⟩ := fields2 Tryz.underlying27 h8
   obtain ⟨i8, e8, _⟩ := DataW.trod_int i_underInt h80
   obtain ⟨i9, e9, _⟩ := DataW.trod_int i_underInt h81
   have k0 : [x0] = [.string s0] := e0
   have k1 : [x1] = [.string s1] := e1
   have k2 : [x2] = [.bool b2] := e2
   have k3 : [x3] = [.slice a3 l3.length c3] := e3
   have k4 : [x4] = [.slice a4 n4 c4] := e4
   have k5 : [x5] = [.slice a5 n5 c5] := e5
   have k6 : [x6] = [.slice a6 n6 c6] := e6
   have k7 : [x7] = [.pointer p7] := e7
   have k8 : [x8] = [.int .i64 i8] := e8
   have k9 : [x9] = [.int .i64 i9] := e9
   cases k0; cases k1; cases k2; cases k3; cases k4; cases k5; cases k6; cases k7; cases k8; cases k9
   exact ⟨⟨s0, s1, b2, l3, a3, c3, (a4, n4, c4), (a5, n5, c5), (a6, n6, c6), p7, i8, i9⟩, rfl, g3, z0, z1, z3⟩
theorem array10 {arr : Array Value} (h : arr.size = 10) : ∃ x0 x1 x2 x3 x4 x5 x6 x7 x8 x9, arr = #[x0, x1, x2, x3, x4, x5, x6, x7, x8, x9] := by
 obtain ⟨l⟩ := arr
 match l, h with
 | [x0, x1, x2, x3, x4, x5, x6, x7, x8, x9], _ => exact ⟨x0, x1, x2, x3, x4, x5, x6, x7, x8, x9, rfl⟩
theorem open_prog {b0 : Nat} {v : Value} {d : DataW H} {ps : List MemPlace} (hv : Value.okWide Tryz.prog W .any b0 31 v) (h : DataW.Trod enc Tryz.prog W 0 (fun _ => true) true 31 v d ps) : ∃ cs, ProgAt W v cs ∧ SzP cs := by
 obtain ⟨arr, rfl, hsz⟩ := okWide_struct Tryz.underlying31 hv
 obtain ⟨x0, x1, x2, x3, x4, x5, x6, x7, x8, x9, rfl⟩ := array10 (hsz.trans i_cellsProg)
 obtain ⟨fuel, hf⟩ := h
 obtain ⟨m, y0, y1, h0, _⟩ := fields2 Tryz.underlying31 hf
 obtain ⟨v0, css, e, hrow, hcs, _⟩ := open_row i_underClss i_cellsCls (by omega) h0
 have k0 : [x0] = [v0] := e
 cases k0
 have hr := hrow
 obtain ⟨_, _, _, _, _, h6, _⟩ := hrow
 obtain ⟨cs, rfl, hq⟩ := exists_map Cls.cells (fun c => StrsAt W (.slice c.fa c.faces.length c.fc) c.faces ∧ c.name.size ≤ maxLen ∧ c.sup.size ≤ maxLen ∧ ∀ f ∈ c.faces, f.size ≤ maxLen) css (fun c hc => by
   obtain ⟨m, y, hy⟩ := hcs c hc
   exact open_cls (h6 c hc) hy)
 exact ⟨cs, ⟨_, _, _, _, _, _, _, _, _, _, rfl, hr, fun c hc => (hq c hc).1⟩, fun c hc => (hq c hc).2⟩
end
noncomputable def i_world (os : Os) : World :=
 { World.holding Tryz.prog os ⟨#[], #[], []⟩ with heap := (World.holding Tryz.prog os ⟨#[], #[], []⟩).heap.modify 0 fun
     | .cells _ t frozen => .cells (Go.Lib.deBruijn64tab.map (fun (n : Nat) => Value.int .u8 n)).toArray t frozen
     | o => o }
end Go.Proofs.YtgjpgfedlgdjhaaGreatDoor
end
section
set_option linter.unusedVariables false
set_option linter.unusedSimpArgs false
set_option linter.constructorNameAsVariable false
set_option maxRecDepth 100000
namespace Go.Proofs.YtgjpgfedlgdjhaaGreatDoor
open Go.ChangeShapes Go.WideShapes Go.ChangeAt Go.RowKit Go.W Go.Joins
theorem i_cellsVar : Tryz.prog.cellsOf 64 = 4 := by kernel_rfl
theorem i_cellsMethod : Tryz.prog.cellsOf 29 = 9 := by kernel_rfl
section
variable {H : Type} {enc : TypeId × Value → H} {W : World} {base : Nat} {spare : Nat → Bool} {held : Bool}
theorem open_var {fuel : Nat} {cs : List Value} {x : DataW H × List MemPlace} (hl : cs.length = 4) (h : DataW.trod enc Tryz.prog W base spare held fuel 64 cs = some x) : ∃ v : Vr, cs = v.cells ∧ v.nm.size ≤ maxLen ∧ v.ty.size ≤ maxLen := by
 match cs, hl with
 | [x0, x1, x2, x3], _ =>
   obtain ⟨m, y0, y1, y2, h0, h1, h2⟩ := fields3 Tryz.underlying64 h
   obtain ⟨s0, e0, _, z0⟩ := DataW.trod_string i_underStr h0
   obtain ⟨s1, e1, _, z1⟩ := DataW.trod_string i_underStr h1
   obtain ⟨_, w0, w1, h80, h81⟩ := fields2 Tryz.underlying27 h2
   obtain ⟨i8, e8, _⟩ := DataW.trod_int i_underInt h80
   obtain ⟨i9, e9, _⟩ := DataW.trod_int i_underInt h81
   have k0 : [x0] = [.string s0] := e0
   have k1 : [x1] = [.string s1] := e1
   have k2 : [x2] = [.int .i64 i8] := e8
   have k3 : [x3] = [.int .i64 i9] := e9
   cases k0; cases k1; cases k2; cases k3
   exact ⟨⟨s0, s1, i8, i9⟩, rfl, z1, z0⟩
theorem open_vars {fuel : Nat} {cs : List Value} {x : DataW H × List MemPlace} (h : DataW.trod enc Tryz.prog W base spare held fuel 24 cs = some x) :
   ∃ ao n cap l, cs = [.slice ao n cap] ∧ n = l.length ∧ VarsAt W (.slice ao n cap) l ∧ ∀ v ∈ l, v.nm.size ≤ maxLen ∧ v.ty.size ≤ maxLen := by
 obtain ⟨v, css, rfl, hrow, hcs, _⟩ := open_row Tryz.underlying24 i_cellsVar (by omega) h
 have hr := hrow
 obtain ⟨ao, cap, rfl, h2, h3, h6, h7⟩ := hrow
 obtain ⟨l, rfl, hq⟩ := exists_map Vr.cells (fun v => v.nm.size ≤ maxLen ∧ v.ty.size ≤ maxLen) css (fun c hc => by
   obtain ⟨m, y, hy⟩ := hcs c hc
   exact open_var (h6 c hc) hy)
 exact ⟨ao, _, cap, l, rfl, List.length_map _, hr, hq⟩
end
end Go.Proofs.YtgjpgfedlgdjhaaGreatDoor
end
section
set_option linter.unusedVariables false
set_option linter.unusedSimpArgs false
set_option linter.constructorNameAsVariable false
set_option maxRecDepth 100000
namespace Go.Proofs.YtgjpgfedlgdjhaaGreatDoor
open Go.ChangeShapes Go.WideShapes Go.ChangeAt Go.RowKit Go.W Go.Joins
theorem array9 {arr : Array Value} (h : arr.size = 9) : ∃ x0 x1 x2 x3 x4 x5 x6 x7 x8, arr = #[x0, x1, x2, x3, x4, x5, x6, x7, x8] := by
 obtain ⟨l⟩ := arr
 match l, h with
 | [x0, x1, x2, x3, x4, x5, x6, x7, x8], _ => exact ⟨x0, x1, x2, x3, x4, x5, x6, x7, x8, rfl⟩
section
variable {H : Type} {enc : TypeId × Value → H} {W : World}
theorem open_methA {b0 : Nat} {v : Value} {d : DataW H} {ps : List MemPlace} (hv : Value.okWide Tryz.prog W .any b0 29 v) (h : DataW.Trod enc Tryz.prog W 0 (fun _ => true) true 29 v d ps) :
   ∃ (m : Mt) (ls : List Vr), v = .agg #[.string m.ret, .string m.nm, .bool m.st, .bool m.ba, .slice m.pa m.ps.length m.pc, .slice m.s5.1 m.s5.2.1 m.s5.2.2, .slice m.s6.1 m.s6.2.1 m.s6.2.2, .int .i64 m.line, .int .i64 m.col] ∧ VarsAt W (.slice m.pa m.ps.length m.pc) m.ps ∧ VarsAt W (.slice m.s5.1 m.s5.2.1 m.s5.2.2) ls ∧ ∀ x ∈ ls, x.nm.size ≤ maxLen ∧ x.ty.size ≤ maxLen := by
 obtain ⟨arr, rfl, hsz⟩ := okWide_struct Tryz.underlying29 hv
 obtain ⟨x0, x1, x2, x3, x4, x5, x6, x7, x8, rfl⟩ := array9 (hsz.trans i_cellsMethod)
 obtain ⟨fuel, hf⟩ := h
 obtain ⟨m, y0, y1, y2, y3, y4, y5, y6, y7, h0, h1, h2, h3, h4, h5, h6, h7⟩ := fields8 Tryz.underlying29 hf
 obtain ⟨s0, e0, _, z0⟩ := DataW.trod_string i_underStr h0
 obtain ⟨s1, e1, _, z1⟩ := DataW.trod_string i_underStr h1
 obtain ⟨b2, e2, _⟩ := DataW.trod_bool i_underBool h2
 obtain ⟨b3, e3, _⟩ := DataW.trod_bool i_underBool h3
 obtain ⟨a4, n4, c4, l4, e4, rfl, g4, z4⟩ := open_vars h4
 obtain ⟨a5, n5, c5, l5, e5, rfl, g5, z5⟩ := open_vars h5
 obtain ⟨a6, n6, c6, e6⟩ := sl_form Tryz.underlying25 h6
 obtain ⟨_, w0, w1, h80, h81⟩ := fields2 Tryz.underlying27 h7
 obtain ⟨i8, e8, _⟩ := DataW.trod_int i_underInt h80
 obtain ⟨i9, e9, _⟩ := DataW.trod_int i_underInt h81
 have k0 : [x0] = [.string s0] := e0
 have k1 : [x1] = [.string s1] := e1
 have k2 : [x2] = [.bool b2] := e2
 have k3 : [x3] = [.bool b3] := e3
 have k4 : [x4] = [.slice a4 l4.length c4] := e4
 have k5 : [x5] = [.slice a5 l5.length c5] := e5
 have k6 : [x6] = [.slice a6 n6 c6] := e6
 have k7 : [x7] = [.int .i64 i8] := e8
 have k8 : [x8] = [.int .i64 i9] := e9
 cases k0; cases k1; cases k2; cases k3; cases k4; cases k5; cases k6; cases k7; cases k8
 exact ⟨⟨s0, s1, b2, b3, l4, a4, c4, (a5, l5.length, c5), (a6, n6, c6), i8, i9⟩, l5, rfl, g4, g5, z5⟩
end
end Go.Proofs.YtgjpgfedlgdjhaaGreatDoor
end
section
set_option linter.unusedVariables false
set_option linter.unusedSimpArgs false
namespace Go.Proofs.YtgjpgfedlgdjhaaGreatDoor
open Go.ChangeShapes Go.WideShapes Go.ChangeAt Go.RowKit Go.W Go.Joins
theorem cscopes_laid (os : Os) : laidMet Tryz.prog Rows.checkScopesRow.laid ((i_world os).forCall (fun _ _ => 0) ⟨#[], #[.agg #[.slice none 0 0, .string { data := #[] }, .string { data := #[] }, .bool false, .bool false, .slice none 0 0, .slice none 0 0, .slice none 0 0, .int .i64 0, .int .i64 0], .int .i64 0, .agg #[.string { data := #[] }, .string { data := #[] }, .bool false, .bool false, .slice none 0 0, .slice none 0 0, .slice none 0 0, .int .i64 0, .int .i64 0]], []⟩).memory :=
 laidMet_of_run' 70 (by kernel_rfl) (by kernel_rfl)
theorem cscopes_reads (os : Os) {H : Type} (enc : TypeId × Value → H) :
   ∃ places, DataW.whole enc Tryz.prog ((i_world os).forCall (fun _ _ => 0) ⟨#[], #[.agg #[.slice none 0 0, .string { data := #[] }, .string { data := #[] }, .bool false, .bool false, .slice none 0 0, .slice none 0 0, .slice none 0 0, .int .i64 0, .int .i64 0], .int .i64 0, .agg #[.string { data := #[] }, .string { data := #[] }, .bool false, .bool false, .slice none 0 0, .slice none 0 0, .slice none 0 0, .int .i64 0, .int .i64 0]], []⟩).memory Tryz.f7.params.toList Rows.checkScopesSpec.vars false #[Value.agg #[.slice none 0 0, .string { data := #[] }, .string { data := #[] }, .bool false, .bool false, .slice none 0 0, .slice none 0 0, .slice none 0 0, .int .i64 0, .int .i64 0], Value.int .i64 0, Value.agg #[.string { data := #[] }, .string { data := #[] }, .bool false, .bool false, .slice none 0 0, .slice none 0 0, .slice none 0 0, .int .i64 0, .int .i64 0]].toList 8 = some ([.agg [.nil, .agg [.lit (.string []), .lit (.string []), .lit (.bool false), .lit (.bool false), .nil, .nil, .nil, .agg [.lit (.int .i64 0), .lit (.int .i64 0)]]], .lit (.int .i64 0), .agg [.lit (.string []), .lit (.string []), .lit (.bool false), .lit (.bool false), .nil, .nil, .nil, .agg [.lit (.int .i64 0), .lit (.int .i64 0)]]], [], places) :=
 ⟨[], by kernel_rfl⟩
set_option maxRecDepth 100000 in
theorem cscopes_contract (H : Type) (enc : TypeId × Value → H) (W : World) (base : Nat) (args : Array Value) (ds gs : List (DataW H)) (before : List MemPlace)
   (hval : ∀ (j : Nat) t v, Tryz.f7.params[j]? = some t → args[j]? = some v → Value.okWide Tryz.prog W .any base t v)
   (hW : DataW.Whole enc Tryz.prog Tryz.f7.params.toList Rows.checkScopesSpec.vars false W args.toList ds gs before) (hL : laidMetH Tryz.prog Rows.checkScopesRow.laid W) :
   Calls Tryz.prog 7 args W fun e W' => ∃ v, e = .returned v ∧ Rows.checkScopesSpec.post enc Tryz.prog Tryz.f7 false true false false W args v W' := by
 have hW' := hW
 obtain ⟨p, q, hA0, hV, rfl, hfz, hnd⟩ := hW
 have hA : DataW.TrodAll enc Tryz.prog W 0 (fun _ => true) true Tryz.f7.params.toList args.toList ds p := hA0
 rw [Tryz.params7] at hA hval
 obtain ⟨v0, vs0, d0, ds0, p0, q0, hargs, rfl, rfl, t0, r0⟩ := trodAll_cons hA
 obtain ⟨v1, vs1, d1, ds1, p1, q1, rfl, rfl, rfl, t1, r1⟩ := trodAll_cons r0
 obtain ⟨v2, vs2, d2, ds2, p2, q2, rfl, rfl, rfl, t2, r2⟩ := trodAll_cons r1
 obtain ⟨rfl, rfl, rfl⟩ := trodAll_nil r2
 obtain rfl : args = #[v0, v1, v2] := by cases args; simp_all
 obtain ⟨rfl, rfl⟩ := trodVars_none hV
 obtain ⟨a0, h0, z0⟩ := open_prog (hval 0 31 v0 rfl rfl) t0
 obtain ⟨a1, rfl, rfl, rfl, h1⟩ := open_int i_underInt (hval 1 3 v1 rfl rfl) t1
 obtain ⟨a2, b2, rfl, h2, g2, z2⟩ := open_methA (hval 2 29 v2 rfl rfl) t2
 refine (law_cscopes (tabLaid (enc := enc) hL) h0 a1 a2 b2 h2 g2).mono fun e W' ⟨he, hg⟩ => ?_
 subst he
 refine ⟨_, rfl, law_post (bt := 4) hW' i_laidOut ?_ rfl rfl i_underBool rfl hg.no_below⟩
 intro t ht
 rw [Tryz.params7] at ht
 simp at ht
 rcases ht with rfl | rfl | rfl
 · exact ⟨by kernel_rfl, of_decide_eq_true (by kernel_rfl)⟩
 · exact ⟨by kernel_rfl, of_decide_eq_true (by kernel_rfl)⟩
 · exact ⟨by kernel_rfl, of_decide_eq_true (by kernel_rfl)⟩
set_option maxRecDepth 100000 in
theorem cscopes_lifted (os : Os) (started : os.Started) (H : Type) (enc : TypeId × Value → H) (F : Stop.Interp) :
   ReturnsInHanded {} Tryz.checked os 7 .any ((OpenSpec.ofChange Rows.checkScopesSpec).preRow enc Tryz.prog Tryz.f7 Rows.checkScopesRow.domain false Rows.checkScopesRow.laid) (((OpenSpec.ofChange Rows.checkScopesSpec).at F).post enc Tryz.prog Tryz.f7 false true false false) := by
 obtain ⟨places, hx⟩ := cscopes_reads os enc
 refine returnsInHanded_of_row (C := Tryz.checked) (s := OpenSpec.ofChange Rows.checkScopesSpec) i_own started (by kernel_rfl) Tryz.func7
   (witness_row_at (enc := enc) (C := Tryz.checked) false (i_world os) #[.agg #[.slice none 0 0, .string { data := #[] }, .string { data := #[] }, .bool false, .bool false, .slice none 0 0, .slice none 0 0, .slice none 0 0, .int .i64 0, .int .i64 0], .int .i64 0, .agg #[.string { data := #[] }, .string { data := #[] }, .bool false, .bool false, .slice none 0 0, .slice none 0 0, .slice none 0 0, .int .i64 0, .int .i64 0]] rfl (by kernel_rfl) (by kernel_rfl) (by kernel_rfl)
     (OpenSpec.preRow_of_cond 8 hx (by kernel_rfl) (fun k hk => by cases hk) (by kernel_rfl) (cscopes_laid os))) ?_
 intro W base args ds gs before hval hW _ _ _ hL _ _
 exact cscopes_contract H enc W base args ds gs before hval hW hL
theorem cscopes_said : Rows.CheckScopesSaid :=
 OpenClaim.holds_of_cond 7 Tryz.f7 rfl rfl rfl rfl rfl rfl rfl ⟨rfl, rfl, rfl, rfl, rfl⟩ rfl rfl rfl rfl rfl (by kernel_rfl) Tryz.func7 (by kernel_rfl)
   (of_decide_eq_true (by kernel_rfl)) (by unfold Func.isWrapper; first | (rw [if_pos (by decide +kernel)]; kernel_rfl) | (rw [if_neg (by decide +kernel)]; exact ⟨rfl, rfl⟩))
   (fun os started H enc _ F => by rw [OpenClaim.pre_eq_preRow]; exact cscopes_lifted os started H enc F)
theorem cscopes_plain (f : FuncId) (fn : Func) (hf : Tryz.pinned.checked.prog.funcNamed "winnower/winnowerlaw11.CheckScopes" = some f) (hfn : Tryz.pinned.checked.prog.funcs[f]? = some fn) :
   false = Tryz.pinned.checked.prog.looks [] ∧ ∀ (j : Nat) t, fn.params[j]? = some t → Tryz.pinned.checked.prog.wantsStandIn t = false := by
 obtain rfl : f = 7 := Option.some.inj ((show Tryz.prog.funcNamed "winnower/winnowerlaw11.CheckScopes" = some 7 by kernel_rfl).symm.trans hf) |>.symm
 obtain rfl : fn = Tryz.f7 := (Option.some.inj (Tryz.func7.symm.trans hfn)).symm
 refine ⟨by kernel_rfl, fun j t ht => ?_⟩
 rw [Tryz.params7] at ht
 have hm : t = 31 ∨ t = 3 ∨ t = 29 := by simpa using Array.mem_of_getElem? ht
 rcases hm with rfl | rfl | rfl
 · exact (show Tryz.prog.wantsStandIn 31 = false by kernel_rfl)
 · exact (show Tryz.prog.wantsStandIn 3 = false by kernel_rfl)
 · exact (show Tryz.prog.wantsStandIn 29 = false by kernel_rfl)
theorem cscopes_card : Rows.CheckScopesCardSaid :=
 Claim7.holds_tied_plain_at .later [] _ _ _ _ cscopes_said (fun _ h => by cases h) (by kernel_rfl) (fun _ h => by cases h) checkScopes_row_tie rfl ⟨rfl, rfl⟩ (by kernel_rfl) rfl cscopes_plain (by kernel_rfl)
end Go.Proofs.YtgjpgfedlgdjhaaGreatDoor
end
