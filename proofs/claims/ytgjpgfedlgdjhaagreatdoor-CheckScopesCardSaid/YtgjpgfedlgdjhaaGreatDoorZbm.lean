/- What the claim uses: part 39. -/
import Derived.Test.YtgjpgfedlgdjhaaGreatDoorZbl
section
set_option linter.unusedVariables false
set_option linter.unusedSimpArgs false
set_option maxRecDepth 8192
namespace Go.Proofs.YtgjpgfedlgdjhaaGreatDoor
open Go.RowKit Go.W
open Classical in
/-- a class, and those above it -/
noncomputable def upsAll (cs : List Cls) (i : Nat) : List Nat := (List.range cs.length).filter (fun j => decide (AbP cs [(i : Int)] j))
theorem upsAll_map (cs : List Cls) (i : Nat) : abL cs [(i : Int)] cs.length = (upsAll cs i).map (fun j : Nat => (j : Int)) := rfl
theorem upsAll_mem {cs : List Cls} {i j : Nat} (hi : i < cs.length) : j ∈ upsAll cs i ↔ j < cs.length ∧ upT cs i j := by
 have h := abOne (cs := cs) (i := i) (z := (j : Int))
 rw [upsAll_map, List.mem_map] at h
 constructor
 · intro hj
   obtain ⟨k, e, h1, _, h2⟩ := h.1 ⟨j, hj, rfl⟩
   obtain rfl : j = k := by omega
   exact ⟨h1, h2⟩
 · rintro ⟨h1, h2⟩
   obtain ⟨k, hk, e⟩ := h.2 ⟨j, rfl, h1, hi, h2⟩
   obtain rfl : k = j := by omega
   exact hk
theorem upsAll_len (cs : List Cls) (i : Nat) : (upsAll cs i).length ≤ cs.length := by
 unfold upsAll
 have := List.length_filter_le (fun j => @decide (AbP cs [(i : Int)] j) (Classical.propDecidable _)) (List.range cs.length)
 simpa using this
def abM (ms : List Mem) (nm : ByteArray) (i u : Nat) : Option MbR := if u = i then none else lkN lkMethod ms nm u
def MbCells (w : World) (css : List (List Value)) (l : List MbR) : Prop := css.length = l.length ∧ ∀ (k : Nat) (x : MbR), l[k]? = some x → ∃ sa sn sc, css[k]? = some [.int .i64 x.cls, .string x.nm, .string x.ty, .slice sa sn sc, .bool x.st, .bool x.ba] ∧ StrsAt w (.slice sa sn sc) x.ps
theorem MbCells.six {w : World} {css : List (List Value)} {l : List MbR} (h : MbCells w css l) : ∀ c ∈ css, c.length = 6 := by
 intro c hc
 obtain ⟨k, hk, rfl⟩ := List.mem_iff_getElem.1 hc
 obtain ⟨x, hx⟩ : ∃ x, l[k]? = some x := ⟨_, List.getElem?_eq_getElem (by have := h.1; omega)⟩
 obtain ⟨sa, sn, sc, h1, _⟩ := h.2 k x hx
 rw [List.getElem?_eq_getElem hk] at h1
 rw [Option.some.inj h1]
 rfl
theorem MbCells.snoc {w : World} {css : List (List Value)} {l : List MbR} (h : MbCells w css l) {x : MbR} {sa : Option Addr} {sn sc : Nat} (hs : StrsAt w (.slice sa sn sc) x.ps) :
   MbCells w (css ++ [[.int .i64 x.cls, .string x.nm, .string x.ty, .slice sa sn sc, .bool x.st, .bool x.ba]]) (l ++ [x]) := by
 refine ⟨by simp [h.1], fun k y hy => ?_⟩
 by_cases hk : k < l.length
 · rw [List.getElem?_append_left hk] at hy
   obtain ⟨sa', sn', sc', h1, h2⟩ := h.2 k y hy
   exact ⟨sa', sn', sc', by rw [List.getElem?_append_left (by have := h.1; omega)]; exact h1, h2⟩
 · have hk2 : k = l.length := by
     have := (List.getElem?_eq_some_iff.1 hy).1
     simp at this
     omega
   subst hk2
   rw [List.getElem?_append_right (Nat.le_refl _), Nat.sub_self] at hy
   obtain rfl : x = y := by simpa using hy
   refine ⟨sa, sn, sc, ?_, hs⟩
   rw [List.getElem?_append_right (by have := h.1; omega), h.1, Nat.sub_self]
   rfl
theorem flat_get6 {css : List (List Value)} (h6 : ∀ c ∈ css, c.length = 6) {i j : Nat} {c : List Value} (hi : css[i]? = some c) (hj : j < 6) : css.flatten[i * 6 + j]? = c[j]? := by
 induction css generalizing i with
 | nil => simp at hi
 | cons d css ih =>
   have hd := h6 d List.mem_cons_self
   rw [List.flatten_cons]
   cases i with
   | zero =>
     obtain rfl : d = c := by simpa using hi
     rw [List.getElem?_append_left (by omega)]
     simp
   | succ i =>
     rw [List.getElem?_append_right (by omega), hd, show (i + 1) * 6 + j - 6 = i * 6 + j by omega]
     exact ih (fun c hc => h6 c (List.mem_cons_of_mem _ hc)) (by simpa using hi)
theorem mbsOf {w w' : World} {base : Nat} {v : Value} {css : List (List Value)} {l : List MbR} (h : MbCells w css l) (ho : w'.ownsRow base 54 6 v css.length css.flatten) (hc : Ch No w w') : MbsAt w' v l := by
 refine ⟨css, ?_, h.1, fun k x hx => ?_⟩
 · rcases ho.2 with ⟨rfl, h0⟩ | ⟨g, cap, cur, rfl, hg, hh, h4, h5, h6, h7⟩
   · have : css = [] := List.length_eq_zero_iff.1 h0
     subst this
     exact ⟨none, 0, rfl, Nat.le_refl _, Nat.zero_le _, by simp, fun h => by simp at h⟩
   · refine ⟨some ⟨g, 0, none⟩, cap, rfl, h4, h5, h.six, fun _ => ⟨g, 0, rfl, fun i c hi j hj => ?_⟩⟩
     have hil := (List.getElem?_eq_some_iff.1 hi).1
     rw [cellAt hh, Nat.zero_add, ← Array.getElem?_toList]
     have hf := flat_get6 h.six hi hj
     rw [← h7, List.getElem?_take, if_pos (by omega)] at hf
     exact hf
 · obtain ⟨sa, sn, sc, h1, h2⟩ := h.2 k x hx
   exact ⟨sa, sn, sc, h1, h2.no hc⟩
theorem Tryz.infoMemb : (Tryz.prog.info? 54).map (fun i => (i.zero.map (fun z => z.cells.size), i.size, i.bytes)) = some (some 6, 6, 72) := by kernel_rfl
theorem Tryz.sliceMemb : Tryz.prog.underlying 57 = some (.slice 54) := by kernel_rfl
theorem filterMap_le {α β : Type} (f : α → Option β) : ∀ l : List α, (l.filterMap f).length ≤ l.length
 | [] => Nat.le_refl _
 | x :: l => by
   rw [List.filterMap_cons]
   have := filterMap_le f l
   cases f x <;> simp <;> omega
theorem ownsShape {w : World} {base sz n : Nat} {e : TypeId} {v : Value} {xs : List Value} (h : w.ownsRow base e sz v n xs) : ∃ ao cap, v = .slice ao n cap ∧ n ≤ cap ∧ cap ≤ maxLen := by
 rcases h.2 with ⟨rfl, h0⟩ | ⟨g, cap, cur, rfl, _, _, h4, h5, _⟩
 · rw [h0]; exact ⟨_, _, rfl, Nat.le_refl _, Nat.zero_le _⟩
 · exact ⟨_, _, rfl, h4, h5⟩
set_option maxHeartbeats 16000000 in
theorem mabove {w : World} {mb : Nat} {cs : List Cls} {ms : List Mem} (hT : Tab w) (h : MembIs w mb cs ms) (hf : FaultAt cs none) (hn : cs.length ≤ 20) (hln : ms.length = cs.length) {i : Nat} (hi : i < cs.length) {nm : ByteArray} (hnz : nm.size ≤ maxLen) :
   Calls Tryz.prog 122 #[.pointer (some ⟨mb, 0, none⟩), .int .i64 i, .string nm] w fun e w' => ∃ ua un uc, e = .returned (.slice ua un uc) ∧ MbsAt w' (.slice ua un uc) ((upsAll cs i).filterMap (abM ms nm i)) ∧ Ch No w w' := by
 have HM := hid h
 obtain ⟨cv, m0, m1, m2, m3, m4, m5, m6, m7, m8, xv, ov, bs, hm⟩ := h
 obtain ⟨oa, oc, hov, hoc, hom⟩ := hm.ownShape
 subst hov
 obtain ⟨xb, tb, abv, ss, hxv, hx⟩ := hm.typ
 subst hxv
 have hab := tAbove (is := [(i : Int)]) (hT.no ((Ch.refl No w).alloc _)) (hx.tab.no ((Ch.refl No w).alloc _)) hf hn (one_at w (i : Int))
 rw [upsAll_map] at hab
 obtain ⟨len, hlen⟩ : ∃ len, cs.length = len := ⟨_, rfl⟩
 unfold maxLen at hom
 have HL := hid hlen
 have HBLK := hid hm.blk
 have HMA := hid hm
 have HLN := hid hln
 have HI := hid hi
 have HNZ := hid hnz
 have HUL := hid (upsAll_len cs i)
 have HF := hid hn
 have HUM := hid (fun j => (upsAll_mem (j := j) hi).1)
 have c10 := cellAt hm.blk 10
 have c11 := cellAt hm.blk 11
 have x0 := cellAt hx.blk 0
 rw [hlen] at c11 hoc
 have ymb := lt_size hm.blk
 have yxb := lt_size hx.blk
 clear hm hx hT hf hn hln hi hnz hlen
 go_enter Tryz.func122, Tryz.ntmps122
 go_wp2_with fail
 refine hab.mono ?_
 rintro e w1 ⟨u, rfl, hu, hc1⟩
 have HU := hid hu.at_
 obtain ⟨ua, ucap, rfl, hucap, humax, _, _⟩ := hu.at_
 obtain ⟨n, hn⟩ : ∃ n, (upsAll cs i).length = n := ⟨_, rfl⟩
 have hul := HU.out
 rw [List.length_map, hn] at hucap hul
 rw [List.length_map, hn]
 unfold maxLen at humax
 have HUS := hid hul
 have HN := hid hn
 have HC1 := hid (((Ch.refl No w).alloc (.cells #[.int .i64 i] 3)).trans hc1)
 have hn20 : n ≤ 20 := by have := HUL.out; have := HF.out; omega
 have hno : n ≤ 9223372036854775807 := by omega
 clear hab hu hc1 hn hul c10 c11 x0 HU
 go_wp2_with fail
 go_loopg [23, 7, 9, 10, 11] n (fun g s23 s7 s9 s10 s11 wr => ∃ k : Nat, k ≤ n ∧ n - k ≤ g ∧ s23 = .int .i64 k ∧ Hid (∃ css, MbCells w css (((upsAll cs i).take k).filterMap (abM ms nm i)) ∧ wr.ownsRow w1.heap.size 54 6 s7 css.length css.flatten) ∧ Ch No w1 wr)
 case atStart => exact ⟨0, Nat.zero_le _, by omega, rfl, hid ⟨[], ⟨rfl, fun k x h => by simp at h⟩, World.ownsRow_nil _ _ _ _⟩, Ch.refl _ _⟩
 case round =>
   obtain ⟨k, hk, hg, rfl, HS, hcr1⟩ := hrel
   have HCR1 := hid hcr1
   have hcr := HC1.out.trans hcr1
   have hs := HS.out
   obtain ⟨css, hcs, hown⟩ := hs
   obtain ⟨a7, c7, e7, hc7, hm7⟩ := ownsShape hown
   subst e7
   obtain ⟨L, hL⟩ : ∃ L, css.length = L := ⟨_, rfl⟩
   rw [hL] at hc7 hown ⊢
   unfold maxLen at hm7
   have HLL := hid hL
   have HCS := hid hcs
   have HOW := hid hown
   have HCR := hid hcr
   have hzr := hcr.size
   have hL1 : L + 1 ≤ 100000 := by
     rw [← hL, hcs.1]
     have := filterMap_le (abM ms nm i) ((upsAll cs i).take k)
     rw [List.length_take] at this
     omega
   have c11 := cellAt (hcr.keep _ _ HBLK.out (fun h => h)) 11
   rw [HL.out] at c11
   clear HS hcr hcr1 hcs hown hL
   cases hd : decide (k < n) with
   | false =>
     have hkl : ¬ k < n := by simpa using hd
     go_wp2_with fail
     go_ret
     have hcs := HCS.out
     rw [List.take_of_length_le (by have := HN.out; omega)] at hcs
     refine ⟨_, _, _, rfl, mbsOf hcs (by rw [HLL.out]; exact HOW.out) HCR.out, HCR.out⟩
   | true =>
     have hkl : k < n := by simpa using hd
     obtain ⟨j, hj⟩ : ∃ j, (upsAll cs i)[k]? = some j := ⟨_, List.getElem?_eq_getElem (by have := HN.out; omega)⟩
     obtain ⟨ub, uo, eua, hcell⟩ := (HUS.out.no HCR1.out).cellI (k := k) (by rw [List.getElem?_map, hj]; rfl)
     subst eua
     have hjl := (HUM.out j (List.mem_of_getElem? hj)).1
     obtain ⟨mj, hmj⟩ : ∃ m, ms[j]? = some m := ⟨_, List.getElem?_eq_getElem (by have := HLN.out; omega)⟩
     obtain ⟨ob, oo, oc', b1, b2, b3, e, _, _, hob, g0', g1', g2'⟩ := HMA.out.ownCell hjl hmj
     have g0 := cell_ch g0' HCR.out (fun _ _ h => h)
     have g1 := cell_ch g1' HCR.out (fun _ _ h => h)
     have g2 := cell_ch g2' HCR.out (fun _ _ h => h)
     rw [HL.out] at e
     cases e
     have hjn : j < len := by have := HL.out; omega
     obtain ⟨n1, get, hmp, ho⟩ := (hob.tells nm).2.2
     have hlk := (hmp.ch HCR.out (fun _ _ h => h)).lookOk lawS Tryz.underlying98 (zeroMem wr) (keyS HNZ.out)
     have HJ := hid hj
     have HMJ := hid hmj
     have hlkN : lkN lkMethod ms nm j = lkMethod j mj nm := by unfold lkN; rw [hmj]
     have HLK := hid hlkN
     clear hj hjl hmj hob hmp hlkN g0' g1' g2'
     cases hq : lkMethod j mj nm with
     | none =>
       rw [hq] at ho
       dsimp only at ho
       rw [ho] at hlk
       have hlk' : (Instr.lookup 98 (.map (some b3)) (.string nm) true).run Tryz.prog wr = .ok (.tuple #[.agg #[.int .i64 0, .string ⟨#[]⟩, .string ⟨#[]⟩, .slice none 0 0, .bool false, .bool false], .bool false]) wr := hlk
       have HAB := hid (show abM ms nm i j = none from by unfold abM; rw [HLK.out, hq]; simp)
       clear hlk ho hq
       go_wp2_with fail
       go_roundg (n - k - 1)
       case rel =>
         refine ⟨k + 1, by omega, by omega, by go_num, hid ⟨css, ?_, ?_⟩, HCR1.out.alloc _⟩
         · rw [List.take_add_one, HJ.out, List.filterMap_append]
           simpa [HAB.out] using HCS.out
         · rw [HLL.out]
           exact ownsRow_ch HOW.out ((Ch.refl No wr).alloc _) (fun _ _ _ _ _ h => h)
       case measure => omega
     | some x =>
       rw [hq] at ho
       obtain ⟨u, hu, sa, sn, sc, rfl, hst⟩ := ho
       rw [hu] at hlk
       have hlk' : (Instr.lookup 98 (.map (some b3)) (.string nm) true).run Tryz.prog wr = .ok (.tuple #[.agg #[.int .i64 x.cls, .string x.nm, .string x.ty, .slice sa sn sc, .bool x.st, .bool x.ba], .bool true]) wr := hlk
       have HST := hid hst
       have HQ := hid (HLK.out.trans hq)
       obtain ⟨w8, hw8⟩ : ∃ w8, wr.alloc (.cells #[.int .i64 x.cls, .string x.nm, .string x.ty, .slice sa sn sc, .bool x.st, .bool x.ba] 54) = w8 := ⟨_, rfl⟩
       have hb8 := heap_alloc_new wr (.cells #[.int .i64 x.cls, .string x.nm, .string x.ty, .slice sa sn sc, .bool x.st, .bool x.ba] 54)
       have hc8 := (Ch.refl No wr).alloc (.cells #[.int .i64 x.cls, .string x.nm, .string x.ty, .slice sa sn sc, .bool x.st, .bool x.ba] 54)
       rw [hw8] at hb8 hc8
       have e0 := cellAt hb8 0
       have e1 := cellAt hb8 1
       have e2 := cellAt hb8 2
       have e3 := cellAt hb8 3
       have e4 := cellAt hb8 4
       have e5 := cellAt hb8 5
       have HC8 := hid hc8
       by_cases hji : j = i
       · have HAB := hid (show abM ms nm i j = none from by unfold abM; rw [if_pos hji])
         clear hlk hu hst hq hb8 hc8
         subst hji
         go_wp2_with fail
         go_roundg (n - k - 1)
         case rel =>
           refine ⟨k + 1, by omega, by omega, by go_num, hid ⟨css, ?_, ?_⟩, HCR1.out.trans HC8.out⟩
           · rw [List.take_add_one, HJ.out, List.filterMap_append]
             simpa [HAB.out] using HCS.out
           · rw [HLL.out]
             exact ownsRow_ch HOW.out HC8.out (fun _ _ _ _ _ h => h)
         case measure => omega
       · have HAB := hid (show abM ms nm i j = some x from by unfold abM; rw [if_neg hji]; exact HQ.out)
         have hji' : ¬ (j : Int) = i := by omega
         have hji2 : ((j : Int) == (i : Int)) = false := by simpa using hji'
         have hc9 := hc8.alloc (.cells #[.int .i64 x.cls, .string x.nm, .string x.ty, .slice sa sn sc, .bool x.st, .bool x.ba] 54)
         have HROW := hid (ownsRow_ch HOW.out hc9 (fun _ _ _ _ _ h => h))
         have hbase : w1.heap.size ≤ (w8.alloc (.cells #[.int .i64 x.cls, .string x.nm, .string x.ty, .slice sa sn sc, .bool x.st, .bool x.ba] 54)).heap.size := Nat.le_trans HCR1.out.size hc9.size
         have HC9 := hid hc9
         have h61 : ∀ u ∈ [Value.int .i64 x.cls, .string x.nm, .string x.ty, .slice sa sn sc, .bool x.st, .bool x.ba], u.oneCell' = true := by
           intro u hu
           simp at hu
           rcases hu with rfl | rfl | rfl | rfl | rfl | rfl <;> rfl
         clear hlk hu hst hq hji hb8 hc8 hc9
         go_wp2_with (at_builtin; go_must (refine wpAppendOwn rfl _ _ rfl Tryz.sliceMemb Tryz.infoMemb (Nat.le_of_ble_eq_true rfl) (Nat.le_of_ble_eq_true rfl) w1.heap.size (.slice a7 L c7) L _ rfl HROW.out w8.heap.size 1 1 [.int .i64 x.cls, .string x.nm, .string x.ty, .slice sa sn sc, .bool x.st, .bool x.ba] rfl rfl (heap_alloc_new w8 _) h61 hL1 hbase ?_))
         intro v9 w9 hr9 hc9
         have HR9 := hid hr9
         have HC10 := hid ((HCR1.out.trans HC9.out).trans' hc9 (fun j o ho e => by
           obtain ⟨h1, _⟩ := owned_typed HROW.out j e
           have := lt_size ho
           omega))
         clear hr9 hc9
         go_wp2_with fail
         go_roundg (n - k - 1)
         case rel =>
           refine ⟨k + 1, by omega, by omega, by go_num, hid ⟨css ++ [[.int .i64 x.cls, .string x.nm, .string x.ty, .slice sa sn sc, .bool x.st, .bool x.ba]], ?_, ?_⟩, HC10.out⟩
           · rw [List.take_add_one, HJ.out, List.filterMap_append]
             simpa [HAB.out] using HCS.out.snoc HST.out
           · rw [List.length_append, HLL.out, List.flatten_append]
             simpa using HR9.out
         case measure => omega
end Go.Proofs.YtgjpgfedlgdjhaaGreatDoor
end
