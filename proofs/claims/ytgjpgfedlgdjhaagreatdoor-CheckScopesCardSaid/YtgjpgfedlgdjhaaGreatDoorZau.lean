/- What the claim uses: part 21. -/
import Derived.Test.YtgjpgfedlgdjhaaGreatDoorZat
import Derived.Deep.RegionHeld3
section
set_option linter.unusedVariables false
set_option linter.unusedSimpArgs false
namespace Go.Proofs.YtgjpgfedlgdjhaaGreatDoor
open Go.RowKit Go.W
theorem Tryz.infoPset : (Tryz.prog.info? 150).map (fun i => (i.zero, i.size, i.bytes)) = some (some (.pointer none), 1, 8) := by kernel_rfl
theorem mkSets (n : Nat) (hn : n ≤ 1000000) (w : World) :
   (Instr.makeSlice 105 (.int .i64 (n : Int)) (.int .i64 (n : Int))).run Tryz.prog w = .ok (.slice (some ⟨w.heap.size, 0, none⟩) n n) (w.alloc (.cells ((List.replicate n (⟨none, []⟩ : SetP)).map SetP.val).toArray 150)) := by
 have := run_make_row' (P := Tryz.prog) 105 150 (.pointer none) 8 Tryz.underlying105 Tryz.infoPset rfl .i64 .i64 n (by omega) (by omega) w
 rw [this, made_eq, List.map_replicate]
 rfl
def SetsIn (w : World) (lo hi : Nat) (av : Nat → Prop) (ss : List SetP) : Prop := ∀ s ∈ ss, ∀ b, s.b = some b → ∃ ob, SetAt w b s.l ob ∧ (lo ≤ b ∧ b < hi ∧ ¬ av b) ∧ ∀ o, ob = some o → lo ≤ o ∧ o < hi ∧ ¬ av o
theorem SetsIn.ch {S : Nat → Obj → Prop} {w w' : World} {lo hi : Nat} {av : Nat → Prop} {ss : List SetP} (h : SetsIn w lo hi av ss) (hc : Ch S w w') (hS : ∀ k o, lo ≤ k → k < hi → ¬ av k → ¬ S k o) : SetsIn w' lo hi av ss := by
 intro s hs b hb
 obtain ⟨ob, h1, h2, h3⟩ := h s hs b hb
 exact ⟨ob, h1.ch hc (fun o => hS b o h2.1 h2.2.1 h2.2.2) (fun b' o e => hS b' o (h3 b' e).1 (h3 b' e).2.1 (h3 b' e).2.2), h2, h3⟩
theorem SetsIn.to {w : World} {lo hi hi' : Nat} {av av' : Nat → Prop} {ss : List SetP} (h : SetsIn w lo hi av ss) (hh : ∀ k, lo ≤ k → k < hi → ¬ av k → k < hi' ∧ ¬ av' k) : SetsIn w lo hi' av' ss := by
 intro s hs b hb
 obtain ⟨ob, h1, h2, h3⟩ := h s hs b hb
 exact ⟨ob, h1, ⟨h2.1, hh _ h2.1 h2.2.1 h2.2.2⟩, fun o e => ⟨(h3 o e).1, hh _ (h3 o e).1 (h3 o e).2.1 (h3 o e).2.2⟩⟩
structure Fix (cs : List Cls) (tb mb mn : Nat) (allv : Value) (ks : List Knd) (w : World) : Prop where
 stay : ∀ w', Ch (fun k _ => k = tb) w w' → KndsAt w' allv ks ∧ MapIs Tryz.prog 9 strK w' mb mn (getV (find cs)) ∧ Tab w'
 len : ks.length = cs.length
 row : ∀ (i : Nat) (c : Cls) (k : Knd), cs[i]? = some c → ks[i]? = some k → k.name = c.name ∧ k.face = c.face ∧ k.sup = supZ cs c ∧ k.fs = c.faces.map (findZ cs)
 sz : SzP cs
 sound : SoundP cs
 small : SmallP cs
 tbl : tb < w.heap.size
structure SoSt (cs : List Cls) (tb mb mn ab : Nat) (allv : Value) (ks : List Knd) (w wr : World) (ss : List SetP) (d : List Nat) (ordv : Value) : Prop where
 ch : Ch (fun k _ => k = tb) w wr
 tbk : wr.heap[tb]? = some (.cells #[allv, .map (some mb), .slice (some ⟨ab, 0, none⟩) cs.length cs.length, ordv] 145 (0, 0))
 abk : wr.heap[ab]? = some (.cells (ss.map SetP.val).toArray 150 (0, 0))
 sets : SetsIn wr (ab + 1) wr.heap.size (fun k => ordv.ownBlock = some k) ss
 ord : IntsOwn wr (ab + 1) ordv (d.map (fun j : Nat => (j : Int)))
 ss : SsOf cs ss d
 ab : w.heap.size ≤ ab
def tabOf (cs : List Cls) (ab mb mn : Nat) (allv : Value) (ks : List Knd) (ss : List SetP) (d : List Nat) (ordv : Value) : TabD :=
 { allv := allv, abv := .slice (some ⟨ab, 0, none⟩) cs.length cs.length, ordv := ordv, mb := mb, mn := mn, ks := ks, get := find cs, ss := ss, ord := d.map (fun j : Nat => (j : Int)) }
theorem SsOf.nil {cs : List Cls} {ss : List SetP} {d : List Nat} (h : SsOf cs ss d) : ∀ s ∈ ss, s.b = none → s.l = [] := by
 intro s hs hb
 obtain ⟨j, hj, rfl⟩ := List.mem_iff_getElem.1 hs
 have e : ss[j]? = some ss[j] := List.getElem?_eq_getElem hj
 by_cases hd : j ∈ d
 · obtain ⟨b, h1⟩ := h.yes j hd
   rw [e] at h1
   have h2 : ss[j] = ⟨some b, _⟩ := Option.some.inj h1
   rw [h2] at hb; cases hb
 · have h1 := h.no j (by have := h.len; omega) hd
   rw [e] at h1
   have h2 : ss[j] = ⟨none, []⟩ := Option.some.inj h1
   rw [h2]
theorem setsAtOf {wr : World} {ab n lo hi : Nat} {av : Nat → Prop} {ss : List SetP} (hn : ss.length = n) (hn2 : n ≤ 1000000) (h : wr.heap[ab]? = some (.cells (ss.map SetP.val).toArray 150 (0, 0))) (hs : SetsIn wr lo hi av ss) (hnil : ∀ s ∈ ss, s.b = none → s.l = []) :
   SetsAt wr (.slice (some ⟨ab, 0, none⟩) n n) ss := by
 refine ⟨⟨some ⟨ab, 0, none⟩, n, by rw [List.length_map, hn], by rw [List.length_map, hn]; exact Nat.le_refl _, by unfold maxLen; omega, ?_, fun _ => ⟨ab, 0, rfl, fun i c hi j hj => ?_⟩⟩, fun s hs' b hb => ?_, hnil⟩
 · intro c hc
   obtain ⟨s, _, rfl⟩ := List.mem_map.1 hc
   rfl
 · have e : j = 0 := by omega
   subst e
   rw [List.getElem?_map] at hi
   cases hss : ss[i]? with
   | none => rw [hss] at hi; cases hi
   | some s =>
     rw [hss] at hi
     have : c = [s.val] := by simpa using hi.symm
     subst this
     rw [cellAt h]
     simp [hss]
 · obtain ⟨ob, h1, _⟩ := hs s hs' b hb
   exact ⟨ob, h1⟩
theorem SoSt.tab {cs : List Cls} {tb mb mn ab : Nat} {allv ordv : Value} {ks : List Knd} {w wr : World} {ss : List SetP} {d : List Nat} (hF : Fix cs tb mb mn allv ks w) (h : SoSt cs tb mb mn ab allv ks w wr ss d ordv) :
   TabAt wr tb (tabOf cs ab mb mn allv ks ss d ordv) := by
 obtain ⟨h1, h2, _⟩ := hF.stay wr h.ch
 exact ⟨h.tbk, h1, h2, setsAtOf h.ss.len (by have := hF.small.1; omega) h.abk h.sets h.ss.nil, h.ord.at_⟩
theorem SoSt.ksof {cs : List Cls} {tb mb mn ab : Nat} {allv ordv : Value} {ks : List Knd} {w wr : World} {ss : List SetP} {d : List Nat} (hF : Fix cs tb mb mn allv ks w) (h : SoSt cs tb mb mn ab allv ks w wr ss d ordv) :
   KsOf cs (tabOf cs ab mb mn allv ks ss d ordv) := ⟨hF.len, h.ss.len, hF.row⟩
theorem SoSt.no {cs : List Cls} {tb mb mn ab : Nat} {allv ordv : Value} {ks : List Knd} {w wr w' : World} {ss : List SetP} {d : List Nat} (h : SoSt cs tb mb mn ab allv ks w wr ss d ordv) (hc : Ch No wr w') : SoSt cs tb mb mn ab allv ks w w' ss d ordv :=
 ⟨h.ch.trans (hc.mono (fun _ _ _ h => h.elim)), hc.keep _ _ h.tbk (fun h => h), hc.keep _ _ h.abk (fun h => h), (h.sets.ch hc (fun _ _ _ _ _ h => h)).to (fun k _ hk ha => ⟨Nat.lt_of_lt_of_le hk hc.size, ha⟩), h.ord.no hc, h.ss, h.ab⟩
theorem grownD {w w' : World} {o : Obj} {row : Option Nat} (hg : ((w.alloc o).drew).grownBy w' row) : Ch (fun j _ => row = some j) w w' :=
 (((Ch.refl (fun j _ => row = some j) w).alloc o).drew).grown hg (fun _ _ h _ => h)
def SortOut (cs : List Cls) (tb mb mn : Nat) (allv : Value) (ks : List Knd) (w : World) (e : Ending) (w' : World) : Prop :=
 e = .returned (.tuple #[]) ∧ ∃ ab ss d ordv, SoSt cs tb mb mn ab allv ks w w' ss d ordv ∧ d = ordN cs
theorem sCell {w : World} {ab i : Nat} {ss : List SetP} {s : SetP} (h : w.heap[ab]? = some (.cells (ss.map SetP.val).toArray 150 (0, 0))) (hs : ss[i]? = some s) : w.cell? ⟨ab, i, none⟩ = some s.val := by
 rw [cellAt h]; simp [hs]
theorem OrdSo.done {cs : List Cls} {d : List Nat} (h : OrdSo cs d) (hp : Gr.pick cs.length (upsN cs) d = none) : ordN cs = d := by
 rw [h.2]
 cases cs.length - d.length with
 | zero => rfl
 | succ m => rw [Gr.order, hp]
structure InSt (cs : List Cls) (tb mb mn ab : Nat) (allv : Value) (ks : List Knd) (w wr : World) (ss : List SetP) (d : List Nat) (ordv : Value) (i sb M q : Nat) (ob : Option Nat) : Prop where
 ch : Ch (fun k _ => k = tb) w wr
 tbk : wr.heap[tb]? = some (.cells #[allv, .map (some mb), .slice (some ⟨ab, 0, none⟩) cs.length cs.length, ordv] 145 (0, 0))
 abk : wr.heap[ab]? = some (.cells ((ss.set i ⟨some sb, []⟩).map SetP.val).toArray 150 (0, 0))
 sets : SetsIn wr (ab + 1) M (fun k => ordv.ownBlock = some k) ss
 new : SetAt wr sb (accL cs i q) ob
 sbM : M ≤ sb
 obM : ∀ o, ob = some o → M ≤ o
 ord : IntsOwn wr (ab + 1) ordv (d.map (fun j : Nat => (j : Int)))
 ordM : ∀ j, ordv.ownBlock = some j → j < M
 ss : SsOf cs ss d
 abW : w.heap.size ≤ ab
 abM : ab < M
 tbM : tb < w.heap.size
theorem val_same (ss : List SetP) (i sb : Nat) (l l' : List Int) : (ss.set i ⟨some sb, l⟩).map SetP.val = (ss.set i ⟨some sb, l'⟩).map SetP.val := by
 rw [List.map_set, List.map_set]; rfl
theorem InSt.setsIn {cs : List Cls} {tb mb mn ab : Nat} {allv ordv : Value} {ks : List Knd} {w wr : World} {ss : List SetP} {d : List Nat} {i sb M q : Nat} {ob : Option Nat} (h : InSt cs tb mb mn ab allv ks w wr ss d ordv i sb M q ob) :
   SetsIn wr (ab + 1) wr.heap.size (fun k => ordv.ownBlock = some k) (ss.set i ⟨some sb, accL cs i q⟩) := by
 have hlt := h.new.lt
 have hM : M ≤ wr.heap.size := by have := h.sbM; omega
 have h1 := h.abM
 have h2 := h.sbM
 intro s hs b hb
 rcases List.mem_or_eq_of_mem_set hs with hs | rfl
 · exact (h.sets.to (fun k _ hk ha => ⟨Nat.lt_of_lt_of_le hk hM, ha⟩)) s hs b hb
 · cases hb
   exact ⟨ob, h.new, ⟨by omega, hlt.1, fun e => by have := h.ordM _ e; omega⟩, fun o e => ⟨by have := h.obM o e; omega, hlt.2 o e, fun e' => by have := h.ordM _ e'; have := h.obM o e; omega⟩⟩
theorem InSt.nil {cs : List Cls} {tb mb mn ab : Nat} {allv ordv : Value} {ks : List Knd} {w wr : World} {ss : List SetP} {d : List Nat} {i sb M q : Nat} {ob : Option Nat} (h : InSt cs tb mb mn ab allv ks w wr ss d ordv i sb M q ob) :
   ∀ s ∈ ss.set i ⟨some sb, accL cs i q⟩, s.b = none → s.l = [] := by
 intro s hs hb
 rcases List.mem_or_eq_of_mem_set hs with hs | rfl
 · exact h.ss.nil s hs hb
 · cases hb
theorem InSt.tab {cs : List Cls} {tb mb mn ab : Nat} {allv ordv : Value} {ks : List Knd} {w wr : World} {ss : List SetP} {d : List Nat} {i sb M q : Nat} {ob : Option Nat} (hF : Fix cs tb mb mn allv ks w) (h : InSt cs tb mb mn ab allv ks w wr ss d ordv i sb M q ob) :
   TabAt wr tb (tabOf cs ab mb mn allv ks (ss.set i ⟨some sb, accL cs i q⟩) d ordv) := by
 obtain ⟨h1, h2, _⟩ := hF.stay wr h.ch
 have habk := h.abk
 rw [val_same ss i sb [] (accL cs i q)] at habk
 exact ⟨h.tbk, h1, h2, setsAtOf (by show (ss.set i _).length = _; rw [List.length_set]; exact h.ss.len) (by have := hF.small.1; omega) habk h.setsIn h.nil, h.ord.at_⟩
theorem InSt.no {cs : List Cls} {tb mb mn ab : Nat} {allv ordv : Value} {ks : List Knd} {w wr w' : World} {ss : List SetP} {d : List Nat} {i sb M q : Nat} {ob : Option Nat} (h : InSt cs tb mb mn ab allv ks w wr ss d ordv i sb M q ob) (hc : Ch No wr w') :
   InSt cs tb mb mn ab allv ks w w' ss d ordv i sb M q ob :=
 ⟨h.ch.trans (hc.mono (fun _ _ _ h => h.elim)), hc.keep _ _ h.tbk (fun h => h), hc.keep _ _ h.abk (fun h => h), h.sets.ch hc (fun _ _ _ _ _ h => h), h.new.no hc, h.sbM, h.obM, h.ord.no hc, h.ordM, h.ss, h.abW, h.abM, h.tbM⟩
theorem InSt.merge {cs : List Cls} {tb mb mn ab : Nat} {allv ordv : Value} {ks : List Knd} {w wr w' : World} {ss : List SetP} {d : List Nat} {i sb M q u : Nat} {ob ob' : Option Nat} (h : InSt cs tb mb mn ab allv ks w wr ss d ordv i sb M q ob)
   (hu : (upsN cs i)[q]? = some u) (hc : Ch (So sb ob) wr w') (hn : SetAt w' sb ((abL cs [(u : Int)] cs.length).foldl putS (accL cs i q)) ob') (ho : ob' = ob ∨ ∃ g, ob' = some g ∧ wr.heap.size ≤ g) :
   InSt cs tb mb mn ab allv ks w w' ss d ordv i sb M (q + 1) ob' := by
 have hlt := h.new.lt
 have h1 := h.abM
 have h2 := h.sbM
 have h3 := h.abW
 have h4 := h.tbM
 have hSo : ∀ k o, k < M → ¬ So sb ob k o := by
   rintro k o hk (e | e)
   · omega
   · have := h.obM k e; omega
 refine ⟨h.ch.trans' hc (fun k o hk hs => ?_), hc.keep _ _ h.tbk (hSo _ _ (by omega)), hc.keep _ _ h.abk (hSo _ _ h1), h.sets.ch hc (fun k o _ hk _ => hSo k o hk), by rw [accSnoc hu]; exact hn, h.sbM, fun o e => ?_, h.ord.ch hc (fun g o hg _ _ => hSo g o (h.ordM g hg)), h.ordM, h.ss, h.abW, h.abM, h.tbM⟩
 · exact absurd hs (hSo _ _ (by have := lt_size hk; omega))
 · subst e
   rcases ho with e | ⟨g, e, hg⟩
   · exact h.obM o e.symm
   · cases e; omega
theorem InSt.stop {cs : List Cls} {tb mb mn ab : Nat} {allv ordv : Value} {ks : List Knd} {w wr : World} {ss : List SetP} {d : List Nat} {i sb M : Nat} {ob : Option Nat} (h : InSt cs tb mb mn ab allv ks w wr ss d ordv i sb M (upsN cs i).length ob) (hi : i < cs.length) (hn : cs.length ≤ 20) :
   SetsIn wr (ab + 1) wr.heap.size (fun k => ordv.ownBlock = some k) (ss.set i ⟨some sb, abL cs [(i : Int)] cs.length⟩) ∧ wr.heap[ab]? = some (.cells ((ss.set i ⟨some sb, abL cs [(i : Int)] cs.length⟩).map SetP.val).toArray 150 (0, 0)) := by
 have h1 := h.setsIn
 have h2 := h.abk
 rw [accAll hi hn] at h1
 rw [val_same ss i sb [] (abL cs [(i : Int)] cs.length)] at h2
 exact ⟨h1, h2⟩
theorem InSt.next {cs : List Cls} {tb mb mn ab : Nat} {allv : Value} {ks : List Knd} {w wr w7 : World} {ss : List SetP} {d : List Nat} {i sb M : Nat} {ob : Option Nat} {xa xa7 : Option Addr} {oc oc7 : Nat}
   (h : InSt cs tb mb mn ab allv ks w wr ss d (.slice xa d.length oc) i sb M (upsN cs i).length ob) (hi : i < cs.length) (hn : cs.length ≤ 20) (hp : Gr.pick cs.length (upsN cs) d = some i)
   (hg : Ch (fun j _ => (Value.slice xa d.length oc).ownBlock = some j) wr w7) (ho : IntsOwn w7 (ab + 1) (.slice xa7 (d.length + 1) oc7) (d.map (fun j : Nat => (j : Int)) ++ [(i : Int)]))
   (hb : (Value.slice xa7 (d.length + 1) oc7).ownBlock = (Value.slice xa d.length oc).ownBlock ∨ ∃ g, (Value.slice xa7 (d.length + 1) oc7).ownBlock = some g ∧ wr.heap.size ≤ g) :
   SoSt cs tb mb mn ab allv ks w (w7.setCell ⟨tb, 3, none⟩ (.slice xa7 (d.length + 1) oc7)) (ss.set i ⟨some sb, abL cs [(i : Int)] cs.length⟩) (d ++ [i]) (.slice xa7 (d.length + 1) oc7) := by
 obtain ⟨h1, h2⟩ := h.stop hi hn
 have hw := h.abW
 have ht := h.tbM
 have hab := h.abM
 have hlt : ∀ j, (Value.slice xa d.length oc).ownBlock = some j → ab + 1 ≤ j ∧ j < wr.heap.size := fun j hj => h.ord.lt j hj
 have hc7 : Ch (fun k _ => k = tb) w7 (w7.setCell ⟨tb, 3, none⟩ (.slice xa7 (d.length + 1) oc7)) := (Ch.refl _ _).setCell (fun _ _ => rfl) _
 have hsz : (w7.setCell ⟨tb, 3, none⟩ (.slice xa7 (d.length + 1) oc7)).heap.size = w7.heap.size := by simp [World.setCell]
 refine ⟨(h.ch.trans' hg (fun k o hk e => by have := hlt k e; have := lt_size hk; omega)).trans hc7, ?_, ?_, ?_, ?_, h.ss.step hp, hw⟩
 · rw [setCell_heap (hg.keep _ _ h.tbk (fun e => by have := hlt _ e; omega))]; rfl
 · exact hc7.keep _ _ (hg.keep _ _ h2 (fun e => by have := hlt _ e; omega)) (fun e => by have e' : ab = tb := e; omega)
 · refine ((h1.ch hg (fun k o _ _ ha => ha)).ch hc7 (fun k o hk _ _ e => by have e' : k = tb := e; omega)).to (fun k _ hk ha => ⟨by rw [hsz]; exact Nat.lt_of_lt_of_le hk hg.size, fun e => ?_⟩)
   rcases hb with hb | ⟨g, hb, hg'⟩
   · exact ha (by rw [← hb]; exact e)
   · rw [hb] at e; cases e; omega
 · rw [List.map_append]
   exact ho.ch hc7 (fun g o _ hbg _ e => by have e' : g = tb := e; omega)
set_option maxRecDepth 100000 in
set_option maxHeartbeats 8000000 in
theorem hsort {w : World} {tb mb mn : Nat} {allv : Value} {cs : List Cls} {ks : List Knd} (hF : Fix cs tb mb mn allv ks w)
   (hb : w.heap[tb]? = some (.cells #[allv, .map (some mb), .slice none 0 0, .slice none 0 0] 145 (0, 0))) :
   Calls Tryz.prog 73 #[.pointer (some ⟨tb, 0, none⟩)] w (SortOut cs tb mb mn allv ks w) := by
 have hn20 := hF.small.1
 have hbx := heap_alloc_new w (.cells #[.pointer (some ⟨tb, 0, none⟩)] 90)
 have hcx := (Ch.refl No w).alloc (.cells #[.pointer (some ⟨tb, 0, none⟩)] 90)
 obtain ⟨wa, hwa⟩ : ∃ wa, w.alloc (.cells #[.pointer (some ⟨tb, 0, none⟩)] 90) = wa := ⟨_, rfl⟩
 rw [hwa] at hbx hcx
 obtain ⟨ao, cap, e0, hcap, hmax⟩ := (hF.stay wa (hcx.mono (fun _ _ _ h => h.elim))).1.slice
 rw [hF.len] at e0 hcap
 have hmk := fun w => mkSets cs.length (by omega) w
 have HF := hid hF
 subst e0
 have hb1 := hcx.keep _ _ hb (fun h => h)
 have t0 := cellAt hb1 0
 have t1 := cellAt hb1 1
 have t2 := cellAt hb1 2
 have t3 := cellAt hb1 3
 have f0 := freeAt hb1 0
 have f1 := freeAt hb1 1
 have f2 := freeAt hb1 2
 have f3 := freeAt hb1 3
 have x0 := cellAt hbx 0
 have z1 := lt_size hbx
 have z2 := lt_size hb1
 have HB1 := hid hb1
 have HX := hid hbx
 have HCX := hid hcx
 unfold maxLen at hmax
 clear hF hb hbx hcx hb1
 go_enter Tryz.func73, Tryz.ntmps73
 go_wp2_with fail
 go_region
 go_wp2_with fail
 obtain ⟨ws, hws⟩ : ∃ ws, ((wa.setCell ⟨tb, 2, none⟩ (.slice (some ⟨wa.heap.size, 0, none⟩) cs.length cs.length)).alloc (.cells (Array.replicate cs.length (⟨none, []⟩ : SetP).val) 150)).drew = ws := ⟨_, rfl⟩
 rw [hws]
 have hst : SoSt cs tb mb mn wa.heap.size (.slice ao cs.length cap) ks w ws (List.replicate cs.length ⟨none, []⟩) [] (.slice none 0 0) := by
   have hc1 : Ch (fun k _ => k = tb) wa (wa.setCell ⟨tb, 2, none⟩ (.slice (some ⟨wa.heap.size, 0, none⟩) cs.length cs.length)) := (Ch.refl _ _).setCell (fun _ _ => rfl) _
   have hsz : (wa.setCell ⟨tb, 2, none⟩ (.slice (some ⟨wa.heap.size, 0, none⟩) cs.length cs.length)).heap.size = wa.heap.size := by simp [World.setCell]
   rw [← hws]
   refine ⟨(((HCX.out.mono (fun _ _ _ h => h.elim)).trans hc1).alloc _).drew, ?_, ?_, ?_, IntsOwn.nil _ _, SsOf.start cs, by omega⟩
   · have := heapOld (setCell_heap HB1.out 2 (.slice (some ⟨wa.heap.size, 0, none⟩) cs.length cs.length)) (.cells (Array.replicate cs.length (⟨none, []⟩ : SetP).val) 150)
     exact this
   · have := heap_alloc_new (wa.setCell ⟨tb, 2, none⟩ (.slice (some ⟨wa.heap.size, 0, none⟩) cs.length cs.length)) (.cells (Array.replicate cs.length (⟨none, []⟩ : SetP).val) 150)
     rw [hsz] at this
     rw [List.map_replicate, ← List.toArray_replicate] at *
     exact this
   · intro s hs b hb
     have := List.eq_of_mem_replicate hs
     rw [this] at hb; cases hb
 have hbx2 : ws.heap[w.heap.size]? = some (.cells #[.pointer (some ⟨tb, 0, none⟩)] 90 (0, 0)) := by
   rw [← hws]
   exact heapOld (((Ch.refl _ _).setCell (S := fun k _ => k = tb) (fun _ _ => rfl) _).keep _ _ HX.out (fun e => by have e' : w.heap.size = tb := e; have := HF.out.tbl; omega)) _
 have HST := hid hst
 have HBX := hid hbx2
 clear hst hbx2 hws hwa t0 t1 t2 t3 f0 f1 f2 f3 x0 hmk
 go_loopg [2] cs.length (fun g s2 wr => ∃ (ss : List SetP) (d : List Nat) (oa : Option Addr) (oc : Nat), cs.length - d.length ≤ g ∧ Hid (SoSt cs tb mb mn wa.heap.size (.slice ao cs.length cap) ks w wr ss d (.slice oa d.length oc)) ∧ Hid (wr.heap[w.heap.size]? = some (.cells #[.pointer (some ⟨tb, 0, none⟩)] 90 (0, 0))))
 case atStart => exact ⟨_, [], none, 0, by omega, HST, HBX⟩
 case round =>
   obtain ⟨ss, d, oa, oc, hg, HS, HX2⟩ := hrel
   have hT := HS.out.tab HF.out
   have hidx := idxK hT (HS.out.ksof HF.out) rfl HF.out.sz HF.out.sound HF.out.small (cellAt HX2.out 0)
   have hnx := HS.out.ss.next
   rw [show (tabOf cs wa.heap.size mb mn (.slice ao cs.length cap) ks ss d (.slice oa d.length oc)).ss = ss from rfl, show (tabOf cs wa.heap.size mb mn (.slice ao cs.length cap) ks ss d (.slice oa d.length oc)).allv = .slice ao cs.length cap from rfl] at hidx
   unfold NextOut at hidx
   rw [hnx] at hidx
   have t0 := cellAt HS.out.tbk 0
   have t1 := cellAt HS.out.tbk 1
   have t2 := cellAt HS.out.tbk 2
   have t3 := cellAt HS.out.tbk 3
   have x0 := cellAt HX2.out 0
   clear hT hnx
   cases hp : Gr.pick cs.length (upsN cs) d with
   | none =>
     rw [hp, show optZ none = -1 from rfl] at hidx
     have HP := hid hp
     clear hp
     go_wp2_with fail
     refine hidx.mono ?_
     rintro e w1 ⟨rfl, hc1⟩
     go_wp2_with fail
     refine bodyPost_ret (results_none rfl _ _ _) rfl ?_
     exact ⟨rfl, _, _, _, _, HS.out.no hc1, (HS.out.ss.ord.done HP.out).symm⟩
   | some i =>
     rw [hp, show optZ (some i) = (i : Int) from rfl] at hidx
     have HP := hid hp
     have hil := (Gr.pick_some hp).1
     clear hp
     have hdi : decide ((i : Int) < 0) = false := by simp
     go_wp2_with fail
     refine hidx.mono ?_
     rintro e w1 ⟨rfl, hc1⟩
     have hs1 := HS.out.no hc1
     have hx1 := hc1.keep _ _ HX2.out (fun h => h)
     have u0 := cellAt hs1.tbk 0
     have u1 := cellAt hs1.tbk 1
     have u2 := cellAt hs1.tbk 2
     have u3 := cellAt hs1.tbk 3
     have y0 := cellAt hx1 0
     have hab := hs1.abk
     have HS1 := hid hs1
     have HX1 := hid hx1
     have y1 := lt_size hs1.tbk
     have y2 := lt_size hx1
     have y3 := lt_size hs1.abk
     have ne1 : wa.heap.size ≠ w.heap.size := by omega
     have ne2 : wa.heap.size ≠ tb := by have := HF.out.tbl; omega
     have hcb := ((Ch.refl No w1).alloc (.cells #[.int .i64 (i : Int)] 3)).drew
     have y0b := cell_ch y0 hcb (fun _ _ h => h)
     have u2b := cell_ch u2 hcb (fun _ _ h => h)
     clear hcb hidx hs1 hx1
     go_wp2_with fail
     have hnone := HS.out.ss.no i hil (Gr.pick_some HP.out).2.1
     have HN0 := hid hnone
     clear hnone
     go_region_held3 (fun w' => w'.cell? ⟨w.heap.size, 0, none⟩ = some (.pointer (some ⟨tb, 0, none⟩)) ∧ w'.cell? ⟨tb, 2, none⟩ = some (.slice (some ⟨wa.heap.size, 0, none⟩) cs.length cs.length)) (first | exact ⟨y0, u2⟩ | exact ⟨g0, v2⟩ | exact ⟨y0b, u2b⟩ | exact ⟨(World.cell?_setCell_far w2 ⟨wa.heap.size, i, none⟩ ⟨w.heap.size, 0, none⟩ _ ne1).trans g0, (World.cell?_setCell_far w2 ⟨wa.heap.size, i, none⟩ ⟨tb, 2, none⟩ _ ne2).trans v2⟩ | go_keep) (first | (go_at_call 76; refine (sof ((one_at w1 (i : Int)).no ((Ch.refl No _).drew))).mono ?_; rintro e w2 ⟨u, rfl, hs2, hc2⟩; obtain ⟨sb, ob, rfl, hset, hr, hr'⟩ := hs2.openIt; have hcw := ((((Ch.refl No w1).alloc _).drew).trans hc2); have hs3 := HS1.out.no hcw; have hx3 := hcw.keep _ _ HX1.out (fun h => h); have v0 := cellAt hs3.tbk 0; have v1 := cellAt hs3.tbk 1; have v2 := cellAt hs3.tbk 2; have v3 := cellAt hs3.tbk 3; have g0 := cellAt hx3 0; have hac := sCell hs3.abk HN0.out; have haf := freeAt hs3.abk i; have HS3 := hid hs3; have HX3 := hid hx3; have HSET := hid hset; have HCW := hid hcw; clear hs2 hc2 hset hcw hs3 hx3))
     have hsz4 : (w2.setCell ⟨wa.heap.size, i, none⟩ (.pointer (some ⟨sb, 0, none⟩))).heap.size = w2.heap.size := by simp [World.setCell]
     have hc4 : Ch (fun k _ => k = wa.heap.size) w2 (w2.setCell ⟨wa.heap.size, i, none⟩ (.pointer (some ⟨sb, 0, none⟩))) := (Ch.refl _ _).setCell (fun _ _ => rfl) _
     have hM1 : wa.heap.size < w1.heap.size := y3
     have hMsb : w1.heap.size < sb := by have := hr.1; have e : ((w1.alloc (.cells #[.int .i64 (i : Int)] 3)).drew).heap.size = w1.heap.size + 1 := by simp
                                         omega
     have hMob : ∀ o, ob = some o → w1.heap.size < o := fun o ho => by have := (hr' o ho).1; have e : ((w1.alloc (.cells #[.int .i64 (i : Int)] 3)).drew).heap.size = w1.heap.size + 1 := by simp
                                                                       omega
     have hin : InSt cs tb mb mn wa.heap.size (.slice ao cs.length cap) ks w (w2.setCell ⟨wa.heap.size, i, none⟩ (.pointer (some ⟨sb, 0, none⟩))) ss d (.slice oa d.length oc) i sb w1.heap.size 0 ob := by
       refine ⟨HS3.out.ch.setNew HS3.out.ab _, hc4.keep _ _ HS3.out.tbk (fun e => ne2 e.symm), ?_, (HS1.out.sets.ch HCW.out (fun _ _ _ _ _ h => h)).ch hc4 (fun k o hk _ _ e => by have e' : k = wa.heap.size := e; omega), ?_, Nat.le_of_lt hMsb, fun o ho => Nat.le_of_lt (hMob o ho), HS3.out.ord.ch hc4 (fun g o hg hbg ho e => by have e' : g = wa.heap.size := e; omega), fun j hj => (HS1.out.ord.lt j hj).2, HS3.out.ss, HS3.out.ab, hM1, HF.out.tbl⟩
       · rw [setCell_heap HS3.out.abk]
         rw [List.map_set]
         simp [SetP.val]
       · have e : [(i : Int)].foldl putS [] = accL cs i 0 := by
           unfold accL
           simp only [List.take_zero, List.foldl_nil, List.foldl_cons]
           refine sorted_eq (good_nil.putS _).1 (by simp) (fun m => ?_)
           rw [mem_putS]
           have := HF.out.small.1
           constructor
           · rintro (h | ⟨rfl, _⟩)
             · cases h
             · simp
           · intro h
             have : m = i := by simpa using h
             exact .inr ⟨this, by omega, by omega⟩
         rw [← e]
         exact HSET.out.ch hc4 (fun o e => by have e' : sb = wa.heap.size := e; omega) (fun b o hb e => by have e' : b = wa.heap.size := e; have := hMob b hb; omega)
     have hx4 := hc4.keep _ _ HX3.out (fun e => ne1 e.symm)
     obtain ⟨w4, hw4⟩ : ∃ w4, w2.setCell ⟨wa.heap.size, i, none⟩ (.pointer (some ⟨sb, 0, none⟩)) = w4 := ⟨_, rfl⟩
     rw [hw4] at hin hx4 hsz4
     rw [hw4]
     have HIN := hid hin
     have HX4 := hid hx4
     obtain ⟨k, hk⟩ : ∃ k, ks[i]? = some k := ⟨_, List.getElem?_eq_getElem (by have := HF.out.len; omega)⟩
     obtain ⟨c, hc⟩ : ∃ c, cs[i]? = some c := ⟨_, List.getElem?_eq_getElem hil⟩
     have hrk := rightK (T := tabOf cs wa.heap.size mb mn (.slice ao cs.length cap) ks (ss.set i ⟨some sb, accL cs i 0⟩) d (.slice oa d.length oc)) ⟨HF.out.len, by show (ss.set i _).length = _; rw [List.length_set]; exact hin.ss.len, HF.out.row⟩ hc hk (HF.out.sound i c hc)
     have hfl : k.fs.length ≤ 1000000 := by
       obtain ⟨_, _, _, h4⟩ := HF.out.row i c k hc hk
       rw [h4, List.length_map]; have := HF.out.small.2 c (List.mem_of_getElem? hc); omega
     have hrt := hright (hin.tab HF.out) hk hfl
     rw [hrk] at hrt
     have q0 := cellAt hx4 0
     clear hc4 hin hx4 hw4 hrk hk hc hfl hac haf v0 v1 v2 v3 g0
     go_wp2_with fail
     refine hrt.mono ?_
     rintro e w5 ⟨u, rfl, hu, hc5⟩
     have hun : ∀ g, u.ownBlock = some g → w4.heap.size ≤ g ∧ g < w5.heap.size := fun g hg => hu.lt g hg
     have hobu : ∀ o, ob = some o → u.ownBlock ≠ some o := fun o ho hg => by have := hun o hg; have := (hr' o ho).2; omega
     have hsbu : u.ownBlock ≠ some sb := fun hg => by have := hun sb hg; have := hr.2; omega
     obtain ⟨ua, uc, hue, hucap, humax, _, _⟩ := hu.at_
     rw [List.length_map] at hue hucap
     subst hue
     unfold maxLen at humax
     have HU := hid hu.at_
     have HUN := hid hun
     have HOBU := hid hobu
     have HSBU := hid hsbu
     have HIN5 := hid (HIN.out.no hc5)
     have HX5 := hid (hc5.keep _ _ HX4.out (fun h => h))
     clear hu hun hobu hsbu hrt hc5 q0
     go_wp2_with fail
     go_loopg [35] (upsN cs i).length (fun g s35 wr => ∃ (q : Nat) (ob : Option Nat), q ≤ (upsN cs i).length ∧ (upsN cs i).length - q ≤ g ∧ s35 = .int .i64 q ∧ Hid (InSt cs tb mb mn wa.heap.size (.slice ao cs.length cap) ks w wr ss d (.slice oa d.length oc) i sb w1.heap.size q ob) ∧ Hid (wr.heap[w.heap.size]? = some (.cells #[.pointer (some ⟨tb, 0, none⟩)] 90 (0, 0))) ∧ Hid (IntsAt wr (.slice ua (upsN cs i).length uc) ((upsN cs i).map (fun j : Nat => (j : Int)))) ∧ Hid (∀ o, ob = some o → (Value.slice ua (upsN cs i).length uc).ownBlock ≠ some o))
     case atStart => exact ⟨0, ob, Nat.zero_le _, by omega, rfl, HIN5, HX5, HU, HOBU⟩
     case round =>
       obtain ⟨q, ob2, hq, hgq, rfl, HI, HXI, HUI, HOI⟩ := hrel
       have v0 := cellAt HI.out.tbk 0
       have v1 := cellAt HI.out.tbk 1
       have v2 := cellAt HI.out.tbk 2
       have v3 := cellAt HI.out.tbk 3
       have g0 := cellAt HXI.out 0
       have n1 := lt_size HI.out.tbk
       have n2 := lt_size HXI.out
       have n3 := lt_size HI.out.abk
       cases hdq : decide (q < (upsN cs i).length) with
       | true =>
         have hql : q < (upsN cs i).length := by simpa using hdq
         obtain ⟨x, hx⟩ : ∃ x, (upsN cs i)[q]? = some x := ⟨_, List.getElem?_eq_getElem hql⟩
         have hxn := upsN_lt cs i x (List.mem_of_getElem? hx)
         obtain ⟨b2, off2, hao, hqc⟩ := intsCell HUI.out (show ((upsN cs i).map (fun j : Nat => (j : Int)))[q]? = some (x : Int) by rw [List.getElem?_map, hx]; rfl)
         subst hao
         have hxd : x ∈ d := (Gr.pick_some HP.out).2.2 x (List.mem_of_getElem? hx)
         have hxi : i ≠ x := fun e => (Gr.pick_some HP.out).2.1 (e ▸ hxd)
         obtain ⟨bx, hbx⟩ := HI.out.ss.yes x hxd
         have hsx : (ss.set i ⟨some sb, accL cs i q⟩)[x]? = some ⟨some bx, abL cs [(x : Int)] cs.length⟩ := by rw [List.getElem?_set, if_neg hxi]; exact hbx
         have hsi : (ss.set i ⟨some sb, accL cs i q⟩)[i]? = some ⟨some sb, accL cs i q⟩ := by rw [List.getElem?_set, if_pos rfl, if_pos (by rw [HI.out.ss.len]; exact hil)]
         have habk := HI.out.abk
         rw [val_same ss i sb [] (accL cs i q)] at habk
         have hai := sCell habk hsi
         have hax := sCell habk hsx
         obtain ⟨tsb, tob, hv⟩ := (HI.out.tab HF.out).sets.v hsx
         have hme := smerge (((HF.out.stay wr HI.out.ch).2.2).no ((Ch.refl No wr).drew)) (HI.out.new.no ((Ch.refl No wr).drew)) (hv.no ((Ch.refl No wr).drew))
         have HME := hid hme
         have HX := hid hx
         have HAI := hid hai
         have HAX := hid hax
         have hai' : wr.cell? ⟨wa.heap.size, i, none⟩ = some (.pointer (some ⟨sb, 0, none⟩)) := hai
         have hax' : wr.cell? ⟨wa.heap.size, x, none⟩ = some (.pointer (some ⟨bx, 0, none⟩)) := hax
         have hSo : ∀ k o, k < w1.heap.size → ¬ So sb ob2 k o := by
           rintro k o hk (e | e)
           · have := HI.out.sbM; omega
           · have := HI.out.obM k e; omega
         have hSt : ∀ (b o : Nat) (v : Value) (w6 : World), b < w1.heap.size → wr.cell? ⟨b, o, none⟩ = some v → Ch (So sb ob2) wr.drew w6 → w6.cell? ⟨b, o, none⟩ = some v := fun b o v w6 hb hc h6 => cell_ch (cell_ch hc ((Ch.refl No wr).drew) (fun _ _ h => h)) h6 (fun o' _ => hSo b o' hb)
         have HST := hid hSt
         have HSO := hid hSo
         have m1 : w.heap.size < w1.heap.size := y2
         clear hx hxd hbx hsx hsi habk hai hax hv hSo hme hSt
         go_wp2_with fail
         go_region_held3 (fun w' => w'.cell? ⟨w.heap.size, 0, none⟩ = some (.pointer (some ⟨tb, 0, none⟩)) ∧ w'.cell? ⟨tb, 2, none⟩ = some (.slice (some ⟨wa.heap.size, 0, none⟩) cs.length cs.length) ∧ w'.cell? ⟨wa.heap.size, i, none⟩ = some (.pointer (some ⟨sb, 0, none⟩)) ∧ w'.cell? ⟨wa.heap.size, x, none⟩ = some (.pointer (some ⟨bx, 0, none⟩))) (first | exact ⟨g0, v2, hai', hax'⟩ | exact ⟨HST.out _ _ _ _ m1 g0 HC6.out, HST.out _ _ _ _ y1 v2 HC6.out, HST.out _ _ _ _ y3 hai' HC6.out, HST.out _ _ _ _ y3 hax' HC6.out⟩) (first | (go_at_call 111; refine HME.out.mono ?_; rintro e w6 ⟨u6, ob6, rfl, _, hs6, hc6, ho6⟩; have HC6 := hid hc6; have HS6 := hid hs6; have HO6 := hid ho6; clear hc6 hs6 ho6))
         go_wp2_with fail
         go_roundg ((upsN cs i).length - q - 1)
         case rel =>
           have hc6' : Ch (So sb ob2) wr w6 := ((Ch.refl _ wr).drew).trans HC6.out
           have huw := intsCell HUI.out (show ((upsN cs i).map (fun j : Nat => (j : Int)))[q]? = some (x : Int) by rw [List.getElem?_map, HX.out]; rfl)
           have hub : b2 < wr.heap.size := block_lt_of_cell hqc
           refine ⟨q + 1, ob6, by omega, by omega, by go_num, hid (HI.out.merge HX.out hc6' HS6.out (by rcases HO6.out with h | ⟨g, h, hg⟩; exact .inl h; exact .inr ⟨g, h, hg⟩)), hid (hc6'.keep _ _ HXI.out (HSO.out _ _ m1)), hid (HUI.out.ch hc6' (fun k o hk _ hs => ?_)), hid (fun o ho hk => ?_)⟩
           · rcases hs with h | h
             · exact HSBU.out (by rw [hk, h])
             · exact HOI.out k h hk
           · rcases HO6.out with h | ⟨g, h, hg⟩
             · exact HOI.out o (by rw [← h]; exact ho) hk
             · rw [h] at ho; cases ho
               have e : b2 = o := by simpa [Value.ownBlock] using hk
               have hg' : wr.heap.size ≤ o := hg
               omega
         case measure => omega
       | false =>
         have hdlen : d.length ≤ cs.length := HI.out.ss.ord.len
         have hb1 : (d.map (fun j : Nat => (j : Int))).length + [(i : Int)].length ≤ 10000000 := by have := HF.out.small.1; rw [List.length_map, List.length_singleton]; omega
         have hd1 : d.length + 1 ≤ cs.length := by
           have h3 := (HS.out.ss.ord.step HP.out).len
           rw [List.length_append, List.length_singleton] at h3
           omega
         have hzz : wa.heap.size + 1 ≤ wr.heap.size + 1 := by have := HI.out.abM; omega
         have f3 := freeAt HI.out.tbk 3
         have HJ : Hid (InSt cs tb mb mn wa.heap.size (.slice ao cs.length cap) ks w wr ss d (.slice oa d.length oc) i sb w1.heap.size (upsN cs i).length ob2) := hid (by
           have hqe : q = (upsN cs i).length := by
             have : ¬ q < (upsN cs i).length := by simpa using hdq
             omega
           rw [← hqe]; exact HI.out)
         have hzz2 : wr.heap.size ≤ ((wr.alloc (.cells #[.int .i64 (i : Int)] 3)).drew).heap.size := by
           have e : ((wr.alloc (.cells #[.int .i64 (i : Int)] 3)).drew).heap.size = wr.heap.size + 1 := by simp
           omega
         have hnbx : (Value.slice oa d.length oc).ownBlock ≠ some w.heap.size := fun h => by
           have := (HI.out.ord.lt _ h).1
           omega
         have hnbt : (Value.slice oa d.length oc).ownBlock ≠ some tb := fun h => by
           have := (HI.out.ord.lt _ h).1
           have := HF.out.tbl
           omega
         have hzw : wa.heap.size + 1 ≤ ((wr.alloc (.cells #[.int .i64 (i : Int)] 3)).drew).heap.size := by
           have e : ((wr.alloc (.cells #[.int .i64 (i : Int)] 3)).drew).heap.size = wr.heap.size + 1 := by simp
           omega
         go_wp2_with fail
         go_region_law (first | (refine step_appendI2 rfl _ _ rfl (wa.heap.size + 1) (.slice oa d.length oc) (d.map (fun j : Nat => (j : Int))) [(i : Int)] rfl ((HI.out.ord.alloc _).no ((Ch.refl No _).drew)) (.slice (some ⟨wr.heap.size, 0, none⟩) 1 1) rfl ((one_at wr (i : Int)).no ((Ch.refl No _).drew)) Nat.zero_lt_one hb1 hzw ?_; intro v7 w7 hown7 hgrow7 hblk7; obtain ⟨oa7, oc7, rfl⟩ := hown7.shape; rw [List.length_append, List.length_map, List.length_singleton] at hown7 hblk7 ⊢; have hgr := grownD hgrow7; have HGR := hid hgr; have HOWN7 := hid hown7; have g7 := cellAt (hgr.keep _ _ HXI.out hnbx) 0; have t7 := hgr.keep _ _ HI.out.tbk hnbt; have t73 := cellAt t7 3; have f73 := freeAt t7 3; have T7 := hid t7; have HBL := hid hblk7; clear hgrow7 hgr hown7 hblk7 t7))
         all_goals (
           go_wp2_with fail
           go_roundg (cs.length - d.length - 1)
           case rel =>
             have hnx := HJ.out.next hil HF.out.small.1 HP.out HGR.out HOWN7.out (HBL.out.imp id fun h => ⟨_, h, hzz2⟩)
             have hl : (d ++ [i]).length = d.length + 1 := by rw [List.length_append, List.length_singleton]
             refine ⟨_, d ++ [i], oa7, oc7, by omega, hid (by rw [hl]; exact hnx), hid ?_⟩
             exact ((Ch.refl _ _).setCell (S := fun k _ => k = tb) (fun _ _ => rfl) _).keep _ _ (HGR.out.keep _ _ HXI.out hnbx) (fun e => by have e' : w.heap.size = tb := e; have := HF.out.tbl; omega)
           case measure => omega)
end Go.Proofs.YtgjpgfedlgdjhaaGreatDoor
end
