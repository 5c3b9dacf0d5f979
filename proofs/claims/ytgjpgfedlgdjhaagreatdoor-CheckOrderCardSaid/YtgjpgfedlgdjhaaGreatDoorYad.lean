/- Part 4. -/
import Derived.Test.YtgjpgfedlgdjhaaGreatDoorYac
import Derived.Deep.RegionHeld3
set_option linter.unusedVariables false
set_option linter.unusedSimpArgs false
set_option maxHeartbeats 64000000
set_option maxRecDepth 8192
section
namespace Go.Proofs.YtgjpgfedlgdjhaaGreatDoor
open Go.RowKit Go.W
theorem Tryz.infoPset : (Tryz.prog.info? 150).map (fun i => (i.zero, i.size, i.bytes)) = some (some (.pointer none), 1, 8) := by kernel_rfl
theorem Zm (n : Nat) (hn : n ≤ 1000000) (w : World) :
 (Instr.makeSlice 105 (.int .i64 (n : Int)) (.int .i64 (n : Int))).run Tryz.prog w = .ok (.slice (some ⟨w.heap.size, 0, none⟩) n n) (w.alloc (.cells ((List.replicate n (⟨none, []⟩ : A4)).map A4.val).toArray 150)) := by
 have := run_make_row' (P := Tryz.prog) 105 150 (.pointer none) 8 Tryz.underlying105 Tryz.infoPset rfl .i64 .i64 n (by omega) (by omega) w
 rw [this, Wl, List.map_replicate]
 rfl
def Em (w : World) (lo hi : Nat) (av : Nat → Prop) (ss : List A4) : Prop := ∀ s ∈ ss, ∀ b, s.b = some b → ∃ ob, Br w b s.l ob ∧ (lo ≤ b ∧ b < hi ∧ ¬ av b) ∧ ∀ o, ob = some o → lo ≤ o ∧ o < hi ∧ ¬ av o
theorem Em.ch {S : Nat → Obj → Prop} {w w' : World} {lo hi : Nat} {av : Nat → Prop} {ss : List A4} (h : Em w lo hi av ss) (hc : Ch S w w') (hS : ∀ k o, lo ≤ k → k < hi → ¬ av k → ¬ S k o) : Em w' lo hi av ss := by
 intro s hs b hb
 obtain ⟨ob, h1, h2, h3⟩ := h s hs b hb
 exact ⟨ob, h1.ch hc (fun o => hS b o h2.1 h2.2.1 h2.2.2) (fun b' o e => hS b' o (h3 b' e).1 (h3 b' e).2.1 (h3 b' e).2.2), h2, h3⟩
theorem Em.to {w : World} {lo hi hi' : Nat} {av av' : Nat → Prop} {ss : List A4} (h : Em w lo hi av ss) (hh : ∀ k, lo ≤ k → k < hi → ¬ av k → k < hi' ∧ ¬ av' k) : Em w lo hi' av' ss := by
 intro s hs b hb
 obtain ⟨ob, h1, h2, h3⟩ := h s hs b hb
 exact ⟨ob, h1, ⟨h2.1, hh _ h2.1 h2.2.1 h2.2.2⟩, fun o e => ⟨(h3 o e).1, hh _ (h3 o e).1 (h3 o e).2.1 (h3 o e).2.2⟩⟩
structure Fix (cs : List Aj) (tb mb mn : Nat) (allv : Value) (ks : List C6) (w : World) : Prop where
 stay : ∀ w', Ch (fun k _ => k = tb) w w' → El w' allv ks ∧ A1 Tryz.prog 9 Bx w' mb mn (Ec (As cs)) ∧ Ia w'
 len : ks.length = cs.length
 row : ∀ (i : Nat) (c : Aj) (k : C6), cs[i]? = some c → ks[i]? = some k → k.name = c.name ∧ k.face = c.face ∧ k.sup = Ed cs c ∧ k.fs = c.faces.map (Cs cs)
 sz : Sv cs
 sound : B2 cs
 small : Df cs
 tbl : tb < w.heap.size
structure Ie (cs : List Aj) (tb mb mn ab : Nat) (allv : Value) (ks : List C6) (w wr : World) (ss : List A4) (d : List Nat) (ordv : Value) : Prop where
 ch : Ch (fun k _ => k = tb) w wr
 tbk : wr.heap[tb]? = some (.cells #[allv, .map (some mb), .slice (some ⟨ab, 0, none⟩) cs.length cs.length, ordv] 145 (0, 0))
 abk : wr.heap[ab]? = some (.cells (ss.map A4.val).toArray 150 (0, 0))
 sets : Em wr (ab + 1) wr.heap.size (fun k => ordv.ownBlock = some k) ss
 ord : Al wr (ab + 1) ordv (d.map (fun j : Nat => (j : Int)))
 ss : Fm cs ss d
 ab : w.heap.size ≤ ab
def Jy (cs : List Aj) (ab mb mn : Nat) (allv : Value) (ks : List C6) (ss : List A4) (d : List Nat) (ordv : Value) : E1 :=
 { allv := allv, abv := .slice (some ⟨ab, 0, none⟩) cs.length cs.length, ordv := ordv, mb := mb, mn := mn, ks := ks, get := As cs, ss := ss, ord := d.map (fun j : Nat => (j : Int)) }
theorem Fm.nil {cs : List Aj} {ss : List A4} {d : List Nat} (h : Fm cs ss d) : ∀ s ∈ ss, s.b = none → s.l = [] := by
 intro s hs hb
 obtain ⟨j, hj, rfl⟩ := List.mem_iff_getElem.1 hs
 have e : ss[j]? = some ss[j] := List.getElem?_eq_getElem hj
 by_cases hd : j ∈ d
 {obtain ⟨b, h1⟩ := h.yes j hd
  rw [e] at h1
  have h2 : ss[j] = ⟨some b, _⟩ := Option.some.inj h1
  rw [h2] at hb; cases hb}
 {have h1 := h.no j (by have := h.len; omega) hd
  rw [e] at h1
  have h2 : ss[j] = ⟨none, []⟩ := Option.some.inj h1
  rw [h2]}
theorem Jz {wr : World} {ab n lo hi : Nat} {av : Nat → Prop} {ss : List A4} (hn : ss.length = n) (hn2 : n ≤ 1000000) (h : wr.heap[ab]? = some (.cells (ss.map A4.val).toArray 150 (0, 0))) (hs : Em wr lo hi av ss) (hnil : ∀ s ∈ ss, s.b = none → s.l = []) :
 D3 wr (.slice (some ⟨ab, 0, none⟩) n n) ss := by
 refine ⟨⟨some ⟨ab, 0, none⟩, n, by rw [List.length_map, hn], by rw [List.length_map, hn]; exact Nat.le_refl _, by unfold maxLen; omega, ?_, fun _ => ⟨ab, 0, rfl, fun i c hi j hj => ?_⟩⟩, fun s hs' b hb => ?_, hnil⟩
 {intro c hc
  obtain ⟨s, _, rfl⟩ := List.mem_map.1 hc
  rfl}
 {have e : j = 0 := by omega
  subst e
  rw [List.getElem?_map] at hi
  cases hss : ss[i]? with
  | none => rw [hss] at hi; cases hi
  | some s =>
   rw [hss] at hi
   have : c = [s.val] := by simpa using hi.symm
   subst this
   rw [Ab h]
   simp [hss]}
 {obtain ⟨ob, h1, _⟩ := hs s hs' b hb
  exact ⟨ob, h1⟩}
theorem Ie.tab {cs : List Aj} {tb mb mn ab : Nat} {allv ordv : Value} {ks : List C6} {w wr : World} {ss : List A4} {d : List Nat} (hF : Fix cs tb mb mn allv ks w) (h : Ie cs tb mb mn ab allv ks w wr ss d ordv) :
 Ct wr tb (Jy cs ab mb mn allv ks ss d ordv) := by
 obtain ⟨h1, h2, _⟩ := hF.stay wr h.ch
 exact ⟨h.tbk, h1, h2, Jz h.ss.len (by have := hF.small.1; omega) h.abk h.sets h.ss.nil, h.ord.at_⟩
theorem Ie.ksof {cs : List Aj} {tb mb mn ab : Nat} {allv ordv : Value} {ks : List C6} {w wr : World} {ss : List A4} {d : List Nat} (hF : Fix cs tb mb mn allv ks w) (h : Ie cs tb mb mn ab allv ks w wr ss d ordv) :
 Nf cs (Jy cs ab mb mn allv ks ss d ordv) := ⟨hF.len, h.ss.len, hF.row⟩
theorem Ie.no {cs : List Aj} {tb mb mn ab : Nat} {allv ordv : Value} {ks : List C6} {w wr w' : World} {ss : List A4} {d : List Nat} (h : Ie cs tb mb mn ab allv ks w wr ss d ordv) (hc : Ch No wr w') : Ie cs tb mb mn ab allv ks w w' ss d ordv :=
 ⟨h.ch.trans (hc.mono (fun _ _ _ h => h.elim)), hc.keep _ _ h.tbk (fun h => h), hc.keep _ _ h.abk (fun h => h), (h.sets.ch hc (fun _ _ _ _ _ h => h)).to (fun k _ hk ha => ⟨Nat.lt_of_lt_of_le hk hc.size, ha⟩), h.ord.no hc, h.ss, h.ab⟩
theorem Zn {w w' : World} {o : Obj} {row : Option Nat} (hg : ((w.alloc o).drew).grownBy w' row) : Ch (fun j _ => row = some j) w w' :=
 (((Ch.refl (fun j _ => row = some j) w).alloc o).drew).grown hg (fun _ _ h _ => h)
def Wt (cs : List Aj) (tb mb mn : Nat) (allv : Value) (ks : List C6) (w : World) (e : Ending) (w' : World) : Prop :=
 e = .returned (.tuple #[]) ∧ ∃ ab ss d ordv, Ie cs tb mb mn ab allv ks w w' ss d ordv ∧ d = Hj cs
theorem Ng {w : World} {ab i : Nat} {ss : List A4} {s : A4} (h : w.heap[ab]? = some (.cells (ss.map A4.val).toArray 150 (0, 0))) (hs : ss[i]? = some s) : w.cell? ⟨ab, i, none⟩ = some s.val := by
 rw [Ab h]; simp [hs]
theorem Gd.done {cs : List Aj} {d : List Nat} (h : Gd cs d) (hp : Gr.pick cs.length (Az cs) d = none) : Hj cs = d := by
 rw [h.2]
 cases cs.length - d.length with
 | zero => rfl
 | succ m => rw [Gr.order, hp]
structure Fo (cs : List Aj) (tb mb mn ab : Nat) (allv : Value) (ks : List C6) (w wr : World) (ss : List A4) (d : List Nat) (ordv : Value) (i sb M q : Nat) (ob : Option Nat) : Prop where
 ch : Ch (fun k _ => k = tb) w wr
 tbk : wr.heap[tb]? = some (.cells #[allv, .map (some mb), .slice (some ⟨ab, 0, none⟩) cs.length cs.length, ordv] 145 (0, 0))
 abk : wr.heap[ab]? = some (.cells ((ss.set i ⟨some sb, []⟩).map A4.val).toArray 150 (0, 0))
 sets : Em wr (ab + 1) M (fun k => ordv.ownBlock = some k) ss
 new : Br wr sb (E2 cs i q) ob
 sbM : M ≤ sb
 obM : ∀ o, ob = some o → M ≤ o
 ord : Al wr (ab + 1) ordv (d.map (fun j : Nat => (j : Int)))
 ordM : ∀ j, ordv.ownBlock = some j → j < M
 ss : Fm cs ss d
 abW : w.heap.size ≤ ab
 abM : ab < M
 tbM : tb < w.heap.size
theorem J0 (ss : List A4) (i sb : Nat) (l l' : List Int) : (ss.set i ⟨some sb, l⟩).map A4.val = (ss.set i ⟨some sb, l'⟩).map A4.val := by
 rw [List.map_set, List.map_set]; rfl
theorem Fo.setsIn {cs : List Aj} {tb mb mn ab : Nat} {allv ordv : Value} {ks : List C6} {w wr : World} {ss : List A4} {d : List Nat} {i sb M q : Nat} {ob : Option Nat} (h : Fo cs tb mb mn ab allv ks w wr ss d ordv i sb M q ob) :
 Em wr (ab + 1) wr.heap.size (fun k => ordv.ownBlock = some k) (ss.set i ⟨some sb, E2 cs i q⟩) := by
 have hlt := h.new.lt
 have hM : M ≤ wr.heap.size := by have := h.sbM; omega
 have h1 := h.abM
 have h2 := h.sbM
 intro s hs b hb
 rcases List.mem_or_eq_of_mem_set hs with hs | rfl
 {exact (h.sets.to (fun k _ hk ha => ⟨Nat.lt_of_lt_of_le hk hM, ha⟩)) s hs b hb}
 {cases hb
  exact ⟨ob, h.new, ⟨by omega, hlt.1, fun e => by have := h.ordM _ e; omega⟩, fun o e => ⟨by have := h.obM o e; omega, hlt.2 o e, fun e' => by have := h.ordM _ e'; have := h.obM o e; omega⟩⟩}
theorem Fo.nil {cs : List Aj} {tb mb mn ab : Nat} {allv ordv : Value} {ks : List C6} {w wr : World} {ss : List A4} {d : List Nat} {i sb M q : Nat} {ob : Option Nat} (h : Fo cs tb mb mn ab allv ks w wr ss d ordv i sb M q ob) :
 ∀ s ∈ ss.set i ⟨some sb, E2 cs i q⟩, s.b = none → s.l = [] := by
 intro s hs hb
 rcases List.mem_or_eq_of_mem_set hs with hs | rfl
 {exact h.ss.nil s hs hb}
 {cases hb}
theorem Fo.tab {cs : List Aj} {tb mb mn ab : Nat} {allv ordv : Value} {ks : List C6} {w wr : World} {ss : List A4} {d : List Nat} {i sb M q : Nat} {ob : Option Nat} (hF : Fix cs tb mb mn allv ks w) (h : Fo cs tb mb mn ab allv ks w wr ss d ordv i sb M q ob) :
 Ct wr tb (Jy cs ab mb mn allv ks (ss.set i ⟨some sb, E2 cs i q⟩) d ordv) := by
 obtain ⟨h1, h2, _⟩ := hF.stay wr h.ch
 have habk := h.abk
 rw [J0 ss i sb [] (E2 cs i q)] at habk
 exact ⟨h.tbk, h1, h2, Jz (by show (ss.set i _).length = _; rw [List.length_set]; exact h.ss.len) (by have := hF.small.1; omega) habk h.setsIn h.nil, h.ord.at_⟩
theorem Fo.no {cs : List Aj} {tb mb mn ab : Nat} {allv ordv : Value} {ks : List C6} {w wr w' : World} {ss : List A4} {d : List Nat} {i sb M q : Nat} {ob : Option Nat} (h : Fo cs tb mb mn ab allv ks w wr ss d ordv i sb M q ob) (hc : Ch No wr w') :
 Fo cs tb mb mn ab allv ks w w' ss d ordv i sb M q ob :=
 ⟨h.ch.trans (hc.mono (fun _ _ _ h => h.elim)), hc.keep _ _ h.tbk (fun h => h), hc.keep _ _ h.abk (fun h => h), h.sets.ch hc (fun _ _ _ _ _ h => h), h.new.no hc, h.sbM, h.obM, h.ord.no hc, h.ordM, h.ss, h.abW, h.abM, h.tbM⟩
theorem Fo.merge {cs : List Aj} {tb mb mn ab : Nat} {allv ordv : Value} {ks : List C6} {w wr w' : World} {ss : List A4} {d : List Nat} {i sb M q u : Nat} {ob ob' : Option Nat} (h : Fo cs tb mb mn ab allv ks w wr ss d ordv i sb M q ob)
 (hu : (Az cs i)[q]? = some u) (hc : Ch (So sb ob) wr w') (hn : Br w' sb ((Gz cs [(u : Int)] cs.length).foldl Cq (E2 cs i q)) ob') (ho : ob' = ob ∨ ∃ g, ob' = some g ∧ wr.heap.size ≤ g) :
 Fo cs tb mb mn ab allv ks w w' ss d ordv i sb M (q + 1) ob' := by
 have hlt := h.new.lt
 have h1 := h.abM
 have h2 := h.sbM
 have h3 := h.abW
 have h4 := h.tbM
 have hSo : ∀ k o, k < M → ¬ So sb ob k o := by
  rintro k o hk (e | e)
  {omega}
  {have := h.obM k e; omega}
 refine ⟨h.ch.trans' hc (fun k o hk hs => ?_), hc.keep _ _ h.tbk (hSo _ _ (by omega)), hc.keep _ _ h.abk (hSo _ _ h1), h.sets.ch hc (fun k o _ hk _ => hSo k o hk), by rw [Qg hu]; exact hn, h.sbM, fun o e => ?_, h.ord.ch hc (fun g o hg _ _ => hSo g o (h.ordM g hg)), h.ordM, h.ss, h.abW, h.abM, h.tbM⟩
 {exact absurd hs (hSo _ _ (by have := Ac hk; omega))}
 {subst e
  rcases ho with e | ⟨g, e, hg⟩
  {exact h.obM o e.symm}
  {cases e; omega}}
theorem Fo.stop {cs : List Aj} {tb mb mn ab : Nat} {allv ordv : Value} {ks : List C6} {w wr : World} {ss : List A4} {d : List Nat} {i sb M : Nat} {ob : Option Nat} (h : Fo cs tb mb mn ab allv ks w wr ss d ordv i sb M (Az cs i).length ob) (hi : i < cs.length) (hn : cs.length ≤ 20) :
 Em wr (ab + 1) wr.heap.size (fun k => ordv.ownBlock = some k) (ss.set i ⟨some sb, Gz cs [(i : Int)] cs.length⟩) ∧ wr.heap[ab]? = some (.cells ((ss.set i ⟨some sb, Gz cs [(i : Int)] cs.length⟩).map A4.val).toArray 150 (0, 0)) := by
 have h1 := h.setsIn
 have h2 := h.abk
 rw [Zl hi hn] at h1
 rw [J0 ss i sb [] (Gz cs [(i : Int)] cs.length)] at h2
 exact ⟨h1, h2⟩
theorem Fo.next {cs : List Aj} {tb mb mn ab : Nat} {allv : Value} {ks : List C6} {w wr w7 : World} {ss : List A4} {d : List Nat} {i sb M : Nat} {ob : Option Nat} {xa xa7 : Option Addr} {oc oc7 : Nat}
 (h : Fo cs tb mb mn ab allv ks w wr ss d (.slice xa d.length oc) i sb M (Az cs i).length ob) (hi : i < cs.length) (hn : cs.length ≤ 20) (hp : Gr.pick cs.length (Az cs) d = some i)
 (hg : Ch (fun j _ => (Value.slice xa d.length oc).ownBlock = some j) wr w7) (ho : Al w7 (ab + 1) (.slice xa7 (d.length + 1) oc7) (d.map (fun j : Nat => (j : Int)) ++ [(i : Int)]))
 (hb : (Value.slice xa7 (d.length + 1) oc7).ownBlock = (Value.slice xa d.length oc).ownBlock ∨ ∃ g, (Value.slice xa7 (d.length + 1) oc7).ownBlock = some g ∧ wr.heap.size ≤ g) :
 Ie cs tb mb mn ab allv ks w (w7.setCell ⟨tb, 3, none⟩ (.slice xa7 (d.length + 1) oc7)) (ss.set i ⟨some sb, Gz cs [(i : Int)] cs.length⟩) (d ++ [i]) (.slice xa7 (d.length + 1) oc7) := by
 obtain ⟨h1, h2⟩ := h.stop hi hn
 have hw := h.abW
 have ht := h.tbM
 have hab := h.abM
 have hlt : ∀ j, (Value.slice xa d.length oc).ownBlock = some j → ab + 1 ≤ j ∧ j < wr.heap.size := fun j hj => h.ord.lt j hj
 have hc7 : Ch (fun k _ => k = tb) w7 (w7.setCell ⟨tb, 3, none⟩ (.slice xa7 (d.length + 1) oc7)) := (Ch.refl _ _).setCell (fun _ _ => rfl) _
 have hsz : (w7.setCell ⟨tb, 3, none⟩ (.slice xa7 (d.length + 1) oc7)).heap.size = w7.heap.size := by simp [World.setCell]
 refine ⟨(h.ch.trans' hg (fun k o hk e => by have := hlt k e; have := Ac hk; omega)).trans hc7, ?_, ?_, ?_, ?_, h.ss.step hp, hw⟩
 {rw [Af (hg.keep _ _ h.tbk (fun e => by have := hlt _ e; omega))]; rfl}
 {exact hc7.keep _ _ (hg.keep _ _ h2 (fun e => by have := hlt _ e; omega)) (Bm (by omega))}
 {refine ((h1.ch hg (fun k o _ _ ha => ha)).ch hc7 (fun k o hk _ _ e => by have e' : k = tb := e; omega)).to (fun k _ hk ha => ⟨by rw [hsz]; exact Nat.lt_of_lt_of_le hk hg.size, fun e => ?_⟩)
  rcases hb with hb | ⟨g, hb, hg'⟩
  {exact ha (by rw [← hb]; exact e)}
  {rw [hb] at e; cases e; omega}}
 {rw [List.map_append]
  exact ho.ch hc7 (fun g o _ hbg _ e => by have e' : g = tb := e; omega)}
set_option maxRecDepth 100000 in
set_option maxHeartbeats 8000000 in
theorem Abd {w : World} {tb mb mn : Nat} {allv : Value} {cs : List Aj} {ks : List C6} (hF : Fix cs tb mb mn allv ks w)
 (hb : w.heap[tb]? = some (.cells #[allv, .map (some mb), .slice none 0 0, .slice none 0 0] 145 (0, 0))) :
 Calls Tryz.prog 73 #[.pointer (some ⟨tb, 0, none⟩)] w (Wt cs tb mb mn allv ks w) := by
 have hn20 := hF.small.1
 obtain ⟨wa, hwa, hbx, hcx⟩ := A2 w (.cells #[.pointer (some ⟨tb, 0, none⟩)] 90)
 obtain ⟨ao, cap, e0, hcap, hmax⟩ := (hF.stay wa (hcx.mono (fun _ _ _ h => h.elim))).1.slice
 rw [hF.len] at e0 hcap
 have hmk := fun w => Zm cs.length (by omega) w
 have HF := Aa hF
 subst e0
 have hb1 := hcx.keep _ _ hb (fun h => h)
 obtain ⟨t0, t1, t2, t3⟩ := F9 hb1
 obtain ⟨f0, f1, f2, f3⟩ := Y5 hb1
 have x0 := Ab hbx 0
 have z1 := Ac hbx
 have z2 := Ac hb1
 have HB1 := Aa hb1
 have HX := Aa hbx
 have HCX := Aa hcx
 unfold maxLen at hmax
 clear hF hb hbx hcx hb1
 go_in
 go_wp2_with fail
 go_region
 go_wp2_with fail
 obtain ⟨ws, hws⟩ := Ax (((wa.setCell ⟨tb, 2, none⟩ (.slice (some ⟨wa.heap.size, 0, none⟩) cs.length cs.length)).alloc (.cells (Array.replicate cs.length (⟨none, []⟩ : A4).val) 150)).drew)
 rw [hws]
 have hst : Ie cs tb mb mn wa.heap.size (.slice ao cs.length cap) ks w ws (List.replicate cs.length ⟨none, []⟩) [] (.slice none 0 0) := by
  have hc1 : Ch (fun k _ => k = tb) wa (wa.setCell ⟨tb, 2, none⟩ (.slice (some ⟨wa.heap.size, 0, none⟩) cs.length cs.length)) := (Ch.refl _ _).setCell (fun _ _ => rfl) _
  have hsz : (wa.setCell ⟨tb, 2, none⟩ (.slice (some ⟨wa.heap.size, 0, none⟩) cs.length cs.length)).heap.size = wa.heap.size := by simp [World.setCell]
  rw [← hws]
  refine ⟨(((HCX.out.mono (fun _ _ _ h => h.elim)).trans hc1).alloc _).drew, ?_, ?_, ?_, Al.nil _ _, Fm.start cs, by omega⟩
  {have := Bh (Af HB1.out 2 (.slice (some ⟨wa.heap.size, 0, none⟩) cs.length cs.length)) (.cells (Array.replicate cs.length (⟨none, []⟩ : A4).val) 150)
   exact this}
  {have := heap_alloc_new (wa.setCell ⟨tb, 2, none⟩ (.slice (some ⟨wa.heap.size, 0, none⟩) cs.length cs.length)) (.cells (Array.replicate cs.length (⟨none, []⟩ : A4).val) 150)
   rw [hsz] at this
   rw [List.map_replicate, ← List.toArray_replicate] at *
   exact this}
  {intro s hs b hb
   have := List.eq_of_mem_replicate hs
   rw [this] at hb; cases hb}
 have hbx2 : ws.heap[w.heap.size]? = some (.cells #[.pointer (some ⟨tb, 0, none⟩)] 90 (0, 0)) := by
  rw [← hws]
  exact Bh (((Ch.refl _ _).setCell (S := fun k _ => k = tb) (fun _ _ => rfl) _).keep _ _ HX.out (fun e => by have e' : w.heap.size = tb := e; have := HF.out.tbl; omega)) _
 have HST := Aa hst
 have HBX := Aa hbx2
 clear hst hbx2 hws hwa t0 t1 t2 t3 f0 f1 f2 f3 x0 hmk
 go_loopg [2] cs.length (fun g s2 wr => ∃ (ss : List A4) (d : List Nat) (oa : Option Addr) (oc : Nat), cs.length - d.length ≤ g ∧ Hid (Ie cs tb mb mn wa.heap.size (.slice ao cs.length cap) ks w wr ss d (.slice oa d.length oc)) ∧ Hid (wr.heap[w.heap.size]? = some (.cells #[.pointer (some ⟨tb, 0, none⟩)] 90 (0, 0))))
 case atStart => exact ⟨_, [], none, 0, by omega, HST, HBX⟩
 case round =>
  obtain ⟨ss, d, oa, oc, hg, HS, HX2⟩ := hrel
  have hT := HS.out.tab HF.out
  have hidx := Afd hT (HS.out.ksof HF.out) rfl HF.out.sz HF.out.sound HF.out.small (Ab HX2.out 0)
  have hnx := HS.out.ss.next
  rw [show (Jy cs wa.heap.size mb mn (.slice ao cs.length cap) ks ss d (.slice oa d.length oc)).ss = ss from rfl, show (Jy cs wa.heap.size mb mn (.slice ao cs.length cap) ks ss d (.slice oa d.length oc)).allv = .slice ao cs.length cap from rfl] at hidx
  unfold Qf at hidx
  rw [hnx] at hidx
  obtain ⟨t0, t1, t2, t3⟩ := F9 HS.out.tbk
  have x0 := Ab HX2.out 0
  clear hT hnx
  cases hp : Gr.pick cs.length (Az cs) d with
  | none =>
   rw [hp, show Zj none = -1 from rfl] at hidx
   have HP := Aa hp
   clear hp
   go_wp2_with fail
   refine hidx.mono ?_
   rintro e w1 ⟨rfl, hc1⟩
   go_wp2
   refine bodyPost_ret (results_none rfl _ _ _) rfl ?_
   exact ⟨rfl, _, _, _, _, HS.out.no hc1, (HS.out.ss.ord.done HP.out).symm⟩
  | some i =>
   rw [hp, show Zj (some i) = (i : Int) from rfl] at hidx
   have HP := Aa hp
   have hil := (Gr.pick_some hp).1
   clear hp
   have hdi : decide ((i : Int) < 0) = false := by simp
   go_wp2_with fail
   refine hidx.mono ?_
   rintro e w1 ⟨rfl, hc1⟩
   have Jj := HS.out.no hc1
   have hx1 := hc1.keep _ _ HX2.out (fun h => h)
   obtain ⟨u0, u1, u2, u3⟩ := F9 Jj.tbk
   have y0 := Ab hx1 0
   have hab := Jj.abk
   have HS1 := Aa Jj
   have HX1 := Aa hx1
   have y1 := Ac Jj.tbk
   have y2 := Ac hx1
   have y3 := Ac Jj.abk
   have ne1 : wa.heap.size ≠ w.heap.size := by omega
   have ne2 : wa.heap.size ≠ tb := by have := HF.out.tbl; omega
   have hcb := ((Ch.refl No w1).alloc (.cells #[.int .i64 (i : Int)] 3)).drew
   have y0b := Ae y0 hcb (fun _ _ h => h)
   have u2b := Ae u2 hcb (fun _ _ h => h)
   clear hcb hidx Jj hx1
   go_wp2_with fail
   have hnone := HS.out.ss.no i hil (Gr.pick_some HP.out).2.1
   have HN0 := Aa hnone
   clear hnone
   go_region_held3 (fun w' => w'.cell? ⟨w.heap.size, 0, none⟩ = some (.pointer (some ⟨tb, 0, none⟩)) ∧ w'.cell? ⟨tb, 2, none⟩ = some (.slice (some ⟨wa.heap.size, 0, none⟩) cs.length cs.length)) (first | exact ⟨y0, u2⟩ | exact ⟨g0, v2⟩ | exact ⟨y0b, u2b⟩ | exact ⟨(World.cell?_setCell_far w2 ⟨wa.heap.size, i, none⟩ ⟨w.heap.size, 0, none⟩ _ ne1).trans g0, (World.cell?_setCell_far w2 ⟨wa.heap.size, i, none⟩ ⟨tb, 2, none⟩ _ ne2).trans v2⟩ | go_keep) (first | (go_at_call 76; refine (sof ((Ga w1 (i : Int)).no ((Ch.refl No _).drew))).mono ?_; rintro e w2 ⟨u, rfl, hs2, hc2⟩; obtain ⟨sb, ob, rfl, hset, hr, hr'⟩ := hs2.openIt; have hcw := ((((Ch.refl No w1).alloc _).drew).trans hc2); have hs3 := HS1.out.no hcw; have hx3 := hcw.keep _ _ HX1.out (fun h => h); obtain ⟨v0, v1, v2, v3⟩ := F9 hs3.tbk; have g0 := Ab hx3 0; have hac := Ng hs3.abk HN0.out; have haf := Ad hs3.abk i; have HS3 := Aa hs3; have HX3 := Aa hx3; have HSET := Aa hset; have HCW := Aa hcw; clear hs2 hc2 hset hcw hs3 hx3))
   have hsz4 : (w2.setCell ⟨wa.heap.size, i, none⟩ (.pointer (some ⟨sb, 0, none⟩))).heap.size = w2.heap.size := by simp [World.setCell]
   have hc4 : Ch (fun k _ => k = wa.heap.size) w2 (w2.setCell ⟨wa.heap.size, i, none⟩ (.pointer (some ⟨sb, 0, none⟩))) := (Ch.refl _ _).setCell (fun _ _ => rfl) _
   have hM1 : wa.heap.size < w1.heap.size := y3
   have hMsb : w1.heap.size < sb := by have := hr.1; have e : ((w1.alloc (.cells #[.int .i64 (i : Int)] 3)).drew).heap.size = w1.heap.size + 1 := by simp
                                       omega
   have hMob : ∀ o, ob = some o → w1.heap.size < o := fun o ho => by have := (hr' o ho).1; have e : ((w1.alloc (.cells #[.int .i64 (i : Int)] 3)).drew).heap.size = w1.heap.size + 1 := by simp
                                                                     omega
   have hin : Fo cs tb mb mn wa.heap.size (.slice ao cs.length cap) ks w (w2.setCell ⟨wa.heap.size, i, none⟩ (.pointer (some ⟨sb, 0, none⟩))) ss d (.slice oa d.length oc) i sb w1.heap.size 0 ob := by
    refine ⟨HS3.out.ch.setNew HS3.out.ab _, hc4.keep _ _ HS3.out.tbk (fun e => ne2 e.symm), ?_, (HS1.out.sets.ch HCW.out (fun _ _ _ _ _ h => h)).ch hc4 (fun k o hk _ _ e => by have e' : k = wa.heap.size := e; omega), ?_, Nat.le_of_lt hMsb, fun o ho => Nat.le_of_lt (hMob o ho), HS3.out.ord.ch hc4 (fun g o hg hbg ho e => by have e' : g = wa.heap.size := e; omega), fun j hj => (HS1.out.ord.lt j hj).2, HS3.out.ss, HS3.out.ab, hM1, HF.out.tbl⟩
    {rw [Af HS3.out.abk]
     rw [List.map_set]
     simp [A4.val]}
    {have e : [(i : Int)].foldl Cq [] = E2 cs i 0 := by
      unfold E2
      simp only [List.take_zero, List.foldl_nil, List.foldl_cons]
      refine D2 (Gb.putS _).1 (by simp) (fun m => ?_)
      rw [Fa]
      have := HF.out.small.1
      constructor
      {rintro (h | ⟨rfl, _⟩)
       {cases h}
       {simp}}
      {intro h
       have : m = i := by simpa using h
       exact .inr ⟨this, by omega, by omega⟩}
     rw [← e]
     exact HSET.out.ch hc4 (fun o e => by have e' : sb = wa.heap.size := e; omega) (fun b o hb e => by have e' : b = wa.heap.size := e; have := hMob b hb; omega)}
   have hx4 := hc4.keep _ _ HX3.out (fun e => ne1 e.symm)
   obtain ⟨w4, hw4⟩ := Ax (w2.setCell ⟨wa.heap.size, i, none⟩ (.pointer (some ⟨sb, 0, none⟩)))
   rw [hw4] at hin hx4 hsz4
   rw [hw4]
   have HIN := Aa hin
   have HX4 := Aa hx4
   obtain ⟨k, hk⟩ := gE (l := ks) (i := i) (by have := HF.out.len; omega)
   obtain ⟨c, hc⟩ : ∃ c, cs[i]? = some c := ⟨_, List.getElem?_eq_getElem hil⟩
   have hrk := L3 (T := Jy cs wa.heap.size mb mn (.slice ao cs.length cap) ks (ss.set i ⟨some sb, E2 cs i 0⟩) d (.slice oa d.length oc)) ⟨HF.out.len, by show (ss.set i _).length = _; rw [List.length_set]; exact hin.ss.len, HF.out.row⟩ hc hk (HF.out.sound i c hc)
   have hfl : k.fs.length ≤ 1000000 := by
    obtain ⟨_, _, _, h4⟩ := HF.out.row i c k hc hk
    rw [h4, List.length_map]; have := HF.out.small.2 c (mG hc); omega
   have hrt := L1 (hin.tab HF.out) hk hfl
   rw [hrk] at hrt
   have q0 := Ab hx4 0
   clear hc4 hin hx4 hw4 hrk hk hc hfl hac haf v0 v1 v2 v3 g0
   go_wp2_with fail
   refine hrt.mono ?_
   rintro e w5 ⟨u, rfl, hu, hc5⟩
   have hun : ∀ g, u.ownBlock = some g → w4.heap.size ≤ g ∧ g < w5.heap.size := fun g hg => hu.lt g hg
   have hobu : ∀ o, ob = some o → u.ownBlock ≠ some o := fun o ho hg => by have := hun o hg; have := (hr' o ho).2; omega
   have hsbu : u.ownBlock ≠ some sb := fun hg => by have := hun sb hg; have := hr.2; omega
   obtain ⟨ua, uc, hue, hucap, humax, _, _⟩ := hu.at_
   rw [List.length_map] at hue hucap
   subst hue
   unfold maxLen at humax
   have HU := Aa hu.at_
   have HUN := Aa hun
   have HOBU := Aa hobu
   have HSBU := Aa hsbu
   have HIN5 := Aa (HIN.out.no hc5)
   have HX5 := Aa (hc5.keep _ _ HX4.out (fun h => h))
   clear hu hun hobu hsbu hrt hc5 q0
   go_wp2
   go_loopg [35] (Az cs i).length (fun g s35 wr => ∃ (q : Nat) (ob : Option Nat), q ≤ (Az cs i).length ∧ (Az cs i).length - q ≤ g ∧ s35 = .int .i64 q ∧ Hid (Fo cs tb mb mn wa.heap.size (.slice ao cs.length cap) ks w wr ss d (.slice oa d.length oc) i sb w1.heap.size q ob) ∧ Hid (wr.heap[w.heap.size]? = some (.cells #[.pointer (some ⟨tb, 0, none⟩)] 90 (0, 0))) ∧ Hid (A9 wr (.slice ua (Az cs i).length uc) ((Az cs i).map (fun j : Nat => (j : Int)))) ∧ Hid (∀ o, ob = some o → (Value.slice ua (Az cs i).length uc).ownBlock ≠ some o))
   case atStart => exact ⟨0, ob, Nat.zero_le _, by omega, rfl, HIN5, HX5, HU, HOBU⟩
   case round =>
    obtain ⟨q, ob2, hq, hgq, rfl, HI, HXI, HUI, HOI⟩ := hrel
    obtain ⟨v0, v1, v2, v3⟩ := F9 HI.out.tbk
    have g0 := Ab HXI.out 0
    have n1 := Ac HI.out.tbk
    have n2 := Ac HXI.out
    have n3 := Ac HI.out.abk
    cases hdq : decide (q < (Az cs i).length) with
    | true =>
     have hql : q < (Az cs i).length := by simpa using hdq
     obtain ⟨x, hx⟩ : ∃ x, (Az cs i)[q]? = some x := ⟨_, List.getElem?_eq_getElem hql⟩
     have hxn := Dq cs i x (mG hx)
     obtain ⟨b2, off2, hao, hqc⟩ := Nc HUI.out (show ((Az cs i).map (fun j : Nat => (j : Int)))[q]? = some (x : Int) by rw [List.getElem?_map, hx]; rfl)
     subst hao
     have hxd : x ∈ d := (Gr.pick_some HP.out).2.2 x (mG hx)
     have hxi : i ≠ x := fun e => (Gr.pick_some HP.out).2.1 (e ▸ hxd)
     obtain ⟨bx, hbx⟩ := HI.out.ss.yes x hxd
     have hsx : (ss.set i ⟨some sb, E2 cs i q⟩)[x]? = some ⟨some bx, Gz cs [(x : Int)] cs.length⟩ := by rw [List.getElem?_set, if_neg hxi]; exact hbx
     have hsi : (ss.set i ⟨some sb, E2 cs i q⟩)[i]? = some ⟨some sb, E2 cs i q⟩ := by rw [List.getElem?_set, if_pos rfl, if_pos (by rw [HI.out.ss.len]; exact hil)]
     have habk := HI.out.abk
     rw [J0 ss i sb [] (E2 cs i q)] at habk
     have hai := Ng habk hsi
     have hax := Ng habk hsx
     obtain ⟨tsb, tob, hv⟩ := (HI.out.tab HF.out).sets.v hsx
     have hme := Td (((HF.out.stay wr HI.out.ch).2.2).no ((Ch.refl No wr).drew)) (HI.out.new.no ((Ch.refl No wr).drew)) (hv.no ((Ch.refl No wr).drew))
     have HME := Aa hme
     have HX := Aa hx
     have HAI := Aa hai
     have HAX := Aa hax
     have hai' : wr.cell? ⟨wa.heap.size, i, none⟩ = some (.pointer (some ⟨sb, 0, none⟩)) := hai
     have hax' : wr.cell? ⟨wa.heap.size, x, none⟩ = some (.pointer (some ⟨bx, 0, none⟩)) := hax
     have hSo : ∀ k o, k < w1.heap.size → ¬ So sb ob2 k o := by
      rintro k o hk (e | e)
      {have := HI.out.sbM; omega}
      {have := HI.out.obM k e; omega}
     have hSt : ∀ (b o : Nat) (v : Value) (w6 : World), b < w1.heap.size → wr.cell? ⟨b, o, none⟩ = some v → Ch (So sb ob2) wr.drew w6 → w6.cell? ⟨b, o, none⟩ = some v := fun b o v w6 hb hc h6 => Ae (Ae hc ((Ch.refl No wr).drew) (fun _ _ h => h)) h6 (fun o' _ => hSo b o' hb)
     have HST := Aa hSt
     have HSO := Aa hSo
     have m1 : w.heap.size < w1.heap.size := y2
     clear hx hxd hbx hsx hsi habk hai hax hv hSo hme hSt
     go_wp2_with fail
     go_region_held3 (fun w' => w'.cell? ⟨w.heap.size, 0, none⟩ = some (.pointer (some ⟨tb, 0, none⟩)) ∧ w'.cell? ⟨tb, 2, none⟩ = some (.slice (some ⟨wa.heap.size, 0, none⟩) cs.length cs.length) ∧ w'.cell? ⟨wa.heap.size, i, none⟩ = some (.pointer (some ⟨sb, 0, none⟩)) ∧ w'.cell? ⟨wa.heap.size, x, none⟩ = some (.pointer (some ⟨bx, 0, none⟩))) (first | exact ⟨g0, v2, hai', hax'⟩ | exact ⟨HST.out _ _ _ _ m1 g0 HC6.out, HST.out _ _ _ _ y1 v2 HC6.out, HST.out _ _ _ _ y3 hai' HC6.out, HST.out _ _ _ _ y3 hax' HC6.out⟩) (first | (go_at_call 111; refine HME.out.mono ?_; rintro e w6 ⟨u6, ob6, rfl, _, hs6, hc6, ho6⟩; have HC6 := Aa hc6; have HS6 := Aa hs6; have HO6 := Aa ho6; clear hc6 hs6 ho6))
     go_wp2
     go_roundg ((Az cs i).length - q - 1)
     case rel =>
      have hc6' : Ch (So sb ob2) wr w6 := ((Ch.refl _ wr).drew).trans HC6.out
      have huw := Nc HUI.out (show ((Az cs i).map (fun j : Nat => (j : Int)))[q]? = some (x : Int) by rw [List.getElem?_map, HX.out]; rfl)
      have hub : b2 < wr.heap.size := block_lt_of_cell hqc
      refine ⟨q + 1, ob6, by omega, by omega, by go_num, Aa (HI.out.merge HX.out hc6' HS6.out (by rcases HO6.out with h | ⟨g, h, hg⟩; exact .inl h; exact .inr ⟨g, h, hg⟩)), Aa (hc6'.keep _ _ HXI.out (HSO.out _ _ m1)), Aa (HUI.out.ch hc6' (fun k o hk _ hs => ?_)), Aa (fun o ho hk => ?_)⟩
      {rcases hs with h | h
       {exact HSBU.out (by rw [hk, h])}
       {exact HOI.out k h hk}}
      {rcases HO6.out with h | ⟨g, h, hg⟩
       {exact HOI.out o (by rw [← h]; exact ho) hk}
       {rw [h] at ho; cases ho
        have e : b2 = o := by simpa [Value.ownBlock] using hk
        have hg' : wr.heap.size ≤ o := hg
        omega}}
     case measure => omega
    | false =>
     have hdlen : d.length ≤ cs.length := HI.out.ss.ord.len
     have hb1 : (d.map (fun j : Nat => (j : Int))).length + [(i : Int)].length ≤ 10000000 := by have := HF.out.small.1; rw [List.length_map, List.length_singleton]; omega
     have hd1 : d.length + 1 ≤ cs.length := by
      have h3 := (HS.out.ss.ord.step HP.out).len
      rw [List.length_append, List.length_singleton] at h3
      omega
     have hzz : wa.heap.size + 1 ≤ wr.heap.size + 1 := by have := HI.out.abM; omega
     have f3 := Ad HI.out.tbk 3
     have HJ : Hid (Fo cs tb mb mn wa.heap.size (.slice ao cs.length cap) ks w wr ss d (.slice oa d.length oc) i sb w1.heap.size (Az cs i).length ob2) := Aa (by
      have hqe : q = (Az cs i).length := by
       have : ¬ q < (Az cs i).length := by simpa using hdq
       omega
      rw [← hqe]; exact HI.out)
     have hzz2 : wr.heap.size ≤ ((wr.alloc (.cells #[.int .i64 (i : Int)] 3)).drew).heap.size := by
      have e : ((wr.alloc (.cells #[.int .i64 (i : Int)] 3)).drew).heap.size = wr.heap.size + 1 := by simp
      omega
     have hnbx : (Value.slice oa d.length oc).ownBlock ≠ some w.heap.size := fun h => by
      have := (HI.out.ord.lt _ h).1
      omega
     have hnbt : (Value.slice oa d.length oc).ownBlock ≠ some tb := fun h => by
      have := (HI.out.ord.lt _ h).1
      have := HF.out.tbl
      omega
     have hzw : wa.heap.size + 1 ≤ ((wr.alloc (.cells #[.int .i64 (i : Int)] 3)).drew).heap.size := by
      have e : ((wr.alloc (.cells #[.int .i64 (i : Int)] 3)).drew).heap.size = wr.heap.size + 1 := by simp
      omega
     go_wp2_with fail
     go_region_law (first | (refine Kt rfl _ _ rfl (wa.heap.size + 1) (.slice oa d.length oc) (d.map (fun j : Nat => (j : Int))) [(i : Int)] rfl ((HI.out.ord.alloc _).no ((Ch.refl No _).drew)) (.slice (some ⟨wr.heap.size, 0, none⟩) 1 1) rfl ((Ga wr (i : Int)).no ((Ch.refl No _).drew)) Nat.zero_lt_one hb1 hzw ?_; intro v7 w7 hown7 hgrow7 hblk7; obtain ⟨oa7, oc7, rfl⟩ := hown7.shape; rw [List.length_append, List.length_map, List.length_singleton] at hown7 hblk7 ⊢; have hgr := Zn hgrow7; have HGR := Aa hgr; have HOWN7 := Aa hown7; have g7 := Ab (hgr.keep _ _ HXI.out hnbx) 0; have t7 := hgr.keep _ _ HI.out.tbk hnbt; have t73 := Ab t7 3; have f73 := Ad t7 3; have T7 := Aa t7; have HBL := Aa hblk7; clear hgrow7 hgr hown7 hblk7 t7))
     all_goals (
      go_wp2
      go_roundg (cs.length - d.length - 1)
      case rel =>
       have hnx := HJ.out.next hil HF.out.small.1 HP.out HGR.out HOWN7.out (HBL.out.imp id fun h => ⟨_, h, hzz2⟩)
       have hl : (d ++ [i]).length = d.length + 1 := by rw [List.length_append, List.length_singleton]
       refine ⟨_, d ++ [i], oa7, oc7, by omega, Aa (by rw [hl]; exact hnx), Aa ?_⟩
       exact ((Ch.refl _ _).setCell (S := fun k _ => k = tb) (fun _ _ => rfl) _).keep _ _ (HGR.out.keep _ _ HXI.out hnbx) (fun e => by have e' : w.heap.size = tb := e; have := HF.out.tbl; omega)
      case measure => omega)
end Go.Proofs.YtgjpgfedlgdjhaaGreatDoor
end
