/- What the claim uses: part 20. -/
import Derived.Test.YtgjpgfedlgdjhaaGreatDoorZas
import Derived.Test.YtgjpgfedlgdjhaaGreatDoorZar
section
section
set_option linter.unusedVariables false
set_option linter.unusedSimpArgs false
namespace Go.Proofs.YtgjpgfedlgdjhaaGreatDoor
open Go.RowKit Go.W
def opn (ss : List SetP) (u : Nat) : Bool := match ss[u]? with | some s => s.b.isNone | none => true
set_option maxHeartbeats 1000000 in
theorem hs11 {w : World} {tb bx : Nat} {T : TabD} (h : TabAt w tb T) (hbx : w.cell? ⟨bx, 0, none⟩ = some (.pointer (some ⟨tb, 0, none⟩))) {u : Nat} {s : SetP} (hs : T.ss[u]? = some s) :
   Calls Tryz.prog 110 #[.int .i64 u, .pointer (some ⟨bx, 0, none⟩)] w fun e w' => e = .returned (.bool (opn T.ss u)) ∧ w = w' := by
 have e0 : opn T.ss u = s.b.isNone := by unfold opn; rw [hs]
 rw [e0]
 obtain ⟨b2, off2, cap2, e2, hc2, hcap, hmx⟩ := h.sets.cell hs
 have hl := (List.getElem?_eq_some_iff.1 hs).1
 unfold maxLen at hmx
 have c2 := cellAt h.blk 2
 rw [e2] at c2
 unfold SetP.val at hc2
 clear h e2 hs e0
 cases hb : s.b with
 | none =>
   rw [hb] at hc2
   simp only [Option.map_none] at hc2
   go_enter Tryz.func110, Tryz.ntmps110
   go_wp2_with fail
   go_ret
   exact ⟨rfl, rfl⟩
 | some b =>
   rw [hb] at hc2
   simp only [Option.map_some] at hc2
   go_enter Tryz.func110, Tryz.ntmps110
   go_wp2_with fail
   go_ret
   exact ⟨rfl, rfl⟩
def AnyIs (b : Bool) (e : Ending) : Prop := ∃ i : Int, e = .returned (.int .i64 i) ∧ decide (0 ≤ i) = b
theorem AnyIs.yes (k : Nat) : AnyIs true (.returned (.int .i64 k)) := ⟨k, rfl, by simp⟩
theorem AnyIs.no : AnyIs false (.returned (.int .i64 (-1))) := ⟨-1, rfl, by simp⟩
set_option maxHeartbeats 2000000 in
theorem sindexU {w : World} {tb bx : Nat} {T : TabD} (h : TabAt w tb T) (hbx : w.cell? ⟨bx, 0, none⟩ = some (.pointer (some ⟨tb, 0, none⟩))) {v : Value} {l : List Nat} (hv : IntsAt w v (l.map (fun j : Nat => (j : Int)))) (hl : ∀ u ∈ l, u < T.ss.length) :
   Calls Tryz.prog 145 #[v, .func (.func 110) #[] #[.pointer (some ⟨bx, 0, none⟩)]] w fun e w' => AnyIs (l.any (opn T.ss)) e ∧ w = w' := by
 obtain ⟨ao, cap, rfl, hcap, hmax, hnc, hcell⟩ := hv
 rw [List.length_map] at hcap hcell ⊢
 obtain ⟨len, hlen⟩ : ∃ len, l.length = len := ⟨_, rfl⟩
 rw [hlen] at hcap hcell ⊢
 unfold maxLen at hmax
 have HL := hid hlen
 have HV := hid h
 have HU := hid hl
 obtain ⟨r, hr⟩ : ∃ r, l.any (opn T.ss) = r := ⟨_, rfl⟩
 have HR := hid hr
 rw [hr]
 clear hlen hnc h hr hl
 go_enter Tryz.func145, Tryz.ntmps145
 go_wp2_with fail
 go_loop [8] (fun s8 => ∃ (k : Nat), k ≤ len ∧ s8 = .int .i64 k ∧ Hid (∀ x ∈ l.take k, opn T.ss x = false)) (fun s8 => len - (intOf s8).toNat)
 case atStart => exact ⟨0, Nat.zero_le _, rfl, hid (by simp)⟩
 case round =>
   obtain ⟨k, hk, rfl, HN⟩ := hrel
   cases hd : decide (k < len) with
   | false =>
     go_wp2_with fail
     go_ret
     have hkl : ¬ k < len := by simpa using hd
     have := HN.out
     rw [List.take_of_length_le (by have := HL.out; omega)] at this
     have e : r = false := by rw [← HR.out]; simpa using this
     subst e
     exact ⟨.no, rfl⟩
   | true =>
     have hkl : k < len := by simpa using hd
     obtain ⟨b, off, rfl, hc⟩ := hcell (by omega)
     obtain ⟨x, hx⟩ : ∃ x, l[k]? = some x := ⟨_, List.getElem?_eq_getElem (by have := HL.out; omega)⟩
     have hq := hc k (x : Int) (by rw [List.getElem?_map, hx]; rfl)
     have hxn := HU.out x (List.mem_of_getElem? hx)
     have HX := hid hx
     have hcl := hs11 HV.out hbx (List.getElem?_eq_getElem hxn)
     clear hc hcell hx
     cases hop : opn T.ss x with
     | true =>
       rw [hop] at hcl
       have HO := hid hop
       clear hop
       go_wp2_with fail
       refine hcl.mono ?_
       rintro e w1 ⟨rfl, rfl⟩
       go_wp2_with fail
       go_ret
       have e : r = true := by rw [← HR.out]; exact List.any_eq_true.2 ⟨x, List.mem_of_getElem? HX.out, HO.out⟩
       subst e
       exact ⟨.yes k, rfl⟩
     | false =>
       rw [hop] at hcl
       have HO := hid hop
       clear hop
       go_wp2_with fail
       refine hcl.mono ?_
       rintro e w1 ⟨rfl, rfl⟩
       go_wp2_with fail
       go_round
       case rel =>
         refine ⟨k + 1, by omega, by go_num, hid ?_⟩
         rw [List.take_add_one, HX.out]
         intro y hy
         rcases List.mem_append.1 hy with hy | hy
         · exact HN.out y hy
         · simp at hy; subst hy; exact HO.out
       case measure => simp [intOf]; omega
set_option maxHeartbeats 1000000 in
theorem scontainsU {w : World} {tb bx : Nat} {T : TabD} (h : TabAt w tb T) (hbx : w.cell? ⟨bx, 0, none⟩ = some (.pointer (some ⟨tb, 0, none⟩))) {v : Value} {l : List Nat} (hv : IntsAt w v (l.map (fun j : Nat => (j : Int)))) (hl : ∀ u ∈ l, u < T.ss.length) :
   Calls Tryz.prog 109 #[v, .func (.func 110) #[] #[.pointer (some ⟨bx, 0, none⟩)]] w fun e w' => e = .returned (.bool (l.any (opn T.ss))) ∧ w = w' := by
 have hi := sindexU h hbx hv hl
 clear h hv hl hbx
 go_enter Tryz.func109, Tryz.ntmps109
 go_wp2_with fail
 refine hi.mono ?_
 rintro e w' ⟨⟨i, rfl, hv⟩, rfl⟩
 go_wp2_with fail
 go_ret
 exact ⟨rfl, rfl⟩
structure KsOf (cs : List Cls) (T : TabD) : Prop where
 len : T.ks.length = cs.length
 slen : T.ss.length = cs.length
 row : ∀ (i : Nat) (c : Cls) (k : Knd), cs[i]? = some c → T.ks[i]? = some k → k.name = c.name ∧ k.face = c.face ∧ k.sup = supZ cs c ∧ k.fs = c.faces.map (findZ cs)
theorem rightK {cs : List Cls} {T : TabD} (h : KsOf cs T) {i : Nat} {c : Cls} {k : Knd} (hc : cs[i]? = some c) (hk : T.ks[i]? = some k) (ho : okC cs i c) : k.right = (upsN cs i).map (fun j : Nat => (j : Int)) := by
 obtain ⟨_, _, h3, h4⟩ := h.row i c k hc hk
 rw [← rightZ_ups hc ho]
 unfold Knd.right rightZ Cls.ups
 rw [h3, h4]
 cases hs : c.sup.toList.isEmpty with
 | true => rw [supZ_no hs]; simp
 | false =>
   obtain ⟨s, _, hf, _⟩ := ho.sup hs
   rw [supZ_yes hs, findZ_some hf, if_pos (by omega)]
   simp [findZ_some hf]
def rdyB (cs : List Cls) (ss : List SetP) (i : Nat) : Bool := opn ss i && !(upsN cs i).any (opn ss)
theorem lookN {w : World} {mb n : Nat} {get : ByteArray → Option Nat} (h : MapIs Tryz.prog 9 strK w mb n (getV get)) {nm : ByteArray} (hn : nm.size ≤ maxLen) {i : Nat} (hf : get nm = some i) :
   (Instr.lookup 142 (.map (some mb)) (.string nm) false).run Tryz.prog w = .ok (.int .i64 (i : Int)) w := by
 have hrun := h.look lawS Tryz.underlying142 (zeroI w) (keyS hn)
 have e1 : ((getV get nm).getD (.int .i64 0)) = .int .i64 (i : Int) := by unfold getV; rw [hf]; rfl
 rw [e1] at hrun
 exact hrun
set_option maxRecDepth 100000 in
set_option maxHeartbeats 4000000 in
theorem hs1 {w : World} {tb bx : Nat} {T : TabD} {cs : List Cls} (h : TabAt w tb T) (hK : KsOf cs T) (hg : T.get = find cs) (hsz : SzP cs) (hS : SoundP cs) (hsm : SmallP cs) (hbx : w.cell? ⟨bx, 0, none⟩ = some (.pointer (some ⟨tb, 0, none⟩)))
   {i : Nat} {c : Cls} {k : Knd} (hc : cs[i]? = some c) (hk : T.ks[i]? = some k) :
   Calls Tryz.prog 108 #[.agg #[.string k.name, .bool k.face, .int .i64 k.sup, .slice k.fa k.fs.length k.fc], .pointer (some ⟨bx, 0, none⟩)] w fun e w' => e = .returned (.bool (rdyB cs T.ss i)) ∧ Ch No w w' := by
 have ho := hS i c hc
 obtain ⟨h1, h2, h3, h4⟩ := hK.row i c k hc hk
 clear h2 h3
 have hfl : k.fs.length ≤ 1000000 := by rw [h4, List.length_map]; have := hsm.2 c (List.mem_of_getElem? hc); omega
 have hil : i < T.ss.length := by rw [hK.slen]; exact (List.getElem?_eq_some_iff.1 hc).1
 obtain ⟨s, hs⟩ : ∃ s, T.ss[i]? = some s := ⟨_, List.getElem?_eq_getElem hil⟩
 have hup : ∀ u ∈ upsN cs i, u < T.ss.length := fun u hu => by rw [hK.slen]; exact upsN_lt cs i u hu
 have hrk := rightK hK hc hk ho
 have hch := (Ch.refl No w).alloc (.cells #[.string k.name, .bool k.face, .int .i64 k.sup, .slice k.fa k.fs.length k.fc] 147)
 have hkb := heap_alloc_new w (.cells #[.string k.name, .bool k.face, .int .i64 k.sup, .slice k.fa k.fs.length k.fc] 147)
 obtain ⟨wa, hwa⟩ : ∃ wa, w.alloc (.cells #[.string k.name, .bool k.face, .int .i64 k.sup, .slice k.fa k.fs.length k.fc] 147) = wa := ⟨_, rfl⟩
 rw [hwa] at hch hkb
 have ht := h.no hch
 have hlk := fun n : Nat => lookN (ht.names.ch ((Ch.refl No wa).drewN n) (fun _ _ h => h)) (nm := k.name) (by rw [h1]; exact (hsz c (List.mem_of_getElem? hc)).1) (i := i) (by rw [hg, h1]; exact ho.own)
 obtain ⟨b2, off2, cap2, e2, hc2, hcap, hmx⟩ := ht.sets.cell hs
 unfold maxLen at hmx
 have k0 := cellAt hkb 0
 have c1 := cellAt ht.blk 1
 have c2 := cellAt ht.blk 2
 rw [e2] at c2
 have hbx' := cell_ch hbx hch (fun _ _ h => h)
 unfold SetP.val at hc2
 have HT := hid ht
 have HK := hid hk
 have HRK := hid hrk
 have HUP := hid hup
 have HCH := hid hch
 have HBX := hid hbx'
 have hz := lt_size hkb
 have HO := hid (show opn T.ss i = s.b.isNone by unfold opn; rw [hs])
 clear h hg hsz hS hsm hbx ho h1 h4 hrk hup hch hkb e2 ht hs hK hc hk
 cases hb : s.b with
 | some b =>
   rw [hb] at hc2
   simp only [Option.map_some] at hc2
   have HB := hid hb
   clear hb
   go_enter Tryz.func108, Tryz.ntmps108
   go_wp2_with fail
   clear hwa
   go_quiet (fail)
   go_wp2_with fail
   go_ret
   refine ⟨ret_bool ?_, HCH.out.drewN _⟩
   unfold rdyB
   rw [HO.out, HB.out]; rfl
 | none =>
   rw [hb] at hc2
   simp only [Option.map_none] at hc2
   have HB := hid hb
   clear hb
   go_enter Tryz.func108, Tryz.ntmps108
   go_wp2_with fail
   clear hwa
   go_quiet (fail)
   go_wp2_with (first | (go_at_call 49; refine (hright (HT.out.no ((Ch.refl No wa).drewN nq)) HK.out hfl).mono ?_; rintro e w2 ⟨u, rfl, hu, hc3⟩; rw [HRK.out] at hu; have hcf := scontainsU (HT.out.no (((Ch.refl No wa).drewN nq).trans hc3)) (cell_ch HBX.out (((Ch.refl No wa).drewN nq).trans hc3) (fun _ _ h => h)) hu.at_ HUP.out; have HC3 := hid hc3; clear hu hc3) | (go_at_call 109; refine hcf.mono ?_; rintro e w3 ⟨rfl, rfl⟩))
   go_ret
   refine ⟨ret_bool ?_, (HCH.out.drewN _).trans HC3.out⟩
   unfold rdyB
   rw [HO.out, HB.out]; rfl
end Go.Proofs.YtgjpgfedlgdjhaaGreatDoor
end
section
set_option linter.unusedVariables false
set_option linter.unusedSimpArgs false
namespace Go.Proofs.YtgjpgfedlgdjhaaGreatDoor
open Go.RowKit Go.W
def nextI (cs : List Cls) (ss : List SetP) : Option Nat := (List.range cs.length).find? (rdyB cs ss)
def optZ (o : Option Nat) : Int := match o with | some i => (i : Int) | none => -1
def NextOut (cs : List Cls) (ss : List SetP) (w : World) (e : Ending) (w' : World) : Prop := e = .returned (.int .i64 (optZ (nextI cs ss))) ∧ Ch No w w'
theorem nextYes {cs : List Cls} {ss : List SetP} {k : Nat} (hk : k < cs.length) (h : rdyB cs ss k = true) (hno : ∀ j, j < k → rdyB cs ss j = false) : nextI cs ss = some k := by
 unfold nextI
 rw [List.find?_range_eq_some]
 exact ⟨h, by simpa using hk, fun j hj => by rw [hno j hj]; rfl⟩
theorem nextNo {cs : List Cls} {ss : List SetP} (hno : ∀ j, j < cs.length → rdyB cs ss j = false) : nextI cs ss = none := by
 unfold nextI
 rw [List.find?_eq_none]
 intro x hx
 rw [hno x (List.mem_range.1 hx)]
 simp
set_option maxHeartbeats 4000000 in
theorem idxK {w : World} {tb bx : Nat} {T : TabD} {cs : List Cls} (h : TabAt w tb T) (hK : KsOf cs T) (hg : T.get = find cs) (hsz : SzP cs) (hS : SoundP cs) (hsm : SmallP cs) (hbx : w.cell? ⟨bx, 0, none⟩ = some (.pointer (some ⟨tb, 0, none⟩))) :
   Calls Tryz.prog 107 #[T.allv, .func (.func 108) #[] #[.pointer (some ⟨bx, 0, none⟩)]] w (NextOut cs T.ss w) := by
 obtain ⟨ao, cap, e0, hcap, hmax⟩ := h.all.slice
 have hlen := hK.len
 obtain ⟨len, hl⟩ : ∃ len, T.ks.length = len := ⟨_, rfl⟩
 rw [hl] at e0 hcap hlen
 rw [e0]
 unfold maxLen at hmax
 have H := hid h
 have HK := hid hK
 have HG := hid hg
 have HZ := hid hsz
 have HS := hid hS
 have HM := hid hsm
 have HBX := hid hbx
 have HL := hid hlen
 have HL2 := hid hl
 have HE := hid e0
 clear h hK hg hsz hS hsm hbx hlen hl e0
 go_enter Tryz.func107, Tryz.ntmps107
 go_wp2_with fail
 go_loopg [8] len (fun g s8 wr => ∃ (k : Nat), k ≤ len ∧ len - k ≤ g ∧ s8 = .int .i64 k ∧ Hid (∀ j, j < k → rdyB cs T.ss j = false) ∧ Ch No w wr)
 case atStart => exact ⟨0, Nat.zero_le _, by omega, rfl, hid (fun j h => absurd h (Nat.not_lt_zero _)), Ch.refl _ _⟩
 case round =>
   obtain ⟨k, hk, hg, rfl, HN, hch⟩ := hrel
   cases hd : decide (k < len) with
   | false =>
     go_wp2_with fail
     go_ret
     have hkl : ¬ k < len := by simpa using hd
     refine ⟨ret_int ?_, hch⟩
     rw [nextNo (fun j hj => HN.out j (by have := HL.out; omega))]; rfl
   | true =>
     have hkl : k < len := by simpa using hd
     obtain ⟨x, hx⟩ : ∃ x, T.ks[k]? = some x := ⟨_, List.getElem?_eq_getElem (by have := HL2.out; omega)⟩
     obtain ⟨c, hc⟩ : ∃ c, cs[k]? = some c := ⟨_, List.getElem?_eq_getElem (by have := HL.out; omega)⟩
     obtain ⟨b, off, cap', e, hcell, _, _⟩ := (H.out.all.no hch).cell hx
     rw [HE.out, HL2.out] at e
     cases e
     obtain ⟨q0, q1, q2, q3⟩ := hcell
     have hcl := hs1 (H.out.no hch) HK.out HG.out HZ.out HS.out HM.out (cell_ch HBX.out hch (fun _ _ h => h)) hc hx
     have HX := hid hx
     have HC := hid hc
     have HCH := hid hch
     clear hx hc hch
     cases hop : rdyB cs T.ss k with
     | true =>
       rw [hop] at hcl
       have HO := hid hop
       clear hop
       go_wp2_with fail
       refine hcl.mono ?_
       rintro e w1 ⟨rfl, hc1⟩
       go_wp2_with fail
       go_ret
       refine ⟨ret_int ?_, HCH.out.trans hc1⟩
       rw [nextYes (by have := HL.out; omega) HO.out HN.out]; rfl
     | false =>
       rw [hop] at hcl
       have HO := hid hop
       clear hop
       go_wp2_with fail
       refine hcl.mono ?_
       rintro e w1 ⟨rfl, hc1⟩
       go_wp2_with fail
       go_roundg (len - k - 1)
       case rel =>
         refine ⟨k + 1, by omega, by omega, by go_num, hid (fun j hj => ?_), HCH.out.trans hc1⟩
         by_cases e : j = k
         · subst e; exact HO.out
         · exact HN.out j (by omega)
       case measure => omega
structure SsOf (cs : List Cls) (ss : List SetP) (d : List Nat) : Prop where
 len : ss.length = cs.length
 ord : OrdSo cs d
 yes : ∀ j ∈ d, ∃ b, ss[j]? = some ⟨some b, abL cs [(j : Int)] cs.length⟩
 no : ∀ j, j < cs.length → j ∉ d → ss[j]? = some ⟨none, []⟩
theorem SsOf.opn {cs : List Cls} {ss : List SetP} {d : List Nat} (h : SsOf cs ss d) {j : Nat} (hj : j < cs.length) : opn ss j = !d.contains j := by
 unfold Go.Proofs.YtgjpgfedlgdjhaaGreatDoor.opn
 by_cases hd : j ∈ d
 · obtain ⟨b, hb⟩ := h.yes j hd
   rw [hb]; simp [hd]
 · rw [h.no j hj hd]; simp [hd]
theorem SsOf.rdy {cs : List Cls} {ss : List SetP} {d : List Nat} (h : SsOf cs ss d) {j : Nat} (hj : j < cs.length) : rdyB cs ss j = true ↔ RdyP cs d j := by
 unfold rdyB RdyP
 rw [h.opn hj, Bool.and_eq_true, Bool.not_eq_true', Bool.not_eq_true', List.any_eq_false]
 constructor
 · rintro ⟨h1, h2⟩
   refine ⟨by simpa using h1, fun u hu => ?_⟩
   have := h2 u hu
   rw [h.opn (upsN_lt cs j u hu)] at this
   simpa using this
 · rintro ⟨h1, h2⟩
   refine ⟨by simpa using h1, fun u hu => ?_⟩
   rw [h.opn (upsN_lt cs j u hu)]
   simpa using h2 u hu
theorem SsOf.next {cs : List Cls} {ss : List SetP} {d : List Nat} (h : SsOf cs ss d) : nextI cs ss = Gr.pick cs.length (upsN cs) d := by
 cases hn : nextI cs ss with
 | none =>
   unfold nextI at hn
   rw [List.find?_eq_none] at hn
   rw [pickNo]
   intro j hj hr
   exact hn j (List.mem_range.2 hj) ((h.rdy hj).2 hr)
 | some i =>
   unfold nextI at hn
   rw [List.find?_range_eq_some] at hn
   obtain ⟨h1, h2, h3⟩ := hn
   have hi : i < cs.length := by simpa using h2
   rw [pickIs hi ((h.rdy hi).1 h1)]
   intro j hj hr
   have := h3 j hj
   rw [(h.rdy (by omega)).2 hr] at this
   simp at this
theorem SsOf.step {cs : List Cls} {ss : List SetP} {d : List Nat} (h : SsOf cs ss d) {i b : Nat} (hp : Gr.pick cs.length (upsN cs) d = some i) : SsOf cs (ss.set i ⟨some b, abL cs [(i : Int)] cs.length⟩) (d ++ [i]) := by
 obtain ⟨h1, h2, _⟩ := Gr.pick_some hp
 refine ⟨by rw [List.length_set]; exact h.len, h.ord.step hp, fun j hj => ?_, fun j hj hd => ?_⟩
 · rcases List.mem_append.1 hj with hj | hj
   · have hne : i ≠ j := fun e => h2 (e ▸ hj)
     rw [List.getElem?_set, if_neg hne]
     exact h.yes j hj
   · have e : j = i := by simpa using hj
     subst e
     rw [List.getElem?_set, if_pos rfl, if_pos (by rw [h.len]; exact h1)]
     exact ⟨b, rfl⟩
 · have hne : i ≠ j := fun e => hd (by simp [e])
   rw [List.getElem?_set, if_neg hne]
   exact h.no j hj (fun h => hd (by simp [h]))
theorem SsOf.start (cs : List Cls) : SsOf cs (List.replicate cs.length ⟨none, []⟩) [] :=
 ⟨by simp, OrdSo.start cs, (fun j hj => by cases hj), (fun j hj _ => by rw [List.getElem?_replicate, if_pos hj])⟩
noncomputable def accL (cs : List Cls) (i q : Nat) : List Int := ((upsN cs i).take q).foldl (fun (acc : List Int) (u : Nat) => (abL cs [(u : Int)] cs.length).foldl putS acc) [(i : Int)]
theorem accSnoc {cs : List Cls} {i q u : Nat} (h : (upsN cs i)[q]? = some u) : accL cs i (q + 1) = (abL cs [(u : Int)] cs.length).foldl putS (accL cs i q) := by
 unfold accL
 rw [List.take_add_one, h]
 simp
theorem abOne {cs : List Cls} {i : Nat} {z : Int} : z ∈ abL cs [(i : Int)] cs.length ↔ ∃ k : Nat, z = k ∧ k < cs.length ∧ i < cs.length ∧ (i = k ∨ Gr.Reach (upsN cs) i k) := by
 rw [mem_abL]
 unfold AbP AbX
 constructor
 · rintro ⟨k, rfl, h1, x, hx, h2, h3, h4⟩
   have : x = i := by simpa using hx
   subst this
   refine ⟨k, rfl, h1, by omega, ?_⟩
   rcases h4 with h | h
   · exact .inl (by omega)
   · exact .inr (by simpa using h)
 · rintro ⟨k, rfl, h1, h2, h3⟩
   refine ⟨k, rfl, h1, (i : Int), by simp, by omega, by omega, ?_⟩
   rcases h3 with h | h
   · exact .inl (by omega)
   · exact .inr (by simpa using h)
theorem accMem {cs : List Cls} {i : Nat} (hi : i < cs.length) (hn : cs.length ≤ 20) : ∀ (q : Nat), Good (accL cs i q) ∧ ∀ z, z ∈ accL cs i q ↔ z = i ∨ ∃ u ∈ (upsN cs i).take q, z ∈ abL cs [(u : Int)] cs.length
 | 0 => by
   unfold accL
   refine ⟨⟨by simp, fun x hx => by simp at hx; omega⟩, fun z => by simp⟩
 | q + 1 => by
   obtain ⟨h1, h2⟩ := accMem hi hn q
   cases hu : (upsN cs i)[q]? with
   | none =>
     have e : (upsN cs i).take (q + 1) = (upsN cs i).take q := by rw [List.take_add_one, hu]; simp
     unfold accL at h1 h2 ⊢
     rw [e]; exact ⟨h1, h2⟩
   | some u =>
     rw [accSnoc hu]
     refine ⟨h1.fold _, fun z => ?_⟩
     rw [mem_fold, h2, List.take_add_one, hu]
     constructor
     · rintro ((h | ⟨v, hv, h⟩) | ⟨h, _⟩)
       · exact .inl h
       · exact .inr ⟨v, List.mem_append.2 (.inl hv), h⟩
       · exact .inr ⟨u, by simp, h⟩
     · rintro (h | ⟨v, hv, h⟩)
       · exact .inl (.inl h)
       · rcases List.mem_append.1 hv with hv | hv
         · exact .inl (.inr ⟨v, hv, h⟩)
         · have : v = u := by simpa using hv
           subst this
           refine .inr ⟨h, ?_⟩
           obtain ⟨k, rfl, hk, _⟩ := abOne.1 h
           omega
theorem accAll {cs : List Cls} {i : Nat} (hi : i < cs.length) (hn : cs.length ≤ 20) : accL cs i (upsN cs i).length = abL cs [(i : Int)] cs.length := by
 obtain ⟨h1, h2⟩ := accMem hi hn (upsN cs i).length
 refine sorted_eq h1.1 (abSorted cs _ _) (fun z => ?_)
 rw [h2, abOne, List.take_length]
 constructor
 · rintro (rfl | ⟨u, hu, h⟩)
   · exact ⟨i, rfl, hi, hi, .inl rfl⟩
   · obtain ⟨k, rfl, hk, _, h⟩ := abOne.1 h
     refine ⟨k, rfl, hk, hi, .inr ?_⟩
     rcases h with rfl | h
     · exact .one hu
     · exact .step hu h
 · rintro ⟨k, rfl, hk, _, h⟩
   rcases h with rfl | h
   · exact .inl rfl
   · right
     cases h with
     | one h => exact ⟨k, h, abOne.2 ⟨k, rfl, hk, hk, .inl rfl⟩⟩
     | step h hh => exact ⟨_, h, abOne.2 ⟨k, rfl, hk, upsN_lt cs i _ h, .inr hh⟩⟩
end Go.Proofs.YtgjpgfedlgdjhaaGreatDoor
end
end
