/- What sort asks of its closures. -/
import Derived.Test.YtkffejgjpnnkmaaDoorHs
import Derived.Test.YtkffejgjpnnkmaaDoorHu
set_option linter.unusedVariables false
set_option linter.unusedSimpArgs false
namespace Go.Proofs.YtkffejgjpnnkmaaDoor
open Go.RowKit Go.W

/-- a set is missing -/
def opn (ss : List SetP) (u : Nat) : Bool := match ss[u]? with | some s => s.b.isNone | none => true

set_option maxHeartbeats 1000000 in
theorem hs11 {w : World} {tb bx : Nat} {T : TabD} (h : TabAt w tb T) (hbx : w.cell? ⟨bx, 0, none⟩ = some (.pointer (some ⟨tb, 0, none⟩))) {u : Nat} {s : SetP} (hs : T.ss[u]? = some s) :
    Calls Tryd.prog 68 #[.int .i64 u, .pointer (some ⟨bx, 0, none⟩)] w fun e w' => e = .returned (.bool (opn T.ss u)) ∧ w = w' := by
  have e0 : opn T.ss u = s.b.isNone := by unfold opn; rw [hs]
  rw [e0]
  obtain ⟨b2, off2, cap2, e2, hc2, hcap, hmx⟩ := h.sets.cell hs
  have hl := (List.getElem?_eq_some_iff.1 hs).1
  unfold maxLen at hmx
  have c2 := cellAt h.blk 2
  rw [e2] at c2
  unfold SetP.val at hc2
  clear h e2 hs e0
  cases hb : s.b with
  | none =>
    rw [hb] at hc2
    simp only [Option.map_none] at hc2
    go_enter Tryd.func68, Tryd.ntmps68
    go_wp2_with fail
    go_ret
    exact ⟨rfl, rfl⟩
  | some b =>
    rw [hb] at hc2
    simp only [Option.map_some] at hc2
    go_enter Tryd.func68, Tryd.ntmps68
    go_wp2_with fail
    go_ret
    exact ⟨rfl, rfl⟩

/-- whether there is one, by the place told -/
def AnyIs (b : Bool) (e : Ending) : Prop := ∃ i : Int, e = .returned (.int .i64 i) ∧ decide (0 ≤ i) = b
theorem AnyIs.yes (k : Nat) : AnyIs true (.returned (.int .i64 k)) := ⟨k, rfl, by simp⟩
theorem AnyIs.no : AnyIs false (.returned (.int .i64 (-1))) := ⟨-1, rfl, by simp⟩

set_option maxHeartbeats 2000000 in
theorem sindexU {w : World} {tb bx : Nat} {T : TabD} (h : TabAt w tb T) (hbx : w.cell? ⟨bx, 0, none⟩ = some (.pointer (some ⟨tb, 0, none⟩))) {v : Value} {l : List Nat} (hv : IntsAt w v (l.map (fun j : Nat => (j : Int)))) (hl : ∀ u ∈ l, u < T.ss.length) :
    Calls Tryd.prog 77 #[v, .func (.func 68) #[] #[.pointer (some ⟨bx, 0, none⟩)]] w fun e w' => AnyIs (l.any (opn T.ss)) e ∧ w = w' := by
  obtain ⟨ao, cap, rfl, hcap, hmax, hnc, hcell⟩ := hv
  rw [List.length_map] at hcap hcell ⊢
  obtain ⟨len, hlen⟩ : ∃ len, l.length = len := ⟨_, rfl⟩
  rw [hlen] at hcap hcell ⊢
  unfold maxLen at hmax
  have HL := hid hlen
  have HV := hid h
  have HU := hid hl
  obtain ⟨r, hr⟩ : ∃ r, l.any (opn T.ss) = r := ⟨_, rfl⟩
  have HR := hid hr
  rw [hr]
  clear hlen hnc h hr hl
  go_enter Tryd.func77, Tryd.ntmps77
  go_wp2_with fail
  go_loop [8] (fun s8 => ∃ (k : Nat), k ≤ len ∧ s8 = .int .i64 k ∧ Hid (∀ x ∈ l.take k, opn T.ss x = false)) (fun s8 => len - (intOf s8).toNat)
  case atStart => exact ⟨0, Nat.zero_le _, rfl, hid (by simp)⟩
  case round =>
    obtain ⟨k, hk, rfl, HN⟩ := hrel
    cases hd : decide (k < len) with
    | false =>
      go_wp2_with fail
      go_ret
      have hkl : ¬ k < len := by simpa using hd
      have := HN.out
      rw [List.take_of_length_le (by have := HL.out; omega)] at this
      have e : r = false := by rw [← HR.out]; simpa using this
      subst e
      exact ⟨.no, rfl⟩
    | true =>
      have hkl : k < len := by simpa using hd
      obtain ⟨b, off, rfl, hc⟩ := hcell (by omega)
      obtain ⟨x, hx⟩ : ∃ x, l[k]? = some x := ⟨_, List.getElem?_eq_getElem (by have := HL.out; omega)⟩
      have hq := hc k (x : Int) (by rw [List.getElem?_map, hx]; rfl)
      have hxn := HU.out x (List.mem_of_getElem? hx)
      have HX := hid hx
      have hcl := hs11 HV.out hbx (List.getElem?_eq_getElem hxn)
      clear hc hcell hx
      cases hop : opn T.ss x with
      | true =>
        rw [hop] at hcl
        have HO := hid hop
        clear hop
        go_wp2_with fail
        refine hcl.mono ?_
        rintro e w1 ⟨rfl, rfl⟩
        go_wp2_with fail
        go_ret
        have e : r = true := by rw [← HR.out]; exact List.any_eq_true.2 ⟨x, List.mem_of_getElem? HX.out, HO.out⟩
        subst e
        exact ⟨.yes k, rfl⟩
      | false =>
        rw [hop] at hcl
        have HO := hid hop
        clear hop
        go_wp2_with fail
        refine hcl.mono ?_
        rintro e w1 ⟨rfl, rfl⟩
        go_wp2_with fail
        go_round
        case rel =>
          refine ⟨k + 1, by omega, by go_num, hid ?_⟩
          rw [List.take_add_one, HX.out]
          intro y hy
          rcases List.mem_append.1 hy with hy | hy
          · exact HN.out y hy
          · simp at hy; subst hy; exact HO.out
        case measure => simp [intOf]; omega

set_option maxHeartbeats 1000000 in
theorem scontainsU {w : World} {tb bx : Nat} {T : TabD} (h : TabAt w tb T) (hbx : w.cell? ⟨bx, 0, none⟩ = some (.pointer (some ⟨tb, 0, none⟩))) {v : Value} {l : List Nat} (hv : IntsAt w v (l.map (fun j : Nat => (j : Int)))) (hl : ∀ u ∈ l, u < T.ss.length) :
    Calls Tryd.prog 67 #[v, .func (.func 68) #[] #[.pointer (some ⟨bx, 0, none⟩)]] w fun e w' => e = .returned (.bool (l.any (opn T.ss))) ∧ w = w' := by
  have hi := sindexU h hbx hv hl
  clear h hv hl hbx
  go_enter Tryd.func67, Tryd.ntmps67
  go_wp2_with fail
  refine hi.mono ?_
  rintro e w' ⟨⟨i, rfl, hv⟩, rfl⟩
  go_wp2_with fail
  go_ret
  exact ⟨rfl, rfl⟩

/-- what a table has of the classes of a program that is right so far -/
structure KsOf (cs : List Cls) (T : TabD) : Prop where
  len : T.ks.length = cs.length
  slen : T.ss.length = cs.length
  row : ∀ (i : Nat) (c : Cls) (k : Knd), cs[i]? = some c → T.ks[i]? = some k → k.name = c.name ∧ k.face = c.face ∧ k.sup = supZ cs c ∧ k.fs = c.faces.map (findZ cs)
theorem rightK {cs : List Cls} {T : TabD} (h : KsOf cs T) {i : Nat} {c : Cls} {k : Knd} (hc : cs[i]? = some c) (hk : T.ks[i]? = some k) (ho : okC cs i c) : k.right = (upsN cs i).map (fun j : Nat => (j : Int)) := by
  obtain ⟨_, _, h3, h4⟩ := h.row i c k hc hk
  rw [← rightZ_ups hc ho]
  unfold Knd.right rightZ Cls.ups
  rw [h3, h4]
  cases hs : c.sup.toList.isEmpty with
  | true => rw [supZ_no hs]; simp
  | false =>
    obtain ⟨s, _, hf, _⟩ := ho.sup hs
    rw [supZ_yes hs, findZ_some hf, if_pos (by omega)]
    simp [findZ_some hf]
/-- class i may come next -/
def rdyB (cs : List Cls) (ss : List SetP) (i : Nat) : Bool := opn ss i && !(upsN cs i).any (opn ss)

theorem lookN {w : World} {mb n : Nat} {get : ByteArray → Option Nat} (h : MapIs Tryd.prog 9 strK w mb n (getV get)) {nm : ByteArray} (hn : nm.size ≤ maxLen) {i : Nat} (hf : get nm = some i) :
    (Instr.lookup 80 (.map (some mb)) (.string nm) false).run Tryd.prog w = .ok (.int .i64 (i : Int)) w := by
  have hrun := h.look lawS Tryd.underlying80 (zeroI w) (keyS hn)
  have e1 : ((getV get nm).getD (.int .i64 0)) = .int .i64 (i : Int) := by unfold getV; rw [hf]; rfl
  rw [e1] at hrun
  exact hrun

set_option maxRecDepth 100000 in
set_option maxHeartbeats 4000000 in
theorem hs1 {w : World} {tb bx : Nat} {T : TabD} {cs : List Cls} (h : TabAt w tb T) (hK : KsOf cs T) (hg : T.get = find cs) (hsz : SzP cs) (hS : SoundP cs) (hsm : SmallP cs) (hbx : w.cell? ⟨bx, 0, none⟩ = some (.pointer (some ⟨tb, 0, none⟩)))
    {i : Nat} {c : Cls} {k : Knd} (hc : cs[i]? = some c) (hk : T.ks[i]? = some k) :
    Calls Tryd.prog 66 #[.agg #[.string k.name, .bool k.face, .int .i64 k.sup, .slice k.fa k.fs.length k.fc], .pointer (some ⟨bx, 0, none⟩)] w fun e w' => e = .returned (.bool (rdyB cs T.ss i)) ∧ Ch No w w' := by
  have ho := hS i c hc
  obtain ⟨h1, h2, h3, h4⟩ := hK.row i c k hc hk
  clear h2 h3
  have hfl : k.fs.length ≤ 1000000 := by rw [h4, List.length_map]; have := hsm.2 c (List.mem_of_getElem? hc); omega
  have hil : i < T.ss.length := by rw [hK.slen]; exact (List.getElem?_eq_some_iff.1 hc).1
  obtain ⟨s, hs⟩ : ∃ s, T.ss[i]? = some s := ⟨_, List.getElem?_eq_getElem hil⟩
  have hup : ∀ u ∈ upsN cs i, u < T.ss.length := fun u hu => by rw [hK.slen]; exact upsN_lt cs i u hu
  have hrk := rightK hK hc hk ho
  have hch := (Ch.refl No w).alloc (.cells #[.string k.name, .bool k.face, .int .i64 k.sup, .slice k.fa k.fs.length k.fc] 86)
  have hkb := heap_alloc_new w (.cells #[.string k.name, .bool k.face, .int .i64 k.sup, .slice k.fa k.fs.length k.fc] 86)
  obtain ⟨wa, hwa⟩ : ∃ wa, w.alloc (.cells #[.string k.name, .bool k.face, .int .i64 k.sup, .slice k.fa k.fs.length k.fc] 86) = wa := ⟨_, rfl⟩
  rw [hwa] at hch hkb
  have ht := h.no hch
  have hlk := fun n : Nat => lookN (ht.names.ch ((Ch.refl No wa).drewN n) (fun _ _ h => h)) (nm := k.name) (by rw [h1]; exact (hsz c (List.mem_of_getElem? hc)).1) (i := i) (by rw [hg, h1]; exact ho.own)
  obtain ⟨b2, off2, cap2, e2, hc2, hcap, hmx⟩ := ht.sets.cell hs
  unfold maxLen at hmx
  have k0 := cellAt hkb 0
  have c1 := cellAt ht.blk 1
  have c2 := cellAt ht.blk 2
  rw [e2] at c2
  have hbx' := cell_ch hbx hch (fun _ _ h => h)
  unfold SetP.val at hc2
  have HT := hid ht
  have HK := hid hk
  have HRK := hid hrk
  have HUP := hid hup
  have HCH := hid hch
  have HBX := hid hbx'
  have hz := lt_size hkb
  have HO := hid (show opn T.ss i = s.b.isNone by unfold opn; rw [hs])
  clear h hg hsz hS hsm hbx ho h1 h4 hrk hup hch hkb e2 ht hs hK hc hk
  cases hb : s.b with
  | some b =>
    rw [hb] at hc2
    simp only [Option.map_some] at hc2
    have HB := hid hb
    clear hb
    go_enter Tryd.func66, Tryd.ntmps66
    go_wp2_with fail
    clear hwa
    go_quiet (fail)
    go_wp2_with fail
    go_ret
    refine ⟨ret_bool ?_, HCH.out.drewN _⟩
    unfold rdyB
    rw [HO.out, HB.out]; rfl
  | none =>
    rw [hb] at hc2
    simp only [Option.map_none] at hc2
    have HB := hid hb
    clear hb
    go_enter Tryd.func66, Tryd.ntmps66
    go_wp2_with fail
    clear hwa
    go_quiet (fail)
    go_wp2_with (first | (go_at_call 28; refine (hright (HT.out.no ((Ch.refl No wa).drewN nq)) HK.out hfl).mono ?_; rintro e w2 ⟨u, rfl, hu, hc3⟩; rw [HRK.out] at hu; have hcf := scontainsU (HT.out.no (((Ch.refl No wa).drewN nq).trans hc3)) (cell_ch HBX.out (((Ch.refl No wa).drewN nq).trans hc3) (fun _ _ h => h)) hu.at_ HUP.out; have HC3 := hid hc3; clear hu hc3) | (go_at_call 67; refine hcf.mono ?_; rintro e w3 ⟨rfl, rfl⟩))
    go_ret
    refine ⟨ret_bool ?_, (HCH.out.drewN _).trans HC3.out⟩
    unfold rdyB
    rw [HO.out, HB.out]; rfl
end Go.Proofs.YtkffejgjpnnkmaaDoor
