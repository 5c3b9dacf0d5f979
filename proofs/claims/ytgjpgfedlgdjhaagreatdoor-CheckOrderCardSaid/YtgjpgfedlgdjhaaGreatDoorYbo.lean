/- Part 41. -/
import Derived.Test.YtgjpgfedlgdjhaaGreatDoorYai
import Derived.Deep.Upon
set_option linter.unusedVariables false
set_option linter.unusedSimpArgs false
set_option maxHeartbeats 64000000
set_option maxRecDepth 8192
section
namespace Go.Proofs.YtgjpgfedlgdjhaaGreatDoor
open Go.RowKit Go.W
theorem Og {css : List (List Value)} {n : Nat} (h0 : 0 < n) (hn : ∀ c ∈ css, c.length = n) {j : Nat} {u : Value} (h : css.flatten[j]? = some u) : ∃ c, css[j / n]? = some c ∧ c[j % n]? = some u := by
 induction css generalizing j with
 | nil => simp at h
 | cons c r ih =>
  rw [List.flatten_cons] at h
  have hc := hn c (List.mem_cons_self ..)
  by_cases hj : j < n
  {rw [List.getElem?_append_left (by rw [hc]; exact hj)] at h
   exact ⟨c, by rw [Nat.div_eq_of_lt hj]; rfl, by rw [Nat.mod_eq_of_lt hj]; exact h⟩}
  {rw [List.getElem?_append_right (by rw [hc]; omega), hc] at h
   obtain ⟨c', h1, h2⟩ := ih (fun c hc => hn c (List.mem_cons_of_mem _ hc)) h
   have e : j = (j - n) + n := by omega
   refine ⟨c', ?_, ?_⟩
   {rw [e, Nat.add_div_right _ h0]
    simpa using h1}
   {rw [e, Nat.add_mod_right]
    exact h2}}
theorem Oh {css : List (List Value)} {n : Nat} (hn : ∀ c ∈ css, c.length = n) : css.flatten.length = css.length * n := by
 induction css with
 | nil => simp
 | cons c r ih =>
  rw [List.flatten_cons, List.length_append, hn c (List.mem_cons_self ..), ih (fun c hc => hn c (List.mem_cons_of_mem _ hc)), List.length_cons, Nat.succ_mul]; omega
theorem Fz {w : World} {base sz n : Nat} {e : TypeId} {v : Value} {xs : List Value} (h : w.ownsRow base e sz v n xs) : ∃ ao cap, v = .slice ao n cap ∧ n ≤ cap ∧ cap ≤ maxLen := by
 rcases h.2 with ⟨rfl, h0⟩ | ⟨g, cap, cur, rfl, _, _, h4, h5, _⟩
 {rw [h0]; exact ⟨_, _, rfl, Nat.le_refl _, Nat.zero_le _⟩}
 {exact ⟨_, _, rfl, h4, h5⟩}
theorem Kx (w : World) {t e : TypeId} {sz bytes : Nat} (ht : Tryz.prog.underlying t = some (.slice e)) (hinfo : (Tryz.prog.info? e).map (fun i => (i.zero.map (fun z => z.cells.size), i.size, i.bytes)) = some (some sz, sz, bytes)) (hsz : 0 < sz) (hby : bytes ≤ 1000)
 (base : Nat) (v : Value) (n : Nat) (xs : List Value) (hown : w.ownsRow base e sz v n xs) (u : Value) (css : List (List Value)) (hu : B5 w u sz css) (h1 : ∀ c ∈ css, ∀ x ∈ c, x.oneCell' = true)
 (hn : n + css.length ≤ 100000) (hbase : base ≤ w.heap.size) (ty : TypeId) :
 ∃ v' w', (Builtin.append_ #[t, t] ty #[v, u]).run Tryz.prog w = .ok v' w' ∧ w'.ownsRow base e sz v' (n + css.length) (xs ++ css.flatten) ∧ Ch (fun j _ => v.ownBlock = some j) w w' := by
 obtain ⟨i, z, hi, hz, h2, h3, h4⟩ := Hz hinfo
 have hm : maxLen = 9223372036854775807 := rfl
 obtain ⟨ao, cap, rfl, hc1, hc2, Av, hcell⟩ := hu
 cases hcs : css with
 | nil =>
  obtain ⟨ao', cap', rfl, hle, _⟩ := Fz hown
  have hs : Src Tryz.prog i.size t (.slice ao 0 cap) 0 [] w := by
   cases ao with
   | none => exact Src.ofNil w ht cap
   | some a => exact Src.ofSlice w ht a 0 cap [] (by simp) (fun j u hj => by simp at hj) (fun u hu => by cases hu)
  refine ⟨_, w, run_append_nothing w t t ty e i ht hi ao' n cap' hle _ hs, by simpa using hown, Ch.refl _ _⟩
 | cons c r =>
  rw [← hcs]
  obtain ⟨b, off, rfl, hcell2⟩ := hcell (by rw [hcs]; simp)
  obtain ⟨v', w', hr, ho, hg, _⟩ := run_append_own (P := Tryz.prog) w base t ty e i z sz bytes ht hi hz h3 h4 h2 hsz v n xs hown ⟨b, off, none⟩ css.length cap css.flatten (Oh Av)
   (fun j x hj => by
    obtain ⟨c, hc, hx⟩ := Og hsz Av hj
    rw [Addr.add_lit]
    have := hcell2 (j / sz) c hc (j % sz) (Nat.mod_lt _ hsz)
    rw [hx] at this
    have e : off + j / sz * sz + j % sz = off + j := by
     have := Nat.div_add_mod j sz
     rw [Nat.mul_comm] at this
     omega
    rw [e] at this
    exact this) (fun x hx => by
    obtain ⟨c, hc, hxc⟩ := List.mem_flatten.1 hx
    exact h1 c hc x hxc) (by omega) (by
     have : (n + css.length) * bytes ≤ 100000 * 1000 := Nat.mul_le_mul hn hby
     omega) hbase
  exact ⟨v', w', hr, ho, (Ch.refl _ w).grown hg (fun _ _ h _ => h)⟩
theorem Cj {ops : Array Oper} {o : Oper} {a : Act} {w : World} {K : Act → World → Prop} {Q : Exit → Act → World → Prop} {E : Prop}
 (hg : o.guard = none) (s x : Operand) {t e : TypeId} {sz bytes : Nat} (hop : o.op = Op.call { callee := Callee.builtin Builtin.append, args := #[s, x], argTypes := #[t, t] })
 (ht : Tryz.prog.underlying t = some (.slice e)) (hinfo : (Tryz.prog.info? e).map (fun i => (i.zero.map (fun z => z.cells.size), i.size, i.bytes)) = some (some sz, sz, bytes)) (hsz : 0 < sz) (hby : bytes ≤ 1000)
 (base : Nat) (v : Value) (n : Nat) (xs : List Value) (hs : a.eval s = v) (hown : w.ownsRow base e sz v n xs) (u : Value) (css : List (List Value)) (hx : a.eval x = u) (hu : B5 w u sz css) (h1 : ∀ c ∈ css, ∀ x ∈ c, x.oneCell' = true)
 (hn : n + css.length ≤ 100000) (hbase : base ≤ w.heap.size)
 (hK : ∀ v' w', w'.ownsRow base e sz v' (n + css.length) (xs ++ css.flatten) → Ch (fun k _ => v.ownBlock = some k) w w' → K (a.put o.dst v') w') :
 if Region.wanted o (yielded ops a.tmps) = true then Oper.wp Tryz.prog o a w K Q else E := by
 have hw : Region.wanted o (yielded ops a.tmps) = true := by simp [Region.wanted, hg]
 rw [if_pos hw]
 obtain ⟨v', w', hr, h2, h3⟩ := Kx w ht hinfo hsz hby base v n xs hown u css hu h1 hn hbase o.type
 unfold Oper.wp
 simp [execOp, hop, resolve, invoke, builtin, hs, hx, hr, Result.andThen]
 exact hK v' w' h2 h3
theorem vr1 (l : List Vr) : ∀ c ∈ l.map Vr.cells, ∀ x ∈ c, x.oneCell' = true := by
 intro c hc x hx
 obtain ⟨v, _, rfl⟩ := List.mem_map.1 hc
 simp [Vr.cells] at hx
 rcases hx with rfl | rfl | rfl | rfl <;> rfl
theorem Tryz.infoVar2 : (Tryz.prog.info? 64).map (fun i => (i.zero.map (fun z => z.cells.size), i.size, i.bytes)) = some (some 4, 4, 48) := by kernel_rfl
theorem Tryz.sliceVar2 : Tryz.prog.underlying 24 = some (.slice 64) := by kernel_rfl
theorem Lr {w : World} {base n : Nat} {v : Value} {l : List Vr} (h : w.ownsRow base 64 4 v n ((l.map Vr.cells).flatten)) (hn : n = l.length) : Bc w v l := by
 subst hn
 rcases h.2 with ⟨rfl, h0⟩ | ⟨g, cap, cur, rfl, hg, hh, h4, h5, h6, h7⟩
 {have : l = [] := List.length_eq_zero_iff.1 h0
  subst this
  exact ⟨none, 0, rfl, Nat.le_refl _, Nat.zero_le _, by simp, fun h => by simp at h⟩}
 {refine ⟨some ⟨g, 0, none⟩, cap, by rw [List.length_map], by rw [List.length_map]; exact h4, h5, fun c hc => ?_, fun _ => ⟨g, 0, rfl, fun i c hi j hj => ?_⟩⟩
  {obtain ⟨k, _, rfl⟩ := List.mem_map.1 hc
   rfl}
  {rw [List.getElem?_map] at hi
   cases hk : l[i]? with
   | none => rw [hk] at hi; cases hi
   | some k =>
    rw [hk] at hi
    have : c = k.cells := by simpa using hi.symm
    subst this
    have hil := (gL hk)
    rw [Ab hh, Nat.zero_add, ← Array.getElem?_toList]
    have hf := E9 Vr.cells 4 (fun _ => rfl) l i j k hk hj
    rw [List.flatMap_def, ← h7, List.getElem?_take, if_pos (by omega)] at hf
    exact hf}}
def F4 : ByteArray := ⟨#[116, 104, 105, 115]⟩
def C4 (cs : List Aj) (z : Int) (m : Mt) : List Vr := if 0 ≤ z ∧ m.st = false then (match cs[z.toNat]? with | some c => [⟨c.name, F4, m.line, m.col⟩] | none => []) else []
def Ck (cs : List Aj) (z : Int) (m : Mt) (ls : List Vr) : List Vr := (C4 cs z m ++ m.ps) ++ ls
def Vh (cs : List Aj) (z : Int) (m : Mt) (ls : List Vr) (w : World) (e : Ending) (w' : World) : Prop :=
 ∃ v, e = .returned v ∧ w'.ownsRow w.heap.size 64 4 v (Ck cs z m ls).length (((Ck cs z m ls).map Vr.cells).flatten) ∧ Ch No w w'
theorem Sm {w w' : World} {base sz n : Nat} {e : TypeId} {v : Value} {xs : List Value} (h : w.ownsRow base e sz v n xs) (hc : Ch (fun k _ => v.ownBlock = some k) w w') {a : World} (h0 : Ch No a w) (hb : a.heap.size ≤ base) : Ch No a w' :=
 Ch.newOnly h0 hc (fun k o _ e1 => Nat.le_trans hb (Aw h k e1).1)
theorem Sn {w w' : World} {base sz n b : Nat} {e t : TypeId} {v : Value} {xs : List Value} {cs : Array Value} (h : w.ownsRow base e sz v n xs) (hc : Ch (fun k _ => v.ownBlock = some k) w w') (hb : w.heap[b]? = some (.cells cs t (0, 0))) (hne : t ≠ e) : w'.heap[b]? = some (.cells cs t (0, 0)) :=
 hc.keep _ _ hb (Bu h hb hne)
theorem Xu {w : World} : ∀ k o, w.heap[k]? = some o → (fun (k : Nat) (_ : Obj) => (Value.slice none 0 0).ownBlock = some k) k o → No k o := fun k o _ e => by simp [Value.ownBlock] at e
theorem Af8 {k : Nat} {o : Obj} : ¬ No k o := fun h => h
theorem Ael : (29 : TypeId) ≠ 64 := by decide
theorem Aem (c : Aj) (m : Mt) : ∀ u ∈ [Value.string c.name, .string F4, .int .i64 m.line, .int .i64 m.col], u.oneCell' = true := vr1 [⟨c.name, F4, m.line, m.col⟩] _ (List.mem_singleton.2 rfl)
theorem Aen {p : Prop} (h : p := by
 go_wp2
 go_ret
 refine ⟨v9, rfl, ?_, HC9.out⟩
 have hh := HR9.out
 rw [← HN8E.out, HX7.out.1, HX7.out.2] at hh
 unfold Ck
 rw [List.map_append, List.map_append, List.flatten_append, List.flatten_append, List.length_append, List.length_append]
 rw [List.length_map, List.length_map] at hh
 exact hh
 ) : p := h
theorem Aaz {p : Prop} (h : p := by
 go_wp2_with fail
 clear hwa hwx
 have HROWd := Aa (show (wt.drew).ownsRow w.heap.size 64 4 (.slice none 0 0) 0 [] from HROW.out)
 have HCXd := Aa (HCX.out.drew)
 have HBXd := Aa (show wt.drew.heap[wa.heap.size]? = some (.cells #[.string m.ret, .string m.nm, .bool m.st, .bool m.ba, .slice m.pa m.ps.length m.pc, .slice m.s5.1 m.s5.2.1 m.s5.2.2, .slice m.s6.1 m.s6.2.1 m.s6.2.2, .int .i64 m.line, .int .i64 m.col] 29 (0, 0)) from HBX.out)
 have HPSd := Aa (Bc.no HPS0.out HCXd.out)
 have HBSd := Aa HCXd.out.size
 obtain ⟨n8, hn8⟩ := Ax (0 + (m.ps.map Vr.cells).length)
 have HN8E := Aa hn8
 have HN8 := Aa (show n8 + (ls.map Vr.cells).length ≤ 100000 from by have h1 := HP9.out; have h2 := HL9.out; have h3 := HN7.out; rw [← hn8, List.length_map, List.length_map]; omega)
 have HN7d := Aa (show 0 + (m.ps.map Vr.cells).length ≤ 100000 from by have h3 := HN8.out; omega)
 clear hn8
 have hbx := HBX.out
 have r4 := Ab hbx 4
 have r5 := Ab hbx 5
 have yx := Ac hbx
 clear hbx HROW
 go_region_law (first | (refine Cj rfl _ _ rfl Tryz.sliceVar2 Tryz.infoVar2 (lb rfl) (lb rfl) w.heap.size (.slice none 0 0) 0 _ rfl HROWd.out (.slice m.pa m.ps.length m.pc) (m.ps.map Vr.cells) rfl HPSd.out (vr1 _) HN7d.out HBSd.out ?_; intro v8 w8 hr8 hc8; rw [HN8E.out] at hr8; obtain ⟨a8, c8, e8, _, _⟩ := Fz hr8; subst e8; have HR8 := Aa hr8; have HB8 := Aa (Sn HROWd.out hc8 HBXd.out Ael); have HC8 := Aa (Sm HROWd.out hc8 HCXd.out (Nat.le_refl _)); have hb8 := HB8.out; have s5 := Ab hb8 5; have HLS8 := Aa (Bc.no HLS0.out HC8.out); have HBS8 := Aa HC8.out.size; clear hr8 hc8 hb8 HROWd) | (refine Cj rfl _ _ rfl Tryz.sliceVar2 Tryz.infoVar2 (lb rfl) (lb rfl) w.heap.size (.slice a8 n8 c8) n8 _ rfl HR8.out (.slice m.s5.1 m.s5.2.1 m.s5.2.2) (ls.map Vr.cells) rfl HLS8.out (vr1 _) HN8.out HBS8.out ?_; intro v9 w9 hr9 hc9; have HR9 := Aa hr9; have HC9 := Aa (Sm HR8.out hc9 HC8.out (Nat.le_refl _)); clear hr9 hc9 HR8))
 all_goals (
  exact Aen)
 ) : p := h
theorem Aa0 {w : World} {pv : Value} {cs : List Aj} (h : Cz w pv cs) (z : Int) (m : Mt) (ls : List Vr) (hps : Bc w (.slice m.pa m.ps.length m.pc) m.ps) (hls : Bc w (.slice m.s5.1 m.s5.2.1 m.s5.2.2) ls) (hp9 : m.ps.length ≤ 40000) (hl9 : ls.length ≤ 40000) :
 Calls Tryz.prog 22 #[pv, .int .i64 z, .agg #[.string m.ret, .string m.nm, .bool m.st, .bool m.ba, .slice m.pa m.ps.length m.pc, .slice m.s5.1 m.s5.2.1 m.s5.2.2, .slice m.s6.1 m.s6.2.1 m.s6.2.2, .int .i64 m.line, .int .i64 m.col]] w (Vh cs z m ls w) := by
 have HPS0 := Aa hps
 have HLS0 := Aa hls
 have HP9 := Aa hp9
 have HL9 := Aa hl9
 clear hps hls hp9 hl9
 have hp := h
 obtain ⟨cv, m0, m1, m2, m3, m4, m5, m6, m7, m8, rfl, h⟩ := h
 obtain ⟨ao, cap, rfl, hcap, hmax, _, _⟩ := h.row
 rw [List.length_map] at hcap h hp ⊢
 obtain ⟨len, Av⟩ := Ax cs.length
 rw [Av] at hcap h hp ⊢
 unfold maxLen at hmax
 obtain ⟨wa, hwa, hpb, hch⟩ := A2 w (.cells #[.slice ao len cap, m0, m1, m2, m3, m4, m5, m6, m7, m8] 31)
 have HL := Aa Av
 have HP := Aa (hp.no hch)
 have HC := Aa (h.no hch)
 have HPB := Aa hpb
 have HCH := Aa hch
 obtain ⟨p0, p1, p2, p3, p4, p5, p6, p7, p8, p9⟩ := Cp hpb
 have hz := Ac hpb
 clear Av h hp hpb hch
 obtain ⟨wx, hwx, hbx, hcx⟩ := A2 wa (.cells #[.string m.ret, .string m.nm, .bool m.st, .bool m.ba, .slice m.pa m.ps.length m.pc, .slice m.s5.1 m.s5.2.1 m.s5.2.2, .slice m.s6.1 m.s6.2.1 m.s6.2.2, .int .i64 m.line, .int .i64 m.col] 29)
 have HBX := Aa hbx
 have HCX := Aa (HCH.out.trans hcx)
 have hpx := hcx.keep _ _ HPB.out (fun h => h)
 have HCLS := Aa (HC.out.no hcx)
 clear p0 p1 p2 p3 p4 p5 p6 p7 p8 p9 hcx
 have p0 := Ab hpx 0
 have r2 := Ab hbx 2
 have r7 := Ab hbx 7
 have r8 := Ab hbx 8
 have yb := Ac hbx
 clear hbx hpx
 obtain ⟨st, hst⟩ := Ax m.st
 rw [hst] at r2
 have HST := Aa hst
 clear hst
 by_cases hD : (0 ≤ z ∧ z < (len : Int)) ∧ st = false
 {obtain ⟨⟨z0, z1⟩, rfl⟩ := hD
  obtain ⟨i, rfl⟩ : ∃ i : Nat, z = i := ⟨z.toNat, by omega⟩
  have hil : i < len := by omega
  obtain ⟨k, hk⟩ := gE (l := cs) (i := i) (by have := HL.out; omega)
  obtain ⟨cb, co, cc, ecs, hcell, _, _⟩ := HCLS.out.cell hk
  rw [HL.out] at ecs
  cases ecs
  have q0 := hcell.q0
  have HK := Aa hk
  clear hcell hk
  have HTH := Aa (show C4 cs i m = [⟨k.name, F4, m.line, m.col⟩] from by unfold C4; rw [if_pos ⟨by omega, HST.out⟩]; simp [HK.out])
  have hba : w.heap.size ≤ (wx.alloc (.cells #[.string k.name, .string F4, .int .i64 m.line, .int .i64 m.col] 64)).drew.heap.size := (HCX.out.alloc _).size
  go_in
  go_wp2_with fail
  clear hwa hwx
  have hn1 : 0 + 1 ≤ 100000 := by omega
  go_region_law (first | (refine Dr rfl _ _ rfl Tryz.sliceVar2 Tryz.infoVar2 (lb rfl) (lb rfl) w.heap.size (.slice none 0 0) 0 [] rfl (World.ownsRow_nil _ _ _ _) wx.heap.size 1 1 [.string k.name, .string F4, .int .i64 m.line, .int .i64 m.col] rfl rfl (heap_alloc_new wx _) (Aem k m) hn1 hba ?_; intro v7 w7 hr7 hc7; obtain ⟨a7, c7, e7, _, _⟩ := Fz hr7; subst e7; have HC70 := Aa (hc7.mono (S' := No) Xu); have HB7 := Aa (HC70.out.keep _ _ (Bh HBX.out _) Af8); have HC7 := Aa (((HCX.out.alloc _).drew).trans HC70.out); have HR7 := Aa hr7; clear hr7 hc7 HC70))
  all_goals (
   obtain ⟨wt, hwt⟩ : ∃ wt, wt = w7 := ⟨_, rfl⟩
   subst hwt
   have HX7 := Aa (show 1 = (C4 cs i m).length ∧ [Value.string k.name, .string F4, .int .i64 m.line, .int .i64 m.col] = ((C4 cs i m).map Vr.cells).flatten from by rw [HTH.out]; exact ⟨rfl, rfl⟩)
   have HN7 := Aa (show 1 ≤ 1 from Nat.le_refl 1)
   have HBX := HB7
   have HCX := HC7
   have HROW := Aa (show wt.ownsRow w.heap.size 64 4 (.slice a7 1 c7) 1 [Value.string k.name, .string F4, .int .i64 m.line, .int .i64 m.col] from HR7.out)
   clear HR7 HB7 HC7
   go_wp2_with fail
   have HROWd := Aa (show (wt.drew).ownsRow w.heap.size 64 4 (.slice a7 1 c7) 1 [Value.string k.name, .string F4, .int .i64 m.line, .int .i64 m.col] from HROW.out)
   have HCXd := Aa (HCX.out.drew)
   have HBXd := Aa (show wt.drew.heap[wa.heap.size]? = some (.cells #[.string m.ret, .string m.nm, .bool m.st, .bool m.ba, .slice m.pa m.ps.length m.pc, .slice m.s5.1 m.s5.2.1 m.s5.2.2, .slice m.s6.1 m.s6.2.1 m.s6.2.2, .int .i64 m.line, .int .i64 m.col] 29 (0, 0)) from HBX.out)
   have HPSd := Aa (Bc.no HPS0.out HCXd.out)
   have HBSd := Aa HCXd.out.size
   obtain ⟨n8, hn8⟩ := Ax (1 + (m.ps.map Vr.cells).length)
   have HN8E := Aa hn8
   have HN8 := Aa (show n8 + (ls.map Vr.cells).length ≤ 100000 from by have h1 := HP9.out; have h2 := HL9.out; have h3 := HN7.out; rw [← hn8, List.length_map, List.length_map]; omega)
   have HN7d := Aa (show 1 + (m.ps.map Vr.cells).length ≤ 100000 from by have h3 := HN8.out; omega)
   clear hn8
   have hbx := HBX.out
   have r4 := Ab hbx 4
   have r5 := Ab hbx 5
   have yx := Ac hbx
   clear hbx HROW
   go_region_law (first | (refine Cj rfl _ _ rfl Tryz.sliceVar2 Tryz.infoVar2 (lb rfl) (lb rfl) w.heap.size (.slice a7 1 c7) 1 _ rfl HROWd.out (.slice m.pa m.ps.length m.pc) (m.ps.map Vr.cells) rfl HPSd.out (vr1 _) HN7d.out HBSd.out ?_; intro v8 w8 hr8 hc8; rw [HN8E.out] at hr8; obtain ⟨a8, c8, e8, _, _⟩ := Fz hr8; subst e8; have HR8 := Aa hr8; have HB8 := Aa (Sn HROWd.out hc8 HBXd.out Ael); have HC8 := Aa (Sm HROWd.out hc8 HCXd.out (Nat.le_refl _)); have hb8 := HB8.out; have s5 := Ab hb8 5; have HLS8 := Aa (Bc.no HLS0.out HC8.out); have HBS8 := Aa HC8.out.size; clear hr8 hc8 hb8 HROWd) | (refine Cj rfl _ _ rfl Tryz.sliceVar2 Tryz.infoVar2 (lb rfl) (lb rfl) w.heap.size (.slice a8 n8 c8) n8 _ rfl HR8.out (.slice m.s5.1 m.s5.2.1 m.s5.2.2) (ls.map Vr.cells) rfl HLS8.out (vr1 _) HN8.out HBS8.out ?_; intro v9 w9 hr9 hc9; have HR9 := Aa hr9; have HC9 := Aa (Sm HR8.out hc9 HC8.out (Nat.le_refl _)); clear hr9 hc9 HR8))
   all_goals (
    exact Aen)
   )}
 {obtain ⟨wt, hwt⟩ : ∃ wt, wt = wx := ⟨_, rfl⟩
  subst hwt
  have HX7 := Aa (show 0 = (C4 cs z m).length ∧ [] = ((C4 cs z m).map Vr.cells).flatten from by
   have : C4 cs z m = [] := by
    unfold C4
    split
    {rename_i hh
     rw [List.getElem?_eq_none (by have h1 := HL.out; have h2 := hh.2; rw [HST.out] at h2; have : ¬ z < (len : Int) := fun h3 => hD ⟨⟨hh.1, h3⟩, h2⟩; omega)]}
    {rfl}
   rw [this]
   exact ⟨rfl, rfl⟩)
  have HN7 := Aa (show 0 ≤ 1 from Nat.zero_le 1)
  have HROW := Aa (World.ownsRow_nil wt w.heap.size 64 4)
  have HD := Aa hD
  clear hD
  by_cases z0 : 0 ≤ z
  {by_cases z1 : z < (len : Int)
   {have hst : st = true := by
     cases st with
     | true => rfl
     | false => exact absurd ⟨⟨z0, z1⟩, rfl⟩ HD.out
    subst hst
    go_in
    exact Aaz}
   {go_in
    exact Aaz}}
  {go_in
   exact Aaz}}
end Go.Proofs.YtgjpgfedlgdjhaaGreatDoor
end
