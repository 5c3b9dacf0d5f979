/- HierRound: the classes that it lays. -/
import Derived.Test.YtkffejgjpnnkmaaDoorHzh
import Derived.Test.YtkffejgjpnnkmaaDoorHzd
import Derived.Test.YtkffejgjpnnkmaaDoorPw
set_option linter.unusedVariables false
set_option linter.unusedSimpArgs false
namespace Go.Proofs.YtkffejgjpnnkmaaDoor
open Go.RowKit Go.W

theorem Tryd.sliceCls : Tryd.prog.underlying 22 = some (.slice 49) := by kernel_rfl
theorem Tryd.infoCls : (Tryd.prog.info? 49).map (fun i => (i.zero.map (fun z => z.cells.size), i.size, i.bytes)) = some (some 10, 10, 160) := by kernel_rfl
theorem Tryd.underU8s : Tryd.prog.underlying 44 = some (.slice 5) := by kernel_rfl
theorem Tryd.underU8' : Tryd.prog.underlying 5 = some (.int .u8) := by kernel_rfl
theorem oneStr (w : World) (x : Int) : (convert 44 9 (.slice (some ⟨w.heap.size, 0, none⟩) 1 1)).run Tryd.prog (w.alloc (.cells #[.int .u8 x] 5)) = .ok (.string ⟨#[UInt8.ofNat x.toNat]⟩) (w.alloc (.cells #[.int .u8 x] 5)) := by
  have := run_convert_bytes_arg (P := Tryd.prog) (w.alloc (.cells #[.int .u8 x] 5)) 44 5 Tryd.underU8s Tryd.underU8' w.heap.size 0 1 1 [x] rfl (fun i hi => by
    have e : i = 0 := by omega
    subst e
    rw [cellAt (heap_alloc_new w _)]
    rfl) 9 Tryd.underlying9
  rw [this]
  rfl

theorem nmI (u : Nat) : (⟨#[UInt8.ofNat (97 + (u : Int)).toNat]⟩ : ByteArray) = nmR u := by
  have e : (97 + (u : Int)).toNat = 97 + u := by omega
  unfold nmR; rw [e]
theorem upVal {m k i u : Nat} (hm : m < 4) (hk0 : 0 < k) (hk : k ≤ 8) (him : ¬ i < m) (hu : m + (i - m + 1) % k = u) : wrap64 (97 + (m : Int) + ((i : Int) - m + 1) % k) % 256 = 97 + u := by
  have e : ((i : Int) - m + 1) % k = (((i - m + 1) % k : Nat) : Int) := by
    rw [Int.natCast_emod]; congr 1; omega
  have h := Nat.mod_lt (i - m + 1) hk0
  rw [e]
  unfold wrap64
  omega

theorem up1_yes {m k i u : Nat} (him : ¬ i < m) (hu : m + (i - m + 1) % k = u) : up1 m k i = some u := by unfold up1; rw [if_neg him, hu]
theorem up1_no {m k i : Nat} (him : i < m) : up1 m k i = none := by unfold up1; rw [if_pos him]

/-- a class' texts: none, or one in a block of its own -/
def FcOk (w : World) (c : Cls) : Prop := (c.fa = none ∧ c.faces = [] ∧ c.fc = 0) ∨ ∃ fb nm, c.fa = some ⟨fb, 0, none⟩ ∧ c.faces = [nm] ∧ c.fc = 1 ∧ w.heap[fb]? = some (.cells #[.string nm] 9 (0, 0))
theorem FcOk.at_ {w : World} {c : Cls} (h : FcOk w c) : StrsAt w (.slice c.fa c.faces.length c.fc) c.faces := by
  rcases h with ⟨h1, h2, h3⟩ | ⟨fb, nm, h1, h2, h3, h4⟩
  · rw [h1, h2, h3]; exact StrsAt.nil w
  · rw [h1, h2, h3]
    refine ⟨_, 1, rfl, Nat.le_refl _, by unfold maxLen; omega, fun _ => ⟨fb, 0, rfl, fun i x hx => ?_⟩⟩
    have hi := (List.getElem?_eq_some_iff.1 hx).1
    have e : i = 0 := by simp at hi; omega
    subst e
    have : nm = x := by simpa using hx
    subst this
    rw [cellAt h4]; rfl
theorem FcOk.ch {S : Nat → Obj → Prop} {w w' : World} {c : Cls} (h : FcOk w c) (hc : Ch S w w') (hS : ∀ b nm, w.heap[b]? = some (.cells #[.string nm] 9 (0, 0)) → ¬ S b (.cells #[.string nm] 9 (0, 0))) : FcOk w' c := by
  rcases h with h | ⟨fb, nm, h1, h2, h3, h4⟩
  · exact .inl h
  · exact .inr ⟨fb, nm, h1, h2, h3, hc.keep _ _ h4 (hS _ _ h4)⟩
/-- classes in a row of one's own -/
structure RnOwn (w : World) (base : Nat) (v : Value) (cs : List Cls) : Prop where
  row : w.ownsRow base 49 10 v cs.length (cs.flatMap Cls.cells)
  fs : ∀ c ∈ cs, FcOk w c
theorem RnOwn.nil (w : World) (base : Nat) : RnOwn w base (.slice none 0 0) [] := ⟨World.ownsRow_nil _ _ _ _, fun k hk => by cases hk⟩
theorem RnOwn.ch {S : Nat → Obj → Prop} {w w' : World} {base : Nat} {v : Value} {cs : List Cls} (h : RnOwn w base v cs) (hc : Ch S w w') (hS : ∀ b cur t, w.heap[b]? = some (.cells cur t (0, 0)) → t = 49 ∨ t = 9 → ¬ S b (.cells cur t (0, 0))) : RnOwn w' base v cs :=
  ⟨ownsRow_ch h.row hc (fun g cur _ _ hh => hS g cur _ hh (.inl rfl)), fun c hm => (h.fs c hm).ch hc (fun b nm hb => hS b _ _ hb (.inr rfl))⟩
theorem RnOwn.no {w w' : World} {base : Nat} {v : Value} {cs : List Cls} (h : RnOwn w base v cs) (hc : Ch No w w') : RnOwn w' base v cs := h.ch hc (fun _ _ _ _ _ h => h)
theorem RnOwn.shape {w : World} {base : Nat} {v : Value} {cs : List Cls} (h : RnOwn w base v cs) : ∃ ao cap, v = .slice ao cs.length cap ∧ cs.length ≤ cap ∧ cap ≤ maxLen := by
  rcases h.row.2 with ⟨rfl, h0⟩ | ⟨g, cap, cur, rfl, _, _, h4, h5, _⟩
  · rw [h0]; exact ⟨_, _, rfl, Nat.le_refl _, Nat.zero_le _⟩
  · exact ⟨_, _, rfl, h4, h5⟩
theorem RnOwn.at_ {w : World} {base : Nat} {v : Value} {cs : List Cls} (h : RnOwn w base v cs) : ClssAt w v cs := by
  refine ⟨?_, fun c hm => (h.fs c hm).at_⟩
  rcases h.row.2 with ⟨rfl, h0⟩ | ⟨g, cap, cur, rfl, hg, hh, h4, h5, h6, h7⟩
  · have : cs = [] := List.length_eq_zero_iff.1 h0
    subst this
    exact ⟨none, 0, rfl, Nat.le_refl _, Nat.zero_le _, by simp, fun h => by simp at h⟩
  · refine ⟨some ⟨g, 0, none⟩, cap, by rw [List.length_map], by rw [List.length_map]; exact h4, h5, fun c hc => ?_, fun _ => ⟨g, 0, rfl, fun i c hi j hj => ?_⟩⟩
    · obtain ⟨k, _, rfl⟩ := List.mem_map.1 hc
      rfl
    · rw [List.getElem?_map] at hi
      cases hk : cs[i]? with
      | none => rw [hk] at hi; cases hi
      | some k =>
        rw [hk] at hi
        have : c = k.cells := by simpa using hi.symm
        subst this
        have hil := (List.getElem?_eq_some_iff.1 hk).1
        rw [cellAt hh, Nat.zero_add, ← Array.getElem?_toList]
        have hf := flat_get Cls.cells 10 (fun x => rfl) cs i j k hk hj
        rw [← h7, List.getElem?_take, if_pos (by omega)] at hf
        exact hf
theorem tyStrCls : (9 : TypeId) ≠ 49 := by decide
theorem tyProgCls : (30 : TypeId) ≠ 49 := by decide
theorem tyProgStr : (30 : TypeId) ≠ 9 := by decide
theorem RnOwn.more {w w' : World} {base : Nat} {v v' : Value} {cs : List Cls} {c : Cls} (h : RnOwn w base v cs) (hf : FcOk w c) (hr : w'.ownsRow base 49 10 v' (cs.length + 1) (cs.flatMap Cls.cells ++ c.cells)) (hc : Ch (fun k _ => v.ownBlock = some k) w w') : RnOwn w' base v' (cs ++ [c]) := by
  refine ⟨by rw [List.length_append, List.flatMap_append]; simpa using hr, fun x hx => ?_⟩
  have key : FcOk w x := by
    rcases List.mem_append.1 hx with hx | hx
    · exact h.fs x hx
    · have : x = c := by simpa using hx
      subst this; exact hf
  exact key.ch hc (fun b nm hb => not_own h.row hb tyStrCls)

/-- how things stand in the midst of the loop -/
structure RnSt (w1 wr : World) (m k : Nat) (face : Bool) (v : Value) (cs : List Cls) (i : Nat) : Prop where
  ch : Ch No w1 wr
  blk : wr.heap[w1.heap.size]? = some (.cells #[v, .string { data := #[] }, .string { data := #[] }, .bool false, .bool false, .slice none 0 0, .slice none 0 0, .slice none 0 0, .int .i64 0, .int .i64 0] 30 (0, 0))
  own : RnOwn wr (w1.heap.size + 1) v cs
  len : cs.length = i
  cl : ∀ j c, cs[j]? = some c → ClR face (up1 m k) j c
theorem RnSt.rowAt {w1 wr w' : World} {m k : Nat} {face : Bool} {v : Value} {cs : List Cls} {i : Nat} (h : RnSt w1 wr m k face v cs i) (hc : Ch No wr w') : w'.ownsRow (w1.heap.size + 1) 49 10 v i (cs.flatMap Cls.cells) := by
  have := (h.own.no hc).row
  rw [h.len] at this
  exact this
theorem alloc2 (w : World) (X Y : Obj) : ((w.alloc X).alloc Y).heap[w.heap.size + 1]? = some Y := by
  have := heap_alloc_new (w.alloc X) Y
  rwa [show (w.alloc X).heap.size = w.heap.size + 1 by simp] at this
theorem alloc3 (w : World) (X Y Z : Obj) : (((w.alloc X).alloc Y).alloc Z).heap[w.heap.size + 1 + 1]? = some Z := by
  have := heap_alloc_new ((w.alloc X).alloc Y) Z
  rwa [show ((w.alloc X).alloc Y).heap.size = w.heap.size + 1 + 1 by simp] at this
theorem Cls.one (c : Cls) : ∀ u ∈ c.cells, u.oneCell' = true := by
  intro u hu
  simp [Cls.cells] at hu
  rcases hu with rfl | rfl | rfl | rfl | rfl | rfl | rfl | rfl | rfl | rfl <;> rfl
/-- a class more -/
theorem RnSt.step {w1 wr w4 w5 : World} {m k : Nat} {face : Bool} {v v' : Value} {cs : List Cls} {i : Nat} (h : RnSt w1 wr m k face v cs i) (hc4 : Ch No wr w4) {c : Cls} (hcl : ClR face (up1 m k) i c) (hf : FcOk w4 c)
    (hr : w5.ownsRow (w1.heap.size + 1) 49 10 v' (i + 1) (cs.flatMap Cls.cells ++ c.cells)) (hc : Ch (fun k _ => v.ownBlock = some k) w4 w5) :
    (∃ ao cap, v' = .slice ao (i + 1) cap) ∧ w5.heap[w1.heap.size]? = some (.cells #[v, .string { data := #[] }, .string { data := #[] }, .bool false, .bool false, .slice none 0 0, .slice none 0 0, .slice none 0 0, .int .i64 0, .int .i64 0] 30 (0, 0)) ∧
    RnSt w1 (w5.setCell ⟨w1.heap.size, 0, none⟩ v') m k face v' (cs ++ [c]) (i + 1) := by
  have h4 := h.own.no hc4
  have hb4 := hc4.keep _ _ h.blk (fun h => h)
  have hr' := hr
  rw [← h.len] at hr'
  have h5 := h4.more hf hr' hc
  have hb5 := hc.keep _ _ hb4 (not_own h4.row hb4 tyProgCls)
  have hcs : Ch (fun k _ => k = w1.heap.size) w5 (w5.setCell ⟨w1.heap.size, 0, none⟩ v') := (Ch.refl _ _).setCell (fun _ _ => rfl) _
  have hl : (cs ++ [c]).length = i + 1 := by rw [List.length_append, h.len]; rfl
  refine ⟨?_, hb5, ?_, ?_, ?_, hl, ?_⟩
  · obtain ⟨ao, cap, e, _⟩ := h5.shape
    rw [hl] at e
    exact ⟨ao, cap, e⟩
  · have h6 : Ch No w1 w5 := (h.ch.trans hc4).trans' hc (fun j o ho e => by
      obtain ⟨h7, _⟩ := owned_typed h4.row j e
      have := lt_size ho
      omega)
    exact h6.trans' hcs (fun j o ho e => by have e' : j = w1.heap.size := e; have := lt_size ho; omega)
  · rw [setCell_heap hb5]; rfl
  · exact h5.ch hcs (fun b cur t hb ht e => by
      have e' : b = w1.heap.size := e
      subst e'
      rw [hb5] at hb
      have : 30 = t := by cases Option.some.inj hb; rfl
      rcases ht with rfl | rfl
      · exact tyProgCls this
      · exact tyProgStr this)
  · intro j d hd
    by_cases hj : j < cs.length
    · rw [List.getElem?_append_left hj] at hd
      exact h.cl j d hd
    · rw [List.getElem?_append_right (by omega)] at hd
      have hj2 : j - cs.length < 1 := by simpa using (List.getElem?_eq_some_iff.1 hd).1
      have e : j = i := by have := h.len; omega
      subst e
      rw [h.len, Nat.sub_self] at hd
      have : c = d := by simpa using hd
      subst this; exact hcl
theorem RnSt.at_ {w1 wr : World} {m k : Nat} {face : Bool} {v : Value} {cs : List Cls} {i : Nat} (h : RnSt w1 wr m k face v cs i) : ClssAt wr v cs := h.own.at_
theorem RnSt.fs2 {w1 wr w2 : World} {m k : Nat} {face : Bool} {v : Value} {cs : List Cls} {i : Nat} (h : RnSt w1 wr m k face v cs i) (hc : Ch No wr w2) : ∀ c ∈ cs, FcOk w2 c := (h.own.no hc).fs
/-- the row, opened -/
theorem RnSt.opened {w1 wr : World} {m k : Nat} {face : Bool} {ao : Option Addr} {cap : Nat} {cs : List Cls} {i : Nat} (h : RnSt w1 wr m k face (.slice ao i cap) cs i) (hi : 0 < i) :
    ∃ g, ao = some ⟨g, 0, none⟩ ∧ w1.heap.size + 1 ≤ g ∧ ∃ cur, wr.heap[g]? = some (.cells cur 49 (0, 0)) ∧ i ≤ cap ∧ cap ≤ maxLen ∧ cur.size = cap * 10 ∧ cur.toList.take (i * 10) = cs.flatMap Cls.cells := by
  rcases h.own.row.2 with ⟨h1, h0⟩ | ⟨g, cap', cur, h1, h2, h3, h4, h5, h6, h7⟩
  · have := h.len; omega
  · have hl := h.len
    cases h1
    rw [hl] at h4 h7
    exact ⟨g, rfl, h2, cur, h3, h4, h5, h6, h7⟩
theorem flatLen (cs : List Cls) : (cs.flatMap Cls.cells).length = cs.length * 10 := by
  induction cs with
  | nil => rfl
  | cons c cs ih => rw [List.flatMap_cons, List.length_append, ih, List.length_cons, show c.cells.length = 10 from rfl]; omega
theorem flat_upd {cs : List Cls} {q : Nat} {d : Cls} (hd : cs[q]? = some d) (d' : Cls) {L : List Value} (hL : L.take (cs.length * 10) = cs.flatMap Cls.cells) :
    (L.take (q * 10) ++ d'.cells ++ L.drop (q * 10 + 10)).take (cs.length * 10) = (cs.set q d').flatMap Cls.cells := by
  obtain ⟨hq, e⟩ := List.getElem?_eq_some_iff.1 hd
  have e1 : L = cs.flatMap Cls.cells ++ L.drop (cs.length * 10) := by rw [← hL, List.take_append_drop]
  have e2 : cs = cs.take q ++ d :: cs.drop (q + 1) := by
    rw [← e, List.getElem_cons_drop, List.take_append_drop]
  have e3 : cs.set q d' = cs.take q ++ d' :: cs.drop (q + 1) := by rw [List.set_eq_take_append_cons_drop, if_pos hq]
  obtain ⟨A, hA⟩ : ∃ A, (cs.take q).flatMap Cls.cells = A := ⟨_, rfl⟩
  obtain ⟨B, hB⟩ : ∃ B, (cs.drop (q + 1)).flatMap Cls.cells = B := ⟨_, rfl⟩
  obtain ⟨R, hR⟩ : ∃ R, L.drop (cs.length * 10) = R := ⟨_, rfl⟩
  have lA : A.length = q * 10 := by rw [← hA, flatLen, List.length_take, Nat.min_eq_left (by omega)]
  have lB : B.length = (cs.length - (q + 1)) * 10 := by rw [← hB, flatLen, List.length_drop]
  have e4 : cs.flatMap Cls.cells = A ++ d.cells ++ B := by
    conv => lhs; rw [e2]
    rw [List.flatMap_append, List.flatMap_cons, hA, hB, List.append_assoc]
  have ld : d.cells.length = 10 := rfl
  have ld' : d'.cells.length = 10 := rfl
  rw [hR, e4] at e1
  have t1 : L.take (q * 10) = A := by
    rw [e1, List.append_assoc, List.append_assoc, ← lA]
    exact List.take_left
  have t2 : L.drop (q * 10 + 10) = B ++ R := by
    rw [e1, List.append_assoc, show q * 10 + 10 = (A ++ d.cells).length by rw [List.length_append, lA, ld]]
    exact List.drop_left
  rw [t1, t2, e3, List.flatMap_append, List.flatMap_cons, hA, hB, ← List.append_assoc, ← List.append_assoc]
  have l3 : (A ++ d'.cells ++ B).length = cs.length * 10 := by
    rw [List.length_append, List.length_append, lA, lB, ld']; omega
  rw [← l3]
  exact List.take_left
theorem put10 {w : World} {b : Nat} {cur : Array Value} {t : TypeId} (h : w.heap[b]? = some (.cells cur t (0, 0))) (o : Nat) (hl : o + 10 ≤ cur.size) (v0 v1 v2 v3 v4 v5 v6 v7 v8 v9 : Value) :
    ∃ wf, ((((((((((w.setCell ⟨b, o, none⟩ v0).setCell ⟨b, o + 1, none⟩ v1).setCell ⟨b, o + 2, none⟩ v2).setCell ⟨b, o + 3, none⟩ v3).setCell ⟨b, o + 4, none⟩ v4).setCell ⟨b, o + 5, none⟩ v5).setCell ⟨b, o + 6, none⟩ v6).setCell ⟨b, o + 7, none⟩ v7).setCell ⟨b, o + 8, none⟩ v8).setCell ⟨b, o + 9, none⟩ v9) = wf ∧
      (∃ cur', wf.heap[b]? = some (.cells cur' t (0, 0)) ∧ cur'.size = cur.size ∧ cur'.toList = cur.toList.take o ++ [v0, v1, v2, v3, v4, v5, v6, v7, v8, v9] ++ cur.toList.drop (o + 10)) ∧ Ch (fun k _ => k = b) w wf :=
  ⟨_, rfl, setCells_heap [v0, v1, v2, v3, v4, v5, v6, v7, v8, v9] o w cur h hl, setCells_ch (b := b) [v0, v1, v2, v3, v4, v5, v6, v7, v8, v9] o w⟩
/-- the last link's class, without it -/
def Cls.off (d : Cls) : Cls := ⟨d.name, ⟨#[]⟩, d.face, [], none, 0, d.s4, d.s5, d.s6, d.p7, d.line, d.col⟩
theorem up_same {m k i : Nat} (hi : i + 1 < m + k) : up2 m k i = up1 m k i := by
  unfold up2 up1
  by_cases h : i < m
  · rw [if_pos h, if_pos h]
  · rw [if_neg h, if_neg h, if_pos hi]
theorem RingP.offAt {m k : Nat} {face : Bool} {cs : List Cls} {q : Nat} {d : Cls} (h : RingP (m + k) face (up1 m k) cs) (hk : 0 < k) (hq : q + 1 = m + k) (hd : cs[q]? = some d) : RingP (m + k) face (up2 m k) (cs.set q d.off) := by
  refine ⟨by rw [List.length_set]; exact h.len, fun i c hc => ?_, fun i j hi hu => ?_, h.small⟩
  · rw [List.getElem?_set] at hc
    by_cases e : q = i
    · subst e
      rw [if_pos rfl, if_pos (List.getElem?_eq_some_iff.1 hd).1] at hc
      have : d.off = c := by simpa using hc
      subst this
      have hcl := h.cl q d hd
      have hu : up2 m k q = none := by rw [up2_is, if_neg (by omega)]
      exact ⟨hcl.name, hcl.isF, (fun _ => ⟨by rw [hu]; rfl, rfl⟩), (fun _ => ⟨rfl, by rw [hu]; rfl⟩), hcl.line, hcl.col⟩
    · rw [if_neg e] at hc
      have hcl := h.cl i c hc
      have hi : i < m + k := by have := (List.getElem?_eq_some_iff.1 hc).1; have := h.len; omega
      have hu : up2 m k i = up1 m k i := up_same (by omega)
      refine ⟨hcl.name, hcl.isF, ?_, ?_, hcl.line, hcl.col⟩
      · rw [hu]; exact hcl.nof
      · rw [hu]; exact hcl.yef
  · rw [up2_is] at hu
    split at hu
    · cases hu; omega
    · cases hu
/-- the classes with the last link gone, in memory -/
theorem RnSt.offAt {w1 wr w2 w4 : World} {m k : Nat} {face : Bool} {g cap : Nat} {cs : List Cls} {q : Nat} {d : Cls} {cur cur' : Array Value} (h : RnSt w1 wr m k face (.slice (some ⟨g, 0, none⟩) (m + k) cap) cs (m + k))
    (hc2 : Ch No wr w2) (hd : cs[q]? = some d) (hcap : m + k ≤ cap) (hmax : cap ≤ maxLen) (hcs : cur.size = cap * 10) (htk : cur.toList.take ((m + k) * 10) = cs.flatMap Cls.cells) (hgb : w1.heap.size + 1 ≤ g)
    (h4 : w4.heap[g]? = some (.cells cur' 49 (0, 0))) (h5 : cur'.size = cur.size) (h6 : cur'.toList = cur.toList.take (q * 10) ++ d.off.cells ++ cur.toList.drop (q * 10 + 10)) (hgw : w2.heap[g]? = some (.cells cur 49 (0, 0))) (hc4 : Ch (fun k _ => k = g) w2 w4) :
    ClssAt w4 (.slice (some ⟨g, 0, none⟩) (m + k) cap) (cs.set q d.off) := by
  have hl := h.len
  have : RnOwn w4 (w1.heap.size + 1) (.slice (some ⟨g, 0, none⟩) (m + k) cap) (cs.set q d.off) := by
    refine ⟨⟨by rw [flatLen], .inr ⟨g, cap, cur', ?_, hgb, h4, by rw [List.length_set, hl]; exact hcap, hmax, by rw [h5]; exact hcs, ?_⟩⟩, fun c hc => ?_⟩
    · rw [List.length_set, hl]
    · rw [h6, List.length_set]
      exact flat_upd hd _ (by rw [hl]; exact htk)
    · have key : FcOk w2 c := by
        rcases List.mem_or_eq_of_mem_set hc with hc | hc
        · exact (h.fs2 hc2) c hc
        · subst hc; exact .inl ⟨rfl, rfl, rfl⟩
      exact key.ch hc4 (fun b nm hb e => by
        have e' : b = g := e
        subst e'
        rw [hgw] at hb
        have h7 := Option.some.inj hb
        simp at h7)
  exact this.at_
theorem RnSt.snoc {w1 wr : World} {m k : Nat} {face : Bool} {v : Value} {cs : List Cls} {i : Nat} (h : RnSt w1 wr m k face v cs i) {c : Cls} (hc : ClR face (up1 m k) i c) : ∀ j d, (cs ++ [c])[j]? = some d → ClR face (up1 m k) j d := by
  intro j d hd
  by_cases hj : j < cs.length
  · rw [List.getElem?_append_left hj] at hd
    exact h.cl j d hd
  · rw [List.getElem?_append_right (by omega)] at hd
    have hj2 : j - cs.length < 1 := by simpa using (List.getElem?_eq_some_iff.1 hd).1
    have e : j = i := by have := h.len; omega
    subst e
    rw [h.len, Nat.sub_self] at hd
    have : c = d := by simpa using hd
    subst this; exact hc
end Go.Proofs.YtkffejgjpnnkmaaDoor
