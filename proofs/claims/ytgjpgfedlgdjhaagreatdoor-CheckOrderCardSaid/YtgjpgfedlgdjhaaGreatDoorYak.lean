/- Part 11. -/
import Derived.Test.YtgjpgfedlgdjhaaGreatDoorYaj
import Derived.Laws.AppendOwn
set_option linter.unusedVariables false
set_option linter.unusedSimpArgs false
set_option maxHeartbeats 64000000
set_option maxRecDepth 8192
section
namespace Go.Proofs.YtgjpgfedlgdjhaaGreatDoor
open Go.RowKit Go.W
theorem Kh (w : World) {t e : TypeId} {sz bytes : Nat} (ht : Tryz.prog.underlying t = some (.slice e)) (hinfo : (Tryz.prog.info? e).map (fun i => (i.zero.map (fun z => z.cells.size), i.size, i.bytes)) = some (some sz, sz, bytes)) (hsz : 0 < sz) (hby : bytes ≤ 1000)
 (base : Nat) (v : Value) (n : Nat) (xs : List Value) (hown : w.ownsRow base e sz v n xs) (b m c : Nat) (news : List Value) (hl : news.length = m * sz) (h0 : 0 < m) (hb : w.heap[b]? = some (.cells news.toArray e (0, 0))) (h1 : ∀ u ∈ news, u.oneCell' = true)
 (hn : n + m ≤ 100000) (hbase : base ≤ w.heap.size) (ty : TypeId) :
 ∃ v' w', (Builtin.append_ #[t, t] ty #[v, .slice (some ⟨b, 0, none⟩) m c]).run Tryz.prog w = .ok v' w' ∧ w'.ownsRow base e sz v' (n + m) (xs ++ news) ∧ Ch (fun j _ => v.ownBlock = some j) w w' ∧ (v'.ownBlock = v.ownBlock ∨ v'.ownBlock = some w.heap.size) := by
 obtain ⟨v', w', hr, ho, hc⟩ := E3 w ht hinfo hsz hby base v n xs hown b m c news hl hb h1 hn hbase ty
 refine ⟨v', w', hr, ho, hc, ?_⟩
 obtain ⟨i, z, hi, hz, h2, h3, h4⟩ := Hz hinfo
 have hm : maxLen = 9223372036854775807 := rfl
 have hnews : ∀ j u, news[j]? = some u → w.cell? ((⟨b, 0, none⟩ : Addr).add j) = some u := fun j u hj => by
  rw [Addr.add_lit, Ab hb, Nat.zero_add, ← Array.getElem?_toList]
  exact hj
 have hbytes : (n + m) * bytes ≤ 100000 * 1000 := Nat.mul_le_mul hn hby
 subst h3
 subst h4
 rcases hown.2 with ⟨rfl, hl0⟩ | ⟨g, cap, cur, rfl, hg, hh, hcap, hmax, hcs, hct⟩
 {subst hl0
  have hr2 := run_append_nil (P := Tryz.prog) w t ty e i z ht hi hz ⟨b, 0, none⟩ m c news hl hnews (by omega) (by omega) (by simp only [Nat.zero_add] at hbytes; omega)
  rw [hr2] at hr
  exact .inr (by rw [← (Result.ok.inj hr).1]; rfl)}
 {by_cases hroom : n + m ≤ cap
  {have hfit : n * i.size + news.length ≤ cur.size := by rw [hl, hcs, ← Nat.add_mul]; exact Nat.mul_le_mul_right _ hroom
   have hr2 := run_append_room (P := Tryz.prog) w t ty e i ht hi g n cap cur hh ⟨b, 0, none⟩ m c news hl hnews h1 hroom hfit
   rw [hr2] at hr
   exact .inl (by rw [← (Result.ok.inj hr).1]; rfl)}
  {have holds : ∀ j u, xs[j]? = some u → w.cell? ((⟨g, 0, none⟩ : Addr).add j) = some u := hown.cells (g := g) rfl
   have hr2 := run_append_grow (P := Tryz.prog) w t ty e i z ht hi hz ⟨g, 0, none⟩ n cap xs hown.1 holds ⟨b, 0, none⟩ m c news hl hnews (by omega) (by omega) (growslice_fits (by omega) (by omega))
   rw [hr2] at hr
   exact .inr (by rw [← (Result.ok.inj hr).1]; rfl)}}
theorem Cb {w : World} {ops : Array Oper} {rest : List Oper} {o : Oper} {a : Act} {Q : Exit → Act → World → Prop} (hgd : o.guard = none) (s x : Operand) {t e : TypeId} {sz bytes : Nat}
 (ho : o.op = .call { callee := .builtin .append, args := #[s, x], argTypes := #[t, t] })
 (ht : Tryz.prog.underlying t = some (.slice e)) (hinfo : (Tryz.prog.info? e).map (fun i => (i.zero.map (fun z => z.cells.size), i.size, i.bytes)) = some (some sz, sz, bytes)) (hsz : 0 < sz) (hby : bytes ≤ 1000)
 (base : Nat) (v : Value) (n : Nat) (xs : List Value) (hsv : a.eval s = v) (hown : w.ownsRow base e sz v n xs) (b c : Nat) (news : List Value) (hxv : a.eval x = .slice (some ⟨b, 0, none⟩) 1 c) (hl : news.length = sz) (hb : w.heap[b]? = some (.cells news.toArray e (0, 0))) (h1 : ∀ u ∈ news, u.oneCell' = true)
 (hn : n + 1 ≤ 100000) (hbase : base ≤ w.heap.size)
 (hK : ∀ v' w', w'.ownsRow base e sz v' (n + 1) (xs ++ news) → Ch (fun k _ => v.ownBlock = some k) w w' → (v'.ownBlock = v.ownBlock ∨ v'.ownBlock = some w.heap.size) → wpList Tryz.prog ops Q rest (a.put o.dst v') w') :
 wpList Tryz.prog ops Q (o :: rest) a w := by
 refine wpList_plain hgd fun K hK' => ?_
 obtain ⟨v', w', hr, h2, h3, h4⟩ := Kh w ht hinfo hsz hby base v n xs hown b 1 c news (by rw [hl, Nat.one_mul]) Nat.zero_lt_one hb h1 hn hbase o.type
 unfold Oper.wp
 simp [execOp, ho, resolve, invoke, builtin, hsv, hxv, hr, Result.andThen]
 exact hK' _ _ (hK v' w' h2 h3 h4)
def A5 (P : Nat → Prop) (w : World) (ao : Option Addr) (n cap : Nat) (xs : List Value) : Prop :=
 n ≤ cap ∧ cap ≤ maxLen ∧ (n = 0 ∨ ∃ b, ao = some ⟨b, 0, none⟩ ∧ P b ∧ b < w.heap.size ∧ ∀ (i : Nat) (u : Value), xs[i]? = some u → w.cell? ⟨b, i, none⟩ = some u)
section
variable {P P' : Nat → Prop} {w w' : World} {ao : Option Addr} {n cap : Nat} {xs : List Value}
theorem A5.nil (P : Nat → Prop) (w : World) (xs : List Value) : A5 P w none 0 0 xs := ⟨Nat.le_refl _, Nat.zero_le _, .inl rfl⟩
theorem A5.ch {S : Nat → Obj → Prop} (h : A5 P w ao n cap xs) (hc : Ch S w w') (hS : ∀ k o, k < w.heap.size → w.heap[k]? = some o → P k → ¬ S k o) : A5 P w' ao n cap xs := by
 obtain ⟨h1, h2, h3⟩ := h
 refine ⟨h1, h2, ?_⟩
 rcases h3 with h3 | ⟨b, e, hb, hl, hx⟩
 {exact .inl h3}
 {exact .inr ⟨b, e, hb, Nat.lt_of_lt_of_le hl hc.size, fun i u hi => Ae (hx i u hi) hc (fun o ho => hS b o hl ho hb)⟩}
theorem A5.mono (h : A5 P w ao n cap xs) (hP : ∀ k, k < w.heap.size → P k → P' k) : A5 P' w ao n cap xs := by
 obtain ⟨h1, h2, h3⟩ := h
 refine ⟨h1, h2, ?_⟩
 rcases h3 with h3 | ⟨b, e, hb, hl, hx⟩
 {exact .inl h3}
 {exact .inr ⟨b, e, hP b hl hb, hl, hx⟩}
theorem A5.own {base : Nat} {e : TypeId} {sz : Nat} (h : w.ownsRow base e sz (.slice ao n cap) n xs) (hP : ∀ k, base ≤ k → P k) : A5 P w ao n cap xs := by
 rcases h.2 with ⟨h1, h0⟩ | ⟨g, cap', cur, h1, h2, h3, h4, h5, h6, h7⟩
 {cases h1; exact .nil _ _ _}
 {cases h1
  refine ⟨h4, h5, .inr ⟨g, rfl, hP g h2, Ac h3, fun i u hi => ?_⟩⟩
  rw [Ab h3, ← Array.getElem?_toList]
  rw [← h7, List.getElem?_take] at hi
  split at hi
  {exact hi}
  {cases hi}}
end
structure Sh where
 s : St
 ga : Option Addr
 gs : List ByteArray
 gc : Nat
 ba : Option Addr
 bc : Nat
 oa : Option Addr
 oc : Nat
inductive Tr where
 | nil
 | cons (h : Sh) (b o r : Tr)
def Tr.len : Tr → Nat
 | .nil => 0
 | .cons _ _ _ r => r.len + 1
def Bk (h : Sh) (n m : Nat) : List Value := [.int .i64 h.s.k, .string h.s.x, .string h.s.y, .string h.s.z, .string h.s.t, .string h.s.f, .slice h.ga h.gs.length h.gc, .int .i64 h.s.n, .slice h.ba n h.bc, .slice h.oa m h.oc, .int .i64 h.s.l, .int .i64 h.s.c]
def Tr.cells : Tr → List Value
 | .nil => []
 | .cons h b o r => Bk h b.len o.len ++ r.cells
def Tr.app : Tr → Tr → Tr
 | .nil, t => t
 | .cons h b o r, t => .cons h b o (r.app t)
theorem Tr.app_len : ∀ (t u : Tr), (t.app u).len = t.len + u.len
 | .nil, u => by show u.len = 0 + u.len; omega
 | .cons h b o r, u => by
  show (r.app u).len + 1 = r.len + 1 + u.len
  rw [Tr.app_len r u]; omega
theorem Tr.app_cells : ∀ (t u : Tr), (t.app u).cells = t.cells ++ u.cells
 | .nil, u => rfl
 | .cons h b o r, u => by
  show Bk h b.len o.len ++ (r.app u).cells = (Bk h b.len o.len ++ r.cells) ++ u.cells
  rw [Tr.app_cells r u, List.append_assoc]
def Ac0 (h : Sh) : Prop := Bb h.s.x h.s.y h.s.z h.s.t h.s.f ∧ h.gs.length ≤ 41 ∧ ∀ s ∈ h.gs, s.size ≤ 20000
def Bo (P : Nat → Prop) (w : World) : Tr → Prop
 | .nil => True
 | .cons h b o r => (Ac0 h ∧ b.len ≤ 40 ∧ o.len ≤ 40 ∧ A5 P w h.ga h.gs.length h.gc (h.gs.map .string) ∧ A5 P w h.ba b.len h.bc b.cells ∧ A5 P w h.oa o.len h.oc o.cells) ∧ Bo P w b ∧ Bo P w o ∧ Bo P w r
theorem Bo.ch {P : Nat → Prop} {S : Nat → Obj → Prop} {w w' : World} (hc : Ch S w w') (hS : ∀ k o, k < w.heap.size → w.heap[k]? = some o → P k → ¬ S k o) : ∀ {t : Tr}, Bo P w t → Bo P w' t
 | .nil, _ => trivial
 | .cons h b o r, ⟨⟨h1, h2, h3, h4, h5, h6⟩, h7, h8, h9⟩ => ⟨⟨h1, h2, h3, h4.ch hc hS, h5.ch hc hS, h6.ch hc hS⟩, Bo.ch hc hS h7, Bo.ch hc hS h8, Bo.ch hc hS h9⟩
theorem Bo.mono {P P' : Nat → Prop} {w : World} (hP : ∀ k, k < w.heap.size → P k → P' k) : ∀ {t : Tr}, Bo P w t → Bo P' w t
 | .nil, _ => trivial
 | .cons h b o r, ⟨⟨h1, h2, h3, h4, h5, h6⟩, h7, h8, h9⟩ => ⟨⟨h1, h2, h3, h4.mono hP, h5.mono hP, h6.mono hP⟩, Bo.mono hP h7, Bo.mono hP h8, Bo.mono hP h9⟩
theorem Bo.app {P : Nat → Prop} {w : World} : ∀ {t u : Tr}, Bo P w t → Bo P w u → Bo P w (t.app u)
 | .nil, _, _, h => h
 | .cons h b o r, _, ⟨h1, h2, h3, h4⟩, hu => ⟨h1, h2, h3, Bo.app h4 hu⟩
theorem Bo.no {P : Nat → Prop} {w w' : World} {t : Tr} (h : Bo P w t) (hc : Ch No w w') : Bo P w' t := h.ch hc (fun _ _ _ _ _ h => h)
def Tr.get : Tr → Nat → Option (Sh × Tr × Tr)
 | .nil, _ => none
 | .cons h b o _, 0 => some (h, b, o)
 | .cons _ _ _ r, i + 1 => r.get i
theorem Tr.get_lt : ∀ {t : Tr} {i : Nat}, i < t.len → ∃ h b o, t.get i = some (h, b, o)
 | .nil, _, h => absurd h (Nat.not_lt_zero _)
 | .cons h b o r, 0, _ => ⟨h, b, o, rfl⟩
 | .cons _ _ _ r, i + 1, h => Tr.get_lt (t := r) (Nat.lt_of_succ_lt_succ h)
theorem Tr.lt_get : ∀ {t : Tr} {i : Nat} {x : Sh × Tr × Tr}, t.get i = some x → i < t.len
 | .cons h b o r, 0, _, _ => Nat.succ_pos _
 | .cons _ _ _ r, i + 1, _, h => Nat.succ_lt_succ (Tr.lt_get (t := r) h)
theorem Tr.cells_len : ∀ (t : Tr), t.cells.length = t.len * 12
 | .nil => rfl
 | .cons h b o r => by
  show (Bk h b.len o.len ++ r.cells).length = (r.len + 1) * 12
  rw [List.length_append, Tr.cells_len r]
  show 12 + r.len * 12 = _
  omega
theorem Tr.get_cells : ∀ {t : Tr} {i : Nat} {h : Sh} {b o : Tr}, t.get i = some (h, b, o) → ∀ j, j < 12 → t.cells[i * 12 + j]? = (Bk h b.len o.len)[j]?
 | .cons h b o r, 0, _, _, _, e, j, hj => by
  cases e
  show (Bk h b.len o.len ++ r.cells)[0 * 12 + j]? = _
  rw [Nat.zero_mul, Nat.zero_add, List.getElem?_append_left (by exact hj)]
 | .cons h b o r, i + 1, _, _, _, e, j, hj => by
  show (Bk h b.len o.len ++ r.cells)[(i + 1) * 12 + j]? = _
  rw [List.getElem?_append_right (by show 12 ≤ _; omega)]
  rw [show (i + 1) * 12 + j - (Bk h b.len o.len).length = i * 12 + j from by show (i + 1) * 12 + j - 12 = _; omega]
  exact Tr.get_cells (t := r) e j hj
theorem Tr.rule {M : Tr → Prop} (hM : ∀ t : Tr, (∀ i h b o, t.get i = some (h, b, o) → M b ∧ M o) → M t) : ∀ t, M t := by
 have key : ∀ t : Tr, M t ∧ ∀ i h b o, t.get i = some (h, b, o) → M b ∧ M o := by
  intro t
  induction t with
  | nil => exact ⟨hM _ (fun i h b o e => by cases e), fun i h b o e => by cases e⟩
  | cons h b o r ihb iho ihr =>
   have hg : ∀ i h' b' o', (Tr.cons h b o r).get i = some (h', b', o') → M b' ∧ M o' := by
    intro i h' b' o' e
    match i, e with
    | 0, e => cases e; exact ⟨ihb.1, iho.1⟩
    | i + 1, e => exact ihr.2 i h' b' o' e
   exact ⟨hM _ hg, hg⟩
 exact fun t => (key t).1
theorem Bo.get {P : Nat → Prop} {w : World} : ∀ {t : Tr}, Bo P w t → ∀ {i : Nat} {h : Sh} {b o : Tr}, t.get i = some (h, b, o) → (Ac0 h ∧ b.len ≤ 40 ∧ o.len ≤ 40 ∧ A5 P w h.ga h.gs.length h.gc (h.gs.map .string) ∧ A5 P w h.ba b.len h.bc b.cells ∧ A5 P w h.oa o.len h.oc o.cells) ∧ Bo P w b ∧ Bo P w o
 | .cons _ _ _ _, ⟨h1, h2, h3, h4⟩, 0, _, _, _, e => by cases e; exact ⟨h1, h2, h3⟩
 | .cons _ _ _ r, ⟨h1, h2, h3, h4⟩, i + 1, _, _, _, e => Bo.get (t := r) h4 e
theorem A5.st {P : Nat → Prop} {w : World} {ao : Option Addr} {cap : Nat} {t : Tr} (h : A5 P w ao t.len cap t.cells) {k : Nat} {x : Sh} {b o : Tr} (hk : t.get k = some (x, b, o)) :
 ∃ g, ao = some ⟨g, 0, none⟩ ∧ g < w.heap.size ∧ ∀ j, j < 12 → w.cell? ⟨g, k * 12 + j, none⟩ = (Bk x b.len o.len)[j]? := by
 have hl := Tr.lt_get hk
 obtain ⟨_, _, h3⟩ := h
 rcases h3 with h3 | ⟨g, e, _, hg, hx⟩
 {omega}
 {refine ⟨g, e, hg, fun j hj => ?_⟩
  have h4 := Tr.get_cells hk j hj
  have hlt : k * 12 + j < t.cells.length := by rw [Tr.cells_len]; omega
  rw [List.getElem?_eq_getElem hlt] at h4
  rw [hx _ _ (List.getElem?_eq_getElem hlt), h4]}
def Ex (lo : Nat) (v : Value) (k : Nat) : Prop := lo ≤ k ∧ v.ownBlock ≠ some k
theorem Bo.grow {lo : Nat} {v v' : Value} {w w' : World} {t : Tr} (h : Bo (Ex lo v) w t) (hc : Ch (fun k _ => v.ownBlock = some k) w w') (hv : v'.ownBlock = v.ownBlock ∨ v'.ownBlock = some w.heap.size) : Bo (Ex lo v') w' t := by
 refine (((h.mono (P' := fun k => Ex lo v k ∧ k < w.heap.size) (fun k hk hp => ⟨hp, hk⟩)).ch hc (fun k o _ _ hp e => hp.1.2 e))).mono (fun k _ hp => ⟨hp.1.1, ?_⟩)
 rcases hv with hv | hv
 {rw [hv]; exact hp.1.2}
 {rw [hv]; intro e; have := hp.2; simp at e; omega}
theorem Bo.tb {lo g : Nat} {v : Value} {w w' : World} {t : Tr} (h : Bo (Ex lo v) w t) (hc : Ch (Tb g) w w') (hg : g < lo) : Bo (Ex lo v) w' t :=
 h.ch hc (fun k o _ _ hp e => by have e' : k = g := e; have := hp.1; omega)
def Mk (lo : Nat) (k : Nat) : Prop := lo ≤ k
theorem Bo.tbF {lo g : Nat} {w w' : World} {t : Tr} (h : Bo (Mk lo) w t) (hc : Ch (Tb g) w w') (hg : g < lo) : Bo (Mk lo) w' t :=
 h.ch hc (fun k o _ _ hp e => by have e' : k = g := e; have : lo ≤ k := hp; omega)
theorem A5.tbF {lo g : Nat} {w w' : World} {ao : Option Addr} {n cap : Nat} {xs : List Value} (h : A5 (Mk lo) w ao n cap xs) (hc : Ch (Tb g) w w') (hg : g < lo) : A5 (Mk lo) w' ao n cap xs :=
 h.ch hc (fun k o _ _ hp e => by have e' : k = g := e; have : lo ≤ k := hp; omega)
def Er (lo : Nat) (w : World) (ao : Option Addr) (t : Tr) (cap : Nat) : Prop := t.len ≤ 40 ∧ A5 (Mk lo) w ao t.len cap t.cells ∧ Bo (Mk lo) w t
def F2 (lo : Nat) (w : World) (ao : Option Addr) (l : List ByteArray) (cap : Nat) : Prop := (l.length ≤ 41 ∧ ∀ s ∈ l, s.size ≤ 20000) ∧ A5 (Mk lo) w ao l.length cap (l.map .string)
section
variable {lo lo' g : Nat} {w w' : World} {ao : Option Addr} {t : Tr} {l : List ByteArray} {cap : Nat}
theorem Er.nil (lo : Nat) (w : World) : Er lo w none .nil 0 := ⟨Nat.zero_le _, .nil _ _ _, trivial⟩
theorem Er.tb (h : Er lo w ao t cap) (hc : Ch (Tb g) w w') (hg : g < lo) : Er lo w' ao t cap := ⟨h.1, h.2.1.tbF hc hg, h.2.2.tbF hc hg⟩
theorem Er.no (h : Er lo w ao t cap) (hc : Ch No w w') : Er lo w' ao t cap := ⟨h.1, h.2.1.ch hc (fun _ _ _ _ _ h => h), h.2.2.no hc⟩
theorem Er.up (h : Er lo' w ao t cap) (hl : lo ≤ lo') : Er lo w ao t cap := ⟨h.1, h.2.1.mono (fun _ _ hp => Nat.le_trans hl hp), h.2.2.mono (fun _ _ hp => Nat.le_trans hl hp)⟩
theorem F2.nil (lo : Nat) (w : World) : F2 lo w none [] 0 := ⟨⟨Nat.zero_le _, fun s hs => by cases hs⟩, .nil _ _ _⟩
theorem F2.tb (h : F2 lo w ao l cap) (hc : Ch (Tb g) w w') (hg : g < lo) : F2 lo w' ao l cap := ⟨h.1, h.2.tbF hc hg⟩
theorem F2.up (h : F2 lo' w ao l cap) (hl : lo ≤ lo') : F2 lo w ao l cap := ⟨h.1, h.2.mono (fun _ _ hp => Nat.le_trans hl hp)⟩
theorem F2.own {base : Nat} (h : Aq w base (.slice ao l.length cap) l) (h1 : l.length ≤ 41) (h2 : ∀ s ∈ l, s.size ≤ 20000) : F2 base w ao l cap := ⟨⟨h1, h2⟩, A5.own h (fun _ hk => hk)⟩
theorem Bo.one {s : St} {ga ba oa : Option Addr} {gs : List ByteArray} {gc bc oc : Nat} {b o : Tr} (hs : Bb s.x s.y s.z s.t s.f) (hg : F2 lo w ga gs gc) (hb : Er lo w ba b bc) (ho : Er lo w oa o oc) : Bo (Mk lo) w (.cons ⟨s, ga, gs, gc, ba, bc, oa, oc⟩ b o .nil) :=
 ⟨⟨⟨hs, hg.1⟩, hb.1, ho.1, hg.2, hb.2.1, ho.2.1⟩, hb.2.2, ho.2.2, trivial⟩
end
theorem Ap {w : World} {b : Nat} {x0 x1 x2 x3 x4 x5 x6 x7 x8 x9 x10 x11 : Value} {t : TypeId} {fz : Nat × Nat} (h : w.heap[b]? = some (.cells #[x0, x1, x2, x3, x4, x5, x6, x7, x8, x9, x10, x11] t fz)) :
 w.cell? ⟨b, 0, none⟩ = some x0 ∧ w.cell? ⟨b, 1, none⟩ = some x1 ∧ w.cell? ⟨b, 2, none⟩ = some x2 ∧ w.cell? ⟨b, 3, none⟩ = some x3 ∧ w.cell? ⟨b, 4, none⟩ = some x4 ∧ w.cell? ⟨b, 5, none⟩ = some x5 ∧ w.cell? ⟨b, 6, none⟩ = some x6 ∧ w.cell? ⟨b, 7, none⟩ = some x7 ∧ w.cell? ⟨b, 8, none⟩ = some x8 ∧ w.cell? ⟨b, 9, none⟩ = some x9 ∧ w.cell? ⟨b, 10, none⟩ = some x10 ∧ w.cell? ⟨b, 11, none⟩ = some x11 :=
 ⟨Ab h 0, Ab h 1, Ab h 2, Ab h 3, Ab h 4, Ab h 5, Ab h 6, Ab h 7, Ab h 8, Ab h 9, Ab h 10, Ab h 11⟩
theorem E5 {w : World} {b : Nat} {cs : Array Value} {t : TypeId} (h : w.heap[b]? = some (.cells cs t (0, 0))) :
 w.frozen? ⟨b, 0, none⟩ = false ∧ w.frozen? ⟨b, 1, none⟩ = false ∧ w.frozen? ⟨b, 2, none⟩ = false ∧ w.frozen? ⟨b, 3, none⟩ = false ∧ w.frozen? ⟨b, 4, none⟩ = false ∧ w.frozen? ⟨b, 5, none⟩ = false ∧ w.frozen? ⟨b, 6, none⟩ = false ∧ w.frozen? ⟨b, 7, none⟩ = false ∧ w.frozen? ⟨b, 8, none⟩ = false ∧ w.frozen? ⟨b, 9, none⟩ = false ∧ w.frozen? ⟨b, 10, none⟩ = false ∧ w.frozen? ⟨b, 11, none⟩ = false :=
 ⟨Ad h 0, Ad h 1, Ad h 2, Ad h 3, Ad h 4, Ad h 5, Ad h 6, Ad h 7, Ad h 8, Ad h 9, Ad h 10, Ad h 11⟩
def Ip (w0 w : World) (g : Nat) (L : List Tk) (a b c d z : Int) (e : Ending) (w' : World) : Prop :=
 ∃ (t : Tr) (ao : Option Addr) (cap : Nat) (r : Int), e = .returned (.tuple #[.slice ao t.len cap, .int .i64 r]) ∧ Er w.heap.size w' ao t cap ∧ He w0 w g L a b c d z r w'
def E6 (w0 w : World) (g : Nat) (L : List Tk) (a b c d z : Int) (e : Ending) (w' : World) : Prop :=
 ∃ (h : Sh) (t u : Tr) (r : Int), e = .returned (.tuple #[.agg #[.int .i64 h.s.k, .string h.s.x, .string h.s.y, .string h.s.z, .string h.s.t, .string h.s.f, .slice h.ga h.gs.length h.gc, .int .i64 h.s.n, .slice h.ba t.len h.bc, .slice h.oa u.len h.oc, .int .i64 h.s.l, .int .i64 h.s.c], .int .i64 r]) ∧ Bo (Mk w.heap.size) w' (.cons h t u .nil) ∧ He w0 w g L a b c d z r w'
def Jn (deep : Int) : Prop := ∀ ⦃w0 w : World⦄ ⦃g : Nat⦄ ⦃L : List Tk⦄ ⦃a b c d : Int⦄, Tx w0 w g L a b c d → Gq L → ∀ ⦃z : Int⦄, -1 ≤ z → z ≤ L.length → Calls Tryz.prog 60 #[.pointer (some ⟨g, 0, none⟩), .int .i64 z, .int .i64 deep] w (Ip w0 w g L a b c d z)
def Q4 (deep : Int) : Prop := ∀ ⦃w0 w : World⦄ ⦃g : Nat⦄ ⦃L : List Tk⦄ ⦃a b c d : Int⦄, Tx w0 w g L a b c d → Gq L → ∀ ⦃z : Int⦄, -1 ≤ z → z ≤ L.length → Calls Tryz.prog 130 #[.pointer (some ⟨g, 0, none⟩), .int .i64 z, .int .i64 deep] w (Ip w0 w g L a b c d z)
def Q5 (deep : Int) : Prop := ∀ ⦃w0 w : World⦄ ⦃g : Nat⦄ ⦃L : List Tk⦄ ⦃a b c d : Int⦄, Tx w0 w g L a b c d → Gq L → ∀ ⦃z : Int⦄, 0 ≤ z → z ≤ L.length → Calls Tryz.prog 99 #[.pointer (some ⟨g, 0, none⟩), .int .i64 z, .int .i64 deep] w (E6 w0 w g L a b c d z)
end Go.Proofs.YtgjpgfedlgdjhaaGreatDoor
end
