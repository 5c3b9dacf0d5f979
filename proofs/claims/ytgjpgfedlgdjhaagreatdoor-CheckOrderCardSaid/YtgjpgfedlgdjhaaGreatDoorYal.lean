/- Part 12. -/
import Derived.Test.YtgjpgfedlgdjhaaGreatDoorYak
set_option linter.unusedVariables false
set_option linter.unusedSimpArgs false
set_option maxHeartbeats 64000000
set_option maxRecDepth 8192
section
namespace Go.Proofs.YtgjpgfedlgdjhaaGreatDoor
open Go.RowKit Go.W
theorem Tryz.infoMethod : (Tryz.prog.info? 29).map (fun i => (i.zero.map (fun z => z.cells.size), i.size, i.bytes)) = some (some 9, 9, 128) := by kernel_rfl
theorem Tryz.sliceMethod : Tryz.prog.underlying 47 = some (.slice 29) := by kernel_rfl
structure Md where
 m : Mt
 ls : List Vr
 t : Tr
structure E8 (P : Nat → Prop) (w : World) (x : Md) : Prop where
 e5 : x.m.s5.2.1 = x.ls.length
 e6 : x.m.s6.2.1 = x.t.len
 sz : x.m.ret.size ≤ 20002 ∧ x.m.nm.size ≤ 20000
 zp : x.m.ps.length ≤ 41 ∧ ∀ v ∈ x.m.ps, G0 v
 zl : x.ls.length ≤ 41 ∧ ∀ v ∈ x.ls, G0 v
 zt : x.t.len ≤ 40
 ps : A5 P w x.m.pa x.m.ps.length x.m.pc (x.m.ps.flatMap Vr.cells)
 ls : A5 P w x.m.s5.1 x.ls.length x.m.s5.2.2 (x.ls.flatMap Vr.cells)
 st : A5 P w x.m.s6.1 x.t.len x.m.s6.2.2 x.t.cells
 tr : Bo P w x.t
theorem E8.ch {P : Nat → Prop} {S : Nat → Obj → Prop} {w w' : World} {x : Md} (h : E8 P w x) (hc : Ch S w w') (hS : ∀ k o, k < w.heap.size → w.heap[k]? = some o → P k → ¬ S k o) : E8 P w' x :=
 ⟨h.e5, h.e6, h.sz, h.zp, h.zl, h.zt, h.ps.ch hc hS, h.ls.ch hc hS, h.st.ch hc hS, h.tr.ch hc hS⟩
theorem E8.mono {P P' : Nat → Prop} {w : World} {x : Md} (h : E8 P w x) (hP : ∀ k, k < w.heap.size → P k → P' k) : E8 P' w x :=
 ⟨h.e5, h.e6, h.sz, h.zp, h.zl, h.zt, h.ps.mono hP, h.ls.mono hP, h.st.mono hP, h.tr.mono hP⟩
structure KD where
 name : ByteArray
 sup : ByteArray
 face : Bool
 fa : Option Addr
 faces : List ByteArray
 fc : Nat
 f4 : Option Addr
 fs : List Vr
 c4 : Nat
 f5 : Option Addr
 ss : List Vr
 c5 : Nat
 f6 : Option Addr
 ms : List Md
 c6 : Nat
 ini : Option (Nat × Md)
 line : Int
 col : Int
def KD.v4 (K : KD) : Value := .slice K.f4 K.fs.length K.c4
def KD.v5 (K : KD) : Value := .slice K.f5 K.ss.length K.c5
def KD.v6 (K : KD) : Value := .slice K.f6 K.ms.length K.c6
def KD.p7 (K : KD) : Option Addr := K.ini.map (fun x => ⟨x.1, 0, none⟩)
def KD.cells (K : KD) : List Value := [.string K.name, .string K.sup, .bool K.face, .slice K.fa K.faces.length K.fc, .slice K.f4 K.fs.length K.c4, .slice K.f5 K.ss.length K.c5, .slice K.f6 K.ms.length K.c6, .pointer K.p7, .int .i64 K.line, .int .i64 K.col]
def KP (X : Nat → Prop) (K : KD) (k : Nat) : Prop := ¬ X k ∧ K.v4.ownBlock ≠ some k ∧ K.v5.ownBlock ≠ some k ∧ K.v6.ownBlock ≠ some k
def Hs (P : Nat → Prop) (w : World) : Option (Nat × Md) → Prop
 | none => True
 | some (b, x) => P b ∧ w.heap[b]? = some (.cells x.m.cells.toArray 29 (0, 0)) ∧ E8 P w x
structure Ej (X : Nat → Prop) (w : World) (K : KD) : Prop where
 zn : K.name.size ≤ 20000 ∧ K.sup.size ≤ 20000 ∧ K.faces.length ≤ 41 ∧ ∀ s ∈ K.faces, s.size ≤ 20000
 z4 : K.fs.length ≤ 40 ∧ ∀ v ∈ K.fs, G0 v
 z5 : K.ss.length ≤ 40 ∧ ∀ v ∈ K.ss, G0 v
 z6 : K.ms.length ≤ 40
 o4 : w.ownsRow 0 64 4 K.v4 K.fs.length (K.fs.flatMap Vr.cells)
 o5 : w.ownsRow 0 64 4 K.v5 K.ss.length (K.ss.flatMap Vr.cells)
 o6 : w.ownsRow 0 29 9 K.v6 K.ms.length (K.ms.flatMap (fun x => x.m.cells))
 nx : ∀ k, (K.v4.ownBlock = some k ∨ K.v5.ownBlock = some k ∨ K.v6.ownBlock = some k) → ¬ X k
 ne : ∀ k, K.v4.ownBlock = some k → K.v5.ownBlock ≠ some k
 fa : A5 (KP X K) w K.fa K.faces.length K.fc (K.faces.map .string)
 md : ∀ x ∈ K.ms, E8 (KP X K) w x
 ini : Hs (KP X K) w K.ini
theorem Hs.ch {P : Nat → Prop} {S : Nat → Obj → Prop} {w w' : World} {o : Option (Nat × Md)} (h : Hs P w o) (hc : Ch S w w') (hS : ∀ k o, k < w.heap.size → w.heap[k]? = some o → P k → ¬ S k o) : Hs P w' o := by
 cases o with
 | none => trivial
 | some p => exact ⟨h.1, hc.keep _ _ h.2.1 (hS _ _ (Ac h.2.1) h.2.1 h.1), h.2.2.ch hc hS⟩
theorem Hs.mono {P P' : Nat → Prop} {w : World} {o : Option (Nat × Md)} (h : Hs P w o) (hP : ∀ k, k < w.heap.size → P k → P' k) : Hs P' w o := by
 cases o with
 | none => trivial
 | some p => exact ⟨hP _ (Ac h.2.1) h.1, h.2.1, h.2.2.mono hP⟩
section
variable {X : Nat → Prop} {w w' : World} {K : KD}
theorem Ej.ch {S : Nat → Obj → Prop} (h : Ej X w K) (hc : Ch S w w') (hS : ∀ k o, k < w.heap.size → w.heap[k]? = some o → ¬ X k → ¬ S k o) : Ej X w' K :=
 ⟨h.zn, h.z4, h.z5, h.z6, An h.o4 hc (fun k cur e _ hh => hS k _ (Ac hh) hh (h.nx k (.inl e))), An h.o5 hc (fun k cur e _ hh => hS k _ (Ac hh) hh (h.nx k (.inr (.inl e)))), An h.o6 hc (fun k cur e _ hh => hS k _ (Ac hh) hh (h.nx k (.inr (.inr e)))), h.nx, h.ne,
  h.fa.ch hc (fun k o h1 h2 hp => hS k o h1 h2 hp.1), fun x hx => (h.md x hx).ch hc (fun k o h1 h2 hp => hS k o h1 h2 hp.1), h.ini.ch hc (fun k o h1 h2 hp => hS k o h1 h2 hp.1)⟩
theorem Ej.no (h : Ej X w K) (hc : Ch No w w') : Ej X w' K := h.ch hc (fun _ _ _ _ _ h => h)
theorem Ej.tb {g : Nat} (h : Ej X w K) (hc : Ch (Tb g) w w') (hg : X g) : Ej X w' K := h.ch hc (fun k o _ _ hx e => by have e' : k = g := e; subst e'; exact hx hg)
theorem Ej.to {X' : Nat → Prop} (h : Ej X w K) (hX : ∀ k, k < w.heap.size → X' k → X k) : Ej X' w K := by
 have hP : ∀ k, k < w.heap.size → KP X K k → KP X' K k := fun k hk hp => ⟨fun hx => hp.1 (hX k hk hx), hp.2⟩
 refine ⟨h.zn, h.z4, h.z5, h.z6, h.o4, h.o5, h.o6, fun k hk hx => ?_, h.ne, h.fa.mono hP, fun x hx => (h.md x hx).mono hP, h.ini.mono hP⟩
 have hlt : k < w.heap.size := by
  rcases hk with e | e | e
  {obtain ⟨_, cur, hh⟩ := Aw h.o4 k e; exact Ac hh}
  {obtain ⟨_, cur, hh⟩ := Aw h.o5 k e; exact Ac hh}
  {obtain ⟨_, cur, hh⟩ := Aw h.o6 k e; exact Ac hh}
 exact h.nx k hk (hX k hlt hx)
theorem Ej.freshP (h : Ej X w K) (hX : ∀ k, X k → k < w.heap.size) {k : Nat} (hk : w.heap.size ≤ k) : KP X K k := by
 refine ⟨fun hx => by have := hX k hx; omega, fun e => ?_, fun e => ?_, fun e => ?_⟩
 {obtain ⟨_, cur, hh⟩ := Aw h.o4 k e; have := Ac hh; omega}
 {obtain ⟨_, cur, hh⟩ := Aw h.o5 k e; have := Ac hh; omega}
 {obtain ⟨_, cur, hh⟩ := Aw h.o6 k e; have := Ac hh; omega}
theorem Ej.ne6 (h : Ej X w K) {k : Nat} (e : K.v4.ownBlock = some k ∨ K.v5.ownBlock = some k) : K.v6.ownBlock ≠ some k := by
 rcases e with e | e
 {obtain ⟨_, cur, hh⟩ := Aw h.o4 k e; exact Bu h.o6 hh (by decide)}
 {obtain ⟨_, cur, hh⟩ := Aw h.o5 k e; exact Bu h.o6 hh (by decide)}
theorem Ml {v v' : Value} {n k : Nat} (hv : v'.ownBlock = v.ownBlock ∨ v'.ownBlock = some n) (hk : k < n) (h : v.ownBlock ≠ some k) : v'.ownBlock ≠ some k := by
 rcases hv with hv | hv
 {rw [hv]; exact h}
 {rw [hv]; intro e; have := Option.some.inj e; omega}
theorem Ej.push4 (h : Ej X w K) (hX : ∀ k, X k → k < w.heap.size) {a : Option Addr} {c : Nat} {v : Vr} (hr : w'.ownsRow 0 64 4 (.slice a (K.fs.length + 1) c) (K.fs.length + 1) (K.fs.flatMap Vr.cells ++ v.cells)) (hc : Ch (fun k _ => K.v4.ownBlock = some k) w w')
 (hv : (Value.slice a (K.fs.length + 1) c).ownBlock = K.v4.ownBlock ∨ (Value.slice a (K.fs.length + 1) c).ownBlock = some w.heap.size) (hz : G0 v) (hl : K.fs.length < 40) : Ej X w' { K with f4 := a, fs := K.fs ++ [v], c4 := c } := by
 have e0 : (K.fs ++ [v]).length = K.fs.length + 1 := by rw [List.length_append]; rfl
 have ev : KD.v4 { K with f4 := a, fs := K.fs ++ [v], c4 := c } = .slice a (K.fs.length + 1) c := by unfold KD.v4; rw [e0]
 have hP : ∀ k, k < w.heap.size → KP X K k → KP X { K with f4 := a, fs := K.fs ++ [v], c4 := c } k := fun k hk hp => ⟨hp.1, by rw [ev]; exact Ml hv hk hp.2.1, hp.2.2.1, hp.2.2.2⟩
 have hS : ∀ k (o : Obj), k < w.heap.size → w.heap[k]? = some o → KP X K k → ¬ (K.v4.ownBlock = some k) := fun k o _ _ hp => hp.2.1
 refine ⟨h.zn, ⟨by show (K.fs ++ [v]).length ≤ 40; omega, fun u hu => ?_⟩, h.z5, h.z6, ?_, An h.o5 hc (fun k cur e _ _ e' => h.ne k e' e), An h.o6 hc (fun k cur e _ _ e' => h.ne6 (.inl e') e), fun k hk hx => ?_, fun k e e' => ?_,
  (h.fa.mono (P' := fun k => KP X K k ∧ k < w.heap.size) (fun k hk hp => ⟨hp, hk⟩)).ch hc (fun k o h1 h2 hp => hS k o h1 h2 hp.1) |>.mono (fun k _ hp => hP k hp.2 hp.1),
  fun x hx => (((h.md x hx).mono (P' := fun k => KP X K k ∧ k < w.heap.size) (fun k hk hp => ⟨hp, hk⟩)).ch hc (fun k o h1 h2 hp => hS k o h1 h2 hp.1)).mono (fun k _ hp => hP k hp.2 hp.1),
  ((h.ini.mono (P' := fun k => KP X K k ∧ k < w.heap.size) (fun k hk hp => ⟨hp, hk⟩)).ch hc (fun k o h1 h2 hp => hS k o h1 h2 hp.1)).mono (fun k _ hp => hP k hp.2 hp.1)⟩
 {rcases List.mem_append.1 hu with hu | hu
  {exact h.z4.2 u hu}
  {simp at hu; rw [hu]; exact hz}}
 {rw [ev]
  show w'.ownsRow 0 64 4 _ (K.fs ++ [v]).length ((K.fs ++ [v]).flatMap Vr.cells)
  rw [e0, List.flatMap_append, List.flatMap_singleton]
  exact hr}
 {rw [ev] at hk
  rcases hk with hk | hk
  {rcases hv with hv | hv
   {rw [hv] at hk; exact h.nx k (.inl hk) hx}
   {rw [hv] at hk; have := Option.some.inj hk; have := hX k hx; omega}}
  {exact h.nx k (.inr hk) hx}}
 {rw [ev] at e
  rcases hv with hv | hv
  {rw [hv] at e; exact h.ne k e e'}
  {rw [hv] at e
   obtain ⟨_, cur, hh⟩ := Aw h.o5 k e'
   have := Ac hh
   have := Option.some.inj e
   omega}}
theorem Ej.push5 (h : Ej X w K) (hX : ∀ k, X k → k < w.heap.size) {a : Option Addr} {c : Nat} {v : Vr} (hr : w'.ownsRow 0 64 4 (.slice a (K.ss.length + 1) c) (K.ss.length + 1) (K.ss.flatMap Vr.cells ++ v.cells)) (hc : Ch (fun k _ => K.v5.ownBlock = some k) w w')
 (hv : (Value.slice a (K.ss.length + 1) c).ownBlock = K.v5.ownBlock ∨ (Value.slice a (K.ss.length + 1) c).ownBlock = some w.heap.size) (hz : G0 v) (hl : K.ss.length < 40) : Ej X w' { K with f5 := a, ss := K.ss ++ [v], c5 := c } := by
 have e0 : (K.ss ++ [v]).length = K.ss.length + 1 := by rw [List.length_append]; rfl
 have ev : KD.v5 { K with f5 := a, ss := K.ss ++ [v], c5 := c } = .slice a (K.ss.length + 1) c := by unfold KD.v5; rw [e0]
 have hP : ∀ k, k < w.heap.size → KP X K k → KP X { K with f5 := a, ss := K.ss ++ [v], c5 := c } k := fun k hk hp => ⟨hp.1, hp.2.1, by rw [ev]; exact Ml hv hk hp.2.2.1, hp.2.2.2⟩
 have hS : ∀ k (o : Obj), k < w.heap.size → w.heap[k]? = some o → KP X K k → ¬ (K.v5.ownBlock = some k) := fun k o _ _ hp => hp.2.2.1
 refine ⟨h.zn, h.z4, ⟨by show (K.ss ++ [v]).length ≤ 40; omega, fun u hu => ?_⟩, h.z6, An h.o4 hc (fun k cur e _ _ e' => h.ne k e e'), ?_, An h.o6 hc (fun k cur e _ _ e' => h.ne6 (.inr e') e), fun k hk hx => ?_, fun k e e' => ?_,
  (h.fa.mono (P' := fun k => KP X K k ∧ k < w.heap.size) (fun k hk hp => ⟨hp, hk⟩)).ch hc (fun k o h1 h2 hp => hS k o h1 h2 hp.1) |>.mono (fun k _ hp => hP k hp.2 hp.1),
  fun x hx => (((h.md x hx).mono (P' := fun k => KP X K k ∧ k < w.heap.size) (fun k hk hp => ⟨hp, hk⟩)).ch hc (fun k o h1 h2 hp => hS k o h1 h2 hp.1)).mono (fun k _ hp => hP k hp.2 hp.1),
  ((h.ini.mono (P' := fun k => KP X K k ∧ k < w.heap.size) (fun k hk hp => ⟨hp, hk⟩)).ch hc (fun k o h1 h2 hp => hS k o h1 h2 hp.1)).mono (fun k _ hp => hP k hp.2 hp.1)⟩
 {rcases List.mem_append.1 hu with hu | hu
  {exact h.z5.2 u hu}
  {simp at hu; rw [hu]; exact hz}}
 {rw [ev]
  show w'.ownsRow 0 64 4 _ (K.ss ++ [v]).length ((K.ss ++ [v]).flatMap Vr.cells)
  rw [e0, List.flatMap_append, List.flatMap_singleton]
  exact hr}
 {rw [ev] at hk
  rcases hk with hk | hk | hk
  {exact h.nx k (.inl hk) hx}
  {rcases hv with hv | hv
   {rw [hv] at hk; exact h.nx k (.inr (.inl hk)) hx}
   {rw [hv] at hk; have := Option.some.inj hk; have := hX k hx; omega}}
  {exact h.nx k (.inr (.inr hk)) hx}}
 {rw [ev] at e'
  rcases hv with hv | hv
  {rw [hv] at e'; exact h.ne k e e'}
  {rw [hv] at e'
   obtain ⟨_, cur, hh⟩ := Aw h.o4 k e
   have := Ac hh
   have := Option.some.inj e'
   omega}}
theorem Ej.push6 (h : Ej X w K) (hX : ∀ k, X k → k < w.heap.size) {a : Option Addr} {c : Nat} {x : Md} (hr : w'.ownsRow 0 29 9 (.slice a (K.ms.length + 1) c) (K.ms.length + 1) (K.ms.flatMap (fun x => x.m.cells) ++ x.m.cells)) (hc : Ch (fun k _ => K.v6.ownBlock = some k) w w')
 (hv : (Value.slice a (K.ms.length + 1) c).ownBlock = K.v6.ownBlock ∨ (Value.slice a (K.ms.length + 1) c).ownBlock = some w.heap.size) (hx : E8 (KP X K) w x) (hl : K.ms.length < 40) : Ej X w' { K with f6 := a, ms := K.ms ++ [x], c6 := c } := by
 have e0 : (K.ms ++ [x]).length = K.ms.length + 1 := by rw [List.length_append]; rfl
 have ev : KD.v6 { K with f6 := a, ms := K.ms ++ [x], c6 := c } = .slice a (K.ms.length + 1) c := by unfold KD.v6; rw [e0]
 have hP : ∀ k, k < w.heap.size → KP X K k → KP X { K with f6 := a, ms := K.ms ++ [x], c6 := c } k := fun k hk hp => ⟨hp.1, hp.2.1, hp.2.2.1, by rw [ev]; exact Ml hv hk hp.2.2.2⟩
 have hS : ∀ k (o : Obj), k < w.heap.size → w.heap[k]? = some o → KP X K k → ¬ (K.v6.ownBlock = some k) := fun k o _ _ hp => hp.2.2.2
 have hm : ∀ y, E8 (KP X K) w y → E8 (KP X { K with f6 := a, ms := K.ms ++ [x], c6 := c }) w' y := fun y hy => ((hy.mono (P' := fun k => KP X K k ∧ k < w.heap.size) (fun k hk hp => ⟨hp, hk⟩)).ch hc (fun k o h1 h2 hp => hS k o h1 h2 hp.1)).mono (fun k _ hp => hP k hp.2 hp.1)
 refine ⟨h.zn, h.z4, h.z5, by show (K.ms ++ [x]).length ≤ 40; omega, An h.o4 hc (fun k cur e _ _ e' => h.ne6 (.inl e) e'), An h.o5 hc (fun k cur e _ _ e' => h.ne6 (.inr e) e'), ?_, fun k hk hx => ?_, h.ne,
  (h.fa.mono (P' := fun k => KP X K k ∧ k < w.heap.size) (fun k hk hp => ⟨hp, hk⟩)).ch hc (fun k o h1 h2 hp => hS k o h1 h2 hp.1) |>.mono (fun k _ hp => hP k hp.2 hp.1),
  fun y hy => ?_,
  ((h.ini.mono (P' := fun k => KP X K k ∧ k < w.heap.size) (fun k hk hp => ⟨hp, hk⟩)).ch hc (fun k o h1 h2 hp => hS k o h1 h2 hp.1)).mono (fun k _ hp => hP k hp.2 hp.1)⟩
 {rw [ev]
  show w'.ownsRow 0 29 9 _ (K.ms ++ [x]).length ((K.ms ++ [x]).flatMap (fun x => x.m.cells))
  rw [e0, List.flatMap_append, List.flatMap_singleton]
  exact hr}
 {rw [ev] at hk
  rcases hk with hk | hk | hk
  {exact h.nx k (.inl hk) hx}
  {exact h.nx k (.inr (.inl hk)) hx}
  {rcases hv with hv | hv
   {rw [hv] at hk; exact h.nx k (.inr (.inr hk)) hx}
   {rw [hv] at hk; have := Option.some.inj hk; have := hX k hx; omega}}}
 {rcases List.mem_append.1 hy with hy | hy
  {exact hm y (h.md y hy)}
  {simp at hy; rw [hy]; exact hm x hx}}
theorem Ej.setI (h : Ej X w K) {b : Nat} {x : Md} (hi : Hs (KP X K) w (some (b, x))) : Ej X w { K with ini := some (b, x) } :=
 ⟨h.zn, h.z4, h.z5, h.z6, h.o4, h.o5, h.o6, h.nx, h.ne, h.fa, h.md, hi⟩
theorem Ej.setN (h : Ej X w K) {nm : ByteArray} (hz : nm.size ≤ 20000) : Ej X w { K with name := nm } := ⟨⟨hz, h.zn.2⟩, h.z4, h.z5, h.z6, h.o4, h.o5, h.o6, h.nx, h.ne, h.fa, h.md, h.ini⟩
theorem Ej.setS (h : Ej X w K) {nm : ByteArray} (hz : nm.size ≤ 20000) : Ej X w { K with sup := nm } := ⟨⟨h.zn.1, hz, h.zn.2.2⟩, h.z4, h.z5, h.z6, h.o4, h.o5, h.o6, h.nx, h.ne, h.fa, h.md, h.ini⟩
theorem Ej.setF (h : Ej X w K) {fa : Option Addr} {l : List ByteArray} {fc : Nat} (hz : l.length ≤ 41 ∧ ∀ s ∈ l, s.size ≤ 20000) (hr : A5 (KP X K) w fa l.length fc (l.map .string)) : Ej X w { K with fa := fa, faces := l, fc := fc } :=
 ⟨⟨h.zn.1, h.zn.2.1, hz⟩, h.z4, h.z5, h.z6, h.o4, h.o5, h.o6, h.nx, h.ne, hr, h.md, h.ini⟩
end
theorem Ej.new (X : Nat → Prop) (w : World) (face : Bool) (l c : Int) : Ej X w ⟨⟨#[]⟩, ⟨#[]⟩, face, none, [], 0, none, [], 0, none, [], 0, none, [], 0, none, l, c⟩ :=
 ⟨⟨Nat.zero_le _, Nat.zero_le _, Nat.zero_le _, fun s hs => by cases hs⟩, ⟨Nat.zero_le _, fun s hs => by cases hs⟩, ⟨Nat.zero_le _, fun s hs => by cases hs⟩, Nat.zero_le _, World.ownsRow_nil _ _ _ _, World.ownsRow_nil _ _ _ _, World.ownsRow_nil _ _ _ _,
   (fun k hk => by rcases hk with hk | hk | hk <;> cases hk), (fun k hk => by cases hk), .nil _ _ _, (fun x hx => by cases hx), trivial⟩
section
variable {w0 w : World} {g : Nat} {L : List Tk} {a b c d : Int}
theorem Xj (w : World) (v : Value) (deep : Int) : Calls Tryz.prog 60 #[v, .int .i64 (-1), .int .i64 deep] w fun e w' => e = .returned (.tuple #[.slice none 0 0, .int .i64 (-1)]) ∧ w = w' := by
 go_in
 go_wp2
 go_loopg [6, 7, 8, 1, 9, 10] 0 (fun gg s6 s7 s8 s1 s9 s10 wr => s1 = .int .i64 (-1) ∧ s8 = .slice none 0 0 ∧ Hid (w = wr))
 case atStart => exact ⟨rfl, rfl, Aa rfl⟩
 case round =>
  obtain ⟨rfl, rfl, HE⟩ := hrel
  go_wp2
  refine bodyPost_ret (v := .tuple #[.slice none 0 0, .int .i64 (-1)]) (by simp [results, Tryz.results60, go_sem]) rfl ?_
  exact ⟨rfl, HE.out⟩
theorem Ac1 {p : Prop} (h : p := by
 go_wp2
 refine bodyPost_ret (v := .tuple #[.slice none 0 0, .int .i64 (-1)]) (by simp [results, Tryz.results130, go_sem]) rfl ?_
 exact HO.out
 ) : p := h
theorem Ac2 {p : Prop} (h : p := by
 have hx : Gs L z ⟨#[123]⟩ = -1 := if_neg hne.out
 rw [hx] at hon
 clear hx
 go_wp2_with fail
 refine hon.mono ?_
 rintro e w3 ⟨rfl, c3, d3, hT3, hc3, hq3⟩
 have HO := Aa (show Ip w0 w g L a b c d z (.returned (.tuple #[.slice none 0 0, .int .i64 (-1)])) w3 from ⟨.nil, none, 0, -1, rfl, .nil _ _, c3, d3, hT3, hc3, .inl rfl⟩)
 clear hT3 hc3 hq3 hon
 go_wp2_with fail
 refine (Xj _ _ _).mono ?_
 rintro e w4 ⟨rfl, rfl⟩
 exact Ac1
 ) : p := h
theorem Q6 {deep : Int} (hI : deep ≤ 8 → Jn deep) (hd0 : 0 ≤ deep) (hd9 : deep ≤ 9) : Q4 deep := by
 intro w0 w g L a b c d h hL z hz hz9
 have HL := Aa hL
 have hLL := hL.1
 have HI := Aa hI
 have HT := Aa h
 have htw := A6 h z
 have hon := Da h hz (by omega) ⟨#[123]⟩ (by decide)
 obtain ⟨W, hW⟩ := Ax (Ar L z)
 rw [hW] at htw
 have HW := Aa hW
 clear h hL hI hW
 by_cases z0 : 0 ≤ z
 {have dz : decide (z ≥ 0) = true := decide_eq_true z0
  by_cases hb : W = ⟨#[123]⟩
  {have e1 := lit _ [123] hb
   have HB := Aa hb
   clear hb
   by_cases h8 : deep ≤ 8
   {have d8 : decide (deep > 8) = false := decide_eq_false (by omega)
    have hx : Gs L z ⟨#[123]⟩ = z + 1 := if_pos ⟨z0, HW.out.trans HB.out⟩
    rw [hx] at hon
    have HI8 := Aa (HI.out h8)
    clear hx HI
    go_in
    go_wp2_with fail
    refine htw.mono ?_
    rintro e wx ⟨rfl, rfl⟩
    clear htw
    go_wp2_with fail
    refine hon.mono ?_
    rintro e w3 ⟨rfl, c3, d3, hT3, hc3, hq3⟩
    have hk := HI8.out hT3 HL.out (z := z + 1) (by omega) (by omega)
    have HC3 := Aa hc3
    have HQ3 := Aa hq3
    clear hT3 hc3 hq3 hon
    go_wp2_with fail
    refine hk.mono ?_
    rintro e w4 ⟨t, ao, cap, r, rfl, hb4, hp4⟩
    have HO := Aa (show Ip w0 w g L a b c d z (.returned (.tuple #[.slice ao t.len cap, .int .i64 r])) w4 from ⟨t, ao, cap, r, rfl, hb4.up HC3.out.size, He.then HC3.out HQ3.out hp4⟩)
    clear hb4 hp4 hk
    go_wp2
    refine bodyPost_ret (v := .tuple #[.slice ao t.len cap, .int .i64 r]) (by simp [results, Tryz.results130, go_sem]) rfl ?_
    exact HO.out}
   {have d8 : decide (deep > 8) = true := decide_eq_true (by omega)
    clear hon
    go_in
    go_wp2_with fail
    refine htw.mono ?_
    rintro e wx ⟨rfl, rfl⟩
    clear htw
    go_wp2_with fail
    refine (B9 HT.out z 13).mono ?_
    rintro e w3 ⟨rfl, c3, d3, hT3, hc3⟩
    have HO := Aa (show Ip w0 w g L a b c d z (.returned (.tuple #[.slice none 0 0, .int .i64 (-1)])) w3 from ⟨.nil, none, 0, -1, rfl, .nil _ _, c3, d3, hT3, hc3, .inl rfl⟩)
    clear hT3 hc3
    exact Ac1}}
  {have e1 := Bf _ [123] hb
   have hne := Aa (show ¬ (0 ≤ z ∧ Ar L z = ⟨#[123]⟩) from fun h => hb (HW.out.symm.trans h.2))
   clear hb
   go_in
   go_wp2_with fail
   refine htw.mono ?_
   rintro e wx ⟨rfl, rfl⟩
   clear htw
   exact Ac2}}
 {have dz : decide (z ≥ 0) = false := decide_eq_false z0
  have hne := Aa (show ¬ (0 ≤ z ∧ Ar L z = ⟨#[123]⟩) from fun h => z0 h.1)
  go_in
  exact Ac2}
end
end Go.Proofs.YtgjpgfedlgdjhaaGreatDoor
end
