/- HeapActs answers true, walked. -/
import Derived.Test.YtldhlaabdhpdiaaP
import Derived.Deep.CutBlock
import Derived.Deep.DeepCutAuto
import Derived.Deep.RegionHeld3
set_option linter.unusedVariables false
namespace Go.Proofs.Ytldhlaabdhpdiaa
open Go.RowKit Go.W
open Go.Maps (Keyed)

set_option maxRecDepth 100000 in
theorem acts_big (ao : Option Addr) (len cap : Nat) (w : World) (h60 : 60 < len) (hm : len ≤ 9223372036854775807) :
    Calls Try.prog 6 #[.slice ao len cap] w fun e w' => e = .returned (.bool true) ∧ Ch No w w' := by
  go_enter Try.func6, Try.ntmps6
  go_wp2_with fail
  refine (awake_any _).mono ?_
  rintro e w1 ⟨rfl, c1⟩
  go_wp2_with fail
  refine (awake_any _).mono ?_
  rintro e w2 ⟨rfl, c2⟩
  go_wp2_with fail
  go_ret
  exact ⟨rfl, c1.trans c2⟩

/-- what holds at a round's head -/
structure Two (w wr : World) (hb rb k : Nat) (ts : List Th) (n : Nat) (v : Value) (sites : List Int) (types : List ByteArray) (L : List RCell) (v1 v2 v3 : Value) : Prop where
  heap : HeapAt wr hb ts n v
  ref : RefAt wr rb sites types L v1 v2 v3
  rel : Rel ts sites types L
  ch : Ch No w wr
  h1 : w.heap.size ≤ hb
  h2 : w.heap.size ≤ rb
  n : n ≤ k
  ts : ts.length ≤ k
  L : L.length ≤ k

theorem keep37 {hb : Nat} {w w' : World} (c : Ch (HS hb) w w') {k : Nat} {cs : Array Value} {fz : Nat × Nat} (h : w.heap[k]? = some (.cells cs 37 fz)) : w'.heap[k]? = some (.cells cs 37 fz) :=
  c.keep _ _ h (fun h => by have := h.2; simp [tag] at this)
theorem keep37r {hb : Nat} {w w' : World} (c : Ch (RS hb) w w') {k : Nat} {cs : Array Value} {fz : Nat × Nat} (h : w.heap[k]? = some (.cells cs 37 fz)) : w'.heap[k]? = some (.cells cs 37 fz) :=
  c.keep _ _ h (fun h => by have := h.2; simp [tag] at this)

theorem keepS {w : World} {A : Nat} {x : Act} (h : w.heap[A]? = some (.cells #[.int .i64 x.kind, .int .i64 x.ref, .int .i64 x.place, .string x.t, .int .i64 x.v.1, .int .i64 x.v.2] 37 (0, 0))) :
    w.cell? ⟨A, 1, none⟩ = some (.int .i64 x.ref) ∧ w.cell? ⟨A, 2, none⟩ = some (.int .i64 x.place) ∧ w.cell? ⟨A, 4, none⟩ = some (.int .i64 x.v.1) ∧ w.cell? ⟨A, 5, none⟩ = some (.int .i64 x.v.2) :=
  ⟨cellAt h 1, cellAt h 2, cellAt h 4, cellAt h 5⟩

theorem HeapAt.drewN {w : World} {hb : Nat} {ts : List Th} {n : Nat} {v : Value} (h : HeapAt w hb ts n v) (m : Nat) : HeapAt (w.drewN m) hb ts n v := h.no ((Ch.refl No w).drewN m)
theorem RefAt.drewN {w : World} {rb : Nat} {sites : List Int} {types : List ByteArray} {L : List RCell} {v1 v2 v3 : Value} (h : RefAt w rb sites types L v1 v2 v3) (m : Nat) : RefAt (w.drewN m) rb sites types L v1 v2 v3 := h.no ((Ch.refl No w).drewN m)

/-- what both heaps tell at a thing and a place -/
structure Tells (hb rb : Nat) (ts : List Th) (n : Nat) (v : Value) (sites : List Int) (types : List ByteArray) (L : List RCell) (v1 v2 v3 : Value) (ref place : Int) (A B : Int × Int) (ok : Bool) (T : ByteArray) (S : Int) : Prop where
  get : ∀ w, HeapAt w hb ts n v → Calls Try.prog 12 #[.pointer (some ⟨hb, 0, none⟩), .int .i64 ref, .int .i64 place] w fun e w' => e = .returned (.tuple #[.agg #[.int .i64 A.1, .int .i64 A.2], .bool ok]) ∧ Ch No w w'
  rget : ∀ w, RefAt w rb sites types L v1 v2 v3 → Calls Try.prog 20 #[.pointer (some ⟨rb, 0, none⟩), .int .i64 ref, .int .i64 place, .bool false] w fun e w' => e = .returned (.tuple #[.agg #[.int .i64 A.1, .int .i64 A.2], .bool ok]) ∧ Ch No w w'
  elm : ∀ w, HeapAt w hb ts n v → Calls Try.prog 13 #[.pointer (some ⟨hb, 0, none⟩), .int .i64 ref, .int .i64 place] w fun e w' => e = .returned (.tuple #[.agg #[.int .i64 B.1, .int .i64 B.2], .bool ok]) ∧ Ch No w w'
  relm : ∀ w, RefAt w rb sites types L v1 v2 v3 → Calls Try.prog 20 #[.pointer (some ⟨rb, 0, none⟩), .int .i64 ref, .int .i64 place, .bool true] w fun e w' => e = .returned (.tuple #[.agg #[.int .i64 B.1, .int .i64 B.2], .bool ok]) ∧ Ch No w w'
  typ : ∀ w, HeapAt w hb ts n v → Calls Try.prog 17 #[.pointer (some ⟨hb, 0, none⟩), .int .i64 ref] w fun e w' => e = .returned (.string T) ∧ w' = w
  rtyp : ∀ w, RefAt w rb sites types L v1 v2 v3 → Calls Try.prog 21 #[.pointer (some ⟨rb, 0, none⟩), .int .i64 ref] w fun e w' => e = .returned (.string T) ∧ w' = w
  site : ∀ w, HeapAt w hb ts n v → Calls Try.prog 15 #[.pointer (some ⟨hb, 0, none⟩), .int .i64 ref] w fun e w' => e = .returned (.int .i64 S) ∧ w' = w
  rsite : ∀ w, RefAt w rb sites types L v1 v2 v3 → Calls Try.prog 22 #[.pointer (some ⟨rb, 0, none⟩), .int .i64 ref] w fun e w' => e = .returned (.int .i64 S) ∧ w' = w
  len : ∀ w, HeapAt w hb ts n v → Calls Try.prog 16 #[.pointer (some ⟨hb, 0, none⟩)] w fun e w' => e = .returned (.int .i64 sites.length) ∧ w' = w

theorem sym {P : Program} {f : FuncId} {args : Array Value} {w : World} {v : Value} (h : Calls P f args w fun e w' => e = .returned v ∧ w = w') : Calls P f args w fun e w' => e = .returned v ∧ w' = w := h.mono fun _ _ h => ⟨h.1, h.2.symm⟩

theorem tells {hb rb : Nat} {ts : List Th} {n : Nat} {v : Value} {sites : List Int} {types : List ByteArray} {L : List RCell} {v1 v2 v3 : Value} (hrel : Rel ts sites types L) (ref place : Int) (hp : I64 place) (hl : L.length ≤ 10000) :
    ∃ A B ok T S, Tells hb rb ts n v sites types L v1 v2 v3 ref place A B ok T S := by
  have hlen : sites.length = ts.length := by rw [hrel.sites, List.length_map]
  cases hv : val ts ref with
  | none =>
    have hir : isRef sites ref = false := by rw [hrel.isRef, hv]; rfl
    refine ⟨(0, 0), (0, 0), false, ⟨#[]⟩, -1, ?_, ?_, ?_, ?_, ?_, ?_, ?_, ?_, ?_⟩
    · exact fun w h => get_none h ref place hv
    · intro w h
      have := rget_plain h ref place hl
      rw [hrel.none ref hv, hir] at this
      exact this
    · exact fun w h => elem_none h ref place hv
    · intro w h
      have := rget_elem h ref place hl
      rw [hrel.none ref hv, hir] at this
      exact this
    · exact fun w h => sym (type_none h ref hv)
    · exact fun w h => rtype_none h ref hir
    · exact fun w h => sym (site_none h ref hv)
    · exact fun w h => rsite_none h ref hir
    · exact fun w h => by rw [hlen]; exact sym (len_any h)
  | some z =>
    have hir : isRef sites ref = true := by rw [hrel.isRef, hv]; rfl
    obtain ⟨h1, h2, h3⟩ := val_some hv
    refine ⟨(z.fs place).getD (0, 0), z.el (place % 4).toNat, true, z.t, z.site, ?_, ?_, ?_, ?_, ?_, ?_, ?_, ?_, ?_⟩
    · exact fun w h => get_some h ref place z hv hp
    · intro w h
      have := rget_plain h ref place hl
      rw [hrel.fld ref z hv, hir] at this
      exact this
    · exact fun w h => elem_some h ref place z hv
    · intro w h
      have := rget_elem h ref place hl
      rw [hrel.elm ref z hv _ (by omega) (by omega), hir] at this
      exact this
    · exact fun w h => sym (type_some h ref z hv)
    · exact fun w h => rtype_some h ref z.t hir (by rw [hrel.types, List.getElem?_map, h3]; rfl)
    · exact fun w h => sym (site_some h ref z hv)
    · exact fun w h => rsite_some h ref z.site hir (by rw [hrel.sites, List.getElem?_map, h3]; rfl)
    · exact fun w h => by rw [hlen]; exact sym (len_any h)

set_option maxHeartbeats 8000000 in
set_option maxRecDepth 100000 in
theorem acts_small (v : Value) (acts : List Act) (w : World) (h60 : acts.length ≤ 60) (hrow : RowAt w v 6 (acts.map Act.cells)) (hok : ∀ a ∈ acts, a.ok) :
    Calls Try.prog 6 #[v] w fun e w' => e = .returned (.bool true) ∧ Ch No w w' := by
  have hrow0 := hrow
  obtain ⟨ao, cap, rfl, hcap, hmax, _, _⟩ := hrow
  obtain ⟨len, hlen⟩ : ∃ len, (acts.map Act.cells).length = len := ⟨_, rfl⟩
  rw [hlen] at hrow0 hcap ⊢
  have HL : Hid (acts.length = len) := hid (by rw [← hlen, List.length_map])
  have h60 : len ≤ 60 := by have := HL.out; omega
  clear hlen
  go_enter Try.func6, Try.ntmps6
  go_wp2_with fail
  refine (awake_any _).mono ?_
  rintro e w1 ⟨rfl, c1⟩
  cases hd0 : decide (60 < len) with
  | true => simp at hd0; omega
  | false =>
  go_wp2_with fail
  refine (new_any _).mono ?_
  rintro e w2 ⟨rfl, h2, c2⟩
  go_wp2_with fail
  have hs1 := c1.size
  have hs2 := c2.size
  obtain ⟨hb, hhb⟩ : ∃ hb, hb = w1.heap.size := ⟨_, rfl⟩
  obtain ⟨rb, hrb⟩ : ∃ rb, rb = w2.heap.size := ⟨_, rfl⟩
  have st : Two w (w2.alloc (.cells #[.slice none 0 0, .slice none 0 0, .slice none 0 0] 45)) hb rb 0 [] 0 (.slice none 0 0) [] [] [] (.slice none 0 0) (.slice none 0 0) (.slice none 0 0) :=
    ⟨by rw [hhb]; exact h2.alloc _, ⟨by rw [hrb]; exact heap_alloc_new _ _, World.ownsRow_nil _ _ _ _, World.ownsRow_nil _ _ _ _, World.ownsRow_nil _ _ _ _, rfl⟩, Rel.start, (c1.trans c2).alloc _, by omega, by omega, Nat.le_refl _, Nat.le_refl _, Nat.le_refl _⟩
  rw [← hhb, ← hrb]
  clear hhb hrb h2 c1 c2 hs1 hs2
  go_loopw [5] (fun s5 wr => ∃ (k n : Nat) (ts : List Th) (v : Value) (sites : List Int) (types : List ByteArray) (L : List RCell) (v1 v2 v3 : Value), k ≤ len ∧ s5 = .int .i64 k ∧ Two w wr hb rb k ts n v sites types L v1 v2 v3)
    (fun s5 _ => len - (intOf s5).toNat)
  case atStart => exact ⟨0, 0, [], _, [], [], [], _, _, _, by omega, rfl, st⟩
  case round =>
    clear st
    obtain ⟨k, n, ts, v, sites, types, L, v1, v2, v3, hk, rfl, st⟩ := hrel
    cases hd : decide (k < len) with
    | true =>
      have hkl : k < len := by simpa using hd
      obtain ⟨x, hx⟩ : ∃ x, acts[k]? = some x := ⟨_, List.getElem?_eq_getElem (by have := HL.out; omega)⟩
      obtain ⟨ao', cap', e1, _, _, _, h5⟩ := hrow0.no st.ch
      obtain ⟨b, off, rfl, h7⟩ := h5 (by rw [List.length_map]; have := HL.out; omega)
      simp only [Value.slice.injEq] at e1
      obtain rfl := e1.1
      clear e1
      have hcell := row_cell (h7 k x.cells (by rw [List.getElem?_map, hx]; rfl))
      obtain ⟨q0, q1, q2, q3, q4, q5⟩ := hcell
      have hxo := hok x (List.mem_of_getElem? hx)
      clear h7 h5 hrow0 hx hok
      obtain ⟨wo, rfl⟩ : ∃ wo : World, wo = wr := ⟨_, rfl⟩
      go_upto_block 2 with (fail)
      go_cut [7] from 39 to 91 (fun s7 wc => ∃ (n : Nat) (ts : List Th) (v : Value) (sites : List Int) (types : List ByteArray) (L : List RCell) (v1 v2 v3 : Value), s7 = .bool true ∧ Two w wc hb rb (k + 1) ts n v sites types L v1 v2 v3 ∧
        wc.heap[wo.heap.size]? = some (.cells #[.int .i64 x.kind, .int .i64 x.ref, .int .i64 x.place, .string x.t, .int .i64 x.v.1, .int .i64 x.v.2] 37 (0, 0)))
      case first =>
        have hX := heap_alloc_new wo (.cells #[.int .i64 x.kind, .int .i64 x.ref, .int .i64 x.place, .string x.t, .int .i64 x.v.1, .int .i64 x.v.2] 37)
        cases k0 : ((x.kind : Int) == 0) with
        | true =>
          have hl1 := st.ts
          have hl2 : sites.length ≤ k := by rw [st.rel.sites, List.length_map]; exact st.ts
          have hl3 := st.L
          have hse : sites.length = ts.length := by rw [st.rel.sites, List.length_map]
          have HSE := hid hse
          clear hse
          have hh := (st.heap.alloc (.cells #[.int .i64 x.kind, .int .i64 x.ref, .int .i64 x.place, .string x.t, .int .i64 x.v.1, .int .i64 x.v.2] 37)).drew
          have rr := (st.ref.alloc (.cells #[.int .i64 x.kind, .int .i64 x.ref, .int .i64 x.place, .string x.t, .int .i64 x.v.1, .int .i64 x.v.2] 37)).drew
          have cc := (st.ch.alloc (.cells #[.int .i64 x.kind, .int .i64 x.ref, .int .i64 x.place, .string x.t, .int .i64 x.v.1, .int .i64 x.v.2] 37)).drew
          have hXd : ((wo.alloc (.cells #[.int .i64 x.kind, .int .i64 x.ref, .int .i64 x.place, .string x.t, .int .i64 x.v.1, .int .i64 x.v.2] 37)).drew).heap[wo.heap.size]? = some (.cells #[.int .i64 x.kind, .int .i64 x.ref, .int .i64 x.place, .string x.t, .int .i64 x.v.1, .int .i64 x.v.2] 37 (0, 0)) := hX
          have hHS : ∀ k o, HS hb k o → w.heap.size ≤ k := fun k o h => Nat.le_trans st.h1 h.1
          have hRS : ∀ k o, RS rb k o → w.heap.size ≤ k := fun k o h => Nat.le_trans st.h2 h.1
          go_wp2_with fail
          go_region_held3 (fun w' => w'.cell? ⟨wo.heap.size, 2, none⟩ = some (.int .i64 x.place) ∧ w'.cell? ⟨wo.heap.size, 3, none⟩ = some (.string x.t))
            (first | go_keep | exact ⟨cellAt (keep37 cA hXd) 2, cellAt (keep37 cA hXd) 3⟩ | exact ⟨cellAt (keep37r cB (keep37 cA hXd)) 2, cellAt (keep37r cB (keep37 cA hXd)) 3⟩)
            (first | (go_at_call 9; refine (make_any hh x.place x.t (by omega)).mono ?_; rintro e w1 ⟨v', rfl, hA, cA⟩) | (go_at_call 18; refine (rmake_any (rr.hs cA) x.place x.t (by omega)).mono ?_; rintro e w2 ⟨v1', v2', rfl, rB, cB⟩))
          go_wp2_with fail
          go_meet
          case rel => exact ⟨n, _, v', _, _, L, v1', v2', v3, by rw [HSE.out]; simp, ⟨hA.rs cB, rB, st.rel.make _ _ _, Ch.noTrans (Ch.noTrans cc cA hHS) cB hRS, st.h1, st.h2, by have := st.n; omega, by simp; omega, by omega⟩, keep37r cB (keep37 cA hXd)⟩
        | false =>
          cases k1 : ((x.kind : Int) == 1) with
          | true =>
            have hl1 := st.ts
            have hl2 : sites.length ≤ k := by rw [st.rel.sites, List.length_map]; exact st.ts
            have hl3 := st.L
            have hse : sites.length = ts.length := by rw [st.rel.sites, List.length_map]
            have HSE := hid hse
            clear hse
            have hh := (st.heap.alloc (.cells #[.int .i64 x.kind, .int .i64 x.ref, .int .i64 x.place, .string x.t, .int .i64 x.v.1, .int .i64 x.v.2] 37)).drew
            have rr := (st.ref.alloc (.cells #[.int .i64 x.kind, .int .i64 x.ref, .int .i64 x.place, .string x.t, .int .i64 x.v.1, .int .i64 x.v.2] 37)).drew
            have cc := (st.ch.alloc (.cells #[.int .i64 x.kind, .int .i64 x.ref, .int .i64 x.place, .string x.t, .int .i64 x.v.1, .int .i64 x.v.2] 37)).drew
            have hXd : ((wo.alloc (.cells #[.int .i64 x.kind, .int .i64 x.ref, .int .i64 x.place, .string x.t, .int .i64 x.v.1, .int .i64 x.v.2] 37)).drew).heap[wo.heap.size]? = some (.cells #[.int .i64 x.kind, .int .i64 x.ref, .int .i64 x.place, .string x.t, .int .i64 x.v.1, .int .i64 x.v.2] 37 (0, 0)) := hX
            have hHS : ∀ k o, HS hb k o → w.heap.size ≤ k := fun k o h => Nat.le_trans st.h1 h.1
            have hRS : ∀ k o, RS rb k o → w.heap.size ≤ k := fun k o h => Nat.le_trans st.h2 h.1
            cases hv : val ts x.ref with
            | none =>
              have hir : isRef sites x.ref = false := by rw [st.rel.isRef, hv]; rfl
              have C1 := hid (put_none hh x.ref x.place x.v hv)
              have C2 : ∀ w', RefAt w' rb sites types L v1 v2 v3 → _ := fun w' h' => rput_none h' x.ref x.place false x.v hir
              unfold vv at C1 C2
              have C2 := hid C2
              have HST := hid st
              clear st hir hv
              go_wp2_with fail
              go_region_held3 (fun w' => w'.cell? ⟨wo.heap.size, 1, none⟩ = some (.int .i64 x.ref) ∧ w'.cell? ⟨wo.heap.size, 2, none⟩ = some (.int .i64 x.place) ∧ w'.cell? ⟨wo.heap.size, 4, none⟩ = some (.int .i64 x.v.1) ∧ w'.cell? ⟨wo.heap.size, 5, none⟩ = some (.int .i64 x.v.2))
                (first | go_keep | exact keepS (cA.keep _ _ hXd (fun h => h)) | exact keepS (cB.keep _ _ (cA.keep _ _ hXd (fun h => h)) (fun h => h)))
                (first | (go_at_call 10; refine C1.out.mono ?_; rintro e w1 ⟨rfl, cA⟩) | (go_at_call 19; refine (C2.out _ (rr.no cA)).mono ?_; rintro e w2 ⟨rfl, cB⟩))
              go_wp2_with fail
              go_meet
              case rel => exact ⟨n, ts, v, sites, types, L, v1, v2, v3, rfl, ⟨(hh.no cA).no cB, (rr.no cA).no cB, HST.out.rel, (cc.trans cA).trans cB, HST.out.h1, HST.out.h2, by have := HST.out.n; omega, by omega, by omega⟩, cB.keep _ _ (cA.keep _ _ hXd (fun h => h)) (fun h => h)⟩
            | some z =>
              have hir : isRef sites x.ref = true := by rw [st.rel.isRef, hv]; rfl
              have C1 := hid (put_some hh x.ref x.place x.v z hv hxo.place (by have := st.n; unfold maxLen; omega))
              have C2 : ∀ w', RefAt w' rb sites types L v1 v2 v3 → _ := fun w' h' => rput_plain h' x.ref x.place x.v (by omega) hir
              unfold vv at C1 C2
              have C2 := hid C2
              have HST := hid st
              have HREL := hid (st.rel.put hv x.place x.v)
              have HLL : Hid ((putL L ⟨x.ref, x.place, false, x.v⟩).length ≤ k + 1) := hid (by
                have := List.length_filter_le (fun c : RCell => !c.hit x.ref x.place false) L
                simp only [putL, keepL, List.length_cons]; omega)
              clear st hir hv
              go_wp2_with fail
              go_region_held3 (fun w' => w'.cell? ⟨wo.heap.size, 1, none⟩ = some (.int .i64 x.ref) ∧ w'.cell? ⟨wo.heap.size, 2, none⟩ = some (.int .i64 x.place) ∧ w'.cell? ⟨wo.heap.size, 4, none⟩ = some (.int .i64 x.v.1) ∧ w'.cell? ⟨wo.heap.size, 5, none⟩ = some (.int .i64 x.v.2))
                (first | go_keep | exact keepS (keep37 cA hXd) | exact keepS (keep37r cB (keep37 cA hXd)))
                (first | (go_at_call 10; refine C1.out.mono ?_; rintro e w1 ⟨rfl, hA, cA⟩) | (go_at_call 19; refine (C2.out _ (rr.hs cA)).mono ?_; rintro e w2 ⟨v3', rfl, rB, cB⟩))
              go_wp2_with fail
              go_meet
              case rel => exact ⟨n + 1, _, v, sites, types, _, v1, v2, v3', rfl, ⟨hA.rs cB, rB, HREL.out, Ch.noTrans (Ch.noTrans cc cA hHS) cB hRS, HST.out.h1, HST.out.h2, by have := HST.out.n; omega, by simp [putF, setE]; omega, HLL.out⟩, keep37r cB (keep37 cA hXd)⟩
          | false =>
            cases k2 : ((x.kind : Int) == 2) with
            | true =>
              have hl1 := st.ts
              have hl2 : sites.length ≤ k := by rw [st.rel.sites, List.length_map]; exact st.ts
              have hl3 := st.L
              have hse : sites.length = ts.length := by rw [st.rel.sites, List.length_map]
              have HSE := hid hse
              clear hse
              have hh := (st.heap.alloc (.cells #[.int .i64 x.kind, .int .i64 x.ref, .int .i64 x.place, .string x.t, .int .i64 x.v.1, .int .i64 x.v.2] 37)).drew
              have rr := (st.ref.alloc (.cells #[.int .i64 x.kind, .int .i64 x.ref, .int .i64 x.place, .string x.t, .int .i64 x.v.1, .int .i64 x.v.2] 37)).drew
              have cc := (st.ch.alloc (.cells #[.int .i64 x.kind, .int .i64 x.ref, .int .i64 x.place, .string x.t, .int .i64 x.v.1, .int .i64 x.v.2] 37)).drew
              have hXd : ((wo.alloc (.cells #[.int .i64 x.kind, .int .i64 x.ref, .int .i64 x.place, .string x.t, .int .i64 x.v.1, .int .i64 x.v.2] 37)).drew).heap[wo.heap.size]? = some (.cells #[.int .i64 x.kind, .int .i64 x.ref, .int .i64 x.place, .string x.t, .int .i64 x.v.1, .int .i64 x.v.2] 37 (0, 0)) := hX
              have hHS : ∀ k o, HS hb k o → w.heap.size ≤ k := fun k o h => Nat.le_trans st.h1 h.1
              have hRS : ∀ k o, RS rb k o → w.heap.size ≤ k := fun k o h => Nat.le_trans st.h2 h.1
              cases hv : val ts x.ref with
              | none =>
                have hir : isRef sites x.ref = false := by rw [st.rel.isRef, hv]; rfl
                have C1 := hid (set_none hh x.ref x.place x.v hv)
                have C2 : ∀ w', RefAt w' rb sites types L v1 v2 v3 → _ := fun w' h' => rput_none h' x.ref x.place true x.v hir
                unfold vv at C1 C2
                have C2 := hid C2
                have HST := hid st
                clear st hir hv
                go_wp2_with fail
                go_region_held3 (fun w' => w'.cell? ⟨wo.heap.size, 1, none⟩ = some (.int .i64 x.ref) ∧ w'.cell? ⟨wo.heap.size, 2, none⟩ = some (.int .i64 x.place) ∧ w'.cell? ⟨wo.heap.size, 4, none⟩ = some (.int .i64 x.v.1) ∧ w'.cell? ⟨wo.heap.size, 5, none⟩ = some (.int .i64 x.v.2))
                  (first | go_keep | exact keepS (cA.keep _ _ hXd (fun h => h)) | exact keepS (cB.keep _ _ (cA.keep _ _ hXd (fun h => h)) (fun h => h)))
                  (first | (go_at_call 11; refine C1.out.mono ?_; rintro e w1 ⟨rfl, cA⟩) | (go_at_call 19; refine (C2.out _ (rr.no cA)).mono ?_; rintro e w2 ⟨rfl, cB⟩))
                go_wp2_with fail
                go_meet
                case rel => exact ⟨n, ts, v, sites, types, L, v1, v2, v3, rfl, ⟨(hh.no cA).no cB, (rr.no cA).no cB, HST.out.rel, (cc.trans cA).trans cB, HST.out.h1, HST.out.h2, by have := HST.out.n; omega, by omega, by omega⟩, cB.keep _ _ (cA.keep _ _ hXd (fun h => h)) (fun h => h)⟩
              | some z =>
                have hir : isRef sites x.ref = true := by rw [st.rel.isRef, hv]; rfl
                have C1 := hid (set_some hh x.ref x.place x.v z hv)
                have C2 : ∀ w', RefAt w' rb sites types L v1 v2 v3 → _ := fun w' h' => rput_elem h' x.ref x.place x.v (by omega) hir
                unfold vv at C1 C2
                have C2 := hid C2
                have HST := hid st
                have HREL := hid (st.rel.set hv x.place x.v)
                have HLL : Hid ((putL L ⟨x.ref, (x.place % 4), true, x.v⟩).length ≤ k + 1) := hid (by
                  have := List.length_filter_le (fun c : RCell => !c.hit x.ref (x.place % 4) true) L
                  simp only [putL, keepL, List.length_cons]; omega)
                clear st hir hv
                go_wp2_with fail
                go_region_held3 (fun w' => w'.cell? ⟨wo.heap.size, 1, none⟩ = some (.int .i64 x.ref) ∧ w'.cell? ⟨wo.heap.size, 2, none⟩ = some (.int .i64 x.place) ∧ w'.cell? ⟨wo.heap.size, 4, none⟩ = some (.int .i64 x.v.1) ∧ w'.cell? ⟨wo.heap.size, 5, none⟩ = some (.int .i64 x.v.2))
                  (first | go_keep | exact keepS (keep37 cA hXd) | exact keepS (keep37r cB (keep37 cA hXd)))
                  (first | (go_at_call 11; refine C1.out.mono ?_; rintro e w1 ⟨rfl, hA, cA⟩) | (go_at_call 19; refine (C2.out _ (rr.hs cA)).mono ?_; rintro e w2 ⟨v3', rfl, rB, cB⟩))
                go_wp2_with fail
                go_meet
                case rel => exact ⟨n, _, v, sites, types, _, v1, v2, v3', rfl, ⟨hA.rs cB, rB, HREL.out, Ch.noTrans (Ch.noTrans cc cA hHS) cB hRS, HST.out.h1, HST.out.h2, by have := HST.out.n; omega, by simp [putF, setE]; omega, HLL.out⟩, keep37r cB (keep37 cA hXd)⟩
            | false =>
              have HST := hid st
              clear st
              go_wp2_with fail
              go_meet
              case rel => exact ⟨n, ts, v, sites, types, L, v1, v2, v3, rfl, ⟨HST.out.heap.alloc _, HST.out.ref.alloc _, HST.out.rel, HST.out.ch.alloc _, HST.out.h1, HST.out.h2, by have := HST.out.n; omega, by have := HST.out.ts; omega, by have := HST.out.L; omega⟩, hX⟩
      case rest =>
        clear q0 q1 q2 q3 q4 q5 st
        obtain ⟨n, ts, v, sites, types, L, v1, v2, v3, rfl, st, hX⟩ := hcut
        obtain ⟨⟨A1, A2⟩, ⟨B1, B2⟩, ok, T, S, t⟩ := tells (hb := hb) (rb := rb) (n := n) (v := v) (v1 := v1) (v2 := v2) (v3 := v3) st.rel x.ref x.place hxo.place (by have := st.L; omega)
        have HT := hid t
        have HST := hid st
        have hh := st.heap
        have rr := st.ref
        have cc := st.ch
        have X0 := hid hX
        have z1 := cellAt hX 1
        have z2 := cellAt hX 2
        simp only [List.getElem?_toArray, List.getElem?_cons_succ, List.getElem?_cons_zero] at z1 z2
        clear t st hX
        go_wp2_with fail
        refine (HT.out.get _ hh).mono ?_
        rintro e w3 ⟨rfl, c3⟩
        have hh3 := (hh.no c3).alloc (.cells #[.int .i64 A1, .int .i64 A2] 23)
        have rr3 := (rr.no c3).alloc (.cells #[.int .i64 A1, .int .i64 A2] 23)
        have cc3 := (cc.trans c3).alloc (.cells #[.int .i64 A1, .int .i64 A2] 23)
        have X3 := heapOld (c3.keep _ _ X0.out (fun h => h)) (.cells #[.int .i64 A1, .int .i64 A2] 23)
        have Y3 := heap_alloc_new w3 (.cells #[.int .i64 A1, .int .i64 A2] 23)
        have y1 := cellAt (c3.keep _ _ X0.out (fun h => h)) 1
        have y2 := cellAt (c3.keep _ _ X0.out (fun h => h)) 2
        have s3 := lt_size (c3.keep _ _ X0.out (fun h => h))
        simp only [List.getElem?_toArray, List.getElem?_cons_succ, List.getElem?_cons_zero] at y1 y2
        clear z1 z2 hh rr cc c3
        go_wp2_with fail
        refine (HT.out.rget _ rr3).mono ?_
        rintro e w4 ⟨rfl, c4⟩
        have hh4 := (hh3.no c4).alloc (.cells #[.int .i64 A1, .int .i64 A2] 23)
        have rr4 := (rr3.no c4).alloc (.cells #[.int .i64 A1, .int .i64 A2] 23)
        have cc4 := (cc3.trans c4).alloc (.cells #[.int .i64 A1, .int .i64 A2] 23)
        have X4' := c4.keep _ _ X3 (fun h => h)
        have X4 := heapOld X4' (.cells #[.int .i64 A1, .int .i64 A2] 23)
        have Y4 := heapOld (c4.keep _ _ Y3 (fun h => h)) (.cells #[.int .i64 A1, .int .i64 A2] 23)
        have Z4 := heap_alloc_new w4 (.cells #[.int .i64 A1, .int .i64 A2] 23)
        have z1 := cellAt X4' 1
        have z2 := cellAt X4' 2
        have s4 := lt_size X4'
        simp only [List.getElem?_toArray, List.getElem?_cons_succ, List.getElem?_cons_zero] at z1 z2
        clear y1 y2 hh3 rr3 cc3 c4 X3 Y3 s3 X4'
        go_wp2_with fail
        refine (HT.out.elm _ hh4).mono ?_
        rintro e w5 ⟨rfl, c5⟩
        have hh5 := (hh4.no c5).alloc (.cells #[.int .i64 B1, .int .i64 B2] 23)
        have rr5 := (rr4.no c5).alloc (.cells #[.int .i64 B1, .int .i64 B2] 23)
        have cc5 := (cc4.trans c5).alloc (.cells #[.int .i64 B1, .int .i64 B2] 23)
        have X5' := c5.keep _ _ X4 (fun h => h)
        have X5 := heapOld X5' (.cells #[.int .i64 B1, .int .i64 B2] 23)
        have Y5 := heapOld (c5.keep _ _ Y4 (fun h => h)) (.cells #[.int .i64 B1, .int .i64 B2] 23)
        have Z5 := heapOld (c5.keep _ _ Z4 (fun h => h)) (.cells #[.int .i64 B1, .int .i64 B2] 23)
        have V5 := heap_alloc_new w5 (.cells #[.int .i64 B1, .int .i64 B2] 23)
        have y1 := cellAt X5' 1
        have y2 := cellAt X5' 2
        have s5 := lt_size X5'
        simp only [List.getElem?_toArray, List.getElem?_cons_succ, List.getElem?_cons_zero] at y1 y2
        clear z1 z2 hh4 rr4 cc4 c5 X4 Y4 Z4 s4 X5'
        go_wp2_with fail
        refine (HT.out.relm _ rr5).mono ?_
        rintro e w6 ⟨rfl, c6⟩
        have hh6 := (hh5.no c6).alloc (.cells #[.int .i64 B1, .int .i64 B2] 23)
        have rr6 := (rr5.no c6).alloc (.cells #[.int .i64 B1, .int .i64 B2] 23)
        have cc6 := (cc5.trans c6).alloc (.cells #[.int .i64 B1, .int .i64 B2] 23)
        have X6 := c6.keep _ _ X5 (fun h => h)
        have Y6 := c6.keep _ _ Y5 (fun h => h)
        have Z6 := c6.keep _ _ Z5 (fun h => h)
        have V6 := c6.keep _ _ V5 (fun h => h)
        have sx := lt_size X6
        have sy := lt_size Y6
        have sz := lt_size Z6
        have sv := lt_size V6
        have z1 := cellAt X6 1
        simp only [List.getElem?_toArray, List.getElem?_cons_succ, List.getElem?_cons_zero] at z1
        obtain ⟨ya, yb⟩ := two Y6
        obtain ⟨za, zb⟩ := two Z6
        obtain ⟨va, vb⟩ := two V6
        obtain ⟨c0, _, _⟩ := three (rr5.no c6).head
        have sr := lt_size (rr5.no c6).head
        obtain ⟨ao1, cap1, e1, hm1, _⟩ := sliceOf rr6.r1
        rw [e1] at c0
        have hm1' : sites.length ≤ 9223372036854775807 := by unfold maxLen at hm1; omega
        clear y1 y2 hh5 rr5 cc5 c6 X5 Y5 Z5 V5 X6 Y6 Z6 V6 s5 e1 hm1
        go_wp2_with fail
        go_quiet ((first | (go_at_call 16; exact Calls.quiet_of_same (HT.out.len _ (hh6.drewN _))) | (go_at_call 17; exact Calls.quiet_of_same (HT.out.typ _ (hh6.drewN _))) | (go_at_call 21; exact Calls.quiet_of_same (HT.out.rtyp _ (rr6.drewN _))) | (go_at_call 15; exact Calls.quiet_of_same (HT.out.site _ (hh6.drewN _))) | (go_at_call 22; exact Calls.quiet_of_same (HT.out.rsite _ (rr6.drewN _)))))
        go_wp2_with fail
        go_roundw
        case rel => exact ⟨k + 1, n, ts, v, sites, types, L, v1, v2, v3, by omega, by go_num, ⟨hh6.drewN _, rr6.drewN _, HST.out.rel, cc6.drewN _, HST.out.h1, HST.out.h2, HST.out.n, HST.out.ts, HST.out.L⟩⟩
        case measure => simp [intOf]; omega
    | false =>
      go_wp2_with fail
      go_ret
      exact ⟨rfl, st.ch⟩
end Go.Proofs.Ytldhlaabdhpdiaa
