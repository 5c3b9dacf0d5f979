/- HeapFresh answers true, walked. -/
import Derived.Test.YtldhlaabdhpdiaaH
set_option linter.unusedVariables false
namespace Go.Proofs.Ytldhlaabdhpdiaa
open Go.RowKit Go.W
open Go.Maps (Keyed)

structure Act where
  kind : Int
  ref : Int
  place : Int
  t : ByteArray
  v : Int × Int
def Act.cells (a : Act) : List Value := [.int .i64 a.kind, .int .i64 a.ref, .int .i64 a.place, .string a.t, .int .i64 a.v.1, .int .i64 a.v.2]
structure Act.ok (a : Act) : Prop where
  kind : I64 a.kind
  ref : I64 a.ref
  place : I64 a.place

theorem I64.lo {n : Int} (h : I64 n) : -9223372036854775808 ≤ n ∧ n ≤ 9223372036854775807 := by
  unfold I64 at h
  simp [Lit.wf, IntKind.min, IntKind.max, IntKind.signed, IntKind.bits] at h
  omega

theorem row_cell {w : World} {b off k : Nat} {x : Act} (h : ∀ j, j < 6 → w.cell? ⟨b, off + k * 6 + j, none⟩ = x.cells[j]?) :
    w.cell? ⟨b, off + k * 6, none⟩ = some (.int .i64 x.kind) ∧ w.cell? ⟨b, off + k * 6 + 1, none⟩ = some (.int .i64 x.ref) ∧ w.cell? ⟨b, off + k * 6 + 2, none⟩ = some (.int .i64 x.place) ∧ w.cell? ⟨b, off + k * 6 + 3, none⟩ = some (.string x.t) ∧
    w.cell? ⟨b, off + k * 6 + 4, none⟩ = some (.int .i64 x.v.1) ∧ w.cell? ⟨b, off + k * 6 + 5, none⟩ = some (.int .i64 x.v.2) :=
  ⟨h 0 (by omega), h 1 (by omega), h 2 (by omega), h 3 (by omega), h 4 (by omega), h 5 (by omega)⟩

set_option maxRecDepth 100000 in
theorem fresh_big (ao : Option Addr) (len cap : Nat) (at' : Int) (w : World) (h60 : 60 < len) (hm : len ≤ 9223372036854775807) :
    Calls Try.prog 5 #[.slice ao len cap, .int .i64 at'] w fun e w' => e = .returned (.bool true) ∧ Ch No w w' := by
  go_enter Try.func5, Try.ntmps5
  go_wp2_with fail
  refine (awake_any _).mono ?_
  rintro e w1 ⟨rfl, c1⟩
  go_wp2_with fail
  refine (awake_any _).mono ?_
  rintro e w2 ⟨rfl, c2⟩
  go_wp2_with fail
  go_ret
  exact ⟨rfl, c1.trans c2⟩

set_option maxRecDepth 100000 in
theorem fresh_small (v : Value) (acts : List Act) (at' : Int) (w : World) (h60 : acts.length ≤ 60) (hat : I64 at') (hrow : RowAt w v 6 (acts.map Act.cells)) (hok : ∀ a ∈ acts, a.ok) :
    Calls Try.prog 5 #[v, .int .i64 at'] w fun e w' => e = .returned (.bool true) ∧ Ch No w w' := by
  have hrow0 := hrow
  obtain ⟨ao, cap, rfl, hcap, hmax, _, _⟩ := hrow
  obtain ⟨len, hlen⟩ : ∃ len, (acts.map Act.cells).length = len := ⟨_, rfl⟩
  rw [hlen] at hrow0 hcap ⊢
  have HL : Hid (acts.length = len) := hid (by rw [← hlen, List.length_map])
  have h60 : len ≤ 60 := by have := HL.out; omega
  clear hlen
  go_enter Try.func5, Try.ntmps5
  go_wp2_with fail
  refine (awake_any _).mono ?_
  rintro e w1 ⟨rfl, c1⟩
  cases hd0 : decide (60 < len) with
  | true => simp at hd0; omega
  | false =>
  go_wp2_with fail
  refine (new_any _).mono ?_
  rintro e w2 ⟨rfl, h2, c2⟩
  go_wp2_with fail
  have hs1 := c1.size
  obtain ⟨hb, hhb⟩ : ∃ hb, hb = w1.heap.size := ⟨_, rfl⟩
  rw [← hhb] at h2 hs1 ⊢
  have hHS : ∀ k o, HS hb k o → w.heap.size ≤ k := fun k o h => Nat.le_trans hs1 h.1
  clear hhb
  go_loopw [6] (fun s6 wr => ∃ (k n : Nat) (ts : List Th) (v : Value), k ≤ len ∧ s6 = .int .i64 k ∧ n ≤ k ∧ ts.length ≤ k ∧ HeapAt wr hb ts n v ∧ Ch No w wr)
    (fun s6 _ => len - (intOf s6).toNat)
  case atStart => exact ⟨0, 0, [], _, by omega, rfl, by omega, by simp, h2, c1.trans c2⟩
  case round =>
    clear h2 c1 c2
    obtain ⟨k, n, ts, v, hk, rfl, hn, hl, hh, hc⟩ := hrel
    cases hd : decide (k < len) with
    | true =>
      have hkl : k < len := by simpa using hd
      obtain ⟨x, hx⟩ : ∃ x, acts[k]? = some x := ⟨_, List.getElem?_eq_getElem (by have := HL.out; omega)⟩
      obtain ⟨ao', cap', e1, _, _, _, h5⟩ := hrow0.no hc
      obtain ⟨b, off, rfl, h7⟩ := h5 (by rw [List.length_map]; have := HL.out; omega)
      simp only [Value.slice.injEq] at e1
      obtain rfl := e1.1
      clear e1
      have hcell := row_cell (h7 k x.cells (by rw [List.getElem?_map, hx]; rfl))
      obtain ⟨q0, q1, q2, q3, q4, q5⟩ := hcell
      have hxo := hok x (List.mem_of_getElem? hx)
      clear h7 h5 hrow0 hx hok
      have hh1 := hh.alloc (.cells #[.int .i64 x.kind, .int .i64 x.ref, .int .i64 x.place, .string x.t, .int .i64 x.v.1, .int .i64 x.v.2] 37)
      have hcA := hc.alloc (.cells #[.int .i64 x.kind, .int .i64 x.ref, .int .i64 x.place, .string x.t, .int .i64 x.v.1, .int .i64 x.v.2] 37)
      cases k0 : ((x.kind : Int) == 0) with
      | true =>
        go_wp2_with fail
        refine (make_any hh1 _ _ (by omega)).mono ?_
        rintro e w3 ⟨v3, rfl, h3, c3⟩
        have F := hid (Ch.noTrans hcA c3 hHS)
        clear c3 hcA hc hh hh1
        go_wp2_with fail
        go_roundw
        case rel => exact ⟨k + 1, n, _, v3, by omega, by go_num, by omega, by simp; omega, h3, F.out⟩
        case measure => simp [intOf]; omega
      | false =>
        cases k1 : ((x.kind : Int) == 1) with
        | true =>
          cases hv : val ts x.ref with
          | none =>
            have C := hid (put_none hh1 x.ref x.place x.v hv)
            unfold vv at C
            go_wp2_with fail
            refine C.out.mono ?_
            rintro e w3 ⟨rfl, c3⟩
            have h3 := hh1.no c3
            have F := hid (hcA.trans c3)
            clear c3 hcA hc hh hh1 C
            go_wp2_with fail
            go_roundw
            case rel => exact ⟨k + 1, n, _, _, by omega, by go_num, by omega, by omega, h3, F.out⟩
            case measure => simp [intOf]; omega
          | some z =>
            have C := hid (put_some hh1 x.ref x.place x.v z hv hxo.place (by unfold maxLen; omega))
            unfold vv at C
            go_wp2_with fail
            refine C.out.mono ?_
            rintro e w3 ⟨rfl, h3, c3⟩
            have F := hid (Ch.noTrans hcA c3 hHS)
            clear c3 hcA hc hh hh1 C
            go_wp2_with fail
            go_roundw
            case rel => exact ⟨k + 1, n + 1, _, _, by omega, by go_num, by omega, by simp [putF]; omega, h3, F.out⟩
            case measure => simp [intOf]; omega
        | false =>
          cases hv : val ts x.ref with
          | none =>
            have C := hid (set_none hh1 x.ref x.place x.v hv)
            unfold vv at C
            go_wp2_with fail
            refine C.out.mono ?_
            rintro e w3 ⟨rfl, c3⟩
            have h3 := hh1.no c3
            have F := hid (hcA.trans c3)
            clear c3 hcA hc hh hh1 C
            go_wp2_with fail
            go_roundw
            case rel => exact ⟨k + 1, n, _, _, by omega, by go_num, by omega, by omega, h3, F.out⟩
            case measure => simp [intOf]; omega
          | some z =>
            have C := hid (set_some hh1 x.ref x.place x.v z hv)
            unfold vv at C
            go_wp2_with fail
            refine C.out.mono ?_
            rintro e w3 ⟨rfl, h3, c3⟩
            have F := hid (Ch.noTrans hcA c3 hHS)
            clear c3 hcA hc hh hh1 C
            go_wp2_with fail
            go_roundw
            case rel => exact ⟨k + 1, n, _, _, by omega, by go_num, by omega, by simp [setE]; omega, h3, F.out⟩
            case measure => simp [intOf]; omega
    | false =>
      clear hrow0 hok
      go_wp2_with fail
      refine (make_any hh _ _ (by omega)).mono ?_
      rintro e w3 ⟨v3, rfl, h3, c3⟩
      have hc3 := Ch.noTrans hc c3 hHS
      obtain ⟨m, hm⟩ : ∃ m : Nat, m = ts.length + 1 := ⟨_, rfl⟩
      rw [← hm]
      have hv : val (ts ++ [newTh 3 ⟨#[78]⟩ wr.heap.size]) (m : Int) = some (newTh 3 ⟨#[78]⟩ wr.heap.size) := by
        unfold val
        rw [if_pos (by omega), show (m : Int).toNat - 1 = ts.length by omega]
        simp
      have m1 : 1 ≤ m := by omega
      have m2 : m ≤ 61 := by omega
      clear hm hl hn hh c3 hc
      have q1 := get_some h3 m at' _ hv hat
      have q2 : ∀ w', HeapAt w' hb _ n v3 → _ := fun w' h' => elem_some h' m at' _ hv
      have q3 : ∀ w', HeapAt w' hb _ n v3 → _ := fun w' h' => site_some h' m _ hv
      have q4 : ∀ w', HeapAt w' hb _ n v3 → _ := fun w' h' => type_some h' m _ hv
      simp only [newTh, Option.getD_none] at q1 q2 q3 q4
      unfold vv at q1 q2
      have Q1 := hid q1
      have Q2 := hid q2
      have Q3 := hid q3
      have Q4 := hid q4
      have HH := hid h3
      clear q1 q2 q3 q4 hv h3
      go_wp2_with fail
      refine Q1.out.mono ?_
      rintro e w4 ⟨rfl, c4⟩
      have h4 := HH.out.no c4
      go_wp2_with fail
      refine (Q2.out _ (h4.alloc _)).mono ?_
      rintro e w5 ⟨rfl, c5⟩
      have h5 := (h4.alloc (.cells #[.int .i64 0, .int .i64 0] 23)).no c5
      have x5 := c5.keep _ _ (heap_alloc_new w4 (.cells #[.int .i64 0, .int .i64 0] 23)) (fun h => h)
      have s5 := lt_size x5
      obtain ⟨x51, x52⟩ := two x5
      have F := hid (((hc3.trans c4).alloc (.cells #[.int .i64 0, .int .i64 0] 23)).trans c5 |>.alloc (.cells #[.int .i64 0, .int .i64 0] 23))
      clear hc3 c4 c5
      go_wp2_with fail
      refine (Q4.out _ (h5.alloc _)).mono ?_
      rintro e w6 ⟨rfl, rfl⟩
      go_wp2_with fail
      refine (Q3.out _ (h5.alloc _)).mono ?_
      rintro e w7 ⟨rfl, rfl⟩
      go_wp2_with fail
      go_ret
      exact ⟨rfl, F.out⟩
end Go.Proofs.Ytldhlaabdhpdiaa
