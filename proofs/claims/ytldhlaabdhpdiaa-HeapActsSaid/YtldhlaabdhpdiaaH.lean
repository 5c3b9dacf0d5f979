/- HeapApart answers true, walked. -/
import Derived.Test.YtldhlaabdhpdiaaE
set_option linter.unusedVariables false
namespace Go.Proofs.Ytldhlaabdhpdiaa
open Go.RowKit Go.W
open Go.Maps (Keyed)

theorem rplace_any (i : Int) (w : World) :
    Calls Try.prog 14 #[.int .i64 i] w fun e w' => e = .returned (.int .i64 (i % 4)) ∧ w' = w := by
  rcases tmod4 i with h | ⟨⟨h1, h2, h3⟩, h4⟩
  · have h5 : ¬ i.tmod 4 < 0 := by omega
    go_enter Try.func14, Try.ntmps14
    go_wp2
    go_ret
    exact ⟨rfl, rfl⟩
  · have h5 : i.tmod 4 + 4 = i % 4 := h1
    have h6 : 0 ≤ i % 4 := by omega
    have H5 := hid h5
    clear h1 h5 h6
    go_enter Try.func14, Try.ntmps14
    go_wp2
    go_ret
    exact ⟨congrArg (fun n => Ending.returned (.int .i64 n)) H5.out, rfl⟩

theorem two {w : World} {k : Nat} {u v : Value} {t : TypeId} {fz : Nat × Nat} (h : w.heap[k]? = some (.cells #[u, v] t fz)) : w.cell? ⟨k, 0, none⟩ = some u ∧ w.cell? ⟨k, 1, none⟩ = some v :=
  ⟨cellAt h 0, cellAt h 1⟩

theorem Ch.noTrans {S : Nat → Obj → Prop} {a b c : World} (h : Ch No a b) (h' : Ch S b c) (hS : ∀ k o, S k o → a.heap.size ≤ k) : Ch No a c :=
  h.trans' h' (fun k o ho hs => by have := hS k o hs; have := lt_size ho; omega)

/-- what has been put: into all fields of the things ahead of number i, and into those of number i below f -/
def G (F : Nat) (ts : List Th) (i f : Int) : Prop :=
  ∀ (j : Nat) (x : Th), ts[j]? = some x → x.site = 101 + j ∧ ∀ g : Int, -(F : Int) ≤ g → g ≤ F → ((j : Int) + 1 < i ∨ ((j : Int) + 1 = i ∧ g < f)) →
    x.fs g = some (0, 1000 * (j + 1) + g) ∧ x.el (g % 4).toNat = (0, -1000 * (j + 1) - g % 4)

theorem G.step {F : Nat} {ts : List Th} {k : Nat} {f : Int} (h : G F ts (k + 1) f) : G F (setE (putF ts k f (0, 1000 * (k + 1) + f)) k (f % 4).toNat (0, -1000 * (k + 1) - f % 4)) (k + 1) (f + 1) := by
  intro j x hx
  unfold setE putF at hx
  rw [modify_get, modify_get] at hx
  by_cases hj : k = j
  · subst hj
    simp only [if_pos] at hx
    cases hy : ts[k]? with
    | none => rw [hy] at hx; simp at hx
    | some y =>
      rw [hy] at hx
      simp only [Option.map_some, Option.some.injEq] at hx
      obtain ⟨h1, h2⟩ := h k y hy
      subst hx
      refine ⟨h1, fun g g1 g2 g3 => ?_⟩
      simp only
      constructor
      · by_cases e : g = f
        · subst e; rw [if_pos rfl]
        · rw [if_neg e]
          exact (h2 g g1 g2 (by omega)).1
      · by_cases e : (g % 4).toNat = (f % 4).toNat
        · rw [if_pos e]
          have : g % 4 = f % 4 := by omega
          rw [this]
        · rw [if_neg e]
          have : g ≠ f := fun e' => e (by rw [e'])
          exact (h2 g g1 g2 (by omega)).2
  · rw [if_neg hj, if_neg hj] at hx
    obtain ⟨h1, h2⟩ := h j x hx
    refine ⟨h1, fun g g1 g2 g3 => h2 g g1 g2 (by omega)⟩

theorem G.step' {F : Nat} {ts : List Th} {k : Nat} {f : Int} (hk : 1 ≤ k) (h : G F ts k f) : G F (setE (putF ts (k - 1) f (0, 1000 * k + f)) (k - 1) (f % 4).toNat (0, -1000 * k - f % 4)) k (f + 1) := by
  obtain ⟨q, rfl⟩ : ∃ q, k = q + 1 := ⟨k - 1, by omega⟩
  exact G.step (k := q) h

theorem G.next {F : Nat} {ts : List Th} {k : Nat} (h : G F ts (k + 1) (F + 1)) : G F ts (k + 1 + 1) (-F) := by
  intro j x hx
  obtain ⟨h1, h2⟩ := h j x hx
  exact ⟨h1, fun g g1 g2 g3 => h2 g g1 g2 (by omega)⟩

theorem G.next' {F : Nat} {ts : List Th} {k : Nat} (hk : 1 ≤ k) (h : G F ts k (F + 1)) : G F ts (k + 1 : Nat) (-F) := by
  obtain ⟨q, rfl⟩ : ∃ q, k = q + 1 := ⟨k - 1, by omega⟩
  exact G.next (k := q) h

theorem G.start {F : Nat} {ts : List Th} (h : ∀ (j : Nat) (x : Th), ts[j]? = some x → x.site = 101 + j) : G F ts 1 (-F) := by
  intro j x hx
  exact ⟨h j x hx, fun g g1 g2 g3 => by omega⟩

set_option maxRecDepth 100000 in
theorem apart_any (a b : Int) (w : World) (ha : 0 ≤ a) (ha2 : a ≤ 255) (hb : 0 ≤ b) (hb2 : b ≤ 255) :
    Calls Try.prog 4 #[.int .u8 a, .int .u8 b] w fun e w' => e = .returned (.bool true) ∧ Ch No w w' := by
  obtain ⟨T, hT⟩ : ∃ T : Nat, 1 + a % 8 = T := ⟨(1 + a % 8).toNat, by omega⟩
  obtain ⟨F, hF⟩ : ∃ F : Nat, 1 + b % 8 = F := ⟨(1 + b % 8).toNat, by omega⟩
  have hT8 : T ≤ 8 := by omega
  have hF8 : F ≤ 8 := by omega
  go_enter Try.func4, Try.ntmps4
  go_wp2_with fail
  refine (awake_any _).mono ?_
  rintro e w1 ⟨rfl, c1⟩
  go_wp2_with fail
  refine (new_any _).mono ?_
  rintro e w2 ⟨rfl, h2, c2⟩
  go_wp2_with fail
  clear hT hF ha ha2 hb hb2
  have hs1 := c1.size
  obtain ⟨hb, hhb⟩ : ∃ hb, hb = w1.heap.size := ⟨_, rfl⟩
  rw [← hhb] at h2 hs1 ⊢
  have hHS : ∀ k o, HS hb k o → w.heap.size ≤ k := fun k o h => Nat.le_trans hs1 h.1
  clear hhb
  go_loopw [8] (fun s8 wr => ∃ (k : Nat) (ts : List Th) (v : Value), 1 ≤ k ∧ k ≤ T + 1 ∧ s8 = .int .i64 k ∧ ts.length = k - 1 ∧ HeapAt wr hb ts 0 v ∧ Ch No w wr ∧ (∀ (j : Nat) (x : Th), ts[j]? = some x → x.site = 101 + j))
    (fun s8 _ => T + 1 - (intOf s8).toNat)
  case atStart => exact ⟨1, [], _, Nat.le_refl _, by omega, rfl, rfl, h2, c1.trans c2, fun j x h => by simp at h⟩
  case round =>
    obtain ⟨k, ts, v, hk1, hk2, rfl, hl, hh, hc, hsite⟩ := hrel
    clear h2
    by_cases hkT : k ≤ T
    · go_wp2_with fail
      refine (make_any hh _ _ (by omega)).mono ?_
      rintro e w3 ⟨v3, rfl, h3, c3⟩
      have hl1 : ts.length + 1 = k := by omega
      rw [hl1]
      have HL := hid hl
      clear hl hl1
      go_wp2_with fail
      go_roundw
      case rel =>
        refine ⟨k + 1, _, v3, by omega, by omega, by go_num, by simp; have := HL.out; omega, h3, Ch.noTrans hc c3 hHS, ?_⟩
        intro j x hx
        have := HL.out
        by_cases hj : j < ts.length
        · rw [List.getElem?_append_left hj] at hx; exact hsite j x hx
        · rw [List.getElem?_append_right (by omega)] at hx
          have e0 : j - ts.length = 0 := by
            cases hk : j - ts.length with
            | zero => rfl
            | succ k => rw [hk] at hx; simp at hx
          rw [e0] at hx
          simp only [List.getElem?_cons_zero, Option.some.injEq] at hx
          subst hx
          simp only [newTh]; omega
      case measure => simp [intOf]; omega
    · have hlT : ts.length = T := by omega
      have hg := G.start (F := F) hsite
      have hgt : T < k := by omega
      have hd1 : decide (k ≤ T) = false := by simp; omega
      clear hl hsite hkT
      go_wp2_with fail
      obtain ⟨wa, rfl⟩ : ∃ wa : World, wa = wr := ⟨_, rfl⟩
      go_loopw [9] (fun s9 wr => ∃ (k n : Nat) (ts : List Th), 1 ≤ k ∧ k ≤ T + 1 ∧ s9 = .int .i64 k ∧ n ≤ 17 * (k - 1) ∧ ts.length = T ∧ HeapAt wr hb ts n v ∧ Ch No w wr ∧ G F ts k (-F))
        (fun s9 _ => T + 1 - (intOf s9).toNat)
      case atStart => exact ⟨1, 0, ts, Nat.le_refl _, by omega, rfl, by omega, hlT, hh, hc, hg⟩
      case round =>
        clear hh hc hg hlT
        clear ts
        obtain ⟨k, n, ts, hk1, hk2, rfl, hn, hlT, hh, hc, hg⟩ := hrel
        by_cases hkT : k ≤ T
        · have hd2 : decide (k ≤ T) = true := by simp; omega
          go_wp2_with fail
          obtain ⟨wb, rfl⟩ : ∃ wb : World, wb = wr := ⟨_, rfl⟩
          go_loopw [10] (fun s10 wr => ∃ (f : Int) (n : Nat) (ts : List Th), -(F : Int) ≤ f ∧ f ≤ F + 1 ∧ s10 = .int .i64 f ∧ (n : Int) ≤ 17 * (k - 1) + (f + F) ∧ ts.length = T ∧ HeapAt wr hb ts n v ∧ Ch No w wr ∧ G F ts k f)
            (fun s10 _ => (F + 1 - (intOf s10)).toNat)
          case atStart => exact ⟨-(F : Int), n, ts, by omega, by omega, rfl, by omega, hlT, hh, hc, hg⟩
          case round =>
            clear hh hc hg hlT hn
            clear ts n
            obtain ⟨f, n, ts, hf1, hf2, rfl, hn, hlT, hh, hc, hg⟩ := hrel
            by_cases hfF : f ≤ F
            · have hq : (k : Int).toNat - 1 = k - 1 := by omega
              obtain ⟨z, hx⟩ : ∃ z, val ts (k : Int) = some z := by
                unfold val
                rw [if_pos (by omega), hq]
                exact ⟨_, List.getElem?_eq_getElem (by omega)⟩
              have hfI : I64 f := I64.mk (by omega) (by omega)
              have c1 := put_some hh (k : Int) f (0, 1000 * (k : Int) + f) _ hx hfI (by unfold maxLen; omega)
              rw [hq] at c1
              obtain ⟨y, hy⟩ : ∃ y, val (putF ts (k - 1) f (0, 1000 * (k : Int) + f)) (k : Int) = some y := by
                unfold val putF
                rw [if_pos (by omega), hq, modify_get, if_pos rfl, List.getElem?_eq_getElem (show k - 1 < ts.length by omega)]
                exact ⟨_, rfl⟩
              have C1 := hid c1
              have HQ := hid hq
              have HY := hid hy
              have HLT := hid hlT
              clear c1 hq hy hx hlT
              unfold vv at C1
              go_wp2_with fail
              refine C1.out.mono ?_
              rintro e w3 ⟨rfl, h3, c3⟩
              go_wp2_with fail
              refine (rplace_any _ _).mono ?_
              rintro e w4 ⟨rfl, rfl⟩
              have hm0 : 0 ≤ f % 4 := by omega
              have hm1 : f % 4 < 4 := by omega
              go_wp2_with fail
              refine (set_some h3 (k : Int) f (0, -1000 * (k : Int) - f % 4) _ HY.out).mono ?_
              rintro e w5 ⟨rfl, h5, c5⟩
              rw [HQ.out] at h5
              go_wp2_with fail
              go_roundw
              case rel =>
                exact ⟨f + 1, n + 1, _, by omega, by omega, rfl, by omega, by have := HLT.out; simpa [setE, putF] using this, h5, Ch.noTrans (Ch.noTrans hc c3 hHS) c5 hHS, G.step' hk1 hg⟩
              case measure => simp [intOf]; omega
            · obtain rfl : f = F + 1 := by omega
              have hgn := G.next' hk1 hg
              go_wp2_with fail
              go_roundw
              case rel => exact ⟨k + 1, n, ts, by omega, by omega, by go_num, by omega, hlT, hh, hc, hgn⟩
              case measure => simp [intOf]; omega
        · have hgt2 : T < k := by omega
          have HK := hid (show k = T + 1 by omega)
          have hd2 : decide (k ≤ T) = false := by simp; omega
          have HLT := hid hlT
          clear hkT hlT
          go_wp2_with fail
          obtain ⟨wb, rfl⟩ : ∃ wb : World, wb = wr := ⟨_, rfl⟩
          rename_i k0 _ _ _ _
          go_loopw [11] (fun s11 wr => ∃ (k : Nat), 1 ≤ k ∧ k ≤ T + 1 ∧ s11 = .int .i64 k ∧ HeapAt wr hb ts n v ∧ Ch No w wr)
            (fun s11 _ => T + 1 - (intOf s11).toNat)
          case atStart => exact ⟨1, Nat.le_refl _, by omega, rfl, hh, hc⟩
          case round =>
            clear hh hc
            rw [HK.out] at hg
            have HG := hid hg
            clear hg hd2 hgt2 hk1 hk2
            obtain ⟨k, hk1, hk2, rfl, hh, hc⟩ := hrel
            cases hd : decide (k ≤ T) with
            | true =>
              have hkT : k ≤ T := by simpa using hd
              go_wp2_with fail
              obtain ⟨wc, rfl⟩ : ∃ wb : World, wb = wr := ⟨_, rfl⟩
              go_loopw [12] (fun s12 wr => ∃ (f : Int), -(F : Int) ≤ f ∧ f ≤ F + 1 ∧ s12 = .int .i64 f ∧ HeapAt wr hb ts n v ∧ Ch No w wr)
                (fun s12 _ => (F + 1 - (intOf s12)).toNat)
              case atStart => exact ⟨-(F : Int), by omega, by omega, rfl, hh, hc⟩
              case round =>
                clear hh hc
                obtain ⟨f, hf1, hf2, rfl, hh, hc⟩ := hrel
                by_cases hfF : f ≤ F
                · obtain ⟨z, hx, hz1, hz2, hz3⟩ : ∃ z, val ts (k : Int) = some z ∧ z.site = 100 + k ∧ z.fs f = some (0, 1000 * (k : Int) + f) ∧ z.el (f % 4).toNat = (0, -1000 * (k : Int) - f % 4) := by
                    have hlT := HLT.out
                    refine ⟨ts[k - 1]'(by omega), ?_, ?_⟩
                    · unfold val
                      rw [if_pos (by omega), show (k : Int).toNat - 1 = k - 1 by omega]
                      exact List.getElem?_eq_getElem (by omega)
                    · obtain ⟨g1, g2⟩ := HG.out (k - 1) _ (List.getElem?_eq_getElem (by omega))
                      obtain ⟨g3, g4⟩ := g2 f hf1 hfF (by omega)
                      refine ⟨by rw [g1]; omega, ?_, ?_⟩
                      · rw [g3]; congr 2; omega
                      · rw [g4]; congr 1; omega
                  have hfI : I64 f := I64.mk (by omega) (by omega)
                  have q1 := get_some hh (k : Int) f z hx hfI
                  rw [hz2] at q1
                  have q2 : ∀ w', HeapAt w' hb ts n v → _ := fun w' h' => elem_some h' (k : Int) f z hx
                  rw [hz3] at q2
                  have q3 : ∀ w', HeapAt w' hb ts n v → Calls Try.prog 15 #[.pointer (some ⟨hb, 0, none⟩), .int .i64 (k : Int)] w' fun e w'' => e = .returned (.int .i64 (100 + (k : Int))) ∧ w'' = w' := fun w' h' => hz1 ▸ (site_some h' (k : Int) z hx).mono (fun _ _ h => ⟨h.1, h.2.symm⟩)
                  simp only [Option.getD_some] at q1
                  unfold vv at q1 q2
                  have Q1 := hid q1
                  have Q2 := hid q2
                  have Q3 := hid q3
                  have HD := hid hd
                  clear q1 q2 q3 hz1 hz2 hz3 hx hd hfI
                  have hm0 : 0 ≤ f % 4 := by omega
                  have hm1 : f % 4 < 4 := by omega
                  go_wp2_with fail
                  refine Q1.out.mono ?_
                  rintro e w3 ⟨rfl, c3⟩
                  have h3 := hh.no c3
                  go_wp2_with fail
                  refine (Q2.out _ (h3.alloc _)).mono ?_
                  rintro e w4 ⟨rfl, c4⟩
                  have h4 := (h3.alloc (.cells #[.int .i64 0, .int .i64 (1000 * (k : Int) + f)] 23)).no c4
                  have x4 := c4.keep _ _ (heap_alloc_new w3 (.cells #[.int .i64 0, .int .i64 (1000 * (k : Int) + f)] 23)) (fun h => h)
                  have s4 := lt_size x4
                  obtain ⟨x41, x42⟩ := two x4
                  go_wp2_with fail
                  have h5 := (h4.alloc (.cells #[.int .i64 0, .int .i64 (-1000 * (k : Int) - f % 4)] 23))
                  have h6 : ∀ m, HeapAt ((w4.alloc (.cells #[.int .i64 0, .int .i64 (-1000 * (k : Int) - f % 4)] 23)).drewN m) hb ts n v := fun m => h5.no ((Ch.refl _ _).drewN m)
                  go_quiet ((first | (go_at_call 14; exact Calls.quiet_of_same (rplace_any _ _)) | (go_at_call 15; exact Calls.quiet_of_same (Q3.out _ (h6 _)))))
                  go_wp2_with fail
                  go_roundw
                  case rel => exact ⟨f + 1, by omega, by omega, rfl, h6 _, ((((hc.trans c3).alloc _).trans c4).alloc _).drewN _⟩
                  case measure => simp [intOf]; omega
                · obtain rfl : f = F + 1 := by omega
                  go_wp2_with fail
                  go_roundw
                  case rel => exact ⟨k + 1, by omega, by omega, by go_num, hh, hc⟩
                  case measure => simp [intOf]; omega
            | false =>
              have hkT : T < k := by simpa using hd
              have ql := len_any hh
              rw [HLT.out] at ql
              have QL := hid ql
              clear ql
              go_wp2_with fail
              refine QL.out.mono ?_
              rintro e w3 ⟨rfl, rfl⟩
              go_wp2_with fail
              go_ret
              exact ⟨by simp, hc⟩
end Go.Proofs.Ytldhlaabdhpdiaa
