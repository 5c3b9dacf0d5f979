/- What Put of the reference's heap answers and changes. -/
import Derived.Test.YtldhlaabdhpdiaaR
set_option linter.unusedVariables false
namespace Go.Proofs.Ytldhlaabdhpdiaa
open Go.RowKit Go.W
open Go.Maps (Keyed)

theorem keepL_step {L : List RCell} {k : Nat} {c : RCell} {ref place : Int} {elem : Bool} (h : L[k]? = some c) : keepL (L.take (k + 1)) ref place elem = keepL (L.take k) ref place elem ++ (if c.hit ref place elem then [] else [c]) := by
  have hk := (List.getElem?_eq_some_iff.1 h).1
  have hc : L[k] = c := (List.getElem?_eq_some_iff.1 h).2
  unfold keepL
  rw [List.take_succ_eq_append_getElem hk, List.filter_append, hc]
  cases hh : c.hit ref place elem <;> simp [hh]

theorem ownsRow_base {w : World} {base base' : Nat} {e : TypeId} {size : Nat} {v : Value} {n : Nat} {xs : List Value} (h : w.ownsRow base e size v n xs) (hb : base' ≤ base) : w.ownsRow base' e size v n xs := by
  obtain ⟨h1, h2⟩ := h
  refine ⟨h1, ?_⟩
  rcases h2 with h2 | ⟨g, cap, cur, hv, hg, r⟩
  · exact .inl h2
  · exact .inr ⟨g, cap, cur, hv, Nat.le_trans hb hg, r⟩

section
variable {w : World} {rb : Nat} {sites : List Int} {types : List ByteArray} {L : List RCell} {v1 v2 v3 : Value}

theorem rput_none (h : RefAt w rb sites types L v1 v2 v3) (ref place : Int) (elem : Bool) (x : Int × Int) (hr : isRef sites ref = false) :
    Calls Try.prog 19 #[.pointer (some ⟨rb, 0, none⟩), .int .i64 ref, .int .i64 place, .bool elem, vv x] w fun e w' => e = .returned (.bool false) ∧ Ch No w w' := by
  unfold vv
  have q := is_any (h.alloc (.cells #[.int .i64 x.1, .int .i64 x.2] 23)) ref
  rw [hr] at q
  have Q := hid q
  clear q h hr
  go_enter Try.func19, Try.ntmps19
  go_wp2_with (go_at_call 25; refine Q.out.mono ?_; rintro e w' ⟨rfl, rfl⟩)
  go_ret
  exact ⟨rfl, (Ch.refl No w).alloc _⟩

theorem RefAt.put {wr : World} {L' : List RCell} {v3' : Value} (h : RefAt w rb sites types L v1 v2 v3) (hc : Ch No w wr) (ho : wr.ownsRow w.heap.size 60 5 v3' L'.length (L'.flatMap RCell.cells)) :
    RefAt (wr.setCell ⟨rb, 2, none⟩ v3') rb sites types L' v1 v2 v3' ∧ Ch (RS rb) w (wr.setCell ⟨rb, 2, none⟩ v3') := by
  have h' := h.no hc
  have hrb := lt_size h.head
  have hcs : Ch (fun k _ => k = rb) wr (wr.setCell ⟨rb, 2, none⟩ v3') := (Ch.refl _ _).setCell (fun _ _ => rfl) _
  refine ⟨⟨by rw [setCell_heap h'.head]; rfl, ?_, ?_, ?_, h.same⟩, ?_⟩
  · exact ownsRow_ch h'.r1 hcs (fun g cur _ _ hcur e => by subst e; rw [h'.head] at hcur; cases hcur)
  · exact ownsRow_ch h'.r2 hcs (fun g cur _ _ hcur e => by subst e; rw [h'.head] at hcur; cases hcur)
  · exact ownsRow_base (ownsRow_ch ho hcs (fun g cur _ _ hcur e => by subst e; rw [h'.head] at hcur; cases hcur)) (by omega)
  · exact (hc.mono (fun _ _ _ h => absurd h id)).setCell (fun o ho => by
      rw [h.head] at ho; cases ho
      exact ⟨Nat.le_refl _, by simp [tag]⟩) _

theorem cells_new {w : World} {cs : List Value} {t : TypeId} : ∀ j u, cs[j]? = some u → (w.alloc (.cells cs.toArray t)).cell? ((⟨w.heap.size, 0, none⟩ : Addr).add j) = some u := by
  intro j u hj
  rw [show (⟨w.heap.size, 0, none⟩ : Addr).add j = ⟨w.heap.size, j, none⟩ from by unfold Addr.add; split <;> simp_all, World.cell?_alloc_new]
  simpa using hj

theorem cells_one (c : RCell) : ∀ u ∈ c.cells, u.oneCell' = true := by
  intro u hu
  simp only [RCell.cells, List.mem_cons] at hu
  rcases hu with rfl | rfl | rfl | rfl | rfl | hu
  all_goals first | rfl | cases hu


set_option maxHeartbeats 800000 in
theorem rput_plain (h : RefAt w rb sites types L v1 v2 v3) (ref place : Int) (x : Int × Int) (hl : L.length ≤ 10000) (hr : isRef sites ref = true) :
    Calls Try.prog 19 #[.pointer (some ⟨rb, 0, none⟩), .int .i64 ref, .int .i64 place, .bool false, vv x] w fun e w' => ∃ v3', e = .returned (.bool true) ∧ RefAt w' rb sites types (putL L ⟨ref, place, false, x⟩) v1 v2 v3' ∧ Ch (RS rb) w w' := by
  obtain ⟨i6, z6, hi6, hz60, hz62, hz61, hz6b⟩ := infoOf info60'
  have HI := hid (And.intro hi6 (And.intro hz60 (And.intro hz61 (And.intro hz6b hz62))))
  clear hi6 hz60 hz62 hz61 hz6b
  obtain ⟨ao, cap, hv3, hm, hg⟩ := sliceOf h.r3
  obtain ⟨len, hlen⟩ : ∃ len, L.length = len := ⟨_, rfl⟩
  subst hv3
  rw [hlen] at hl h hg
  have q := is_any (h.alloc (.cells #[.int .i64 x.1, .int .i64 x.2] 23)) ref
  rw [hr] at q
  have Q := hid q
  clear q hr
  have HL := hid hlen
  clear hlen hm
  have hrb := lt_size h.head
  have H := hid h
  obtain ⟨c1, c2, c3⟩ := three (h.alloc (.cells #[.int .i64 x.1, .int .i64 x.2] 23)).head
  have hb : (w.alloc (.cells #[.int .i64 x.1, .int .i64 x.2] 23)).heap.size = w.heap.size + 1 := by simp
  have own0 := World.ownsRow_lit (base := w.heap.size) (e := 60) (size := 5) (w.alloc (.cells #[.int .i64 x.1, .int .i64 x.2] 23)) #[.int .i64 ref, .int .i64 place, .bool false, .int .i64 x.1, .int .i64 x.2] 1 (by rw [hb]; omega) (by decide) rfl
  rw [hb] at own0
  have OWN0 := hid own0
  clear own0 hb
  unfold vv
  go_enter Try.func19, Try.ntmps19
  go_wp2_with fail
  refine Q.out.mono ?_
  rintro e w' ⟨rfl, rfl⟩
  go_wp2_with fail
  go_loopw [11, 12] (fun s11 s12 wr => ∃ (k g' cap' n : Nat) (xs : List RCell), k ≤ len ∧ s12 = .int .i64 k ∧ s11 = .slice (some ⟨g', 0, none⟩) n cap' ∧
      wr.ownsRow w.heap.size 60 5 (.slice (some ⟨g', 0, none⟩) n cap') n (xs.flatMap RCell.cells) ∧ Ch No w wr ∧ putL (L.take k) ⟨ref, place, false, x⟩ = xs ∧ xs.length = n)
    (fun _ s12 _ => len - (intOf s12).toNat)
  case atStart => exact ⟨0, _, _, 1, [⟨ref, place, false, x⟩], Nat.zero_le _, rfl, rfl, OWN0.out, ((Ch.refl No w).alloc _).alloc _, rfl, rfl⟩
  case round =>
    clear c1 c2 c3 h
    obtain ⟨k, g', cap', n, xs, hk, rfl, rfl, hown, hc, hxs, hn⟩ := hrel
    have hh := H.out.no hc
    obtain ⟨c1, c2, c3⟩ := three hh.head
    have hs2 := lt_size hh.head
    have hcs := hc.size
    have hgg : w.heap.size ≤ g' := by
      rcases hown.2 with ⟨h1, _⟩ | ⟨_, _, _, h1, h2, _⟩
      · cases h1
      · cases h1; exact h2
    have hll : n ≤ k + 1 := by
      have := List.length_filter_le (fun c : RCell => !c.hit ref place false) (L.take k)
      rw [← hn, ← hxs]
      simp only [putL, keepL, List.length_cons, List.length_take] at this ⊢
      omega
    cases hd : decide (k < len) with
    | true =>
      have hkl : k < len := by simpa using hd
      obtain ⟨g, rfl⟩ := hg (by omega)
      obtain ⟨c, hck⟩ : ∃ c, L[k]? = some c := ⟨_, List.getElem?_eq_getElem (by have := HL.out; omega)⟩
      have hcell := RefAt.cell (by rw [HL.out]; exact hh) hck
      obtain ⟨q0, q1, q2, q3, q4⟩ := hcell
      have hst := keepL_step (ref := ref) (place := place) (elem := false) hck
      have HK : Hid (c.hit ref place false = false → putL (L.take (k + 1)) ⟨ref, place, false, x⟩ = xs ++ [c]) := hid (fun hf => by
        rw [← hxs]; simp only [putL]; rw [hst, hf]; rfl)
      have HS : Hid (c.hit ref place false = true → putL (L.take (k + 1)) ⟨ref, place, false, x⟩ = xs) := hid (fun hf => by
        rw [← hxs]; simp only [putL]; rw [hst, hf]; simp)
      have HN := hid hn
      clear hst hck hg hxs hn hh
      obtain ⟨cc, hcc⟩ : ∃ cc : Obj, cc = .cells #[.int .i64 c.ref, .int .i64 c.place, .bool c.elem, .int .i64 c.v.1, .int .i64 c.v.2] 60 := ⟨_, rfl⟩
      have HCC := hid hcc
      clear hcc
      cases e0 : (c.ref == ref) with
      | false =>
        have e0' : (c.ref != ref) = true := by simp [bne, e0]
        have he : c.hit ref place false = false := by simp [RCell.hit, e0]
        have HKO := hid (HK.out he)
        clear he HK HS
        go_wp2_with (at_builtin; go_must (refine wpList_append_own _ rfl _ _ 43 rfl w.heap.size 60 i6 z6 5 40 Try.underlying43 HI.out.1 HI.out.2.1 HI.out.2.2.1 HI.out.2.2.2.1 HI.out.2.2.2.2 (by decide) _ _ _ rfl ((hown.alloc (.cells #[.int .i64 c.ref, .int .i64 c.place, .bool c.elem, .int .i64 c.v.1, .int .i64 c.v.2] 60)).alloc (.cells #[.int .i64 c.ref, .int .i64 c.place, .bool c.elem, .int .i64 c.v.1, .int .i64 c.v.2] 60)) ⟨wr.heap.size + 1, 0, none⟩ 1 1 c.cells rfl rfl ?h1 (cells_one c) (by unfold maxLen; omega) (by omega) (by simp; omega) ?_))
        case h1 =>
          intro j u hj
          have := cells_new (w := wr.alloc (.cells #[.int .i64 c.ref, .int .i64 c.place, .bool c.elem, .int .i64 c.v.1, .int .i64 c.v.2] 60)) (cs := c.cells) (t := 60) j u hj
          simpa [RCell.cells] using this
        intro v' w1 hown1 hgrow1 _
        obtain ⟨g1, cap1, cur1, hv1, _, _, _, _⟩ := ownsRow_pos hown1 (by omega)
        subst hv1
        have HCH := hid ((((hc.alloc _).alloc _).grown hgrow1 (fun k o e ho => by
          simp only [Value.ownBlock, Option.some.injEq] at e
          have := lt_size ho
          omega)))
        have HO := hid hown1
        clear hown1 hgrow1 hown
        go_wp2_with fail
        go_roundw
        case rel => exact ⟨k + 1, g1, cap1, n + 1, xs ++ [c], by omega, by go_num, rfl, by rw [List.flatMap_append]; simpa [RCell.cells] using HO.out, HCH.out, HKO.out, by rw [List.length_append, HN.out]; rfl⟩
        case measure => simp [intOf]; omega
      | true =>
        have e0' : (c.ref != ref) = false := by simp [bne, e0]
        cases e1 : (c.place == place) with
        | false =>
          have e1' : (c.place != place) = true := by simp [bne, e1]
          have he : c.hit ref place false = false := by simp [RCell.hit, e1]
          have HKO := hid (HK.out he)
          clear he HK HS
          go_wp2_with (at_builtin; go_must (refine wpList_append_own _ rfl _ _ 43 rfl w.heap.size 60 i6 z6 5 40 Try.underlying43 HI.out.1 HI.out.2.1 HI.out.2.2.1 HI.out.2.2.2.1 HI.out.2.2.2.2 (by decide) _ _ _ rfl ((hown.alloc (.cells #[.int .i64 c.ref, .int .i64 c.place, .bool c.elem, .int .i64 c.v.1, .int .i64 c.v.2] 60)).alloc (.cells #[.int .i64 c.ref, .int .i64 c.place, .bool c.elem, .int .i64 c.v.1, .int .i64 c.v.2] 60)) ⟨wr.heap.size + 1, 0, none⟩ 1 1 c.cells rfl rfl ?h2 (cells_one c) (by unfold maxLen; omega) (by omega) (by simp; omega) ?_))
          case h2 =>
            intro j u hj
            have := cells_new (w := wr.alloc (.cells #[.int .i64 c.ref, .int .i64 c.place, .bool c.elem, .int .i64 c.v.1, .int .i64 c.v.2] 60)) (cs := c.cells) (t := 60) j u hj
            simpa [RCell.cells] using this
          intro v' w1 hown1 hgrow1 _
          obtain ⟨g1, cap1, cur1, hv1, _, _, _, _⟩ := ownsRow_pos hown1 (by omega)
          subst hv1
          have HCH := hid ((((hc.alloc _).alloc _).grown hgrow1 (fun k o e ho => by
            simp only [Value.ownBlock, Option.some.injEq] at e
            have := lt_size ho
            omega)))
          have HO := hid hown1
          clear hown1 hgrow1 hown
          go_wp2_with fail
          go_roundw
          case rel => exact ⟨k + 1, g1, cap1, n + 1, xs ++ [c], by omega, by go_num, rfl, by rw [List.flatMap_append]; simpa [RCell.cells] using HO.out, HCH.out, HKO.out, by rw [List.length_append, HN.out]; rfl⟩
          case measure => simp [intOf]; omega
        | true =>
          have e1' : (c.place != place) = false := by simp [bne, e1]
          cases e2 : c.elem with
          | true =>
            have he : c.hit ref place false = false := by simp [RCell.hit, e2]
            have HKO := hid (HK.out he)
            rw [e2] at q2
            have HE2 := hid e2
            clear he HK HS e2
            go_wp2_with (at_builtin; go_must (refine wpList_append_own _ rfl _ _ 43 rfl w.heap.size 60 i6 z6 5 40 Try.underlying43 HI.out.1 HI.out.2.1 HI.out.2.2.1 HI.out.2.2.2.1 HI.out.2.2.2.2 (by decide) _ _ _ rfl ((hown.alloc (.cells #[.int .i64 c.ref, .int .i64 c.place, .bool true, .int .i64 c.v.1, .int .i64 c.v.2] 60)).alloc (.cells #[.int .i64 c.ref, .int .i64 c.place, .bool true, .int .i64 c.v.1, .int .i64 c.v.2] 60)) ⟨wr.heap.size + 1, 0, none⟩ 1 1 [.int .i64 c.ref, .int .i64 c.place, .bool true, .int .i64 c.v.1, .int .i64 c.v.2] rfl rfl ?h3 (by have := cells_one c; simpa [RCell.cells, HE2.out] using this) (by unfold maxLen; omega) (by omega) (by simp; omega) ?_))
            case h3 =>
              intro j u hj
              have := cells_new (w := wr.alloc (.cells #[.int .i64 c.ref, .int .i64 c.place, .bool true, .int .i64 c.v.1, .int .i64 c.v.2] 60)) (cs := [.int .i64 c.ref, .int .i64 c.place, .bool true, .int .i64 c.v.1, .int .i64 c.v.2]) (t := 60) j u hj
              simpa [RCell.cells] using this
            intro v' w1 hown1 hgrow1 _
            obtain ⟨g1, cap1, cur1, hv1, _, _, _, _⟩ := ownsRow_pos hown1 (by omega)
            subst hv1
            have HCH := hid ((((hc.alloc _).alloc _).grown hgrow1 (fun k o e ho => by
              simp only [Value.ownBlock, Option.some.injEq] at e
              have := lt_size ho
              omega)))
            have HO := hid hown1
            clear hown1 hgrow1 hown
            go_wp2_with fail
            go_roundw
            case rel => exact ⟨k + 1, g1, cap1, n + 1, xs ++ [c], by omega, by go_num, rfl, by rw [List.flatMap_append]; simpa [RCell.cells, HE2.out] using HO.out, HCH.out, HKO.out, by rw [List.length_append, HN.out]; rfl⟩
            case measure => simp [intOf]; omega
          | false =>
            have he : c.hit ref place false = true := by simp [RCell.hit, e0, e1, e2]
            have HSO := hid (HS.out he)
            rw [e2] at q2
            clear he HK HS e2
            go_wp2_with fail
            go_roundw
            case rel => exact ⟨k + 1, g', cap', n, xs, by omega, by go_num, rfl, hown.alloc _, hc.alloc _, HSO.out, HN.out⟩
            case measure => simp [intOf]; omega
    | false =>
      have hkl : ¬ k < len := by simpa using hd
      have hke : L.take k = L := List.take_of_length_le (by have := HL.out; omega)
      rw [hke] at hxs
      subst hxs
      have F := hid (H.out.put hc (by rw [hn]; exact hown))
      have f0 := freeAt hh.head 2
      clear hg hh hke hn
      go_wp2_with fail
      go_ret
      exact ⟨_, rfl, F.out⟩


set_option maxHeartbeats 800000 in
theorem rput_elem (h : RefAt w rb sites types L v1 v2 v3) (ref place : Int) (x : Int × Int) (hl : L.length ≤ 10000) (hr : isRef sites ref = true) :
    Calls Try.prog 19 #[.pointer (some ⟨rb, 0, none⟩), .int .i64 ref, .int .i64 place, .bool true, vv x] w fun e w' => ∃ v3', e = .returned (.bool true) ∧ RefAt w' rb sites types (putL L ⟨ref, (place % 4), true, x⟩) v1 v2 v3' ∧ Ch (RS rb) w w' := by
  obtain ⟨i6, z6, hi6, hz60, hz62, hz61, hz6b⟩ := infoOf info60'
  have HI := hid (And.intro hi6 (And.intro hz60 (And.intro hz61 (And.intro hz6b hz62))))
  clear hi6 hz60 hz62 hz61 hz6b
  obtain ⟨ao, cap, hv3, hm, hg⟩ := sliceOf h.r3
  obtain ⟨len, hlen⟩ : ∃ len, L.length = len := ⟨_, rfl⟩
  subst hv3
  rw [hlen] at hl h hg
  have q := is_any (h.alloc (.cells #[.int .i64 x.1, .int .i64 x.2] 23)) ref
  rw [hr] at q
  have Q := hid q
  clear q hr
  have HL := hid hlen
  clear hlen hm
  have hrb := lt_size h.head
  have H := hid h
  obtain ⟨c1, c2, c3⟩ := three (h.alloc (.cells #[.int .i64 x.1, .int .i64 x.2] 23)).head
  have hb : (w.alloc (.cells #[.int .i64 x.1, .int .i64 x.2] 23)).heap.size = w.heap.size + 1 := by simp
  have own0 := World.ownsRow_lit (base := w.heap.size) (e := 60) (size := 5) (w.alloc (.cells #[.int .i64 x.1, .int .i64 x.2] 23)) #[.int .i64 ref, .int .i64 (place % 4), .bool true, .int .i64 x.1, .int .i64 x.2] 1 (by rw [hb]; omega) (by decide) rfl
  rw [hb] at own0
  have OWN0 := hid own0
  clear own0 hb
  unfold vv
  go_enter Try.func19, Try.ntmps19
  go_wp2_with fail
  refine Q.out.mono ?_
  rintro e w' ⟨rfl, rfl⟩
  go_wp2_with fail
  refine (rplace_any _ _).mono ?_
  rintro e w' ⟨rfl, rfl⟩
  go_wp2_with fail
  go_loopw [11, 12] (fun s11 s12 wr => ∃ (k g' cap' n : Nat) (xs : List RCell), k ≤ len ∧ s12 = .int .i64 k ∧ s11 = .slice (some ⟨g', 0, none⟩) n cap' ∧
      wr.ownsRow w.heap.size 60 5 (.slice (some ⟨g', 0, none⟩) n cap') n (xs.flatMap RCell.cells) ∧ Ch No w wr ∧ putL (L.take k) ⟨ref, (place % 4), true, x⟩ = xs ∧ xs.length = n)
    (fun _ s12 _ => len - (intOf s12).toNat)
  case atStart => exact ⟨0, _, _, 1, [⟨ref, (place % 4), true, x⟩], Nat.zero_le _, rfl, rfl, OWN0.out, ((Ch.refl No w).alloc _).alloc _, rfl, rfl⟩
  case round =>
    clear c1 c2 c3 h
    obtain ⟨k, g', cap', n, xs, hk, rfl, rfl, hown, hc, hxs, hn⟩ := hrel
    have hh := H.out.no hc
    obtain ⟨c1, c2, c3⟩ := three hh.head
    have hs2 := lt_size hh.head
    have hcs := hc.size
    have hgg : w.heap.size ≤ g' := by
      rcases hown.2 with ⟨h1, _⟩ | ⟨_, _, _, h1, h2, _⟩
      · cases h1
      · cases h1; exact h2
    have hll : n ≤ k + 1 := by
      have := List.length_filter_le (fun c : RCell => !c.hit ref (place % 4) true) (L.take k)
      rw [← hn, ← hxs]
      simp only [putL, keepL, List.length_cons, List.length_take] at this ⊢
      omega
    cases hd : decide (k < len) with
    | true =>
      have hkl : k < len := by simpa using hd
      obtain ⟨g, rfl⟩ := hg (by omega)
      obtain ⟨c, hck⟩ : ∃ c, L[k]? = some c := ⟨_, List.getElem?_eq_getElem (by have := HL.out; omega)⟩
      have hcell := RefAt.cell (by rw [HL.out]; exact hh) hck
      obtain ⟨q0, q1, q2, q3, q4⟩ := hcell
      have hst := keepL_step (ref := ref) (place := (place % 4)) (elem := true) hck
      have HK : Hid (c.hit ref (place % 4) true = false → putL (L.take (k + 1)) ⟨ref, (place % 4), true, x⟩ = xs ++ [c]) := hid (fun hf => by
        rw [← hxs]; simp only [putL]; rw [hst, hf]; rfl)
      have HS : Hid (c.hit ref (place % 4) true = true → putL (L.take (k + 1)) ⟨ref, (place % 4), true, x⟩ = xs) := hid (fun hf => by
        rw [← hxs]; simp only [putL]; rw [hst, hf]; simp)
      have HN := hid hn
      clear hst hck hg hxs hn hh
      obtain ⟨cc, hcc⟩ : ∃ cc : Obj, cc = .cells #[.int .i64 c.ref, .int .i64 c.place, .bool c.elem, .int .i64 c.v.1, .int .i64 c.v.2] 60 := ⟨_, rfl⟩
      have HCC := hid hcc
      clear hcc
      cases e0 : (c.ref == ref) with
      | false =>
        have e0' : (c.ref != ref) = true := by simp [bne, e0]
        have he : c.hit ref (place % 4) true = false := by simp [RCell.hit, e0]
        have HKO := hid (HK.out he)
        clear he HK HS
        go_wp2_with (at_builtin; go_must (refine wpList_append_own _ rfl _ _ 43 rfl w.heap.size 60 i6 z6 5 40 Try.underlying43 HI.out.1 HI.out.2.1 HI.out.2.2.1 HI.out.2.2.2.1 HI.out.2.2.2.2 (by decide) _ _ _ rfl ((hown.alloc (.cells #[.int .i64 c.ref, .int .i64 c.place, .bool c.elem, .int .i64 c.v.1, .int .i64 c.v.2] 60)).alloc (.cells #[.int .i64 c.ref, .int .i64 c.place, .bool c.elem, .int .i64 c.v.1, .int .i64 c.v.2] 60)) ⟨wr.heap.size + 1, 0, none⟩ 1 1 c.cells rfl rfl ?h1 (cells_one c) (by unfold maxLen; omega) (by omega) (by simp; omega) ?_))
        case h1 =>
          intro j u hj
          have := cells_new (w := wr.alloc (.cells #[.int .i64 c.ref, .int .i64 c.place, .bool c.elem, .int .i64 c.v.1, .int .i64 c.v.2] 60)) (cs := c.cells) (t := 60) j u hj
          simpa [RCell.cells] using this
        intro v' w1 hown1 hgrow1 _
        obtain ⟨g1, cap1, cur1, hv1, _, _, _, _⟩ := ownsRow_pos hown1 (by omega)
        subst hv1
        have HCH := hid ((((hc.alloc _).alloc _).grown hgrow1 (fun k o e ho => by
          simp only [Value.ownBlock, Option.some.injEq] at e
          have := lt_size ho
          omega)))
        have HO := hid hown1
        clear hown1 hgrow1 hown
        go_wp2_with fail
        go_roundw
        case rel => exact ⟨k + 1, g1, cap1, n + 1, xs ++ [c], by omega, by go_num, rfl, by rw [List.flatMap_append]; simpa [RCell.cells] using HO.out, HCH.out, HKO.out, by rw [List.length_append, HN.out]; rfl⟩
        case measure => simp [intOf]; omega
      | true =>
        have e0' : (c.ref != ref) = false := by simp [bne, e0]
        cases e1 : (c.place == (place % 4)) with
        | false =>
          have e1' : (c.place != (place % 4)) = true := by simp [bne, e1]
          have he : c.hit ref (place % 4) true = false := by simp [RCell.hit, e1]
          have HKO := hid (HK.out he)
          clear he HK HS
          go_wp2_with (at_builtin; go_must (refine wpList_append_own _ rfl _ _ 43 rfl w.heap.size 60 i6 z6 5 40 Try.underlying43 HI.out.1 HI.out.2.1 HI.out.2.2.1 HI.out.2.2.2.1 HI.out.2.2.2.2 (by decide) _ _ _ rfl ((hown.alloc (.cells #[.int .i64 c.ref, .int .i64 c.place, .bool c.elem, .int .i64 c.v.1, .int .i64 c.v.2] 60)).alloc (.cells #[.int .i64 c.ref, .int .i64 c.place, .bool c.elem, .int .i64 c.v.1, .int .i64 c.v.2] 60)) ⟨wr.heap.size + 1, 0, none⟩ 1 1 c.cells rfl rfl ?h2 (cells_one c) (by unfold maxLen; omega) (by omega) (by simp; omega) ?_))
          case h2 =>
            intro j u hj
            have := cells_new (w := wr.alloc (.cells #[.int .i64 c.ref, .int .i64 c.place, .bool c.elem, .int .i64 c.v.1, .int .i64 c.v.2] 60)) (cs := c.cells) (t := 60) j u hj
            simpa [RCell.cells] using this
          intro v' w1 hown1 hgrow1 _
          obtain ⟨g1, cap1, cur1, hv1, _, _, _, _⟩ := ownsRow_pos hown1 (by omega)
          subst hv1
          have HCH := hid ((((hc.alloc _).alloc _).grown hgrow1 (fun k o e ho => by
            simp only [Value.ownBlock, Option.some.injEq] at e
            have := lt_size ho
            omega)))
          have HO := hid hown1
          clear hown1 hgrow1 hown
          go_wp2_with fail
          go_roundw
          case rel => exact ⟨k + 1, g1, cap1, n + 1, xs ++ [c], by omega, by go_num, rfl, by rw [List.flatMap_append]; simpa [RCell.cells] using HO.out, HCH.out, HKO.out, by rw [List.length_append, HN.out]; rfl⟩
          case measure => simp [intOf]; omega
        | true =>
          have e1' : (c.place != (place % 4)) = false := by simp [bne, e1]
          cases e2 : c.elem with
          | false =>
            have he : c.hit ref (place % 4) true = false := by simp [RCell.hit, e2]
            have HKO := hid (HK.out he)
            rw [e2] at q2
            have HE2 := hid e2
            clear he HK HS e2
            go_wp2_with (at_builtin; go_must (refine wpList_append_own _ rfl _ _ 43 rfl w.heap.size 60 i6 z6 5 40 Try.underlying43 HI.out.1 HI.out.2.1 HI.out.2.2.1 HI.out.2.2.2.1 HI.out.2.2.2.2 (by decide) _ _ _ rfl ((hown.alloc (.cells #[.int .i64 c.ref, .int .i64 c.place, .bool false, .int .i64 c.v.1, .int .i64 c.v.2] 60)).alloc (.cells #[.int .i64 c.ref, .int .i64 c.place, .bool false, .int .i64 c.v.1, .int .i64 c.v.2] 60)) ⟨wr.heap.size + 1, 0, none⟩ 1 1 [.int .i64 c.ref, .int .i64 c.place, .bool false, .int .i64 c.v.1, .int .i64 c.v.2] rfl rfl ?h3 (by have := cells_one c; simpa [RCell.cells, HE2.out] using this) (by unfold maxLen; omega) (by omega) (by simp; omega) ?_))
            case h3 =>
              intro j u hj
              have := cells_new (w := wr.alloc (.cells #[.int .i64 c.ref, .int .i64 c.place, .bool false, .int .i64 c.v.1, .int .i64 c.v.2] 60)) (cs := [.int .i64 c.ref, .int .i64 c.place, .bool false, .int .i64 c.v.1, .int .i64 c.v.2]) (t := 60) j u hj
              simpa [RCell.cells] using this
            intro v' w1 hown1 hgrow1 _
            obtain ⟨g1, cap1, cur1, hv1, _, _, _, _⟩ := ownsRow_pos hown1 (by omega)
            subst hv1
            have HCH := hid ((((hc.alloc _).alloc _).grown hgrow1 (fun k o e ho => by
              simp only [Value.ownBlock, Option.some.injEq] at e
              have := lt_size ho
              omega)))
            have HO := hid hown1
            clear hown1 hgrow1 hown
            go_wp2_with fail
            go_roundw
            case rel => exact ⟨k + 1, g1, cap1, n + 1, xs ++ [c], by omega, by go_num, rfl, by rw [List.flatMap_append]; simpa [RCell.cells, HE2.out] using HO.out, HCH.out, HKO.out, by rw [List.length_append, HN.out]; rfl⟩
            case measure => simp [intOf]; omega
          | true =>
            have he : c.hit ref (place % 4) true = true := by simp [RCell.hit, e0, e1, e2]
            have HSO := hid (HS.out he)
            rw [e2] at q2
            clear he HK HS e2
            go_wp2_with fail
            go_roundw
            case rel => exact ⟨k + 1, g', cap', n, xs, by omega, by go_num, rfl, hown.alloc _, hc.alloc _, HSO.out, HN.out⟩
            case measure => simp [intOf]; omega
    | false =>
      have hkl : ¬ k < len := by simpa using hd
      have hke : L.take k = L := List.take_of_length_le (by have := HL.out; omega)
      rw [hke] at hxs
      subst hxs
      have F := hid (H.out.put hc (by rw [hn]; exact hown))
      have f0 := freeAt hh.head 2
      clear hg hh hke hn
      go_wp2_with fail
      go_ret
      exact ⟨_, rfl, F.out⟩

end
end Go.Proofs.Ytldhlaabdhpdiaa
