/- CheckOrder returns true for every input, and each argument reads as before: the tied card. -/
import Derived.Test.YtgjpgfedlgdjhaaGreatDoorYbs
import Derived.Test.YtgjpgfedlgdjhaaGreatDoorYbw
import Derived.Test.YtgjpgfedlgdjhaaGreatDoorYbt
import Derived.ChangeMaps5
set_option linter.unusedVariables false
set_option linter.unusedSimpArgs false
set_option maxHeartbeats 64000000
set_option maxRecDepth 8192
section
namespace Go.Proofs.YtgjpgfedlgdjhaaGreatDoor
open Go.RowKit Go.W
theorem B5.from {w : World} {b off n cap sz k : Nat} {css : List (List Value)} (h : B5 w (.slice (some ⟨b, off, none⟩) n cap) sz css) (hk : k ≤ n) : B5 w (.slice (some ⟨b, off + k * sz, none⟩) (n - k) (cap - k)) sz (css.drop k) := by
 obtain ⟨ao, cp, e, h1, h2, h3, h4⟩ := h
 cases e
 refine ⟨_, _, by rw [List.length_drop], by rw [List.length_drop]; omega, by omega, fun c hc => h3 c (List.mem_of_mem_drop hc), fun h0 => ?_⟩
 rw [List.length_drop] at h0
 obtain ⟨b', off', e, h5⟩ := h4 (by omega)
 cases e
 refine ⟨b, off + k * sz, rfl, fun i c hi j hj => ?_⟩
 rw [List.getElem?_drop] at hi
 have h6 := h5 (k + i) c hi j hj
 rw [Nat.add_mul, ← Nat.add_assoc] at h6
 exact h6
theorem B5.upto {w : World} {ao : Option Addr} {n cap sz k : Nat} {css : List (List Value)} (h : B5 w (.slice ao n cap) sz css) (hk : k ≤ n) : B5 w (.slice ao k cap) sz (css.take k) := by
 obtain ⟨ao', cp, e, h1, h2, h3, h4⟩ := h
 cases e
 have hl : (css.take k).length = k := by rw [List.length_take]; omega
 refine ⟨ao, cap, by rw [hl], by rw [hl]; omega, h2, fun c hc => h3 c (List.mem_of_mem_take hc), fun h0 => ?_⟩
 rw [hl] at h0
 obtain ⟨b, off, rfl, h5⟩ := h4 (by omega)
 refine ⟨b, off, rfl, fun i c hi j hj => h5 i c ?_ j hj⟩
 rw [List.getElem?_take] at hi
 split at hi
 {exact hi}
 {cases hi}
theorem Rw {w : World} {ca : Option Addr} {cc : Nat} {Ks : List KD} {M : Md} (h : Db w ca cc Ks M) : B5 w (.slice ca Ks.length cc) 10 (Ks.map KD.cells) := Es (fun _ => rfl) h.row
theorem Ae5 (l : List KD) : ∀ c ∈ l.map KD.cells, ∀ x ∈ c, x.oneCell' = true := by
 intro c hc x hx
 obtain ⟨v, _, rfl⟩ := List.mem_map.1 hc
 simp [KD.cells] at hx
 rcases hx with rfl | rfl | rfl | rfl | rfl | rfl | rfl | rfl | rfl | rfl <;> rfl
theorem Db.turn {w w' : World} {ca ca' : Option Addr} {cc cc' k base : Nat} {Ks Qs : List KD} {M : Md} (h : Db w ca cc Ks M) (hc : Ch No w w') (hk : k ≤ Ks.length) (hq : Ks.drop k ++ Ks.take k = Qs)
 (ho : w'.ownsRow base 50 10 (.slice ca' Qs.length cc') Qs.length (((Ks.map KD.cells).drop k).flatten ++ ((Ks.map KD.cells).take k).flatten)) : Db w' ca' cc' Qs M := by
 have h2 := h.no hc
 have hl : Qs.length = Ks.length := by rw [← hq, List.length_append, List.length_drop, List.length_take]; omega
 refine ⟨?_, fun K hK => ?_, by rw [hl]; exact h.len, h2.main⟩
 {have hr : A5 Tru w' ca' Qs.length cc' _ := A5.ownP ho (fun _ _ => trivial)
  rw [← hq] at hr ⊢
  rw [List.flatMap_def, List.map_append, List.flatten_append, List.map_drop, List.map_take]
  exact hr}
 {rw [← hq] at hK
  refine h2.ks K ?_
  rcases List.mem_append.1 hK with hK | hK
  {exact List.mem_of_mem_drop hK}
  {exact List.mem_of_mem_take hK}}
def Mu (w : World) (e : Ending) (w' : World) : Prop := e = .returned (.bool true) ∧ Ch No w w'
theorem X3 : (31 : TypeId) ≠ 50 := by decide
theorem Ae6 {p : Prop} (h : p := by
 rw [hwF]
 have hfF := hcF.keep _ _ HFE.out (fun h => h)
 have HCF := Aa (HCE.out.trans hcF)
 have y0 := Ab hfF 0
 have x0 := Ab hbF 0
 clear hwF hbF hcF hfF
 go_wp2
 go_ret
 exact ⟨rfl, by first | exact HCF.out | exact HCF.out.drew | exact HCF.out.alloc _⟩
 ) : p := h
theorem Qa {w : World} (hT : Ia w) (s : ByteArray) {a : Nat} (ha : a < 256) : Calls Tryz.prog 3 #[.string s, .int .u8 a] w (Mu w) := by
 have HT := Aa hT
 clear hT
 by_cases h25 : s.size ≤ 2500
 {have d1 : decide ((s.size : Int) > 2500) = false := decide_eq_false (by omega)
  have hs : s.size ≤ maxLen := Nat.le_trans h25 (lb rfl)
  have HS := Aa hs
  clear h25 hs
  go_in
  go_wp2_with fail
  refine (Gv HT.out).mono ?_
  rintro e w1 ⟨rfl, hc1⟩
  have HC1 := Aa hc1
  clear hc1
  go_wp2_with fail
  refine (Rd w1 s HS.out).mono ?_
  rintro e w2 ⟨hc2, ⟨ca, cc, Ks, la, ls, lc, sa, t, sc, l, c, rfl, hp⟩ | ⟨er, l, c, her, rfl⟩⟩
  {have HC2 := Aa (HC1.out.trans hc2)
   have HP := Aa hp
   clear hp hc2
   go_upto_region 4 with fail
   obtain ⟨w4, hw4⟩ := Ax ((w2.alloc (.cells #[.slice ca Ks.length cc, .string ⟨#[118, 111, 105, 100]⟩, .string ⟨#[109, 97, 105, 110]⟩, .bool true, .bool false, .slice none 0 0, .slice la ls.length lc, .slice sa t.len sc, .int .i64 l, .int .i64 c] 31)).alloc (.cells #[.int .i64 0, .int .i64 0, .int .i64 0] 34))
   have hb4 := Bh (heap_alloc_new w2 (.cells #[.slice ca Ks.length cc, .string ⟨#[118, 111, 105, 100]⟩, .string ⟨#[109, 97, 105, 110]⟩, .bool true, .bool false, .slice none 0 0, .slice la ls.length lc, .slice sa t.len sc, .int .i64 l, .int .i64 c] 31)) (.cells #[.int .i64 0, .int .i64 0, .int .i64 0] 34)
   have hg4 := heap_alloc_new (w2.alloc (.cells #[.slice ca Ks.length cc, .string ⟨#[118, 111, 105, 100]⟩, .string ⟨#[109, 97, 105, 110]⟩, .bool true, .bool false, .slice none 0 0, .slice la ls.length lc, .slice sa t.len sc, .int .i64 l, .int .i64 c] 31)) (.cells #[.int .i64 0, .int .i64 0, .int .i64 0] 34)
   have hc4 := ((Ch.refl No w2).alloc (.cells #[.slice ca Ks.length cc, .string ⟨#[118, 111, 105, 100]⟩, .string ⟨#[109, 97, 105, 110]⟩, .bool true, .bool false, .slice none 0 0, .slice la ls.length lc, .slice sa t.len sc, .int .i64 l, .int .i64 c] 31)).alloc (.cells #[.int .i64 0, .int .i64 0, .int .i64 0] 34)
   have es : (w2.alloc (.cells #[.slice ca Ks.length cc, .string ⟨#[118, 111, 105, 100]⟩, .string ⟨#[109, 97, 105, 110]⟩, .bool true, .bool false, .slice none 0 0, .slice la ls.length lc, .slice sa t.len sc, .int .i64 l, .int .i64 c] 31)).heap.size = w2.heap.size + 1 := by simp
   rw [es] at hg4
   rw [hw4] at hb4 hc4 hg4 ⊢
   have HB4 := Aa hb4
   have HP4 := Aa (HP.out.no hc4)
   have HC24 := Aa hc4
   have HC4 := Aa (HC2.out.trans hc4)
   have z0 := Ab hg4 0
   obtain ⟨p0, p1, p2, p3, p4, p5, p6, p7, p8, p9⟩ := Au hb4
   clear hw4 hb4 hc4 hg4 es
   go_wp2_with fail
   refine (Q9 HP4.out).mono ?_
   rintro e w5 ⟨⟨r, rfl, hr⟩, hc5⟩
   have HB5 := Aa (hc5.keep _ _ HB4.out (fun h => h))
   have HP5 := Aa (HP4.out.no hc5)
   have HC25 := Aa (HC24.out.trans hc5)
   have HC5 := Aa (HC4.out.trans hc5)
   have hb5 := HB5.out
   clear p0 p1 p2 p3 p4 p5 p6 p7 p8 p9 hc5 HB4 HP4
   obtain ⟨p0, p1, p2, p3, p4, p5, p6, p7, p8, p9⟩ := Au hb5
   clear hb5
   cases r with
   | false =>
    clear hr
    go_wp2
    go_ret
    exact ⟨rfl, by first | exact HC5.out | exact HC5.out.drew⟩
   | true =>
    have HSM := Aa (hr rfl)
    clear hr
    rcases Nat.eq_zero_or_pos Ks.length with h0 | h0
    {have d2 : decide (((Ks.length : Nat) : Int) = 0) = true := decide_eq_true (by omega)
     have d3 : (((Ks.length : Nat) : Int) == 0) = true := by simpa using d2
     go_wp2
     go_ret
     exact ⟨rfl, by first | exact HC5.out | exact HC5.out.drew⟩}
    {obtain ⟨k, hk⟩ := Ax (a % Ks.length)
     have hkn : k < Ks.length := by rw [← hk]; exact Nat.mod_lt _ h0
     have h60 : Ks.length ≤ 60 := HP.out.len
     have hcc : Ks.length ≤ cc := HP5.out.row.1
     have hcm : cc ≤ maxLen := HP5.out.row.2.1
     unfold maxLen at hcm
     obtain ⟨b, hb⟩ : ∃ b, ca = some ⟨b, 0, none⟩ := by
      obtain ⟨_, _, g3 | ⟨b, e, _⟩⟩ := HP5.out.row
      {omega}
      {exact ⟨b, e⟩}
     subst hb
     have d2 : decide (((Ks.length : Nat) : Int) = 0) = false := decide_eq_false (by omega)
     have d3 : (((Ks.length : Nat) : Int) == 0) = false := by simpa using d2
     have ew : IntKind.i64.wrap (a : Int) = (a : Int) := by rw [IntKind.wrap_i64]; omega
     have er : Int.tmod (a : Int) ((Ks.length : Nat) : Int) = (k : Int) := by rw [← hk]; rfl
     have ek : IntKind.i64.wrap (k : Int) = (k : Int) := by rw [IntKind.wrap_i64]; omega
     have HK := Aa hk
     clear hk
     go_upto_region 8 with fail
     obtain ⟨w7, hw7, hb7, hc7⟩ := A2 w5 (.cells #[.slice (some ⟨b, 0, none⟩) Ks.length cc, .string ⟨#[118, 111, 105, 100]⟩, .string ⟨#[109, 97, 105, 110]⟩, .bool true, .bool false, .slice none 0 0, .slice la ls.length lc, .slice sa t.len sc, .int .i64 l, .int .i64 c] 31)
     rw [hw7]
     have hB7 := hc7.keep _ _ HB5.out (fun h => h)
     have HC27 := Aa (HC25.out.trans hc7)
     have hc8 : Ch No w7 ((w7.alloc (.cells #[] 50)).drew) := ((Ch.refl No w7).alloc _).drew
     have HC8d := Aa hc8
     have hrow := Rw (HP.out.no (HC27.out.trans hc8))
     have hrd := B5.from (k := k) hrow (by omega)
     rw [Nat.zero_add] at hrd
     have HRD := Aa hrd
     have hk1 : k ≤ Ks.length := by omega
     have hk2 : ¬ cc = k := by omega
     have hk3 : k ≤ cc := by omega
     have HRT := Aa (B5.upto (k := k) (Rw (HP.out.no HC27.out)) (by omega))
     have HO := Aa (show ((w7.alloc (.cells #[] 50)).drew).ownsRow w7.heap.size 50 10 (.slice (some ⟨w7.heap.size, 0, none⟩) 0 0) 0 [] from World.ownsRow_made w7 #[] 0 (Nat.le_refl _) (Nat.zero_le _) rfl)
     have HQ8d := Aa (hc8.keep _ _ hb7 (fun h => h))
     have HB8d := Aa (hc8.keep _ _ hB7 (fun h => h))
     have HBS := Aa hc8.size
     obtain ⟨Qs, hQs⟩ := Ax (Ks.drop k ++ Ks.take k)
     have hl8 : ((Ks.map KD.cells).drop k).length = Ks.length - k := by rw [List.length_drop, List.length_map]
     have hl9 : ((Ks.map KD.cells).take k).length = k := by rw [List.length_take, List.length_map]; omega
     have HN8 := Aa (show 0 + ((Ks.map KD.cells).drop k).length ≤ 100000 from by omega)
     have HE8 := Aa (show 0 + ((Ks.map KD.cells).drop k).length = Ks.length - k from by omega)
     have HN9 := Aa (show Ks.length - k + ((Ks.map KD.cells).take k).length ≤ 100000 from by omega)
     have HE9 := Aa (show Ks.length - k + ((Ks.map KD.cells).take k).length = Qs.length from by rw [← hQs, hl9, List.length_append, List.length_drop, List.length_take]; omega)
     have HQS := Aa hQs
     have hlt : w2.heap.size < w5.heap.size := Ac HB5.out
     have HK1 := Aa (show ∀ c ∈ (Ks.map KD.cells).drop k, ∀ x ∈ c, x.oneCell' = true from fun c hc => Ae5 _ c (List.mem_of_mem_drop hc))
     have HK2 := Aa (show ∀ c ∈ (Ks.map KD.cells).take k, ∀ x ∈ c, x.oneCell' = true from fun c hc => Ae5 _ c (List.mem_of_mem_take hc))
     obtain ⟨_, p1', p2', p3', p4', p5', p6', p7', p8', p9'⟩ := Au hB7
     have v0 := Ab hB7 0
     have yq := Ac hb7
     have yp := Ac hB7
     have hSZ : w5.heap.size < w7.heap.size := Ac hb7
     clear hQs p0 p1 p2 p3 p4 p5 p6 p7 p8 p9 p1' p2' p3' p4' p5' p6' p7' p8' p9' hb7 hc7 hB7 hc8 hrow hrd hl8 hl9 HP5 HB5 ew er ek z0 d2 d3 hw7
     go_region_law (first | (refine Cj rfl _ _ rfl Tryz.sliceCls2 Tryz.infoCls2 (lb rfl) (lb rfl) w7.heap.size (.slice (some ⟨w7.heap.size, 0, none⟩) 0 0) 0 [] rfl HO.out (.slice (some ⟨b, k * 10, none⟩) (Ks.length - k) (cc - k)) ((Ks.map KD.cells).drop k) rfl HRD.out HK1.out HN8.out HBS.out ?_; intro v8 w8 hr8 hc8; rw [HE8.out, List.nil_append] at hr8; obtain ⟨a8, c8, e8, _, _⟩ := Fz hr8; subst e8; have HR8 := Aa hr8; have HB8 := Aa (Sn HO.out hc8 HB8d.out X3); have HQ8 := Aa (Sn HO.out hc8 HQ8d.out X3); have HC8 := Aa (Sm HO.out hc8 HC8d.out (Nat.le_refl _)); have HRT8 := Aa (HRT.out.no HC8.out); have u0 := Ab HB8.out 0; have HBS8 := Aa HC8.out.size; clear hr8 hc8 HO) | (refine Cj rfl _ _ rfl Tryz.sliceCls2 Tryz.infoCls2 (lb rfl) (lb rfl) w7.heap.size (.slice a8 (Ks.length - k) c8) (Ks.length - k) _ rfl HR8.out (.slice (some ⟨b, 0, none⟩) k cc) ((Ks.map KD.cells).take k) rfl HRT8.out HK2.out HN9.out HBS8.out ?_; intro v9 w9 hr9 hc9; rw [HE9.out] at hr9; obtain ⟨a9, c9, e9, _, _⟩ := Fz hr9; subst e9; have HR9 := Aa hr9; have HB9 := Aa (Sn HR8.out hc9 HB8.out X3); have HQ9 := Aa (Sn HR8.out hc9 HQ8.out X3); have HC9 := Aa (Sm HR8.out hc9 HC8.out (Nat.le_refl _)); have hq9 := HQ9.out; have q0 := Ab hq9 0; have f0 := Ad hq9 0; clear hr9 hc9 hq9 HR8))
     all_goals (
      clear q0 f0 v0 u0 hk1 hk2 hk3
      obtain ⟨wA, hwA, hbA, hcA⟩ := Ai HQ9.out 0 (.slice a9 Qs.length c9)
      have hqA : wA.heap[w5.heap.size]? = some (.cells #[.slice a9 Qs.length c9, .string ⟨#[118, 111, 105, 100]⟩, .string ⟨#[109, 97, 105, 110]⟩, .bool true, .bool false, .slice none 0 0, .slice la ls.length lc, .slice sa t.len sc, .int .i64 l, .int .i64 c] 31 (0, 0)) := by simpa using hbA
      have HQA := Aa hqA
      have HC29 := HC27.out.trans HC9.out
      have HC2A := Aa (Ch.newOnly HC29 hcA (Eb (by omega)))
      have HCA := Aa (HC2.out.trans HC2A.out)
      have hbA2 := hcA.keep _ _ HB9.out (Bm (by omega))
      have HBA := Aa hbA2
      have HPA2 := Aa (Db.turn HP.out HC2A.out (Nat.le_of_lt hkn) HQS.out (An HR9.out hcA (fun g cur _ hg _ e => by have e' : g = w5.heap.size := e; omega)))
      obtain ⟨p0, p1, p2, p3, p4, p5, p6, p7, p8, p9⟩ := Au hbA2
      rw [hwA]
      clear hwA hbA hcA hqA hbA2 HC29 HR9 HB9 HQ9 HRT8 HB8 HQ8
      go_wp2_with fail
      refine (Gu (HP.out.no HC2A.out) (HT.out.no HCA.out) HSM.out).mono ?_
      rintro e wB ⟨hcB, ⟨hok, mb, rfl⟩ | ⟨hno, l1, c1, rfl⟩⟩
      {have HOK := (V8 (Nat.le_of_lt hkn)).2 hok
       clear hok
       rw [HQS.out] at HOK
       have HBB := Aa (hcB.keep _ _ HBA.out (fun h => h))
       have HQB := Aa (hcB.keep _ _ HQA.out (fun h => h))
       have HPB := Aa (HPA2.out.no hcB)
       have HCB := Aa (HCA.out.trans hcB)
       clear hcB p0 p1 p2 p3 p4 p5 p6 p7 p8 p9
       go_upto_region 10 with fail
       obtain ⟨wD, hwD, hbD, hcD⟩ := A2 wB (.cells #[.int .i64 (0), .int .i64 (0), .int .i64 (0)] 34)
       rw [hwD]
       have HFD := Aa hbD
       have HQD := Aa (hcD.keep _ _ HQB.out (fun h => h))
       have HPD := Aa (HPB.out.no hcD)
       have HCD := Aa (HCB.out.trans hcD)
       have hqD := HQD.out
       obtain ⟨p0, p1, p2, p3, p4, p5, p6, p7, p8, p9⟩ := Au hqD
       clear hwD hbD hcD hqD HBB HQB HPB HBA HQA HPA2
       go_wp2_with fail
       refine (Gu HPD.out (HT.out.no HCD.out) (HQS.out ▸ Lw HSM.out)).mono ?_
       rintro e wE ⟨hcE, ⟨_, mb2, rfl⟩ | ⟨hno, l2, c2, rfl⟩⟩
       {skip
        have HFE := Aa (hcE.keep _ _ HFD.out (fun h => h))
        have HCE := Aa (HCD.out.trans hcE)
        clear hcE p0 p1 p2 p3 p4 p5 p6 p7 p8 p9
        go_upto_region 11 with fail
        obtain ⟨wF, hwF, hbF, hcF⟩ := A2 wE (.cells #[.int .i64 (0), .int .i64 (0), .int .i64 (0)] 34)
        exact Ae6}
       {exact absurd HOK hno}}
      {have HNO := fun h => hno ((V8 (Nat.le_of_lt hkn)).1 h)
       clear hno
       rw [HQS.out] at HNO
       have HBB := Aa (hcB.keep _ _ HBA.out (fun h => h))
       have HQB := Aa (hcB.keep _ _ HQA.out (fun h => h))
       have HPB := Aa (HPA2.out.no hcB)
       have HCB := Aa (HCA.out.trans hcB)
       clear hcB p0 p1 p2 p3 p4 p5 p6 p7 p8 p9
       go_upto_region 10 with fail
       obtain ⟨wD, hwD, hbD, hcD⟩ := A2 wB (.cells #[.int .i64 (11), .int .i64 (l1), .int .i64 (c1)] 34)
       rw [hwD]
       have HFD := Aa hbD
       have HQD := Aa (hcD.keep _ _ HQB.out (fun h => h))
       have HPD := Aa (HPB.out.no hcD)
       have HCD := Aa (HCB.out.trans hcD)
       have hqD := HQD.out
       obtain ⟨p0, p1, p2, p3, p4, p5, p6, p7, p8, p9⟩ := Au hqD
       clear hwD hbD hcD hqD HBB HQB HPB HBA HQA HPA2
       go_wp2_with fail
       refine (Gu HPD.out (HT.out.no HCD.out) (HQS.out ▸ Lw HSM.out)).mono ?_
       rintro e wE ⟨hcE, ⟨hok2, mb2, rfl⟩ | ⟨_, l2, c2, rfl⟩⟩
       {exact absurd hok2 HNO}
       {skip
        have HFE := Aa (hcE.keep _ _ HFD.out (fun h => h))
        have HCE := Aa (HCD.out.trans hcE)
        clear hcE p0 p1 p2 p3 p4 p5 p6 p7 p8 p9
        go_upto_region 11 with fail
        obtain ⟨wF, hwF, hbF, hcF⟩ := A2 wE (.cells #[.int .i64 (11), .int .i64 (l2), .int .i64 (c2)] 34)
        exact Ae6}}
      )}}
  {have HC2 := Aa (HC1.out.trans hc2)
   have de : (er != 0) = true := by simpa using her
   unfold Hy
   clear her hc2
   go_upto_region 4 with fail
   obtain ⟨w4, hw4⟩ := Ax ((w2.alloc (.cells Hy 31)).alloc (.cells #[.int .i64 er, .int .i64 l, .int .i64 c] 34))
   have hg4 := heap_alloc_new (w2.alloc (.cells Hy 31)) (.cells #[.int .i64 er, .int .i64 l, .int .i64 c] 34)
   have hc4 := ((Ch.refl No w2).alloc (.cells Hy 31)).alloc (.cells #[.int .i64 er, .int .i64 l, .int .i64 c] 34)
   have es : (w2.alloc (.cells Hy 31)).heap.size = w2.heap.size + 1 := by simp
   rw [es] at hg4
   rw [hw4] at hc4 hg4
   unfold Hy at hw4
   rw [hw4]
   have HC4 := Aa (HC2.out.trans hc4)
   have z0 := Ab hg4 0
   clear hw4 hc4 hg4 es
   go_wp2
   go_ret
   exact ⟨rfl, by first | exact HC4.out | exact HC4.out.drew⟩}}
 {have d1 : decide ((s.size : Int) > 2500) = true := decide_eq_true (by omega)
  clear h25
  go_in
  go_wp2_with fail
  refine (Gv HT.out).mono ?_
  rintro e w1 ⟨rfl, hc1⟩
  have HC1 := Aa hc1
  clear hc1
  go_wp2_with fail
  refine (Gv (HT.out.no HC1.out)).mono ?_
  rintro e w2 ⟨rfl, hc2⟩
  go_wp2
  go_ret
  exact ⟨rfl, HC1.out.trans hc2⟩}
theorem Ae7 {x : Int} (hx : (Lit.int .u8 x).wf = true) : 0 ≤ x ∧ x ≤ 255 := by
 simpa [Lit.wf, IntKind.min, IntKind.max, IntKind.signed, IntKind.bits] using hx
theorem Oy {w : World} {x : Int} (hT : Ia w) (s : ByteArray) (hx : (Lit.int .u8 x).wf = true) : Calls Tryz.prog 3 #[.string s, .int .u8 x] w (Mu w) := by
 have hx' := Ae7 hx
 obtain ⟨n, rfl⟩ : ∃ n : Nat, x = n := ⟨x.toNat, by omega⟩
 exact Qa hT s (by omega)
end Go.Proofs.YtgjpgfedlgdjhaaGreatDoor
end
section
namespace Go.Proofs.YtgjpgfedlgdjhaaGreatDoor
open Go.ChangeShapes Go.WideShapes Go.ChangeAt Go.RowKit Go.W Go.Joins
theorem Oz (os : Os) : laidMet Tryz.prog Rows.checkOrderRow.laid ((Gw os).forCall (fun _ _ => 0) ⟨#[], #[.string { data := #[] }, .int .u8 0], []⟩).memory :=
 laidMet_of_run' 70 (by kernel_rfl) (by kernel_rfl)
theorem My (os : Os) {H : Type} (enc : TypeId × Value → H) :
 ∃ places, DataW.whole enc Tryz.prog ((Gw os).forCall (fun _ _ => 0) ⟨#[], #[.string { data := #[] }, .int .u8 0], []⟩).memory Tryz.f3.params.toList Rows.checkOrderSpec.vars false #[Value.string { data := #[] }, Value.int .u8 0].toList 8 = some ([.lit (.string []), .lit (.int .u8 0)], [], places) :=
 ⟨[], by kernel_rfl⟩
set_option maxRecDepth 100000 in
theorem Jf (H : Type) (enc : TypeId × Value → H) (W : World) (base : Nat) (args : Array Value) (ds gs : List (DataW H)) (before : List MemPlace)
 (hval : ∀ (j : Nat) t v, Tryz.f3.params[j]? = some t → args[j]? = some v → Value.okWide Tryz.prog W .any base t v)
 (hW : DataW.Whole enc Tryz.prog Tryz.f3.params.toList Rows.checkOrderSpec.vars false W args.toList ds gs before) (hL : laidMetH Tryz.prog Rows.checkOrderRow.laid W) :
 Calls Tryz.prog 3 args W fun e W' => ∃ v, e = .returned v ∧ Rows.checkOrderSpec.post enc Tryz.prog Tryz.f3 false true false false W args v W' := by
 have hW' := hW
 obtain ⟨p, q, hA0, hV, rfl, hfz, hnd⟩ := hW
 have hA : DataW.TrodAll enc Tryz.prog W 0 (fun _ => true) true Tryz.f3.params.toList args.toList ds p := hA0
 rw [Tryz.params3] at hA hval
 obtain ⟨v0, vs0, d0, ds0, p0, q0, hargs, rfl, rfl, t0, r0⟩ := trodAll_cons hA
 obtain ⟨v1, vs1, d1, ds1, p1, q1, rfl, rfl, rfl, t1, r1⟩ := trodAll_cons r0
 obtain ⟨rfl, rfl, rfl⟩ := trodAll_nil r1
 obtain rfl : args = #[v0, v1] := by cases args; simp_all
 obtain ⟨rfl, rfl⟩ := trodVars_none hV
 obtain ⟨a0, rfl, rfl, rfl, h0⟩ := Go.ChangeMaps.open_string Km (hval 0 9 v0 rfl rfl) t0
 obtain ⟨a1, rfl, rfl, rfl, h1⟩ := open_int Lt (hval 1 5 v1 rfl rfl) t1
 refine (Oy (Rm (enc := enc) hL) a0 h1).mono fun e W' ⟨he, hg⟩ => ?_
 subst he
 refine ⟨_, rfl, Ok (bt := 4) hW' Ls ?_ rfl rfl I2 rfl hg.no_below⟩
 intro t ht
 rw [Tryz.params3] at ht
 simp at ht
 rcases ht with rfl | rfl
 {exact ⟨by kernel_rfl, of_decide_eq_true (by kernel_rfl)⟩}
 {exact ⟨by kernel_rfl, of_decide_eq_true (by kernel_rfl)⟩}
set_option maxRecDepth 100000 in
theorem La (os : Os) (started : os.Started) (H : Type) (enc : TypeId × Value → H) (F : Stop.Interp) :
 ReturnsInHanded {} Tryz.checked os 3 .any ((OpenSpec.ofChange Rows.checkOrderSpec).preRow enc Tryz.prog Tryz.f3 Rows.checkOrderRow.domain false Rows.checkOrderRow.laid) (((OpenSpec.ofChange Rows.checkOrderSpec).at F).post enc Tryz.prog Tryz.f3 false true false false) := by
 obtain ⟨places, hx⟩ := My os enc
 refine returnsInHanded_of_row (C := Tryz.checked) (s := OpenSpec.ofChange Rows.checkOrderSpec) Y0 started (by kernel_rfl) Tryz.func3
  (witness_row_at (enc := enc) (C := Tryz.checked) false (Gw os) #[.string { data := #[] }, .int .u8 0] rfl (by kernel_rfl) (by kernel_rfl) (by kernel_rfl)
   (OpenSpec.preRow_of_cond 8 hx (by kernel_rfl) (fun k hk => by cases hk) (by kernel_rfl) (Oz os))) ?_
 intro W base args ds gs before hval hW _ _ _ hL _ _
 exact Jf H enc W base args ds gs before hval hW hL
theorem O0 : Rows.CheckOrderSaid :=
 OpenClaim.holds_of_cond 3 Tryz.f3 rfl rfl rfl rfl rfl rfl rfl ⟨rfl, rfl, rfl, rfl, rfl⟩ rfl rfl rfl rfl rfl (by kernel_rfl) Tryz.func3 (by kernel_rfl)
  (of_decide_eq_true (by kernel_rfl)) (by unfold Func.isWrapper; first | (rw [if_pos (by decide +kernel)]; kernel_rfl) | (rw [if_neg (by decide +kernel)]; exact ⟨rfl, rfl⟩))
  (fun os started H enc _ F => by rw [OpenClaim.pre_eq_preRow]; exact La os started H enc F)
theorem Mz (f : FuncId) (fn : Func) (hf : Tryz.pinned.checked.prog.funcNamed "winnower/winnowerlaw11.CheckOrder" = some f) (hfn : Tryz.pinned.checked.prog.funcs[f]? = some fn) :
 false = Tryz.pinned.checked.prog.looks [] ∧ ∀ (j : Nat) t, fn.params[j]? = some t → Tryz.pinned.checked.prog.wantsStandIn t = false := by
 obtain rfl : f = 3 := Option.some.inj ((show Tryz.prog.funcNamed "winnower/winnowerlaw11.CheckOrder" = some 3 by kernel_rfl).symm.trans hf) |>.symm
 obtain rfl : fn = Tryz.f3 := (Option.some.inj (Tryz.func3.symm.trans hfn)).symm
 refine ⟨by kernel_rfl, fun j t ht => ?_⟩
 rw [Tryz.params3] at ht
 have hm : t = 9 ∨ t = 5 := by simpa using Array.mem_of_getElem? ht
 rcases hm with rfl | rfl
 {exact (show Tryz.prog.wantsStandIn 9 = false by kernel_rfl)}
 {exact (show Tryz.prog.wantsStandIn 5 = false by kernel_rfl)}
theorem corder_card : Rows.CheckOrderCardSaid :=
 Claim7.holds_tied_plain_at .later [] _ _ _ _ O0 (fun _ h => by cases h) (by kernel_rfl) (fun _ h => by cases h) checkOrder_row_tie rfl ⟨rfl, rfl⟩ (by kernel_rfl) rfl Mz (by kernel_rfl)
end Go.Proofs.YtgjpgfedlgdjhaaGreatDoor
end
