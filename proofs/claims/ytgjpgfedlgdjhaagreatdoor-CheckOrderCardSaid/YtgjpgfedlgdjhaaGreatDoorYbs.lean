/- Part 45. -/
import Derived.Test.YtgjpgfedlgdjhaaGreatDoorYbh
import Derived.Test.YtgjpgfedlgdjhaaGreatDoorYbr
set_option linter.unusedVariables false
set_option linter.unusedSimpArgs false
set_option maxHeartbeats 64000000
set_option maxRecDepth 8192
section
namespace Go.Proofs.YtgjpgfedlgdjhaaGreatDoor
open Go.RowKit Go.W
def kA : Aj := ⟨⟨#[65]⟩, ⟨#[]⟩, false, [], none, 0, (none, 0, 0), (none, 0, 0), (none, 0, 0), none, 1, 1⟩
def kB (sp : ByteArray) : Aj := ⟨⟨#[66]⟩, sp, false, [], none, 0, (none, 0, 0), (none, 0, 0), (none, 0, 0), none, 1, 13⟩
def pC (sp : ByteArray) : List Aj := [kA, kB sp]
def pM : List Ba := [⟨[], [], []⟩, ⟨[], [], []⟩]
theorem Hv {sp : ByteArray} {i : Nat} {c : Aj} (h : (pC sp)[i]? = some c) : (i = 0 ∧ c = kA) ∨ (i = 1 ∧ c = kB sp) := by
 match i, h with
 | 0, h => cases h; exact .inl ⟨rfl, rfl⟩
 | 1, h => cases h; exact .inr ⟨rfl, rfl⟩
 | i + 2, h => simp [pC] at h
theorem P0 {i : Nat} {m : Ba} (h : pM[i]? = some m) : m = ⟨[], [], []⟩ := by
 match i, h with
 | 0, h => cases h; rfl
 | 1, h => cases h; rfl
 | i + 2, h => simp [pM] at h
theorem Xy {sp : ByteArray} (hf : Bt (pC sp) none) : Fw (pC sp) pM := by
 refine ⟨hf, fun i c m hc hm => ?_⟩
 obtain rfl := P0 hm
 have hcf : c.face = false := by rcases Hv hc with ⟨_, rfl⟩ | ⟨_, rfl⟩ <;> rfl
 refine ⟨fun k hk => absurd hk (Nat.not_lt_zero _), fun k hk => absurd hk (Nat.not_lt_zero _), fun k hk x hx => absurd hk (Nat.not_lt_zero _), (fun h => by rw [hcf] at h; cases h), fun _ u hu nm x hx hb => ?_⟩
 exfalso
 have : G9 A7 pM nm u = none := by
  unfold G9
  cases hm : pM[u]? with
  | none => rfl
  | some m => obtain rfl := P0 hm; rfl
 rw [this] at hx
 cases hx
theorem Vn : Az (pC ⟨#[65]⟩) 0 = [] := by decide +kernel
theorem P1 : Az (pC ⟨#[65]⟩) 1 = [0] := by decide +kernel
theorem Vo : Az (pC ⟨#[]⟩) 0 = [] := by decide +kernel
theorem Vp : Az (pC ⟨#[]⟩) 1 = [] := by decide +kernel
theorem Yx : ∀ j, ¬ Gr.Reach (Az (pC ⟨#[65]⟩)) 0 j := by
 intro j hj
 cases hj with
 | one h => rw [Vn] at h; cases h
 | step h _ => rw [Vn] at h; cases h
theorem Yy : ∀ j, ¬ Gr.Reach (Az (pC ⟨#[]⟩)) 1 j := by
 intro j hj
 cases hj with
 | one h => rw [Vp] at h; cases h
 | step h _ => rw [Vp] at h; cases h
theorem Vq : Bt (pC ⟨#[65]⟩) none := by
 refine ⟨fun i c hc => ?_, fun i hi hr => ?_⟩
 {rcases Hv hc with ⟨rfl, rfl⟩ | ⟨rfl, rfl⟩
  {exact ⟨by decide +kernel, (fun h => by rw [show kA.sup.toList.isEmpty = true by decide +kernel] at h; cases h), fun k f hk => absurd hk (Nat.not_lt_zero _)⟩}
  {exact ⟨by decide +kernel, fun _ => ⟨0, kA, by decide +kernel, rfl, rfl⟩, fun k f hk => absurd hk (Nat.not_lt_zero _)⟩}}
 {match i, hi with
  | 0, _ => exact Yx _ hr
  | 1, _ =>
   cases hr with
   | one h => rw [P1] at h; exact absurd (List.mem_singleton.1 h) (by decide)
   | step h h' => rw [P1] at h; simp at h; subst h; exact Yx _ h'
  | i + 2, hi =>
   have e2 : (pC ⟨#[65]⟩).length = 2 := rfl
   omega}
theorem Vs : Bt (pC ⟨#[]⟩) none := by
 refine ⟨fun i c hc => ?_, fun i hi hr => ?_⟩
 {rcases Hv hc with ⟨rfl, rfl⟩ | ⟨rfl, rfl⟩
  {exact ⟨by decide +kernel, (fun h => by rw [show kA.sup.toList.isEmpty = true by decide +kernel] at h; cases h), fun k f hk => absurd hk (Nat.not_lt_zero _)⟩}
  {exact ⟨by decide +kernel, (fun h => by rw [show (kB ⟨#[]⟩).sup.toList.isEmpty = true by decide +kernel] at h; cases h), fun k f hk => absurd hk (Nat.not_lt_zero _)⟩}}
 {match i, hi with
  | 0, _ =>
   cases hr with
   | one h => rw [Vo] at h; cases h
   | step h _ => rw [Vo] at h; cases h
  | 1, _ => exact Yy _ hr
  | i + 2, hi =>
   have e2 : (pC ⟨#[]⟩).length = 2 := rfl
   omega}
def Aeu (al ab : Option Addr) (cl cb : Nat) (mc : Int) : Mt := ⟨⟨#[118, 111, 105, 100]⟩, ⟨#[109, 97, 105, 110]⟩, true, false, [], none, 0, (al, 1, cl), (ab, 1, cb), 1, mc⟩
def vX (q : Int) : Vr := ⟨⟨#[65]⟩, ⟨#[120]⟩, 1, q⟩
theorem Mr (sp : ByteArray) : As (pC sp) ⟨#[65]⟩ = some 0 := rfl
theorem Ms (sp : ByteArray) : As (pC sp) ⟨#[66]⟩ = some 1 := rfl
theorem Yz (sp : ByteArray) (q : Int) : Hu (pC sp) [vX q] 0 := by
 intro k v hv _
 match k, hv with
 | 0, hv =>
  cases hv
  exact ⟨rfl, (by decide : (⟨#[120]⟩ : ByteArray) ≠ F4), (by decide : (⟨#[65]⟩ : ByteArray) ≠ D9), .inr (.inr (.inl ⟨0, Mr sp⟩))⟩
 | k + 1, hv => simp at hv
theorem Aev (q : Int) : Di (Dx [vX q]) ⟨#[120]⟩ = ⟨#[65]⟩ := by
 show ((if (⟨#[120]⟩ : ByteArray) = (⟨#[120]⟩ : ByteArray) then some (⟨#[65]⟩ : ByteArray) else none).getD _) = _
 rw [if_pos rfl]; rfl
theorem Aew (q : Int) : Oe (pC ⟨#[65]⟩) (Dx [vX q]) ⟨#[66]⟩ ⟨#[120]⟩ := by
 refine ⟨⟨1, _, Ms _, rfl, rfl⟩, by decide, ?_⟩
 rw [Aev]
 exact ⟨.inr (.inr (.inl ⟨1, Ms _⟩)), .inr (.inr (.inl ⟨0, Mr _⟩)), .inr (.inr ⟨by decide, 1, 0, Ms _, Mr _, .inr (.one (by rw [P1]; simp))⟩)⟩
theorem Aex (q : Int) : ¬ Oe (pC ⟨#[]⟩) (Dx [vX q]) ⟨#[66]⟩ ⟨#[120]⟩ := by
 rintro ⟨_, _, _, _, h⟩
 rw [Aev] at h
 rcases h with h | h | ⟨_, i, k, h1, h2, h3⟩
 {exact absurd h (by decide)}
 {exact absurd h.1 (by decide)}
 {rw [Ms] at h1; cases h1
  rw [Mr] at h2; cases h2
  rcases h3 with h3 | h3
  {cases h3}
  {exact Yy _ h3}}
theorem Oj {w : World} {base sz : Nat} {e : TypeId} {v : Value} {css : List (List Value)} (h : w.ownsRow base e sz v css.length css.flatten) (hn : ∀ c ∈ css, c.length = sz) : B5 w v sz css := by
 rcases h.2 with ⟨rfl, h0⟩ | ⟨g, cap, cur, rfl, hg, hh, h4, h5, h6, h7⟩
 {have : css = [] := List.length_eq_zero_iff.1 h0
  subst this
  exact ⟨none, 0, rfl, Nat.le_refl _, Nat.zero_le _, by simp, fun h => by simp at h⟩}
 {refine ⟨some ⟨g, 0, none⟩, cap, rfl, h4, h5, hn, fun h0 => ⟨g, 0, rfl, fun i c hi j hj => ?_⟩⟩
  have hil := (gL hi)
  have hcl := hn c (mG hi)
  have hf : css.flatten[i * sz + j]? = c[j]? := by
   clear h h4 h5 h6 h7 hil h0
   induction css generalizing i with
   | nil => simp at hi
   | cons a r ih =>
    rw [List.flatten_cons]
    have ha := hn a (List.mem_cons_self ..)
    cases i with
    | zero =>
     have : a = c := by simpa using hi
     subst this
     rw [Nat.zero_mul, Nat.zero_add, List.getElem?_append_left (by omega)]
    | succ i =>
     rw [List.getElem?_append_right (by rw [ha, Nat.succ_mul]; omega), ha, show (i + 1) * sz + j - sz = i * sz + j from by rw [Nat.succ_mul]; omega]
     exact ih (fun c hc => hn c (List.mem_cons_of_mem _ hc)) (i := i) (by simpa using hi)
  rw [Ab hh, Nat.zero_add, ← Array.getElem?_toList]
  rw [← h7, List.getElem?_take, if_pos (by
   have h1 : (i + 1) * sz ≤ css.length * sz := Nat.mul_le_mul_right sz hil
   rw [Nat.succ_mul] at h1
   omega)] at hf
  exact hf}
theorem Aga {w w0 : World} {b : Nat} {cs : List Aj} {ms : List Ba} {xv : Value} {mb : Nat} {vs : ByteArray → Option ByteArray} {ret : ByteArray} {ab : Option Addr} {cb : Nat} {p q : Int} (hr : B5 w (.slice ab 1 cb) 12 [Sz ⟨#[120]⟩ ⟨#[66]⟩ p q]) (hc : Ch No w w0) (hv : F6 vs) :
 Rj (Oe cs vs ⟨#[66]⟩ ⟨#[120]⟩) (fun l c => l = p ∧ c = q) w0 b cs ms xv mb vs ret (.slice ab 1 cb) := by
 intro w1 vb n l c hck
 refine (Af7 hck hv (hr.no (hc.trans hck.ch)) (lb rfl) (lb rfl)).mono ?_
 rintro e w2 (⟨hp, rfl, hc2⟩ | ⟨hp, rfl, hb2, hc2⟩)
 {exact ⟨true, rfl, ⟨fun _ => hp, fun _ => rfl⟩, hc2.mono (fun _ _ _ h => h.elim), vb, n, vs, ret, l, c, hck.no hc2, fun h => by cases h⟩}
 {exact ⟨false, rfl, ⟨(fun h => by cases h), fun h => absurd h hp⟩, hc2, vb, n, vs, ret, p, q, hck.set hc2 hb2 (hck.vars.ch hc2 (fun es ck e => by
   obtain ⟨es', ck', hm⟩ := hck.vars.isMap
   have e' : vb = b := e
   rw [e', hck.blk] at hm
   cases hm)), fun _ => ⟨rfl, rfl⟩⟩}
theorem Aey (q : Int) : F6 (Dx [vX q]) := fun x t h => by
 obtain ⟨v, hv, _, rfl⟩ := Oi h
 obtain rfl : v = vX q := by simpa using hv
 exact lb rfl
structure PAt (w : World) (sp : ByteArray) (ac al ab : Option Addr) (cc cl cb : Nat) (vq sq : Int) : Prop where
 cls : Ek w (.slice ac 2 cc) (pC sp)
 vars : Bc w (.slice al 1 cl) [vX vq]
 sts : B5 w (.slice ab 1 cb) 12 [Sz ⟨#[120]⟩ ⟨#[66]⟩ 1 sq]
theorem PAt.no {w w' : World} {sp : ByteArray} {ac al ab : Option Addr} {cc cl cb : Nat} {vq sq : Int} (h : PAt w sp ac al ab cc cl cb vq sq) (hc : Ch No w w') : PAt w' sp ac al ab cc cl cb vq sq := ⟨h.cls.no hc, h.vars.no hc, h.sts.no hc⟩
theorem Vt {w : World} {base : Nat} {sp : ByteArray} {ac al ab : Option Addr} {cc cl cb : Nat} {vq sq : Int} {cd : Nat → CD} (hcd : Fy cd 2 = ((pC sp).map Aj.cells).flatten) (h1 : w.ownsRow base 50 10 (.slice ac 2 cc) 2 (Fy cd 2)) (h2 : w.ownsRow base 64 4 (.slice al 1 cl) 1 (Sk ⟨#[65]⟩ ⟨#[120]⟩ 1 vq)) (h3 : ∃ base, w.ownsRow base 128 12 (.slice ab 1 cb) 1 (Sj ⟨#[120]⟩ ⟨#[66]⟩ 1 sq)) : PAt w sp ac al ab cc cl cb vq sq := by
 refine ⟨⟨Oj (base := base) (e := 50) (by rw [← hcd]; exact h1) (fun c hc => ?_), fun c hc => ?_⟩, Lr (base := base) (n := 1) h2 rfl, ?_⟩
 {obtain ⟨k, _, rfl⟩ := List.mem_map.1 hc
  rfl}
 {have : c = kA ∨ c = kB sp := by simpa [pC] using hc
  rcases this with rfl | rfl <;> exact Ah.nil _}
 {obtain ⟨b3, h3⟩ := h3
  exact Oj (base := b3) (e := 128) (css := [Sz ⟨#[120]⟩ ⟨#[66]⟩ 1 sq]) h3 (fun c hc => by
   have : c = Sz ⟨#[120]⟩ ⟨#[66]⟩ 1 sq := by simpa using hc
   rw [this]; rfl)}
theorem Aez {w : World} (sp : ByteArray) : En w (pC sp) pM := by
 refine ⟨rfl, fun i c m hc hm => ?_⟩
 obtain rfl := P0 hm
 rcases Hv hc with ⟨_, rfl⟩ | ⟨_, rfl⟩ <;> exact ⟨⟨none, 0, rfl, Nat.le_refl _, Nat.zero_le _, by simp, fun h => by simp at h⟩, ⟨none, 0, rfl, Nat.le_refl _, Nat.zero_le _, by simp, fun h => by simp at h⟩, ⟨⟨none, 0, rfl, Nat.le_refl _, Nat.zero_le _, by simp, fun h => by simp at h⟩, fun m hm => by cases hm⟩⟩
theorem P2 {m : Ba} (h : m ∈ pM) : m = ⟨[], [], []⟩ := by
 rcases List.mem_cons.1 h with h | h
 {exact h}
 {exact List.mem_singleton.1 h}
theorem P3 {sp : ByteArray} {c : Aj} (h : c ∈ pC sp) : c = kA ∨ c = kB sp := by simpa [pC] using h
theorem Aa5 (w : World) : Bc w (.slice none 0 0) [] := ⟨none, 0, rfl, Nat.le_refl _, Nat.zero_le _, by simp, fun h => by simp at h⟩
theorem mScope (cs : List Aj) (al ab : Option Addr) (cl cb : Nat) (mc q : Int) : Ck cs (-1) (Aeu al ab cl cb mc) [vX q] = [vX q] := rfl
theorem Vu {w : World} {sp : ByteArray} {ac al ab : Option Addr} {cc cl cb : Nat} {vq sq mc : Int} (h : PAt w sp ac al ab cc cl cb vq sq) (hT : Ia w) (hf : Bt (pC sp) none) (hsp : sp.size ≤ maxLen) :
 Calls Tryz.prog 11 #[.agg #[.slice ac 2 cc, .string ⟨#[118, 111, 105, 100]⟩, .string ⟨#[109, 97, 105, 110]⟩, .bool true, .bool false, .slice none 0 0, .slice al 1 cl, .slice ab 1 cb, .int .i64 1, .int .i64 mc]] w
  (Vj (Hu (pC sp) [vX vq] 0) (Oe (pC sp) (Dx [vX vq]) ⟨#[66]⟩ ⟨#[120]⟩) (fun l c => l = 1 ∧ c = sq) w) :=
 Xv (m := Aeu al ab cl cb mc) (ls := [vX vq]) (ms := pM) h.cls (Aez sp) hT
  (fun c hc => by rcases P3 hc with rfl | rfl <;> exact ⟨lb rfl, (by first | exact hsp | exact lb rfl), fun f hf => by cases hf⟩)
  (fun m hm => by obtain rfl := P2 hm; exact ⟨(fun v h => by cases h), (fun v h => by cases h), (fun v h => by cases h)⟩)
  ⟨lb rfl, fun c hc => by rcases P3 hc with rfl | rfl <;> exact Nat.zero_le _⟩
  (fun m hm => by obtain rfl := P2 hm; exact ⟨Nat.zero_le _, Nat.zero_le _, Nat.zero_le _, (fun x h => by cases h)⟩)
  (Xy hf) (fun c hc => by rcases P3 hc with rfl | rfl <;> rfl) (fun m hm => by obtain rfl := P2 hm; rfl)
  (Aa5 w) h.vars (Nat.zero_le _) (by show 1 ≤ 40000; omega)
  (fun v hv => by
   have : v = vX vq := by simpa [mScope] using hv
   rw [this]; exact ⟨lb rfl, lb rfl⟩)
  (fun w0 b xv mb hc => Aga h.sts hc (Aey vq))
theorem Gv {w : World} (hT : Ia w) : Calls Tryz.prog 8 #[] w fun e w' => e = .returned (.bool true) ∧ Ch No w w' := by
 have HT := Aa hT
 clear hT
 go_in
 go_wp2_with fail
 refine (Vf Afy).mono ?_
 rintro e w1 ⟨ac, cc, al, cl, ab, cb, rfl, h1, h2, h3, hc1⟩
 have HP := Aa (Vt (sp := ⟨#[65]⟩) rfl h1 h2 ⟨_, h3⟩)
 have HC1 := Aa hc1
 clear h1 h2 h3 hc1
 go_upto_region 2 with fail
 obtain ⟨w2, hw2⟩ := Ax ((w1.alloc (.cells #[.slice ac 2 cc, .string ⟨#[118, 111, 105, 100]⟩, .string ⟨#[109, 97, 105, 110]⟩, .bool true, .bool false, .slice none 0 0, .slice al 1 cl, .slice ab 1 cb, .int .i64 1, .int .i64 35] 31)).alloc (.cells #[.int .i64 0, .int .i64 0, .int .i64 0] 34))
 have hb2 := Bh (heap_alloc_new w1 (.cells #[.slice ac 2 cc, .string ⟨#[118, 111, 105, 100]⟩, .string ⟨#[109, 97, 105, 110]⟩, .bool true, .bool false, .slice none 0 0, .slice al 1 cl, .slice ab 1 cb, .int .i64 1, .int .i64 35] 31)) (.cells #[.int .i64 0, .int .i64 0, .int .i64 0] 34)
 have hc2 := ((Ch.refl No w1).alloc (.cells #[.slice ac 2 cc, .string ⟨#[118, 111, 105, 100]⟩, .string ⟨#[109, 97, 105, 110]⟩, .bool true, .bool false, .slice none 0 0, .slice al 1 cl, .slice ab 1 cb, .int .i64 1, .int .i64 35] 31)).alloc (.cells #[.int .i64 0, .int .i64 0, .int .i64 0] 34)
 rw [hw2] at hb2 hc2 ⊢
 have HB2 := Aa hb2
 have HP2 := Aa (HP.out.no hc2)
 have HC2 := Aa (HC1.out.trans hc2)
 clear hw2 hb2 hc2 HP
 go_wp2_with fail
 refine (Vf Af6).mono ?_
 rintro e w3 ⟨ac2, cc2, al2, cl2, ab2, cb2, rfl, h1, h2, h3, hc3⟩
 have HQ := Aa (Vt (sp := ⟨#[]⟩) rfl h1 h2 ⟨_, h3⟩)
 have HB3 := Aa (hc3.keep _ _ HB2.out (fun h => h))
 have HP3 := Aa (HP2.out.no hc3)
 have HC3 := Aa (HC2.out.trans hc3)
 clear h1 h2 h3 hc3
 go_upto_region 3 with fail
 obtain ⟨w4, hw4⟩ := Ax ((w3.alloc (.cells #[.slice ac2 2 cc2, .string ⟨#[118, 111, 105, 100]⟩, .string ⟨#[109, 97, 105, 110]⟩, .bool true, .bool false, .slice none 0 0, .slice al2 1 cl2, .slice ab2 1 cb2, .int .i64 1, .int .i64 25] 31)).alloc (.cells #[.int .i64 0, .int .i64 0, .int .i64 0] 34))
 have hb4 := Bh (heap_alloc_new w3 (.cells #[.slice ac2 2 cc2, .string ⟨#[118, 111, 105, 100]⟩, .string ⟨#[109, 97, 105, 110]⟩, .bool true, .bool false, .slice none 0 0, .slice al2 1 cl2, .slice ab2 1 cb2, .int .i64 1, .int .i64 25] 31)) (.cells #[.int .i64 0, .int .i64 0, .int .i64 0] 34)
 have hc4 := ((Ch.refl No w3).alloc (.cells #[.slice ac2 2 cc2, .string ⟨#[118, 111, 105, 100]⟩, .string ⟨#[109, 97, 105, 110]⟩, .bool true, .bool false, .slice none 0 0, .slice al2 1 cl2, .slice ab2 1 cb2, .int .i64 1, .int .i64 25] 31)).alloc (.cells #[.int .i64 0, .int .i64 0, .int .i64 0] 34)
 rw [hw4] at hb4 hc4 ⊢
 have HB4 := Aa (hc4.keep _ _ HB3.out (fun h => h))
 have HD4 := Aa hb4
 have HP4 := Aa (HP3.out.no hc4)
 have HQ4 := Aa (HQ.out.no hc4)
 have HC4 := Aa (HC3.out.trans hc4)
 have hb := HB4.out
 obtain ⟨p0, p1, p2, p3, p4, p5, p6, p7, p8, p9⟩ := Cp hb
 clear hw4 hb4 hc4 hb HB3 HP3
 go_wp2_with fail
 refine (Vu HP4.out (HT.out.no HC4.out) Vq (lb rfl)).mono ?_
 rintro e w5 ⟨hc5, ⟨_, mb, rfl⟩ | ⟨hno, _⟩⟩
 {have HC5 := Aa (HC4.out.trans hc5)
  have HD5 := Aa (hc5.keep _ _ HD4.out (fun h => h))
  have HQ5 := Aa (HQ4.out.no hc5)
  clear hc5 p0 p1 p2 p3 p4 p5 p6 p7 p8 p9
  go_upto_region 4 with fail
  obtain ⟨w6, hw6, hb6, hc6⟩ := A2 w5 (.cells #[.int .i64 0, .int .i64 0, .int .i64 0] 34)
  rw [hw6]
  have HF6 := Aa hb6
  have HC6 := Aa (HC5.out.trans hc6)
  have hd := hc6.keep _ _ HD5.out (fun h => h)
  have HQ6 := Aa (HQ5.out.no hc6)
  obtain ⟨p0, p1, p2, p3, p4, p5, p6, p7, p8, p9⟩ := Cp hd
  clear hw6 hb6 hc6 hd
  go_wp2_with fail
  refine (Vu HQ6.out (HT.out.no HC6.out) Vs (Nat.zero_le _)).mono ?_
  rintro e w7 ⟨hc7, ⟨hyes, _⟩ | ⟨_, l, c, hlc, rfl⟩⟩
  {exact absurd hyes.2 (Aex _)}
  {obtain ⟨rfl, rfl⟩ := hlc (Yz _ _)
   have HF7 := Aa (hc7.keep _ _ HF6.out (fun h => h))
   have HC7 := Aa (HC6.out.trans hc7)
   have hf := HF7.out
   have y7 := Ac hf
   obtain ⟨a0, a1, a2⟩ := Dy hf
   clear hc7 hf p0 p1 p2 p3 p4 p5 p6 p7 p8 p9
   go_wp2
   go_ret
   exact ⟨rfl, HC7.out.alloc _⟩}}
 {exact absurd ⟨Yz _ _, Aew _⟩ hno}
end Go.Proofs.YtgjpgfedlgdjhaaGreatDoor
end
