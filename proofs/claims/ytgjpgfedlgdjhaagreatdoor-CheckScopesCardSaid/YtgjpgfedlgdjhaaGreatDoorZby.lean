/- What the claim uses: part 51. -/
import Derived.Test.YtgjpgfedlgdjhaaGreatDoorZbt
import Derived.Test.YtgjpgfedlgdjhaaGreatDoorZbx
section
set_option linter.unusedVariables false
set_option linter.unusedSimpArgs false
set_option maxRecDepth 8192
namespace Go.Proofs.YtgjpgfedlgdjhaaGreatDoor
open Go.RowKit Go.W
def kA : Cls := ⟨⟨#[65]⟩, ⟨#[]⟩, false, [], none, 0, (none, 0, 0), (none, 0, 0), (none, 0, 0), none, 1, 1⟩
def kB (sp : ByteArray) : Cls := ⟨⟨#[66]⟩, sp, false, [], none, 0, (none, 0, 0), (none, 0, 0), (none, 0, 0), none, 1, 13⟩
def pC (sp : ByteArray) : List Cls := [kA, kB sp]
def pM : List Mem := [⟨[], [], []⟩, ⟨[], [], []⟩]
theorem pC_cases {sp : ByteArray} {i : Nat} {c : Cls} (h : (pC sp)[i]? = some c) : (i = 0 ∧ c = kA) ∨ (i = 1 ∧ c = kB sp) := by
 match i, h with
 | 0, h => cases h; exact .inl ⟨rfl, rfl⟩
 | 1, h => cases h; exact .inr ⟨rfl, rfl⟩
 | i + 2, h => simp [pC] at h
theorem pM_get {i : Nat} {m : Mem} (h : pM[i]? = some m) : m = ⟨[], [], []⟩ := by
 match i, h with
 | 0, h => cases h; rfl
 | 1, h => cases h; rfl
 | i + 2, h => simp [pM] at h
theorem pC_good {sp : ByteArray} (hf : FaultAt (pC sp) none) : MembsOk (pC sp) pM := by
 refine ⟨hf, fun i c m hc hm => ?_⟩
 obtain rfl := pM_get hm
 have hcf : c.face = false := by rcases pC_cases hc with ⟨_, rfl⟩ | ⟨_, rfl⟩ <;> rfl
 refine ⟨fun k hk => absurd hk (Nat.not_lt_zero _), fun k hk => absurd hk (Nat.not_lt_zero _), fun k hk x hx => absurd hk (Nat.not_lt_zero _), (fun h => by rw [hcf] at h; cases h), fun _ u hu nm x hx hb => ?_⟩
 exfalso
 have : lkN lkMethod pM nm u = none := by
   unfold lkN
   cases hm : pM[u]? with
   | none => rfl
   | some m => obtain rfl := pM_get hm; rfl
 rw [this] at hx
 cases hx
theorem p1_up0 : upsN (pC ⟨#[65]⟩) 0 = [] := by decide +kernel
theorem p1_up1 : upsN (pC ⟨#[65]⟩) 1 = [0] := by decide +kernel
theorem p2_up0 : upsN (pC ⟨#[]⟩) 0 = [] := by decide +kernel
theorem p2_up1 : upsN (pC ⟨#[]⟩) 1 = [] := by decide +kernel
theorem p1_n0 : ∀ j, ¬ Gr.Reach (upsN (pC ⟨#[65]⟩)) 0 j := by
 intro j hj
 cases hj with
 | one h => rw [p1_up0] at h; cases h
 | step h _ => rw [p1_up0] at h; cases h
theorem p2_n1 : ∀ j, ¬ Gr.Reach (upsN (pC ⟨#[]⟩)) 1 j := by
 intro j hj
 cases hj with
 | one h => rw [p2_up1] at h; cases h
 | step h _ => rw [p2_up1] at h; cases h
theorem p1_fault : FaultAt (pC ⟨#[65]⟩) none := by
 refine ⟨fun i c hc => ?_, fun i hi hr => ?_⟩
 · rcases pC_cases hc with ⟨rfl, rfl⟩ | ⟨rfl, rfl⟩
   · exact ⟨by decide +kernel, (fun h => by rw [show kA.sup.toList.isEmpty = true by decide +kernel] at h; cases h), fun k f hk => absurd hk (Nat.not_lt_zero _)⟩
   · exact ⟨by decide +kernel, fun _ => ⟨0, kA, by decide +kernel, rfl, rfl⟩, fun k f hk => absurd hk (Nat.not_lt_zero _)⟩
 · match i, hi with
   | 0, _ => exact p1_n0 _ hr
   | 1, _ =>
     cases hr with
     | one h => rw [p1_up1] at h; exact absurd (List.mem_singleton.1 h) (by decide)
     | step h h' => rw [p1_up1] at h; simp at h; subst h; exact p1_n0 _ h'
   | i + 2, hi =>
     have e2 : (pC ⟨#[65]⟩).length = 2 := rfl
     omega
theorem p2_fault : FaultAt (pC ⟨#[]⟩) none := by
 refine ⟨fun i c hc => ?_, fun i hi hr => ?_⟩
 · rcases pC_cases hc with ⟨rfl, rfl⟩ | ⟨rfl, rfl⟩
   · exact ⟨by decide +kernel, (fun h => by rw [show kA.sup.toList.isEmpty = true by decide +kernel] at h; cases h), fun k f hk => absurd hk (Nat.not_lt_zero _)⟩
   · exact ⟨by decide +kernel, (fun h => by rw [show (kB ⟨#[]⟩).sup.toList.isEmpty = true by decide +kernel] at h; cases h), fun k f hk => absurd hk (Nat.not_lt_zero _)⟩
 · match i, hi with
   | 0, _ =>
     cases hr with
     | one h => rw [p2_up0] at h; cases h
     | step h _ => rw [p2_up0] at h; cases h
   | 1, _ => exact p2_n1 _ hr
   | i + 2, hi =>
     have e2 : (pC ⟨#[]⟩).length = 2 := rfl
     omega
def mMain (al ab : Option Addr) (cl cb : Nat) (mc : Int) : Mt := ⟨⟨#[118, 111, 105, 100]⟩, ⟨#[109, 97, 105, 110]⟩, true, false, [], none, 0, (al, 1, cl), (ab, 1, cb), 1, mc⟩
def vX (q : Int) : Vr := ⟨⟨#[65]⟩, ⟨#[120]⟩, 1, q⟩
theorem mScope (cs : List Cls) (al ab : Option Addr) (cl cb : Nat) (mc q : Int) : scopeL cs (-1) (mMain al ab cl cb mc) [vX q] = [vX q] := rfl
theorem mThis (cs : List Cls) (al ab : Option Addr) (cl cb : Nat) (mc : Int) : thisL cs (-1) (mMain al ab cl cb mc) = [] := rfl
theorem pFindA (sp : ByteArray) : find (pC sp) ⟨#[65]⟩ = some 0 := rfl
theorem pFindB (sp : ByteArray) : find (pC sp) ⟨#[66]⟩ = some 1 := rfl
theorem pVars (sp : ByteArray) (q : Int) : varsP (pC sp) [vX q] 0 := by
 intro k v hv _
 match k, hv with
 | 0, hv =>
   cases hv
   exact ⟨rfl, (by decide : (⟨#[120]⟩ : ByteArray) ≠ sThis), (by decide : (⟨#[65]⟩ : ByteArray) ≠ sNull), .inr (.inr (.inl ⟨0, pFindA sp⟩))⟩
 | k + 1, hv => simp at hv
theorem pVof (q : Int) : vof (vsOf [vX q]) ⟨#[120]⟩ = ⟨#[65]⟩ := by
 show ((if (⟨#[120]⟩ : ByteArray) = (⟨#[120]⟩ : ByteArray) then some (⟨#[65]⟩ : ByteArray) else none).getD _) = _
 rw [if_pos rfl]; rfl
theorem pNew1 (q : Int) : newP (pC ⟨#[65]⟩) (vsOf [vX q]) ⟨#[66]⟩ ⟨#[120]⟩ := by
 refine ⟨⟨1, _, pFindB _, rfl, rfl⟩, by decide, ?_⟩
 rw [pVof]
 exact ⟨.inr (.inr (.inl ⟨1, pFindB _⟩)), .inr (.inr (.inl ⟨0, pFindA _⟩)), .inr (.inr ⟨by decide, 1, 0, pFindB _, pFindA _, .inr (.one (by rw [p1_up1]; simp))⟩)⟩
theorem pNew2 (q : Int) : ¬ newP (pC ⟨#[]⟩) (vsOf [vX q]) ⟨#[66]⟩ ⟨#[120]⟩ := by
 rintro ⟨_, _, _, _, h⟩
 rw [pVof] at h
 rcases h with h | h | ⟨_, i, k, h1, h2, h3⟩
 · exact absurd h (by decide)
 · exact absurd h.1 (by decide)
 · rw [pFindB] at h1; cases h1
   rw [pFindA] at h2; cases h2
   rcases h3 with h3 | h3
   · cases h3
   · exact p2_n1 _ h3
theorem rowOwnAt {w : World} {base sz : Nat} {e : TypeId} {v : Value} {css : List (List Value)} (h : w.ownsRow base e sz v css.length css.flatten) (hn : ∀ c ∈ css, c.length = sz) : RowAt w v sz css := by
 rcases h.2 with ⟨rfl, h0⟩ | ⟨g, cap, cur, rfl, hg, hh, h4, h5, h6, h7⟩
 · have : css = [] := List.length_eq_zero_iff.1 h0
   subst this
   exact ⟨none, 0, rfl, Nat.le_refl _, Nat.zero_le _, by simp, fun h => by simp at h⟩
 · refine ⟨some ⟨g, 0, none⟩, cap, rfl, h4, h5, hn, fun h0 => ⟨g, 0, rfl, fun i c hi j hj => ?_⟩⟩
   have hil := (List.getElem?_eq_some_iff.1 hi).1
   have hcl := hn c (List.mem_of_getElem? hi)
   have hf : css.flatten[i * sz + j]? = c[j]? := by
     clear h h4 h5 h6 h7 hil h0
     induction css generalizing i with
     | nil => simp at hi
     | cons a r ih =>
       rw [List.flatten_cons]
       have ha := hn a (List.mem_cons_self ..)
       cases i with
       | zero =>
         have : a = c := by simpa using hi
         subst this
         rw [Nat.zero_mul, Nat.zero_add, List.getElem?_append_left (by omega)]
       | succ i =>
         rw [List.getElem?_append_right (by rw [ha, Nat.succ_mul]; omega), ha, show (i + 1) * sz + j - sz = i * sz + j from by rw [Nat.succ_mul]; omega]
         exact ih (fun c hc => hn c (List.mem_cons_of_mem _ hc)) (i := i) (by simpa using hi)
   rw [cellAt hh, Nat.zero_add, ← Array.getElem?_toList]
   rw [← h7, List.getElem?_take, if_pos (by
     have h1 : (i + 1) * sz ≤ css.length * sz := Nat.mul_le_mul_right sz hil
     rw [Nat.succ_mul] at h1
     omega)] at hf
   exact hf
theorem pSts {w w0 : World} {b : Nat} {cs : List Cls} {ms : List Mem} {xv : Value} {mb : Nat} {vs : ByteArray → Option ByteArray} {ret : ByteArray} {ab : Option Addr} {cb : Nat} {p q : Int} (hr : RowAt w (.slice ab 1 cb) 12 [stN ⟨#[120]⟩ ⟨#[66]⟩ p q]) (hc : Ch No w w0) (hv : SzV vs) :
   StsIs (newP cs vs ⟨#[66]⟩ ⟨#[120]⟩) (fun l c => l = p ∧ c = q) w0 b cs ms xv mb vs ret (.slice ab 1 cb) := by
 intro w1 vb n l c hck
 refine (cst1 hck hv (hr.no (hc.trans hck.ch)) (Nat.le_of_ble_eq_true rfl) (Nat.le_of_ble_eq_true rfl)).mono ?_
 rintro e w2 (⟨hp, rfl, hc2⟩ | ⟨hp, rfl, hb2, hc2⟩)
 · exact ⟨true, rfl, ⟨fun _ => hp, fun _ => rfl⟩, hc2.mono (fun _ _ _ h => h.elim), vb, n, vs, ret, l, c, hck.no hc2, fun h => by cases h⟩
 · exact ⟨false, rfl, ⟨(fun h => by cases h), fun h => absurd h hp⟩, hc2, vb, n, vs, ret, p, q, hck.set hc2 hb2 (hck.vars.ch hc2 (fun es ck e => by
     obtain ⟨es', ck', hm⟩ := hck.vars.isMap
     have e' : vb = b := e
     rw [e', hck.blk] at hm
     cases hm)), fun _ => ⟨rfl, rfl⟩⟩
theorem vX_sz (q : Int) : SzV (vsOf [vX q]) := fun x t h => by
 obtain ⟨v, hv, _, rfl⟩ := vsOf_mem h
 obtain rfl : v = vX q := by simpa using hv
 exact Nat.le_of_ble_eq_true rfl
end Go.Proofs.YtgjpgfedlgdjhaaGreatDoor
end
section
set_option linter.unusedVariables false
set_option linter.unusedSimpArgs false
set_option maxRecDepth 8192
namespace Go.Proofs.YtgjpgfedlgdjhaaGreatDoor
open Go.RowKit Go.W
structure PAt (w : World) (sp : ByteArray) (ac al ab : Option Addr) (cc cl cb : Nat) (vq sq : Int) : Prop where
 cls : ClssAt w (.slice ac 2 cc) (pC sp)
 vars : VarsAt w (.slice al 1 cl) [vX vq]
 sts : RowAt w (.slice ab 1 cb) 12 [stN ⟨#[120]⟩ ⟨#[66]⟩ 1 sq]
theorem PAt.no {w w' : World} {sp : ByteArray} {ac al ab : Option Addr} {cc cl cb : Nat} {vq sq : Int} (h : PAt w sp ac al ab cc cl cb vq sq) (hc : Ch No w w') : PAt w' sp ac al ab cc cl cb vq sq := ⟨h.cls.no hc, h.vars.no hc, h.sts.no hc⟩
theorem pAt_of {w : World} {base : Nat} {sp : ByteArray} {ac al ab : Option Addr} {cc cl cb : Nat} {vq sq : Int} {cd : Nat → CD} (hcd : cdRows cd 2 = ((pC sp).map Cls.cells).flatten) (h1 : w.ownsRow base 50 10 (.slice ac 2 cc) 2 (cdRows cd 2)) (h2 : w.ownsRow base 64 4 (.slice al 1 cl) 1 (vrC ⟨#[65]⟩ ⟨#[120]⟩ 1 vq)) (h3 : ∃ base, w.ownsRow base 128 12 (.slice ab 1 cb) 1 (stC ⟨#[120]⟩ ⟨#[66]⟩ 1 sq)) : PAt w sp ac al ab cc cl cb vq sq := by
 refine ⟨⟨rowOwnAt (base := base) (e := 50) (by rw [← hcd]; exact h1) (fun c hc => ?_), fun c hc => ?_⟩, varsOwnAt (base := base) (n := 1) h2 rfl, ?_⟩
 · obtain ⟨k, _, rfl⟩ := List.mem_map.1 hc
   rfl
 · have : c = kA ∨ c = kB sp := by simpa [pC] using hc
   rcases this with rfl | rfl <;> exact StrsAt.nil _
 · obtain ⟨b3, h3⟩ := h3
   exact rowOwnAt (base := b3) (e := 128) (css := [stN ⟨#[120]⟩ ⟨#[66]⟩ 1 sq]) h3 (fun c hc => by
     have : c = stN ⟨#[120]⟩ ⟨#[66]⟩ 1 sq := by simpa using hc
     rw [this]; rfl)
theorem pMems {w : World} (sp : ByteArray) : MemsAt w (pC sp) pM := by
 refine ⟨rfl, fun i c m hc hm => ?_⟩
 obtain rfl := pM_get hm
 rcases pC_cases hc with ⟨_, rfl⟩ | ⟨_, rfl⟩ <;> exact ⟨⟨none, 0, rfl, Nat.le_refl _, Nat.zero_le _, by simp, fun h => by simp at h⟩, ⟨none, 0, rfl, Nat.le_refl _, Nat.zero_le _, by simp, fun h => by simp at h⟩, ⟨⟨none, 0, rfl, Nat.le_refl _, Nat.zero_le _, by simp, fun h => by simp at h⟩, fun m hm => by cases hm⟩⟩
theorem pM_mem {m : Mem} (h : m ∈ pM) : m = ⟨[], [], []⟩ := by
 rcases List.mem_cons.1 h with h | h
 · exact h
 · exact List.mem_singleton.1 h
theorem pC_mem {sp : ByteArray} {c : Cls} (h : c ∈ pC sp) : c = kA ∨ c = kB sp := by simpa [pC] using h
theorem noVars (w : World) : VarsAt w (.slice none 0 0) [] := ⟨none, 0, rfl, Nat.le_refl _, Nat.zero_le _, by simp, fun h => by simp at h⟩
theorem pCheck {w : World} {sp : ByteArray} {ac al ab : Option Addr} {cc cl cb : Nat} {vq sq mc : Int} (h : PAt w sp ac al ab cc cl cb vq sq) (hT : Tab w) (hf : FaultAt (pC sp) none) (hsp : sp.size ≤ maxLen) :
   Calls Tryz.prog 11 #[.agg #[.slice ac 2 cc, .string ⟨#[118, 111, 105, 100]⟩, .string ⟨#[109, 97, 105, 110]⟩, .bool true, .bool false, .slice none 0 0, .slice al 1 cl, .slice ab 1 cb, .int .i64 1, .int .i64 mc]] w
     (ChkOut (varsP (pC sp) [vX vq] 0) (newP (pC sp) (vsOf [vX vq]) ⟨#[66]⟩ ⟨#[120]⟩) (fun l c => l = 1 ∧ c = sq) w) :=
 ccheck0 (m := mMain al ab cl cb mc) (ls := [vX vq]) (ms := pM) h.cls (pMems sp) hT
   (fun c hc => by rcases pC_mem hc with rfl | rfl <;> exact ⟨Nat.le_of_ble_eq_true rfl, (by first | exact hsp | exact Nat.le_of_ble_eq_true rfl), fun f hf => by cases hf⟩)
   (fun m hm => by obtain rfl := pM_mem hm; exact ⟨(fun v h => by cases h), (fun v h => by cases h), (fun v h => by cases h)⟩)
   ⟨Nat.le_of_ble_eq_true rfl, fun c hc => by rcases pC_mem hc with rfl | rfl <;> exact Nat.zero_le _⟩
   (fun m hm => by obtain rfl := pM_mem hm; exact ⟨Nat.zero_le _, Nat.zero_le _, Nat.zero_le _, (fun x h => by cases h)⟩)
   (pC_good hf) (fun c hc => by rcases pC_mem hc with rfl | rfl <;> rfl) (fun m hm => by obtain rfl := pM_mem hm; rfl)
   (noVars w) h.vars (Nat.zero_le _) (by show 1 ≤ 40000; omega)
   (fun v hv => by
     have : v = vX vq := by simpa [mScope] using hv
     rw [this]; exact ⟨Nat.le_of_ble_eq_true rfl, Nat.le_of_ble_eq_true rfl⟩)
   (fun w0 b xv mb hc => pSts h.sts hc (vX_sz vq))
set_option maxHeartbeats 16000000 in
theorem awake11 {w : World} (hT : Tab w) : Calls Tryz.prog 8 #[] w fun e w' => e = .returned (.bool true) ∧ Ch No w w' := by
 have HT := hid hT
 clear hT
 go_enter Tryz.func8, Tryz.ntmps8
 go_wp2_with fail
 refine (tparse isT1).mono ?_
 rintro e w1 ⟨ac, cc, al, cl, ab, cb, rfl, h1, h2, h3, hc1⟩
 have HP := hid (pAt_of (sp := ⟨#[65]⟩) rfl h1 h2 ⟨_, h3⟩)
 have HC1 := hid hc1
 clear h1 h2 h3 hc1
 go_upto_region 2 with fail
 obtain ⟨w2, hw2⟩ : ∃ w2, (w1.alloc (.cells #[.slice ac 2 cc, .string ⟨#[118, 111, 105, 100]⟩, .string ⟨#[109, 97, 105, 110]⟩, .bool true, .bool false, .slice none 0 0, .slice al 1 cl, .slice ab 1 cb, .int .i64 1, .int .i64 35] 31)).alloc (.cells #[.int .i64 0, .int .i64 0, .int .i64 0] 34) = w2 := ⟨_, rfl⟩
 have hb2 := heapOld (heap_alloc_new w1 (.cells #[.slice ac 2 cc, .string ⟨#[118, 111, 105, 100]⟩, .string ⟨#[109, 97, 105, 110]⟩, .bool true, .bool false, .slice none 0 0, .slice al 1 cl, .slice ab 1 cb, .int .i64 1, .int .i64 35] 31)) (.cells #[.int .i64 0, .int .i64 0, .int .i64 0] 34)
 have hc2 := ((Ch.refl No w1).alloc (.cells #[.slice ac 2 cc, .string ⟨#[118, 111, 105, 100]⟩, .string ⟨#[109, 97, 105, 110]⟩, .bool true, .bool false, .slice none 0 0, .slice al 1 cl, .slice ab 1 cb, .int .i64 1, .int .i64 35] 31)).alloc (.cells #[.int .i64 0, .int .i64 0, .int .i64 0] 34)
 rw [hw2] at hb2 hc2 ⊢
 have HB2 := hid hb2
 have HP2 := hid (HP.out.no hc2)
 have HC2 := hid (HC1.out.trans hc2)
 clear hw2 hb2 hc2 HP
 go_wp2_with fail
 refine (tparse isT2).mono ?_
 rintro e w3 ⟨ac2, cc2, al2, cl2, ab2, cb2, rfl, h1, h2, h3, hc3⟩
 have HQ := hid (pAt_of (sp := ⟨#[]⟩) rfl h1 h2 ⟨_, h3⟩)
 have HB3 := hid (hc3.keep _ _ HB2.out (fun h => h))
 have HP3 := hid (HP2.out.no hc3)
 have HC3 := hid (HC2.out.trans hc3)
 clear h1 h2 h3 hc3
 go_upto_region 3 with fail
 obtain ⟨w4, hw4⟩ : ∃ w4, (w3.alloc (.cells #[.slice ac2 2 cc2, .string ⟨#[118, 111, 105, 100]⟩, .string ⟨#[109, 97, 105, 110]⟩, .bool true, .bool false, .slice none 0 0, .slice al2 1 cl2, .slice ab2 1 cb2, .int .i64 1, .int .i64 25] 31)).alloc (.cells #[.int .i64 0, .int .i64 0, .int .i64 0] 34) = w4 := ⟨_, rfl⟩
 have hb4 := heapOld (heap_alloc_new w3 (.cells #[.slice ac2 2 cc2, .string ⟨#[118, 111, 105, 100]⟩, .string ⟨#[109, 97, 105, 110]⟩, .bool true, .bool false, .slice none 0 0, .slice al2 1 cl2, .slice ab2 1 cb2, .int .i64 1, .int .i64 25] 31)) (.cells #[.int .i64 0, .int .i64 0, .int .i64 0] 34)
 have hc4 := ((Ch.refl No w3).alloc (.cells #[.slice ac2 2 cc2, .string ⟨#[118, 111, 105, 100]⟩, .string ⟨#[109, 97, 105, 110]⟩, .bool true, .bool false, .slice none 0 0, .slice al2 1 cl2, .slice ab2 1 cb2, .int .i64 1, .int .i64 25] 31)).alloc (.cells #[.int .i64 0, .int .i64 0, .int .i64 0] 34)
 rw [hw4] at hb4 hc4 ⊢
 have HB4 := hid (hc4.keep _ _ HB3.out (fun h => h))
 have HD4 := hid hb4
 have HP4 := hid (HP3.out.no hc4)
 have HQ4 := hid (HQ.out.no hc4)
 have HC4 := hid (HC3.out.trans hc4)
 have hb := HB4.out
 have p0 := cellAt hb 0
 have p1 := cellAt hb 1
 have p2 := cellAt hb 2
 have p3 := cellAt hb 3
 have p4 := cellAt hb 4
 have p5 := cellAt hb 5
 have p6 := cellAt hb 6
 have p7 := cellAt hb 7
 have p8 := cellAt hb 8
 have p9 := cellAt hb 9
 clear hw4 hb4 hc4 hb HB3 HP3
 go_wp2_with fail
 refine (pCheck HP4.out (HT.out.no HC4.out) p1_fault (Nat.le_of_ble_eq_true rfl)).mono ?_
 rintro e w5 ⟨hc5, ⟨_, mb, rfl⟩ | ⟨hno, _⟩⟩
 · have HC5 := hid (HC4.out.trans hc5)
   have HD5 := hid (hc5.keep _ _ HD4.out (fun h => h))
   have HQ5 := hid (HQ4.out.no hc5)
   clear hc5 p0 p1 p2 p3 p4 p5 p6 p7 p8 p9
   go_upto_region 4 with fail
   obtain ⟨w6, hw6⟩ : ∃ w6, w5.alloc (.cells #[.int .i64 0, .int .i64 0, .int .i64 0] 34) = w6 := ⟨_, rfl⟩
   have hb6 := heap_alloc_new w5 (.cells #[.int .i64 0, .int .i64 0, .int .i64 0] 34)
   have hc6 := (Ch.refl No w5).alloc (.cells #[.int .i64 0, .int .i64 0, .int .i64 0] 34)
   rw [hw6] at hb6 hc6 ⊢
   have HF6 := hid hb6
   have HC6 := hid (HC5.out.trans hc6)
   have hd := hc6.keep _ _ HD5.out (fun h => h)
   have HQ6 := hid (HQ5.out.no hc6)
   have p0 := cellAt hd 0
   have p1 := cellAt hd 1
   have p2 := cellAt hd 2
   have p3 := cellAt hd 3
   have p4 := cellAt hd 4
   have p5 := cellAt hd 5
   have p6 := cellAt hd 6
   have p7 := cellAt hd 7
   have p8 := cellAt hd 8
   have p9 := cellAt hd 9
   clear hw6 hb6 hc6 hd
   go_wp2_with fail
   refine (pCheck HQ6.out (HT.out.no HC6.out) p2_fault (Nat.zero_le _)).mono ?_
   rintro e w7 ⟨hc7, ⟨hyes, _⟩ | ⟨_, l, c, hlc, rfl⟩⟩
   · exact absurd hyes.2 (pNew2 _)
   · obtain ⟨rfl, rfl⟩ := hlc (pVars _ _)
     have HF7 := hid (hc7.keep _ _ HF6.out (fun h => h))
     have HC7 := hid (HC6.out.trans hc7)
     have hf := HF7.out
     have y7 := lt_size hf
     have a0 := cellAt hf 0
     have a1 := cellAt hf 1
     have a2 := cellAt hf 2
     clear hc7 hf p0 p1 p2 p3 p4 p5 p6 p7 p8 p9
     go_wp2_with fail
     go_ret
     exact ⟨rfl, HC7.out.alloc _⟩
 · exact absurd ⟨pVars _ _, pNew1 _⟩ hno
end Go.Proofs.YtgjpgfedlgdjhaaGreatDoor
end
