/- Part 49. -/
import Derived.Test.YtgjpgfedlgdjhaaGreatDoorYbr
set_option linter.unusedVariables false
set_option linter.unusedSimpArgs false
set_option maxHeartbeats 64000000
set_option maxRecDepth 8192
section
namespace Go.Proofs.YtgjpgfedlgdjhaaGreatDoor
open Go.RowKit Go.W
structure Rn (cs cs' : List Aj) (ms ms' : List Ba) (f g : Nat → Nat) : Prop where
 fg : ∀ i, f (g i) = i
 gf : ∀ i, g (f i) = i
 c : ∀ i, cs'[f i]? = cs[i]?
 m : ∀ i, ms'[f i]? = ms[i]?
 S : B2 cs
def sk (x : Cy) : ByteArray × ByteArray × List ByteArray × Bool × Bool := (x.nm, x.ty, x.ps, x.st, x.ba)
theorem Hw {a b : Option Cy} (h : a.map sk = b.map sk) : (a = none ∧ b = none) ∨ ∃ x y, a = some x ∧ b = some y ∧ sk x = sk y := by
 cases a with
 | none => cases b with
  | none => exact .inl ⟨rfl, rfl⟩
  | some y => cases h
 | some x => cases b with
  | none => cases h
  | some y => exact .inr ⟨x, y, rfl, rfl, Option.some.inj h⟩
theorem Hx {x y : Cy} (h : sk x = sk y) : x.nm = y.nm ∧ x.ty = y.ty ∧ x.ps = y.ps ∧ x.st = y.st ∧ x.ba = y.ba := by
 obtain ⟨c, n, t, p, s, b⟩ := x
 obtain ⟨c', n', t', p', s', b'⟩ := y
 cases h
 exact ⟨rfl, rfl, rfl, rfl, rfl⟩
theorem P8 {α β : Type} {s : α → β} {get get' : Nat → Option α} {f : Nat → Nat} (h : ∀ i, (get' (f i)).map s = (get i).map s) : ∀ l : List Nat, (Qp get' (l.map f)).map (fun r => (r.1, s r.2)) = (Qp get l).map (fun r => (f r.1, s r.2))
 | [] => rfl
 | i :: l => by
  have hi := h i
  rw [List.map_cons, Ea, Ea]
  cases h1 : get i with
  | none =>
   rw [h1] at hi
   have h2 : get' (f i) = none := by simpa using hi
   rw [h2]
   exact P8 h l
  | some x =>
   rw [h1] at hi
   cases h2 : get' (f i) with
   | none => rw [h2] at hi; cases hi
   | some y =>
    rw [h2] at hi
    have : s y = s x := by simpa using hi
    simp [this]
theorem I3 {α β : Type} {F : β → β} {get get' : α → Option β} {f : α → α} : ∀ l : List α, (∀ j ∈ l, get' (f j) = (get j).map F) → (l.map f).findSome? get' = (l.findSome? get).map F
 | [], _ => rfl
 | j :: l, h => by
  rw [List.map_cons, List.findSome?_cons, List.findSome?_cons, h j (List.mem_cons_self ..)]
  cases get j with
  | some x => rfl
  | none => exact I3 l (fun k hk => h k (List.mem_cons_of_mem _ hk))
theorem Xz {cs : List Aj} {x : ByteArray} (h : As cs x = none) {i : Nat} {c : Aj} (hi : cs[i]? = some c) : c.name ≠ x := by
 unfold As at h
 rw [List.findIdx?_eq_none_iff] at h
 have := h c (mG hi)
 simpa using this
theorem Vw {cs : List Aj} {x : ByteArray} {i : Nat} {c : Aj} (S : B2 cs) (hi : cs[i]? = some c) (hn : c.name = x) : As cs x = some i := by
 have h := (S i c hi).own
 rw [hn] at h
 exact h
section
variable {cs cs' : List Aj} {ms ms' : List Ba} {f g : Nat → Nat}
theorem Rn.cg (R : Rn cs cs' ms ms' f g) (j : Nat) : cs'[j]? = cs[g j]? := by
 have h := R.c (g j)
 rw [R.fg] at h
 exact h
theorem Rn.mg (R : Rn cs cs' ms ms' f g) (j : Nat) : ms'[j]? = ms[g j]? := by
 have h := R.m (g j)
 rw [R.fg] at h
 exact h
theorem Dd (R : Rn cs cs' ms ms' f g) (x : ByteArray) : As cs' x = (As cs x).map f := by
 cases h : As cs' x with
 | none =>
  cases h2 : As cs x with
  | none => rfl
  | some i =>
   obtain ⟨c, hc, hn, _⟩ := C5 h2
   exact absurd hn (Xz h ((R.c i).trans hc))
 | some j =>
  obtain ⟨c, hc, hn, _⟩ := C5 h
  rw [R.cg] at hc
  rw [Vw R.S hc hn]
  show some j = some (f (g j))
  rw [R.fg]
theorem Oo (R : Rn cs cs' ms ms' f g) : B2 cs' := by
 intro j c hc
 rw [R.cg] at hc
 have h := R.S _ c hc
 refine ⟨?_, fun hs => ?_, fun k x hk hx => ?_⟩
 {rw [Dd R, h.own]
  show some (f (g j)) = some j
  rw [R.fg]}
 {obtain ⟨s, d, h1, h2, h3⟩ := h.sup hs
  exact ⟨f s, d, by rw [Dd R, h1]; rfl, (R.c s).trans h2, h3⟩}
 {obtain ⟨⟨s, d, h1, h2, h3⟩, h4⟩ := h.faces k x hk hx
  exact ⟨⟨f s, d, by rw [Dd R, h1]; rfl, (R.c s).trans h2, h3⟩, h4⟩}
theorem Rn.symm (R : Rn cs cs' ms ms' f g) : Rn cs' cs ms' ms g f := ⟨R.gf, R.fg, fun i => (R.cg i).symm, fun i => (R.mg i).symm, Oo R⟩
theorem Ae3 {p : Prop} (h : p := by
 rw [R.c]
 cases cs[i]? with
 | none => rfl
 | some c =>
  have h : As cs' = fun x => (As cs x).map f := funext (Dd R)
  show List.filterMap (As cs') _ = List.map f (List.filterMap (As cs) _)
  rw [h, List.map_filterMap]
 ) : p := h
theorem Vx (R : Rn cs cs' ms ms' f g) (i : Nat) : Az cs' (f i) = (Az cs i).map f := by
 unfold Az
 exact Ae3
theorem Ss (R : Rn cs cs' ms ms' f g) (i : Nat) : Fs cs' (f i) = (Fs cs i).map f := by
 unfold Fs
 exact Ae3
theorem Ko (R : Rn cs cs' ms ms' f g) {i j : Nat} (h : Gr.Reach (Az cs) i j) : Gr.Reach (Az cs') (f i) (f j) := by
 induction h with
 | one h => exact .one (by rw [Vx R]; exact List.mem_map.2 ⟨_, h, rfl⟩)
 | step h _ ih => exact .step (by rw [Vx R]; exact List.mem_map.2 ⟨_, h, rfl⟩) ih
theorem Jq (R : Rn cs cs' ms ms' f g) (hno : A3 cs) : A3 cs' := fun i _ h => W6 hno _ (Ko R.symm h)
theorem Vy (R : Rn cs cs' ms ms' f g) (i k : Nat) : Yb cs' (f i) (f k) = Yb cs i k := by
 refine propext ⟨?_, ?_⟩
 {rintro (h | h)
  {have h2 := congrArg g h
   rw [R.gf, R.gf] at h2
   exact .inl h2}
  {have h2 := Ko R.symm h
   rw [R.gf, R.gf] at h2
   exact .inr h2}}
 {rintro (h | h)
  {exact .inl (congrArg f h)}
  {exact .inr (Ko R h)}}
theorem Vz (R : Rn cs cs' ms ms' f g) (i : Nat) : D4 cs' (f i) = (D4 cs i).map f := by
 unfold D4
 rw [R.c]
 cases cs[i]? with
 | none => rfl
 | some c =>
  simp only
  split
  {rfl}
  {exact Dd R _}
theorem Rq (R : Rn cs cs' ms ms' f g) (i : Nat) : Fd cs' (f i) = Fd cs i := by
 unfold Fd
 rw [R.c]
theorem Oq (R : Rn cs cs' ms ms' f g) (hno : A3 cs) : ∀ (k i : Nat), Eo cs i < k → E4 cs' (f i) = (E4 cs i).map f
 | 0, _, h => by omega
 | k + 1, i, h => by
  rw [Hn (Jq R hno), Hn hno, Vz R]
  cases hs : D4 cs i with
  | none => rfl
  | some j =>
   have := Hm hno i j (Qn hs)
   show f i :: E4 cs' (f j) = f i :: (E4 cs j).map f
   rw [Oq R hno k j (by omega)]
theorem Lu (R : Rn cs cs' ms ms' f g) (hno : A3 cs) (o : Option Nat) : C7 cs' (o.map f) = (C7 cs o).map f := by
 cases o with
 | none => rfl
 | some i => exact Oq R hno _ i (Nat.lt_succ_self _)
def SkL (lk : Nat → Ba → ByteArray → Option Cy) : Prop := ∀ i j m nm, (lk i m nm).map sk = (lk j m nm).map sk
theorem skV (st : Bool) (l : List Vr) (i j : Nat) (nm : ByteArray) : (Ma i st l nm).map sk = (Ma j st l nm).map sk := by
 unfold Ma
 cases Qo l nm <;> rfl
theorem skF (st : Bool) : SkL (Yp st) := fun i j m nm => by
 unfold Yp
 cases st
 {exact skV _ _ i j nm}
 {exact skV _ _ i j nm}
theorem skM : SkL A7 := fun i j m nm => by
 unfold A7 Hp
 cases Lk m.ms nm with
 | none => rfl
 | some k =>
  show Option.map sk (Option.map _ (m.ms[k]?)) = Option.map sk (Option.map _ (m.ms[k]?))
  cases m.ms[k]? <;> rfl
theorem Y1 (R : Rn cs cs' ms ms' f g) {lk : Nat → Ba → ByteArray → Option Cy} (hk : SkL lk) (nm : ByteArray) (i : Nat) : (G9 lk ms' nm (f i)).map sk = (G9 lk ms nm i).map sk := by
 unfold G9
 rw [R.m]
 cases ms[i]? with
 | none => rfl
 | some m => exact hk _ _ m nm
theorem Y2 (R : Rn cs cs' ms ms' f g) (hno : A3 cs) {lk : Nat → Ba → ByteArray → Option Cy} (hk : SkL lk) (nm : ByteArray) (o : Option Nat) : ((Fj cs' lk ms' nm (o.map f)).map Prod.snd).map sk = ((Fj cs lk ms nm o).map Prod.snd).map sk := by
 unfold Fj
 rw [Lu R hno]
 have h := congrArg (Option.map Prod.snd) (P8 (Y1 R hk nm) (C7 cs o))
 rw [Option.map_map, Option.map_map] at h ⊢
 exact h
theorem Aa6 (R : Rn cs cs' ms ms' f g) (nm : ByteArray) (i : Nat) : J7 ms' nm (f i) = J7 ms nm i := by
 unfold J7
 rw [R.m]
theorem Su (R : Rn cs cs' ms ms' f g) (hno : A3 cs) (nm : ByteArray) (o : Option Nat) : Cc cs' ms' nm (o.map f) = (Cc cs ms nm o).map (fun r => (f r.1, r.2)) := by
 unfold Cc
 rw [Lu R hno]
 have h := P8 (s := id) (fun i => congrArg (Option.map id) (Aa6 R nm i)) (C7 cs o)
 have h2 : ∀ a : Option (Nat × Nat), a.map (fun r => (r.1, id r.2)) = a := fun a => by cases a <;> rfl
 rw [h2] at h
 exact h
theorem Ot (R : Rn cs cs' ms ms' f g) (hno : A3 cs) (nm : ByteArray) : ∀ (k i : Nat), Eo cs i < k → Ez cs' ms' nm (f i) = (Ez cs ms nm i).map (fun r => (f r.1, r.2))
 | 0, _, h => by omega
 | k + 1, i, h => by
  have hu : Cc cs' ms' nm (some (f i)) = (Cc cs ms nm (some i)).map (fun r => (f r.1, r.2)) := Su R hno nm (some i)
  rw [D5 (Jq R hno), D5 hno, hu]
  cases Cc cs ms nm (some i) with
  | some r => rfl
  | none =>
   simp only [Option.map_none]
   rw [Rq R]
   split
   {rw [Ss R]
    refine I3 _ (fun j hj => Ot R hno nm k j ?_)
    have := Hm hno i j (Ij hj)
    omega}
   {rfl}
theorem Ou (R : Rn cs cs' ms ms' f g) (hno : A3 cs) (nm : ByteArray) (i : Nat) : (C9 cs' ms' nm (some (f i))).map sk = (C9 cs ms nm (some i)).map sk := by
 unfold C9
 simp only
 rw [Ot R hno nm _ i (Nat.lt_succ_self _)]
 cases Ez cs ms nm i with
 | none => rfl
 | some r =>
  show (Jc ms' (f r.1, r.2)).map sk = (Jc ms r).map sk
  unfold Jc
  simp only
  rw [R.m]
  cases ms[r.1]? with
  | none => rfl
  | some m =>
   simp only
   cases m.ms[r.2]? <;> rfl
theorem Ov (R : Rn cs cs' ms ms' f g) (t : ByteArray) : F0 cs' t = F0 cs t := by
 unfold F0
 rw [Dd R, Option.isSome_map]
theorem Ae4 (R : Rn cs cs' ms ms' f g) (t : ByteArray) : (∃ i, As cs' t = some i) = ∃ i, As cs t = some i := by
 rw [Dd R]
 cases As cs t with
 | none => exact propext ⟨(fun ⟨_, h⟩ => by cases h), (fun ⟨_, h⟩ => by cases h)⟩
 | some i => exact propext ⟨fun _ => ⟨i, rfl⟩, fun _ => ⟨f i, rfl⟩⟩
theorem Ow (R : Rn cs cs' ms ms' f g) (t : ByteArray) : Lj cs' t = Lj cs t := by
 unfold Lj
 rw [Ov R, Ae4 R]
theorem P9 (R : Rn cs cs' ms ms' f g) (t u : ByteArray) : Eh cs' t u = Eh cs t u := by
 have h : (∃ i k, As cs' t = some i ∧ As cs' u = some k ∧ Yb cs' i k) = ∃ i k, As cs t = some i ∧ As cs u = some k ∧ Yb cs i k := by
  rw [Dd R, Dd R]
  refine propext ⟨?_, ?_⟩
  {rintro ⟨i, k, h1, h2, h3⟩
   obtain ⟨a, ha, rfl⟩ := Option.map_eq_some_iff.1 h1
   obtain ⟨b, hb, rfl⟩ := Option.map_eq_some_iff.1 h2
   rw [Vy R] at h3
   exact ⟨a, b, ha, hb, h3⟩}
  {rintro ⟨i, k, h1, h2, h3⟩
   exact ⟨f i, f k, by rw [h1]; rfl, by rw [h2]; rfl, by rw [Vy R]; exact h3⟩}
 unfold Eh
 rw [Ow R, Ow R, h]
theorem Kp (R : Rn cs cs' ms ms' f g) (t : ByteArray) : D6 cs' t = D6 cs t := by
 unfold D6
 rw [Ow R]
theorem X0 (R : Rn cs cs' ms ms' f g) (t : ByteArray) : Dv cs' t = Dv cs t := by
 unfold Dv
 rw [Dd R]
 refine propext ⟨?_, ?_⟩
 {rintro ⟨i, c, h1, h2, h3⟩
  obtain ⟨a, ha, rfl⟩ := Option.map_eq_some_iff.1 h1
  exact ⟨a, c, ha, (R.c a).symm.trans h2, h3⟩}
 {rintro ⟨i, c, h1, h2, h3⟩
  exact ⟨f i, c, by rw [h1]; rfl, (R.c i).trans h2, h3⟩}
theorem Rr (R : Rn cs cs' ms ms' f g) (vs : ByteArray → Option ByteArray) (t x : ByteArray) : Cx cs' vs t x = Cx cs vs t x := by
 unfold Cx
 rw [P9 R]
theorem V0 (R : Rn cs cs' ms ms' f g) (t : ByteArray) : Ff cs' t = Ff cs t := by
 unfold Ff
 rw [Ov R]
theorem Aa7 (R : Rn cs cs' ms ms' f g) (hno : A3 cs) (st : Bool) (t nm : ByteArray) : Dk cs' ms' st t nm = Dk cs ms st t nm := by
 unfold Dk
 rw [Dd R]
 cases As cs t with
 | none => rfl
 | some i =>
  simp only [Option.map_some]
  rw [Rq R]
  have h := Y2 R hno (skF st) nm (some i)
  rcases Hw h with ⟨h1, h2⟩ | ⟨x, y, h1, h2, h3⟩
  {simp only [Option.map_some] at h1
   rw [h1, h2]}
  {simp only [Option.map_some] at h1
   rw [h1, h2]
   simp only
   rw [(Hx h3).2.1]}
theorem Rs (R : Rn cs cs' ms ms' f g) (hno : A3 cs) {vs : ByteArray → Option ByteArray} {t n x : ByteArray} {gs : List ByteArray} {may : Cy → Prop} (hm : ∀ x y, sk x = sk y → may x → may y) (h : Dw cs ms vs t n x gs may) : Dw cs' ms' vs t n x gs may := by
 obtain ⟨i, y, h1, h2, h3, h4, h5, h6⟩ := h
 rcases Hw (Ou R hno n i) with ⟨_, e2⟩ | ⟨a, b, e1, e2, e3⟩
 {rw [h2] at e2
  cases e2}
 {rw [h2] at e2
  obtain rfl := Option.some.inj e2
  obtain ⟨_, s2, s3, _, _⟩ := Hx e3
  exact ⟨f i, a, by rw [Dd R, h1]; rfl, e1, hm _ _ e3.symm h3, by rw [s3]; exact h4, by rw [s3]; simp only [P9 R]; exact h5, by rw [s2, Rr R]; exact h6⟩}
theorem Mx (R : Rn cs cs' ms ms' f g) (hno : A3 cs) {may : Cy → Prop} (hm : ∀ x y, sk x = sk y → may x → may y) (vs : ByteArray → Option ByteArray) (t n x : ByteArray) (gs : List ByteArray) : Dw cs' ms' vs t n x gs may = Dw cs ms vs t n x gs may :=
 propext ⟨Rs R.symm (Jq R hno) hm, Rs R hno hm⟩
theorem X1 (R : Rn cs cs' ms ms' f g) (hno : A3 cs) (vs : ByteArray → Option ByteArray) (ret : ByteArray) (s : St) (gs : List ByteArray) : Fh cs' ms' vs ret s gs = Fh cs ms vs ret s gs := by
 have c1 := Mx R hno (may := fun m => m.st = false) (fun x y e h => (Hx e).2.2.2.1.symm.trans h)
 have c2 := Mx R hno (may := fun m => m.st = false ∧ m.ba = false) (fun x y e h => ⟨(Hx e).2.2.2.1.symm.trans h.1, (Hx e).2.2.2.2.symm.trans h.2⟩)
 have c3 := Mx R hno (may := fun m => m.st = true) (fun x y e h => (Hx e).2.2.2.1.symm.trans h)
 unfold Fh
 simp only [X0 R, Rr R, Ow R, P9 R, Aa7 R hno, V0 R, c1, c2, c3]
theorem Rt (R : Rn cs cs' ms ms' f g) (hno : A3 cs) (vs : ByteArray → Option ByteArray) (ret : ByteArray) : ∀ t : Tr, I1 cs' ms' vs ret t = I1 cs ms vs ret t
 | .nil => rfl
 | .cons h b o r => by
  show (Fh _ _ _ _ _ _ ∧ I1 _ _ _ _ b ∧ I1 _ _ _ _ o ∧ I1 _ _ _ _ r) = (Fh _ _ _ _ _ _ ∧ I1 _ _ _ _ b ∧ I1 _ _ _ _ o ∧ I1 _ _ _ _ r)
  rw [X1 R hno, Rt R hno vs ret b, Rt R hno vs ret o, Rt R hno vs ret r]
theorem V1 (R : Rn cs cs' ms ms' f g) (hno : A3 cs) {z z' : Int} (hz : ∀ m, C4 cs' z' m = C4 cs z m) (x : Md) : Wa cs' ms' z' x = Wa cs ms z x := by
 unfold Wa Ck Hu Ky
 rw [hz]
 simp only [Ow R, Rt R hno]
theorem Ru (R : Rn cs cs' ms ms' f g) (i : Nat) (m : Mt) : C4 cs' (f i) m = C4 cs i m := by
 unfold C4
 rw [Int.toNat_natCast, Int.toNat_natCast, R.c]
 simp only [Int.natCast_nonneg]
theorem X2 (m : Mt) : C4 cs' (-1) m = C4 cs (-1) m := rfl
theorem Aa8 (R : Rn cs cs' ms ms' f g) (hno : A3 cs) {i : Nat} {K : KD} (h : Vl cs ms i K) : Vl cs' ms' (f i) K :=
 ⟨fun b x e => by rw [V1 R hno (Ru R i)]; exact h.1 b x e, fun x hx hb => by rw [V1 R hno (Ru R i)]; exact h.2 x hx hb⟩
theorem Rv (R : Rn cs cs' ms ms' f g) (hno : A3 cs) {lk : Nat → Ba → ByteArray → Option Cy} (hk : SkL lk) {i : Nat} {l : List Vr} (h : Ee cs lk ms (D4 cs i) l) : Ee cs' lk ms' (D4 cs' (f i)) l := by
 intro k hkl v hv
 obtain ⟨h1, h2, h3⟩ := h k hkl v hv
 refine ⟨by rw [Kp R]; exact h1, h2, ?_⟩
 rw [Vz R]
 have h4 := Y2 R hno hk v.nm (D4 cs i)
 rw [h3] at h4
 cases h5 : Fj cs' lk ms' v.nm ((D4 cs i).map f) with
 | none => rfl
 | some r => rw [h5] at h4; cases h4
theorem Lv (R : Rn cs cs' ms ms' f g) {i u : Nat} (hi : i < cs.length) (hi' : f i < cs'.length) (h : u ∈ C8 cs' (f i)) : g u ∈ C8 cs i := by
 obtain ⟨h1, h2⟩ := (Fu hi').1 h
 rw [Fu hi]
 refine ⟨?_, ?_⟩
 {obtain ⟨c, hc⟩ : ∃ c, cs'[u]? = some c := ⟨_, List.getElem?_eq_getElem h1⟩
  rw [R.cg] at hc
  exact (gL hc)}
 {rw [← Vy R, R.fg]
  exact h2}
theorem V2 (R : Rn cs cs' ms ms' f g) {nm : ByteArray} {u : Nat} {y : Cy} (h : G9 A7 ms' nm u = some y) : ∃ x, G9 A7 ms nm (g u) = some x ∧ sk y = sk x := by
 have h1 := Y1 R skM nm (g u)
 rw [R.fg, h] at h1
 rcases Hw h1 with ⟨h2, _⟩ | ⟨a, b, h2, h3, h4⟩
 {cases h2}
 {cases h2
  exact ⟨b, h3, h4⟩}
theorem V3 (R : Rn cs cs' ms ms' f g) (hno : A3 cs) {i : Nat} {c : Aj} {m : Ba} (hi : i < cs.length) (hi' : f i < cs'.length) (h : D8 cs ms i c m) : D8 cs' ms' (f i) c m := by
 refine ⟨Rv R hno (skF false) h.fs, Rv R hno (skF true) h.ss, fun k hk x hx => ?_, h.face, fun hf u hu nm y hy hb => ?_⟩
 {obtain ⟨h1, h2, h3, h4, h5⟩ := h.mts k hk x hx
  refine ⟨h1, h2, ?_, ?_, ?_⟩
  {rw [Kp R]; exact h3}
  {intro p hp
   rw [Kp R]
   exact h4 p hp}
  {intro y hy
   obtain ⟨u, hu, hy⟩ := List.mem_filterMap.1 hy
   unfold abM at hy
   split at hy
   {cases hy}
   {rename_i hne
    obtain ⟨z, hz, hs⟩ := V2 R hy
    have hz2 : abM ms x.nm i (g u) = some z := by
     unfold abM
     rw [if_neg (fun e => hne (by rw [← e, R.fg]))]
     exact hz
    obtain ⟨⟨a1, a2⟩, a3, a4⟩ := h5 z (List.mem_filterMap.2 ⟨g u, Lv R hi hi' hu, hz2⟩)
    obtain ⟨_, s2, s3, s4, _⟩ := Hx hs
    exact ⟨⟨a1.trans s2.symm, a2.trans s3.symm⟩, a3, s4.trans a4⟩}}}
 {obtain ⟨z, hz, hs⟩ := V2 R hy
  obtain ⟨_, s2, s3, s4, s5⟩ := Hx hs
  obtain ⟨a, ha, b1, b2, b3, b4⟩ := h.whole hf (g u) (Lv R hi hi' hu) nm z hz (s5.symm.trans hb)
  have h1 := Ou R hno nm i
  rw [ha] at h1
  rcases Hw h1 with ⟨_, h2⟩ | ⟨p, q, h2, h3, h4⟩
  {cases h2}
  {cases h3
   obtain ⟨_, t2, t3, t4, t5⟩ := Hx h4
   exact ⟨p, h2, t5.trans b1, t4.trans b2, (s2.trans b3).trans t2.symm, (s3.trans b4).trans t3.symm⟩}}
theorem V7 (R : Rn cs cs' ms ms' f g) (h : Fw cs ms) : Fw cs' ms' := by
 have hno : A3 cs := h.1.2
 refine ⟨⟨Oo R, Jq R hno⟩, fun j c m hc hm => ?_⟩
 have hj := (gL hc)
 rw [R.cg] at hc
 rw [R.mg] at hm
 have hr := V3 R hno (gL hc) (by rw [R.fg]; exact hj) (h.2 _ c m hc hm)
 rw [R.fg] at hr
 exact hr
end
theorem Y3 {Ks Ks' : List KD} {M : Md} {f g : Nat → Nat} (fg : ∀ i, f (g i) = i) (gf : ∀ i, g (f i) = i) (he : ∀ i, Ks'[f i]? = Ks[i]?) (h : S0 Ks M) : S0 Ks' M := by
 have R : Rn (Ks.map KD.c) (Ks'.map KD.c) (Ks.map KD.m) (Ks'.map KD.m) f g := ⟨fg, gf, fun i => by rw [List.getElem?_map, List.getElem?_map, he], fun i => by rw [List.getElem?_map, List.getElem?_map, he], h.1.1.1⟩
 have hno : A3 (Ks.map KD.c) := h.1.1.2
 refine ⟨V7 R h.1, fun j K hj => ?_, by rw [V1 R hno X2]; exact h.2.2⟩
 have h1 := he (g j)
 rw [fg, hj] at h1
 have h2 := Aa8 R hno (h.2.1 _ K h1.symm)
 rw [fg] at h2
 exact h2
def I4 (n k i : Nat) : Nat := if i < n then (if i < k then i + (n - k) else i - k) else i
theorem Kq {n k : Nat} (hk : k ≤ n) (i : Nat) : I4 n (n - k) (I4 n k i) = i := by
 unfold I4
 repeat' split
 all_goals omega
theorem Ox {α : Type} (l : List α) {k : Nat} (hk : k ≤ l.length) (i : Nat) : (l.drop k ++ l.take k)[I4 l.length k i]? = l[i]? := by
 have h1 : (l.drop k).length = l.length - k := List.length_drop
 unfold I4
 by_cases hi : i < l.length
 {rw [if_pos hi]
  by_cases hik : i < k
  {rw [if_pos hik, List.getElem?_append_right (by omega), h1, show i + (l.length - k) - (l.length - k) = i from by omega, List.getElem?_take, if_pos hik]}
  {rw [if_neg hik, List.getElem?_append_left (by omega), List.getElem?_drop, show k + (i - k) = i from by omega]}}
 {rw [if_neg hi, List.getElem?_eq_none (l := l) (by omega)]
  refine List.getElem?_eq_none ?_
  rw [List.length_append, h1, List.length_take]
  omega}
theorem V8 {Ks : List KD} {M : Md} {k : Nat} (hk : k ≤ Ks.length) : S0 (Ks.drop k ++ Ks.take k) M ↔ S0 Ks M := by
 have e : ∀ i, I4 Ks.length k (I4 Ks.length (Ks.length - k) i) = i := fun i => by
  have h := Kq (n := Ks.length) (k := Ks.length - k) (by omega) i
  rw [show Ks.length - (Ks.length - k) = k from by omega] at h
  exact h
 refine ⟨fun h => ?_, fun h => Y3 e (Kq hk) (Ox Ks hk) h⟩
 refine Y3 (Kq hk) e (fun i => ?_) h
 have h2 := Ox Ks hk (I4 Ks.length (Ks.length - k) i)
 rw [e] at h2
 exact h2.symm
theorem Lw {Ks : List KD} {k : Nat} (h : Ir (Ks.map KD.c) (Ks.map KD.m)) : Ir ((Ks.drop k ++ Ks.take k).map KD.c) ((Ks.drop k ++ Ks.take k).map KD.m) := by
 have hm : ∀ K, K ∈ Ks.drop k ++ Ks.take k → K ∈ Ks := by
  intro K hK
  rcases List.mem_append.1 hK with hK | hK
  {exact List.mem_of_mem_drop hK}
  {exact List.mem_of_mem_take hK}
 have hc : ∀ c ∈ (Ks.drop k ++ Ks.take k).map KD.c, c ∈ Ks.map KD.c := by
  intro c hc
  obtain ⟨K, hK, rfl⟩ := List.mem_map.1 hc
  exact List.mem_map.2 ⟨K, hm K hK, rfl⟩
 refine ⟨⟨?_, fun c h1 => h.few.2 c (hc c h1)⟩, fun c h1 => h.plain c (hc c h1), fun i m hi => ?_⟩
 {have h1 := h.few.1
  rw [List.length_map] at h1 ⊢
  rw [List.length_append, List.length_drop, List.length_take]
  omega}
 {obtain ⟨K, hK, rfl⟩ := List.mem_map.1 (mG hi)
  obtain ⟨j, hj⟩ := List.getElem?_of_mem (hm K hK)
  exact h.mem j _ (by rw [List.getElem?_map, hj]; rfl)}
end Go.Proofs.YtgjpgfedlgdjhaaGreatDoor
end
