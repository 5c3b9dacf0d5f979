/- What the claim uses: part 32. -/
import Derived.Test.YtgjpgfedlgdjhaaGreatDoorZbe
section
set_option linter.unusedVariables false
set_option linter.unusedSimpArgs false
set_option maxRecDepth 8192
namespace Go.Proofs.YtgjpgfedlgdjhaaGreatDoor
open Go.RowKit Go.W
theorem run_appendStrs (w : World) (base : Nat) (v : Value) (n : Nat) (xs : List Value) (hown : w.ownsRow base 9 1 v n xs) (a : Addr) (c : Nat) {l : List ByteArray} (hs : StrsAt w (.slice (some a) l.length c) l)
   (hn : n + l.length ≤ 100000) (hbase : base ≤ w.heap.size) (ty : TypeId) :
   ∃ v' w', (Builtin.append_ #[46, 46] ty #[v, .slice (some a) l.length c]).run Tryz.prog w = .ok v' w' ∧ w'.ownsRow base 9 1 v' (n + l.length) (xs ++ l.map Value.string) ∧ Ch (fun j _ => v.ownBlock = some j) w w' := by
 obtain ⟨i, z, hi, hz, h2, h3, h4⟩ := infoOf Tryz.infoStr
 have hm : maxLen = 9223372036854775807 := rfl
 obtain ⟨v', w', hr, ho, hg, _⟩ := run_append_own (P := Tryz.prog) w base 46 ty 9 i z 1 16 Tryz.sliceStr hi hz h3 h4 h2 Nat.zero_lt_one v n xs hown a l.length c (l.map Value.string) (by simp)
   (fun j u hj => by
     obtain ⟨ao, cap, e, _, _, h5⟩ := hs
     cases e
     rw [List.getElem?_map] at hj
     cases hx : l[j]? with
     | none => rw [hx] at hj; cases hj
     | some x =>
       rw [hx] at hj
       obtain ⟨b, off, e, h6⟩ := h5 (by have := (List.getElem?_eq_some_iff.1 hx).1; omega)
       cases e
       rw [Addr.add_lit, h6 j x hx]
       exact hj) (by intro u hu; obtain ⟨x, _, rfl⟩ := List.mem_map.1 hu; rfl) (by omega) (by omega) hbase
 exact ⟨v', w', hr, ho, (Ch.refl _ w).grown hg (fun _ _ h _ => h)⟩
theorem wpAppendStrs {w : World} {ops : Array Oper} {rest : List Oper} {o : Oper} {a : Act} {Q : Exit → Act → World → Prop} (hgd : o.guard = none) (s x : Operand)
   (ho : o.op = .call { callee := .builtin .append, args := #[s, x], argTypes := #[46, 46] })
   (base : Nat) (v : Value) (n : Nat) (xs : List Value) (hsv : a.eval s = v) (hown : w.ownsRow base 9 1 v n xs) (ad : Addr) (c : Nat) {l : List ByteArray} (hxv : a.eval x = .slice (some ad) l.length c) (hs : StrsAt w (.slice (some ad) l.length c) l)
   (hn : n + l.length ≤ 100000) (hbase : base ≤ w.heap.size)
   (hK : ∀ v' w', w'.ownsRow base 9 1 v' (n + l.length) (xs ++ l.map Value.string) → Ch (fun k _ => v.ownBlock = some k) w w' → wpList Tryz.prog ops Q rest (a.put o.dst v') w') :
   wpList Tryz.prog ops Q (o :: rest) a w := by
 refine wpList_plain hgd fun K hK' => ?_
 obtain ⟨v', w', hr, h2, h3⟩ := run_appendStrs w base v n xs hown ad c hs hn hbase o.type
 unfold Oper.wp
 simp [execOp, ho, resolve, invoke, builtin, hsv, hxv, hr, Result.andThen]
 exact hK' _ _ (hK v' w' h2 h3)
set_option maxHeartbeats 2000000 in
theorem cloneS {w : World} {sa : Option Addr} {sn sc : Nat} {l : List ByteArray} (h : StrsAt w (.slice sa sn sc) l) (hl : l.length ≤ 1000) :
   Calls Tryz.prog 89 #[.slice sa sn sc] w fun e w' => ∃ ua un uc, e = .returned (.slice ua un uc) ∧ StrsOwn w' w.heap.size (.slice ua un uc) l ∧ Ch No w w' := by
 have ht : Tryz.prog.underlying 46 = some (.slice 9) := by kernel_rfl
 have q22 : ∀ (w : World) (a : Option Addr) (n c n' c' : Nat), (binOp .eql 46 (.slice a n c) (.slice none n' c')).run Tryz.prog w = .ok (.bool a.isNone) w := fun w a n c n' c' => Go.Lib.run_eql_slice_nil w _ _ a n c n' c' ht
 clear ht
 have h' := h
 obtain ⟨ao, cap, e, hcap, hmax, hcell⟩ := h'
 cases e
 cases sa with
 | none =>
   have h0 : l = [] := by
     cases l with
     | nil => rfl
     | cons x l =>
       obtain ⟨b, off, e, _⟩ := hcell (by simp)
       cases e
   subst h0
   clear hcell hcap hmax
   go_enter Tryz.func89, Tryz.ntmps89
   go_wp2_with fail
   go_ret
   exact ⟨_, _, _, rfl, StrsOwn.nil _ _, Ch.refl _ _⟩
 | some ad =>
   have ha := h.no ((Ch.refl No w).alloc (.cells #[] 9))
   have ho : (w.alloc (.cells #[] 9)).ownsRow w.heap.size 9 1 (.slice (some ⟨w.heap.size, 0, none⟩) 0 0) 0 [] := World.ownsRow_made w #[] 0 (Nat.le_refl _) (Nat.zero_le _) rfl
   have hb : 0 + l.length ≤ 100000 := by omega
   have hsz : w.heap.size ≤ (w.alloc (.cells #[] 9)).heap.size := ((Ch.refl No w).alloc _).size
   clear hcell hcap hmax h
   go_enter Tryz.func89, Tryz.ntmps89
   go_wp2_with (at_builtin; go_must (refine wpAppendStrs rfl _ _ rfl w.heap.size _ 0 [] rfl ho ad _ rfl ha hb hsz ?_))
   intro v1 w1 hown1 hch1
   have hown : StrsOwn w1 w.heap.size v1 l := by
     unfold StrsOwn
     simpa using hown1
   obtain ⟨a7, c7, e7, _, _, _⟩ := hown.at_
   subst e7
   have HO := hid hown
   have HC := hid (Ch.newOnly ((Ch.refl No w).alloc (.cells #[] 9)) hch1 (fun k _ _ e => by
     have e' : w.heap.size = k := by simpa [Value.ownBlock] using e
     omega))
   clear hown1 hch1 hown
   go_wp2_with fail
   go_ret
   exact ⟨_, _, _, rfl, HO.out, HC.out⟩
set_option maxHeartbeats 2000000 in
theorem equalS {w : World} {v v' : Value} {l l' : List ByteArray} (h : StrsAt w v l) (h' : StrsAt w v' l') :
   Calls Tryz.prog 154 #[v, v'] w fun e w' => BoolIs (l = l') e ∧ Ch No w w' := by
 have H := hid h
 have H' := hid h'
 obtain ⟨ao, cap, rfl, hcap, hmax, _⟩ := h
 obtain ⟨ao', cap', rfl, hcap', hmax', _⟩ := h'
 obtain ⟨n, hn⟩ : ∃ n, l.length = n := ⟨_, rfl⟩
 obtain ⟨n', hn'⟩ : ∃ n', l'.length = n' := ⟨_, rfl⟩
 have HS := H.out
 have HS' := H'.out
 rw [hn] at hcap HS ⊢
 rw [hn'] at hcap' HS' ⊢
 have HSS := hid HS
 have HSS' := hid HS'
 have HN := hid hn
 have HN' := hid hn'
 unfold maxLen at hmax hmax'
 clear hn hn' HS HS'
 cases hd : decide (n = n') with
 | false =>
   have hne : ¬ n = n' := by simpa using hd
   go_enter Tryz.func154, Tryz.ntmps154
   go_wp2_with fail
   go_ret
   exact ⟨BoolIs.f (fun e => hne (by rw [← HN.out, ← HN'.out, e])), Ch.refl _ _⟩
 | true =>
   have hnn : n = n' := by simpa using hd
   subst hnn
   clear hd
   go_enter Tryz.func154, Tryz.ntmps154
   go_wp2_with fail
   go_loopg [13, 5] n (fun g s13 s5 wr => ∃ k : Nat, k ≤ n ∧ n - k ≤ g ∧ s13 = .int .i64 k ∧ Hid (l.take k = l'.take k) ∧ Ch No w wr)
   case atStart => exact ⟨0, Nat.zero_le _, by omega, rfl, hid rfl, Ch.refl _ _⟩
   case round =>
     obtain ⟨k, hk, hg, rfl, HE, hcr⟩ := hrel
     have HCR := hid hcr
     clear hcr
     cases hd : decide (k < n) with
     | false =>
       have hkl : ¬ k < n := by simpa using hd
       go_wp2_with fail
       go_ret
       have he := HE.out
       rw [List.take_of_length_le (by have := HN.out; omega), List.take_of_length_le (by have := HN'.out; omega)] at he
       exact ⟨BoolIs.t he, HCR.out⟩
     | true =>
       have hkl : k < n := by simpa using hd
       obtain ⟨x, hx⟩ : ∃ x, l[k]? = some x := ⟨_, List.getElem?_eq_getElem (by have := HN.out; omega)⟩
       obtain ⟨y, hy⟩ : ∃ y, l'[k]? = some y := ⟨_, List.getElem?_eq_getElem (by have := HN'.out; omega)⟩
       obtain ⟨_, b, off, rfl, q0⟩ := (HSS.out.no HCR.out).cell hx
       obtain ⟨_, b', off', rfl, q0'⟩ := (HSS'.out.no HCR.out).cell hy
       have HX := hid hx
       have HY := hid hy
       clear hx hy
       cases e0 : (x.toList == y.toList) with
       | true =>
         go_wp2_with fail
         go_quiet (fail)
         go_wp2_with fail
         go_roundg (n - k - 1)
         case rel =>
           have hxy : x = y := by rw [streq] at e0; simpa using e0
           refine ⟨k + 1, by omega, by omega, by go_num, hid ?_, HCR.out.trans (by first | exact (Ch.refl No _).drew | exact (Ch.refl No _).drewN _ | exact Ch.refl No _)⟩
           rw [List.take_add_one, List.take_add_one, HX.out, HY.out, HE.out, hxy]
         case measure => omega
       | false =>
         go_wp2_with fail
         go_quiet (fail)
         go_wp2_with fail
         go_ret
         have hxy : ¬ x = y := by rw [streq] at e0; simpa using e0
         refine ⟨BoolIs.f (fun e => ?_), HCR.out.trans (by first | exact (Ch.refl No _).drew | exact (Ch.refl No _).drewN _ | exact Ch.refl No _)⟩
         subst e
         have h1 := HX.out
         rw [HY.out] at h1
         exact hxy (Option.some.inj h1).symm
structure MbR where
 cls : Int
 nm : ByteArray
 ty : ByteArray
 ps : List ByteArray
 st : Bool
 ba : Bool
def MbAt (w : World) (v : Value) (x : MbR) : Prop := ∃ sa sn sc, v = mbV x.cls x.nm x.ty sa sn sc x.st x.ba ∧ StrsAt w (.slice sa sn sc) x.ps
end Go.Proofs.YtgjpgfedlgdjhaaGreatDoor
end
