/- Members of the program: Dispatch. -/
import Derived.Test.YtgjpgfedlgdjhaaGreatDoorMt
import Derived.Deep.CutRange
set_option linter.unusedVariables false
set_option linter.unusedSimpArgs false
set_option maxRecDepth 8192
namespace Go.Proofs.YtgjpgfedlgdjhaaGreatDoor
open Go.RowKit Go.W

def dispI (b s f : Bool) (c : Int) : Option Int := match b, s, f with | false, false, false => some c | _, _, _ => none
/-- the class that tells the method that an object has -/
def dispM (cs : List Cls) (ms : List Mem) (nm : ByteArray) (o : Option Nat) : Option Int := match o with
  | some i => match methM cs ms nm (some i) with
    | some x => dispI x.ba x.st (faceB cs i) x.cls
    | none => none
  | none => none
def DispV (d : Option Int) (e : Ending) : Prop := match d with | some c => e = .returned (.tuple #[.int .i64 c, .bool true]) | none => e = .returned (.tuple #[.int .i64 0, .bool false])

set_option maxHeartbeats 16000000 in
theorem mdisp {w : World} {mb : Nat} {cs : List Cls} {ms : List Mem} (h : MembIs w mb cs ms) (hS : SoundP cs) (hno : NoRing cs) (hsm : SmallP cs) (hln : ms.length = cs.length) (hfw : FewP ms) {nm : ByteArray} (hnz : nm.size ≤ maxLen) {z : Int} {o : Option Nat} (hz : AtZ cs z o) :
    Calls Tryz.prog 17 #[.pointer (some ⟨mb, 0, none⟩), .int .i64 z, .string nm] w fun e w' => DispV (dispM cs ms nm o) e ∧ Ch No w w' := by
  have hme := mmeth hS hno hsm hln hfw hnz (match o with | some i => rankN cs i | none => 0) z o h hz (fun i e => by subst e; exact Nat.le_refl _)
  have HM := hid h
  cases hr : methM cs ms nm o with
  | none =>
    rw [hr] at hme
    have hd : dispM cs ms nm o = none := by
      unfold dispM
      cases o with
      | none => rfl
      | some i => simp only; rw [hr]
    rw [hd]
    clear hd hr h hz
    go_enter Tryz.func17, Tryz.ntmps17
    go_wp2_with fail
    refine hme.mono ?_
    rintro e w3 ⟨rfl, hc3⟩
    have HC3 := hid hc3
    clear hme hc3
    go_wp2_with fail
    refine bodyPost_ret (v := .tuple #[.int .i64 0, .bool false]) (by simp [results, Tryz.results17, go_sem]) rfl ?_
    exact ⟨rfl, HC3.out.alloc _⟩
  | some x =>
    rw [hr] at hme
    obtain ⟨xc, xn, xt, xp, xs, xb⟩ := x
    rcases hz with ⟨i, rfl, hi, rfl⟩ | ⟨rfl, _⟩
    · obtain ⟨c, hc⟩ : ∃ c, cs[i]? = some c := ⟨_, List.getElem?_eq_getElem hi⟩
      have HCS := hid hc
      have hd : dispM cs ms nm (some i) = dispI xb xs c.face xc := by
        unfold dispM
        simp only
        rw [hr]
        simp only
        rw [faceB_get hc]
      rw [hd]
      obtain ⟨fb, hfb⟩ : ∃ fb, c.face = fb := ⟨_, rfl⟩
      rw [hfb]
      have HFB := hid hfb
      clear hd hr h hc hi hfb
      go_enter Tryz.func17, Tryz.ntmps17
      go_wp2_with fail
      refine hme.mono ?_
      rintro e w3 ⟨⟨sa, sn, sc, rfl, hst⟩, hc3⟩
      obtain ⟨w4, hw4⟩ : ∃ w4, w3.alloc (.cells #[.int .i64 xc, .string xn, .string xt, .slice sa sn sc, .bool xs, .bool xb] 54) = w4 := ⟨_, rfl⟩
      have hb4 := heap_alloc_new w3 (.cells #[.int .i64 xc, .string xn, .string xt, .slice sa sn sc, .bool xs, .bool xb] 54)
      have hc4 := (Ch.refl No w3).alloc (.cells #[.int .i64 xc, .string xn, .string xt, .slice sa sn sc, .bool xs, .bool xb] 54)
      rw [hw4] at hb4 hc4
      have HC4 := hid (hc3.trans hc4)
      have HB4 := hid hb4
      have HM4 := hid (HM.out.no HC4.out)
      have hm4 := HM4.out
      obtain ⟨cv, m0, m1, m2, m3, m4, m5, m6, m7, m8, xv, ov, bs, hm⟩ := hm4
      obtain ⟨tbx, tb, abv, ss, hxv, hx⟩ := hm.typ
      subst hxv
      have c10 := cellAt hm.blk 10
      have x0 := cellAt hx.blk 0
      have hfc := tFace hx.tab HCS.out
      have g0 := cellAt hb4 0
      have g4 := cellAt hb4 4
      have g5 := cellAt hb4 5
      rw [HFB.out] at hfc
      clear hme hc3 hc4 hb4 hst hm hx
      go_upto_region 2 with fail
      clear hw4
      cases xb with
      | true =>
        go_wp2_with fail
        refine bodyPost_ret (v := .tuple #[.int .i64 0, .bool false]) (by simp [results, Tryz.results17, go_sem]) rfl ?_
        exact ⟨by first | rfl | (cases fb <;> rfl) | (cases xs <;> cases fb <;> rfl), HC4.out⟩
      | false =>
        cases xs with
        | true =>
          go_wp2_with fail
          refine bodyPost_ret (v := .tuple #[.int .i64 0, .bool false]) (by simp [results, Tryz.results17, go_sem]) rfl ?_
          exact ⟨by first | rfl | (cases fb <;> rfl) | (cases xs <;> cases fb <;> rfl), HC4.out⟩
        | false =>
          go_wp2_with fail
          refine hfc.mono ?_
          rintro e w5 ⟨rfl, rfl⟩
          cases fb with
          | true =>
            go_wp2_with fail
            refine bodyPost_ret (v := .tuple #[.int .i64 0, .bool false]) (by simp [results, Tryz.results17, go_sem]) rfl ?_
            exact ⟨rfl, HC4.out⟩
          | false =>
            go_wp2_with fail
            refine bodyPost_ret (v := .tuple #[.int .i64 xc, .bool true]) (by simp [results, Tryz.results17, go_sem]) rfl ?_
            exact ⟨by first | rfl | (cases fb <;> rfl) | (cases xs <;> cases fb <;> rfl), HC4.out⟩
    · exfalso
      cases hr
end Go.Proofs.YtgjpgfedlgdjhaaGreatDoor
