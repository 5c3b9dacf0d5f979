/- What the claim uses: part 46. -/
import Derived.Test.YtgjpgfedlgdjhaaGreatDoorZbs
import Derived.Test.YtgjpgfedlgdjhaaGreatDoorZbq
import Derived.Deep.RegionHeld3
section
set_option linter.unusedVariables false
set_option linter.unusedSimpArgs false
set_option maxRecDepth 100000
namespace Go.Proofs.YtgjpgfedlgdjhaaGreatDoor
open Go.RowKit Go.W
def txt1 : ByteArray := ⟨#[99, 108, 97, 115, 115, 32, 65, 32, 123, 32, 125, 32, 99, 108, 97, 115, 115, 32, 66, 32, 101, 120, 116, 101, 110, 100, 115, 32, 65, 32, 123, 32, 125, 32, 109, 97, 105, 110, 32, 123, 32, 118, 97, 114, 32, 65, 32, 120, 59, 32, 120, 32, 61, 32, 110, 101, 119, 32, 66, 59, 32, 125]⟩
def tok1 : List Tok := [⟨0, ⟨#[99, 108, 97, 115, 115]⟩, ⟨1, 1⟩⟩, ⟨0, ⟨#[65]⟩, ⟨1, 7⟩⟩, ⟨2, ⟨#[123]⟩, ⟨1, 9⟩⟩, ⟨2, ⟨#[125]⟩, ⟨1, 11⟩⟩, ⟨0, ⟨#[99, 108, 97, 115, 115]⟩, ⟨1, 13⟩⟩, ⟨0, ⟨#[66]⟩, ⟨1, 19⟩⟩, ⟨0, ⟨#[101, 120, 116, 101, 110, 100, 115]⟩, ⟨1, 21⟩⟩, ⟨0, ⟨#[65]⟩, ⟨1, 29⟩⟩, ⟨2, ⟨#[123]⟩, ⟨1, 31⟩⟩, ⟨2, ⟨#[125]⟩, ⟨1, 33⟩⟩, ⟨0, ⟨#[109, 97, 105, 110]⟩, ⟨1, 35⟩⟩, ⟨2, ⟨#[123]⟩, ⟨1, 40⟩⟩, ⟨0, ⟨#[118, 97, 114]⟩, ⟨1, 42⟩⟩, ⟨0, ⟨#[65]⟩, ⟨1, 46⟩⟩, ⟨0, ⟨#[120]⟩, ⟨1, 48⟩⟩, ⟨2, ⟨#[59]⟩, ⟨1, 49⟩⟩, ⟨0, ⟨#[120]⟩, ⟨1, 51⟩⟩, ⟨2, ⟨#[61]⟩, ⟨1, 53⟩⟩, ⟨0, ⟨#[110, 101, 119]⟩, ⟨1, 55⟩⟩, ⟨0, ⟨#[66]⟩, ⟨1, 59⟩⟩, ⟨2, ⟨#[59]⟩, ⟨1, 60⟩⟩, ⟨2, ⟨#[125]⟩, ⟨1, 62⟩⟩]
def cd1 : Nat → CD := fun k => if k = 0 then ⟨⟨#[65]⟩, ⟨#[]⟩, 1, 1⟩ else ⟨⟨#[66]⟩, ⟨#[65]⟩, 1, 13⟩
def zs1 : Nat → Int := fun k => if k = 0 then 0 else if k = 1 then 4 else 10
theorem cl10 : ClAt tok1 0 ⟨#[65]⟩ ⟨#[]⟩ 1 1 4 := ⟨by decide, by decide, (fun a b c d => by kernel_rfl : Plc tok1 0 1 1), ⟨⟨#[99, 108, 97, 115, 115]⟩, (fun a b c d => by kernel_rfl : Wd tok1 0 ⟨#[99, 108, 97, 115, 115]⟩), by decide⟩, ⟨2, 2, 3, (⟨60, fun a b c d => by kernel_rfl⟩ : Nm tok1 1 ⟨#[65]⟩ 2), by decide, by decide, (.inl ⟨⟨#[123]⟩, (fun a b c d => by kernel_rfl : Wd tok1 2 ⟨#[123]⟩), by decide, rfl, rfl⟩), by decide, ⟨⟨#[123]⟩, (fun a b c d => by kernel_rfl : Wd tok1 2 ⟨#[123]⟩), by decide⟩, (⟨60, fun a b c d => by kernel_rfl⟩ : One tok1 2 ⟨#[123]⟩ 3), by decide, by decide, (fun a b c d => by kernel_rfl : Wd tok1 3 ⟨#[125]⟩), rfl⟩⟩
theorem cl11 : ClAt tok1 4 ⟨#[66]⟩ ⟨#[65]⟩ 1 13 10 := ⟨by decide, by decide, (fun a b c d => by kernel_rfl : Plc tok1 4 1 13), ⟨⟨#[99, 108, 97, 115, 115]⟩, (fun a b c d => by kernel_rfl : Wd tok1 4 ⟨#[99, 108, 97, 115, 115]⟩), by decide⟩, ⟨6, 8, 9, (⟨60, fun a b c d => by kernel_rfl⟩ : Nm tok1 5 ⟨#[66]⟩ 6), by decide, by decide, (.inr ⟨(fun a b c d => by kernel_rfl : Wd tok1 6 ⟨#[101, 120, 116, 101, 110, 100, 115]⟩), (⟨60, fun a b c d => by kernel_rfl⟩ : Nm tok1 7 ⟨#[65]⟩ 8)⟩), by decide, ⟨⟨#[123]⟩, (fun a b c d => by kernel_rfl : Wd tok1 8 ⟨#[123]⟩), by decide⟩, (⟨60, fun a b c d => by kernel_rfl⟩ : One tok1 8 ⟨#[123]⟩ 9), by decide, by decide, (fun a b c d => by kernel_rfl : Wd tok1 9 ⟨#[125]⟩), rfl⟩⟩
theorem new1 : NewAt tok1 16 ⟨#[120]⟩ ⟨#[66]⟩ 20 := ⟨by decide, by decide, (⟨60, fun a b c d => by kernel_rfl⟩ : Nm tok1 16 ⟨#[120]⟩ 17), (fun a b c d => by kernel_rfl : Wd tok1 17 ⟨#[61]⟩), (fun a b c d => by kernel_rfl : Wd tok1 18 ⟨#[110, 101, 119]⟩), (⟨60, fun a b c d => by kernel_rfl⟩ : Nm tok1 19 ⟨#[66]⟩ 20), by decide, ⟨⟨#[59]⟩, (fun a b c d => by kernel_rfl : Wd tok1 20 ⟨#[59]⟩), by decide⟩⟩
theorem stm1 : StmtAt tok1 16 ⟨#[120]⟩ ⟨#[66]⟩ 1 51 21 := ⟨(fun a b c d => by kernel_rfl : Plc tok1 16 1 51), (fun a b c d => by kernel_rfl : Wd tok1 16 ⟨#[120]⟩), by decide, by decide, by decide, by decide, by decide, ⟨20, new1, (⟨60, fun a b c d => by kernel_rfl⟩ : One tok1 20 ⟨#[59]⟩ 21)⟩⟩
theorem bdy1 : BodyAt tok1 16 ⟨#[120]⟩ ⟨#[66]⟩ 1 51 22 := ⟨⟨60, fun a b c d => by kernel_rfl⟩, by decide, by decide, ⟨21, stm1, by decide, by decide, (fun a b c d => by kernel_rfl : Wd tok1 21 ⟨#[125]⟩), rfl⟩⟩
theorem blk1 : BlkAt tok1 11 ⟨#[65]⟩ ⟨#[120]⟩ 1 46 ⟨#[120]⟩ ⟨#[66]⟩ 1 51 22 := ⟨⟨12, 15, 16, (⟨60, fun a b c d => by kernel_rfl⟩ : One tok1 11 ⟨#[123]⟩ 12), by decide, by decide, (fun a b c d => by kernel_rfl : Wd tok1 12 ⟨#[118, 97, 114]⟩), ⟨60, fun a b c d => by kernel_rfl⟩, (⟨60, fun a b c d => by kernel_rfl⟩ : One tok1 15 ⟨#[59]⟩ 16), (fun a b c d => by kernel_rfl : Wd tok1 16 ⟨#[120]⟩), by decide, bdy1⟩⟩
theorem tks1 : PC.T5Tokens.f 300 txt1 = some (tok1, 1, 63, 0, 0, 0) := by kernel_rfl
theorem isT1 : TextIs txt1 cd1 ⟨#[65]⟩ ⟨#[120]⟩ 1 46 ⟨#[120]⟩ ⟨#[66]⟩ 1 51 1 35 := ⟨⟨300, tok1, 1, 63, zs1, 11, 22, tks1, rfl, fun k hk => (match k, hk with | 0, _ => ⟨cl10, (fun a b c d => by kernel_rfl : Wd tok1 0 ⟨#[99, 108, 97, 115, 115]⟩)⟩ | 1, _ => ⟨cl11, (fun a b c d => by kernel_rfl : Wd tok1 4 ⟨#[99, 108, 97, 115, 115]⟩)⟩), by decide, (fun a b c d => by kernel_rfl : Wd tok1 10 ⟨#[109, 97, 105, 110]⟩), (fun a b c d => by kernel_rfl : Plc tok1 10 1 35), (⟨60, fun a b c d => by kernel_rfl⟩ : One tok1 10 ⟨#[109, 97, 105, 110]⟩ 11), blk1, rfl⟩⟩
def txt2 : ByteArray := ⟨#[99, 108, 97, 115, 115, 32, 65, 32, 123, 32, 125, 32, 99, 108, 97, 115, 115, 32, 66, 32, 123, 32, 125, 32, 109, 97, 105, 110, 32, 123, 32, 118, 97, 114, 32, 65, 32, 120, 59, 32, 120, 32, 61, 32, 110, 101, 119, 32, 66, 59, 32, 125]⟩
def tok2 : List Tok := [⟨0, ⟨#[99, 108, 97, 115, 115]⟩, ⟨1, 1⟩⟩, ⟨0, ⟨#[65]⟩, ⟨1, 7⟩⟩, ⟨2, ⟨#[123]⟩, ⟨1, 9⟩⟩, ⟨2, ⟨#[125]⟩, ⟨1, 11⟩⟩, ⟨0, ⟨#[99, 108, 97, 115, 115]⟩, ⟨1, 13⟩⟩, ⟨0, ⟨#[66]⟩, ⟨1, 19⟩⟩, ⟨2, ⟨#[123]⟩, ⟨1, 21⟩⟩, ⟨2, ⟨#[125]⟩, ⟨1, 23⟩⟩, ⟨0, ⟨#[109, 97, 105, 110]⟩, ⟨1, 25⟩⟩, ⟨2, ⟨#[123]⟩, ⟨1, 30⟩⟩, ⟨0, ⟨#[118, 97, 114]⟩, ⟨1, 32⟩⟩, ⟨0, ⟨#[65]⟩, ⟨1, 36⟩⟩, ⟨0, ⟨#[120]⟩, ⟨1, 38⟩⟩, ⟨2, ⟨#[59]⟩, ⟨1, 39⟩⟩, ⟨0, ⟨#[120]⟩, ⟨1, 41⟩⟩, ⟨2, ⟨#[61]⟩, ⟨1, 43⟩⟩, ⟨0, ⟨#[110, 101, 119]⟩, ⟨1, 45⟩⟩, ⟨0, ⟨#[66]⟩, ⟨1, 49⟩⟩, ⟨2, ⟨#[59]⟩, ⟨1, 50⟩⟩, ⟨2, ⟨#[125]⟩, ⟨1, 52⟩⟩]
def cd2 : Nat → CD := fun k => if k = 0 then ⟨⟨#[65]⟩, ⟨#[]⟩, 1, 1⟩ else ⟨⟨#[66]⟩, ⟨#[]⟩, 1, 13⟩
def zs2 : Nat → Int := fun k => if k = 0 then 0 else if k = 1 then 4 else 8
theorem cl20 : ClAt tok2 0 ⟨#[65]⟩ ⟨#[]⟩ 1 1 4 := ⟨by decide, by decide, (fun a b c d => by kernel_rfl : Plc tok2 0 1 1), ⟨⟨#[99, 108, 97, 115, 115]⟩, (fun a b c d => by kernel_rfl : Wd tok2 0 ⟨#[99, 108, 97, 115, 115]⟩), by decide⟩, ⟨2, 2, 3, (⟨60, fun a b c d => by kernel_rfl⟩ : Nm tok2 1 ⟨#[65]⟩ 2), by decide, by decide, (.inl ⟨⟨#[123]⟩, (fun a b c d => by kernel_rfl : Wd tok2 2 ⟨#[123]⟩), by decide, rfl, rfl⟩), by decide, ⟨⟨#[123]⟩, (fun a b c d => by kernel_rfl : Wd tok2 2 ⟨#[123]⟩), by decide⟩, (⟨60, fun a b c d => by kernel_rfl⟩ : One tok2 2 ⟨#[123]⟩ 3), by decide, by decide, (fun a b c d => by kernel_rfl : Wd tok2 3 ⟨#[125]⟩), rfl⟩⟩
theorem cl21 : ClAt tok2 4 ⟨#[66]⟩ ⟨#[]⟩ 1 13 8 := ⟨by decide, by decide, (fun a b c d => by kernel_rfl : Plc tok2 4 1 13), ⟨⟨#[99, 108, 97, 115, 115]⟩, (fun a b c d => by kernel_rfl : Wd tok2 4 ⟨#[99, 108, 97, 115, 115]⟩), by decide⟩, ⟨6, 6, 7, (⟨60, fun a b c d => by kernel_rfl⟩ : Nm tok2 5 ⟨#[66]⟩ 6), by decide, by decide, (.inl ⟨⟨#[123]⟩, (fun a b c d => by kernel_rfl : Wd tok2 6 ⟨#[123]⟩), by decide, rfl, rfl⟩), by decide, ⟨⟨#[123]⟩, (fun a b c d => by kernel_rfl : Wd tok2 6 ⟨#[123]⟩), by decide⟩, (⟨60, fun a b c d => by kernel_rfl⟩ : One tok2 6 ⟨#[123]⟩ 7), by decide, by decide, (fun a b c d => by kernel_rfl : Wd tok2 7 ⟨#[125]⟩), rfl⟩⟩
theorem new2 : NewAt tok2 14 ⟨#[120]⟩ ⟨#[66]⟩ 18 := ⟨by decide, by decide, (⟨60, fun a b c d => by kernel_rfl⟩ : Nm tok2 14 ⟨#[120]⟩ 15), (fun a b c d => by kernel_rfl : Wd tok2 15 ⟨#[61]⟩), (fun a b c d => by kernel_rfl : Wd tok2 16 ⟨#[110, 101, 119]⟩), (⟨60, fun a b c d => by kernel_rfl⟩ : Nm tok2 17 ⟨#[66]⟩ 18), by decide, ⟨⟨#[59]⟩, (fun a b c d => by kernel_rfl : Wd tok2 18 ⟨#[59]⟩), by decide⟩⟩
theorem stm2 : StmtAt tok2 14 ⟨#[120]⟩ ⟨#[66]⟩ 1 41 19 := ⟨(fun a b c d => by kernel_rfl : Plc tok2 14 1 41), (fun a b c d => by kernel_rfl : Wd tok2 14 ⟨#[120]⟩), by decide, by decide, by decide, by decide, by decide, ⟨18, new2, (⟨60, fun a b c d => by kernel_rfl⟩ : One tok2 18 ⟨#[59]⟩ 19)⟩⟩
theorem bdy2 : BodyAt tok2 14 ⟨#[120]⟩ ⟨#[66]⟩ 1 41 20 := ⟨⟨60, fun a b c d => by kernel_rfl⟩, by decide, by decide, ⟨19, stm2, by decide, by decide, (fun a b c d => by kernel_rfl : Wd tok2 19 ⟨#[125]⟩), rfl⟩⟩
theorem blk2 : BlkAt tok2 9 ⟨#[65]⟩ ⟨#[120]⟩ 1 36 ⟨#[120]⟩ ⟨#[66]⟩ 1 41 20 := ⟨⟨10, 13, 14, (⟨60, fun a b c d => by kernel_rfl⟩ : One tok2 9 ⟨#[123]⟩ 10), by decide, by decide, (fun a b c d => by kernel_rfl : Wd tok2 10 ⟨#[118, 97, 114]⟩), ⟨60, fun a b c d => by kernel_rfl⟩, (⟨60, fun a b c d => by kernel_rfl⟩ : One tok2 13 ⟨#[59]⟩ 14), (fun a b c d => by kernel_rfl : Wd tok2 14 ⟨#[120]⟩), by decide, bdy2⟩⟩
theorem tks2 : PC.T5Tokens.f 300 txt2 = some (tok2, 1, 53, 0, 0, 0) := by kernel_rfl
theorem isT2 : TextIs txt2 cd2 ⟨#[65]⟩ ⟨#[120]⟩ 1 36 ⟨#[120]⟩ ⟨#[66]⟩ 1 41 1 25 := ⟨⟨300, tok2, 1, 53, zs2, 9, 20, tks2, rfl, fun k hk => (match k, hk with | 0, _ => ⟨cl20, (fun a b c d => by kernel_rfl : Wd tok2 0 ⟨#[99, 108, 97, 115, 115]⟩)⟩ | 1, _ => ⟨cl21, (fun a b c d => by kernel_rfl : Wd tok2 4 ⟨#[99, 108, 97, 115, 115]⟩)⟩), by decide, (fun a b c d => by kernel_rfl : Wd tok2 8 ⟨#[109, 97, 105, 110]⟩), (fun a b c d => by kernel_rfl : Plc tok2 8 1 25), (⟨60, fun a b c d => by kernel_rfl⟩ : One tok2 8 ⟨#[109, 97, 105, 110]⟩ 9), blk2, rfl⟩⟩
end Go.Proofs.YtgjpgfedlgdjhaaGreatDoor
end
section
set_option linter.unusedVariables false
set_option linter.unusedSimpArgs false
set_option maxRecDepth 8192
namespace Go.Proofs.YtgjpgfedlgdjhaaGreatDoor
open Go.RowKit Go.W
structure CkIs (w0 w : World) (b : Nat) (cs : List Cls) (ms : List Mem) (xv : Value) (mb vb n : Nat) (vs : ByteArray → Option ByteArray) (ret : ByteArray) (l c : Int) : Prop where
 blk : w.heap[b]? = some (.cells #[xv, .pointer (some ⟨mb, 0, none⟩), .map (some vb), .string ret, .int .i64 l, .int .i64 c] 85 (0, 0))
 typ0 : TypesIs w0 xv cs
 mem0 : MembIs w0 mb cs ms
 ch : Ch No w0 w
 ge : w0.heap.size ≤ b
 vars : MapIs Tryz.prog 9 strK w vb n (fun s => (vs s).map Value.string)
section
variable {w0 w w' : World} {b : Nat} {cs : List Cls} {ms : List Mem} {xv : Value} {mb vb n : Nat} {vs : ByteArray → Option ByteArray} {ret : ByteArray} {l c : Int}
theorem CkIs.typ (h : CkIs w0 w b cs ms xv mb vb n vs ret l c) : TypesIs w xv cs := h.typ0.no h.ch
theorem CkIs.no (h : CkIs w0 w b cs ms xv mb vb n vs ret l c) (hc : Ch No w w') : CkIs w0 w' b cs ms xv mb vb n vs ret l c :=
 ⟨hc.keep _ _ h.blk (fun h => h), h.typ0, h.mem0, h.ch.trans hc, h.ge, h.vars.ch hc (fun _ _ h => h)⟩
theorem CkIs.old (h : CkIs w0 w b cs ms xv mb vb n vs ret l c) (hc : Ch (fun k _ => k = b) w w') : Ch No w0 w' := Ch.newOnly h.ch hc (fun k o _ e => by have e' : k = b := e; have := h.ge; omega)
theorem CkIs.set (h : CkIs w0 w b cs ms xv mb vb n vs ret l c) (hc : Ch (fun k _ => k = b) w w') {vb' n' : Nat} {vs' : ByteArray → Option ByteArray} {ret' : ByteArray} {l' c' : Int}
   (hb : w'.heap[b]? = some (.cells #[xv, .pointer (some ⟨mb, 0, none⟩), .map (some vb'), .string ret', .int .i64 l', .int .i64 c'] 85 (0, 0))) (hm : MapIs Tryz.prog 9 strK w' vb' n' (fun s => (vs' s).map Value.string)) : CkIs w0 w' b cs ms xv mb vb' n' vs' ret' l' c' :=
 ⟨hb, h.typ0, h.mem0, h.old hc, h.ge, hm⟩
end
def vof (vs : ByteArray → Option ByteArray) (x : ByteArray) : ByteArray := (vs x).getD ⟨#[]⟩
theorem zeroS (w : World) : (zeroValue 9).run Tryz.prog w = .ok (.string ⟨#[]⟩) w := by kernel_rfl
def SzV (vs : ByteArray → Option ByteArray) : Prop := ∀ x t, vs x = some t → t.size ≤ maxLen
theorem SzV.of {vs : ByteArray → Option ByteArray} (h : SzV vs) (x : ByteArray) : (vof vs x).size ≤ maxLen := by
 unfold vof
 cases hx : vs x with
 | none => exact Nat.zero_le _
 | some t => exact h x t hx
theorem boolRet (r : Bool) {P : Prop} (h : r = true ↔ P) : BoolIs P (.returned (.bool r)) := ⟨r, rfl, h⟩
section
variable {w0 w : World} {b : Nat} {cs : List Cls} {ms : List Mem} {xv : Value} {mb vb n : Nat} {vs : ByteArray → Option ByteArray} {ret : ByteArray} {l c : Int}
set_option maxHeartbeats 1000000 in
theorem cTypes (h : MembIs w mb cs ms) : Calls Tryz.prog 16 #[.pointer (some ⟨mb, 0, none⟩)] w fun e w' => (∃ xv, e = .returned xv ∧ TypesIs w xv cs) ∧ w = w' := by
 obtain ⟨cv, m0, m1, m2, m3, m4, m5, m6, m7, m8, xv, ov, bs, h⟩ := h
 have hT := hid h.typ
 have c10 := cellAt h.blk 10
 clear h
 go_enter Tryz.func16, Tryz.ntmps16
 go_wp2_with fail
 go_ret
 exact ⟨⟨_, rfl, hT.out⟩, rfl⟩
set_option maxHeartbeats 1000000 in
theorem cof (h : CkIs w0 w b cs ms xv mb vb n vs ret l c) {x : ByteArray} (hx : x.size ≤ maxLen) :
   Calls Tryz.prog 136 #[.pointer (some ⟨b, 0, none⟩), .string x] w fun e w' => e = .returned (.string (vof vs x)) ∧ w = w' := by
 have c2 := cellAt h.blk 2
 have hrun := h.vars.look lawS Tryz.underlying83 (zeroS w) (keyS hx)
 have e1 : (((vs x).map Value.string).getD (.string ⟨#[]⟩)) = .string (vof vs x) := by
   unfold vof; cases vs x <;> rfl
 rw [e1] at hrun
 have hrun' : (Instr.lookup 83 (.map (some vb)) (.string x) false).run Tryz.prog w = .ok (.string (vof vs x)) w := hrun
 clear h e1 hrun
 go_enter Tryz.func136, Tryz.ntmps136
 go_wp2_with fail
 go_ret
 exact ⟨rfl, rfl⟩
def realP (cs : List Cls) (t : ByteArray) : Prop := ∃ i c, find cs t = some i ∧ cs[i]? = some c ∧ c.face = false
set_option maxHeartbeats 2000000 in
theorem creal (h : CkIs w0 w b cs ms xv mb vb n vs ret l c) {t : ByteArray} (ht : t.size ≤ maxLen) :
   Calls Tryz.prog 134 #[.pointer (some ⟨b, 0, none⟩), .string t] w fun e w' => BoolIs (realP cs t) e ∧ w = w' := by
 have c0 := cellAt h.blk 0
 have hcl := xclass h.typ ht
 obtain ⟨xb, tb, abv, ss, hxe, hx⟩ := h.typ
 subst hxe
 have x0 := cellAt hx.blk 0
 have HTB := hid hx.tab
 clear h hx
 cases hf : find cs t with
 | none =>
   rw [getI_none hf, show getB (find cs) t = false from by unfold getB; rw [hf]; rfl] at hcl
   have HF := hid hf
   clear hf
   go_enter Tryz.func134, Tryz.ntmps134
   go_wp2_with fail
   refine hcl.mono ?_
   rintro e w1 ⟨rfl, rfl⟩
   go_wp2_with fail
   go_ret
   exact ⟨.f (fun ⟨i, c, hi, _⟩ => by rw [HF.out] at hi; cases hi), rfl⟩
 | some i =>
   obtain ⟨k, hk⟩ : ∃ k, cs[i]? = some k := ⟨_, List.getElem?_eq_getElem (find_lt hf)⟩
   have hfa := tFace HTB.out hk
   rw [getI_some hf, show getB (find cs) t = true from by unfold getB; rw [hf]; rfl] at hcl
   have HF := hid hf
   have HK := hid hk
   clear hf hk
   go_enter Tryz.func134, Tryz.ntmps134
   go_wp2_with fail
   refine hcl.mono ?_
   rintro e w1 ⟨rfl, rfl⟩
   go_wp2_with fail
   refine hfa.mono ?_
   rintro e w1 ⟨rfl, rfl⟩
   go_wp2_with fail
   go_ret
   refine ⟨boolRet _ ?_, rfl⟩
   constructor
   · intro hr
     exact ⟨i, k, HF.out, HK.out, by simpa using hr⟩
   · rintro ⟨i', c', h1, h2, h3⟩
     rw [HF.out] at h1; cases h1
     rw [HK.out] at h2; cases h2
     simpa using h3
theorem cofC (h : CkIs w0 w b cs ms xv mb vb n vs ret l c) {x : ByteArray} (hx : x.size ≤ maxLen) :
   Calls Tryz.prog 136 #[.pointer (some ⟨b, 0, none⟩), .string x] w fun e w' => e = .returned (.string (vof vs x)) ∧ Ch No w w' :=
 (cof h hx).mono (by rintro e w' ⟨rfl, rfl⟩; exact ⟨rfl, Ch.refl _ _⟩)
def goesP (cs : List Cls) (vs : ByteArray → Option ByteArray) (t x : ByteArray) : Prop := t ≠ ⟨#[]⟩ ∧ belT cs t (vof vs x)
set_option maxHeartbeats 4000000 in
theorem cgoes (h : CkIs w0 w b cs ms xv mb vb n vs ret l c) (hv : SzV vs) {t x : ByteArray} (ht : t.size ≤ maxLen) (hx : x.size ≤ maxLen) :
   Calls Tryz.prog 135 #[.pointer (some ⟨b, 0, none⟩), .string t, .string x] w fun e w' => BoolIs (goesP cs vs t x) e ∧ Ch No w w' := by
 have H := hid h
 have c0 := cellAt h.blk 0
 have HT := hid h.typ
 have HTZ := hid ht
 have HVZ := hid (hv.of x)
 have HXZ := hid hx
 clear h hv ht hx
 by_cases he : t = ⟨#[]⟩
 · have e1 : (t.toList != []) = false := by rw [bne, lit t [] he]; rfl
   have e2 := lit t [] he
   have HE := hid he
   clear he
   go_enter Tryz.func135, Tryz.ntmps135
   have HSx := hid (show w.cell? ⟨b, 0, none⟩ = some xv from c0)
   go_wp2_with fail
   refine wp_region_held_drew (S := fun w' => w'.cell? ⟨b, 0, none⟩ = some xv) (by kernel_rfl) HSx.out (fun hHeld => ?_)
   (refine tkW 0 (v := ?_) rfl ?_ ?_; rotate_left 1; · (intro wz hSw; (try dsimp only at hSw); go_simp; try rfl)); (try simp only [Act.put, s1, s2, s3, s4, s5, s6])
   (refine tkW 1 (v := ?_) rfl ?_ ?_; rotate_left 1; · (intro wz hSw; (try dsimp only at hSw); go_simp; try rfl)); (try simp only [Act.put, s1, s2, s3, s4, s5, s6])
   (refine tkW 2 (v := ?_) rfl ?_ ?_; rotate_left 1; · (intro wz hSw; (try dsimp only at hSw); go_simp; try rfl)); (try simp only [Act.put, s1, s2, s3, s4, s5, s6])
   (refine tkN 3 rfl ?_); (try simp only [Act.put, s1, s2, s3, s4, s5, s6])
   (refine tkN 4 rfl ?_); (try simp only [Act.put, s1, s2, s3, s4, s5, s6])
   (refine tkN 5 rfl ?_); (try simp only [Act.put, s1, s2, s3, s4, s5, s6])
   (refine tkN 6 rfl ?_); (try simp only [Act.put, s1, s2, s3, s4, s5, s6])
   (refine tkN 7 rfl ?_); (try simp only [Act.put, s1, s2, s3, s4, s5, s6])
   (refine tkN 8 rfl ?_); (try simp only [Act.put, s1, s2, s3, s4, s5, s6])
   (refine tkN 9 rfl ?_); (try simp only [Act.put, s1, s2, s3, s4, s5, s6])
   (refine tkN 10 rfl ?_); (try simp only [Act.put, s1, s2, s3, s4, s5, s6])
   (refine tkN 11 rfl ?_); (try simp only [Act.put, s1, s2, s3, s4, s5, s6])
   (refine tkW 12 (v := ?_) rfl ?_ ?_; rotate_left 1; · (intro wz hSw; (try dsimp only at hSw); go_simp; try rfl)); (try simp only [Act.put, s1, s2, s3, s4, s5, s6])
   (refine tkW 13 (v := ?_) rfl ?_ ?_; rotate_left 1; · (intro wz hSw; (try dsimp only at hSw); go_simp; try rfl)); (try simp only [Act.put, s1, s2, s3, s4, s5, s6])
   refine wpAnyH_done (by kernel_rfl) ?_ _
   go_wp2_with fail
   go_ret
   exact ⟨.f (fun h => h.1 HE.out), (Ch.refl No w).drew⟩
 · have e1 : (t.toList != []) = true := by rw [bne, litn t [] he]; rfl
   have e2 := litn t [] he
   have HE := hid he
   clear he
   have HSx := hid (show w.cell? ⟨b, 0, none⟩ = some xv from c0)
   go_enter Tryz.func135, Tryz.ntmps135
   go_wp2_with fail
   have HSd := hid (show w.drew.cell? ⟨b, 0, none⟩ = some xv from HSx.out)
   go_region_held3 (fun w' => w'.cell? ⟨b, 0, none⟩ = some xv) (first | with_reducible exact HSx.out | with_reducible exact HSd.out | with_reducible exact HS1.out | with_reducible exact HS2.out | go_keep) (first | (go_at_call 136; refine (cofC (H.out.no ((Ch.refl No w).drew)) HXZ.out).mono ?_; rintro e w1 ⟨rfl, hc1⟩; have K1 := hid (((Ch.refl No w).drew).trans hc1); have HS1 := hid (show w1.cell? ⟨b, 0, none⟩ = some xv from cell_ch HSx.out K1.out (fun _ _ h => h)); clear hc1) | (go_at_call 139; refine (xbelow (HT.out.no K1.out) HTZ.out HVZ.out).mono ?_; rintro e w2 ⟨⟨r, hr0, hr⟩, hc2⟩; have K2 := hid (K1.out.trans hc2); have HS2 := hid (show w2.cell? ⟨b, 0, none⟩ = some xv from cell_ch HSx.out K2.out (fun _ _ h => h)); clear hc2; subst hr0; have HR := hid hr; clear hr))
   all_goals (
     go_wp2_with fail
     go_ret
     exact ⟨boolRet _ ⟨fun h => ⟨HE.out, HR.out.1 (by simpa using h)⟩, fun h => by simpa using HR.out.2 h.2⟩, K2.out⟩)
end
end Go.Proofs.YtgjpgfedlgdjhaaGreatDoor
end
