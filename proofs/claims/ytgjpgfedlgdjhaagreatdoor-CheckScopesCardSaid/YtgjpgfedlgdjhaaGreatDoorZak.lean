/- What the claim uses: part 11. -/
import Derived.Test.YtgjpgfedlgdjhaaGreatDoorZaa
import Derived.Test.YtgjpgfedlgdjhaaGreatDoorZaj
section
set_option linter.unusedVariables false
set_option linter.unusedSimpArgs false
namespace Go.Proofs.YtgjpgfedlgdjhaaGreatDoor
open Go.RowKit Go.W
theorem newCh {S : Nat → Obj → Prop} {a b c : World} (h : Ch No a b) (h' : Ch S b c) (hs : ∀ k o, b.heap[k]? = some o → S k o → a.heap.size ≤ k) : Ch No a c :=
 ⟨h'.os.trans h.os, h'.tape.trans h.tape, h'.output.trans h.output, Nat.le_trans h.size h'.size, fun k o ho _ => by
   have h1 := h.keep k o ho (fun h => h)
   exact h'.keep k o h1 (fun hx => by have := hs k o h1 hx; have := lt_size ho; omega)⟩
abbrev Tok := PC.S116
def Tb (g : Nat) : Nat → Obj → Prop := fun k _ => k = g
theorem chOwn {S : Nat → Obj → Prop} {a b c : World} {x : Nat} (h : Ch S a b) (h' : Ch (Tb x) b c) (hx : a.heap.size ≤ x) : Ch S a c :=
 h.trans' h' (fun k o ho e => absurd (lt_size ho) (by have e' : k = x := e; omega))
theorem chNo {S : Nat → Obj → Prop} {a b : World} (h : Ch No a b) : Ch S a b := h.mono (fun _ _ _ h => h.elim)
structure Tx (w0 w : World) (g : Nat) (L : List Tok) (a b c d : Int) : Prop where
 st : PC.IsS79 w0 w g L a b c d
 ch : Ch No w0 w
theorem Tx.bel {w0 w : World} {g : Nat} {L : List Tok} {a b c d : Int} (h : Tx w0 w g L a b c d) : Below w0.heap.size w0 w := h.ch.below (fun _ _ _ h => h.elim) (Nat.le_refl _)
theorem Tx.to {w0 w w' : World} {g : Nat} {L : List Tok} {a b c d a' b' c' d' : Int} (h : Tx w0 w g L a b c d) (hI : PC.IsS79 w0 w' g L a' b' c' d') (hB : Below w0.heap.size w0 w') (hK : YtgjpgfedlgdjhaaGreatDoorW.PrintWords.KeepBut w w' g none) :
   Tx w0 w' g L a' b' c' d' ∧ Ch (Tb g) w w' :=
 ⟨⟨hI, Ch.of_below hB⟩, ⟨hB.os.trans h.ch.os.symm, hB.tape.trans h.ch.tape.symm, hB.output.trans h.ch.output.symm, hK.1, fun k o ho hn => (hK.2 k (lt_size ho) hn (by simp)).trans ho⟩⟩
theorem Tx.keep {w0 w w' : World} {g : Nat} {L : List Tok} {a b c d : Int} (h : Tx w0 w g L a b c d) {S : Nat → Obj → Prop} (hc : Ch S w w') (hS : ∀ o, w.heap[g]? = some o → ¬ S g o) (h0 : Ch No w0 w') : Tx w0 w' g L a b c d := by
 obtain ⟨⟨A0, c0, hb, hg, hr⟩, _⟩ := h
 exact ⟨⟨A0, c0, hc.keep _ _ hb (hS _ hb), hg, hr⟩, h0⟩
theorem Tx.no {w0 w w' : World} {g : Nat} {L : List Tok} {a b c d : Int} (h : Tx w0 w g L a b c d) (hc : Ch No w w') : Tx w0 w' g L a b c d := h.keep hc (fun _ _ h => h) (h.ch.trans hc)
theorem Tx.new {w0 w' w'' : World} {g x : Nat} {L : List Tok} {a b c d : Int} (h : Tx w0 w' g L a b c d) (hc : Ch (Tb x) w' w'') (hx : w0.heap.size ≤ x) (hg : g ≠ x) : Tx w0 w'' g L a b c d :=
 h.keep hc (fun _ _ e => hg e) (newCh h.ch hc (fun k _ _ e => by have e' : k = x := e; omega))
theorem Tx.ge {w0 w : World} {g : Nat} {L : List Tok} {a b c d : Int} (h : Tx w0 w g L a b c d) : w0.heap.size ≤ g := h.st.ge
theorem Tx.lt {w0 w : World} {g : Nat} {L : List Tok} {a b c d : Int} (h : Tx w0 w g L a b c d) : g < w.heap.size := h.st.lt
def Wd (L : List Tok) (z : Int) (s : ByteArray) : Prop := ∀ a b c d, PC.T7word.f L a b c d z = some (s, a, b, c, d)
def Plc (L : List Tok) (z p q : Int) : Prop := ∀ a b c d, PC.T7place.f L a b c d z = some (p, q, a, b, c, d)
def Nm (L : List Tok) (z : Int) (s : ByteArray) (z' : Int) : Prop := ∃ k, ∀ a b c d, PC.T7name.f k L a b c d z = some (s, z', a, b, c, d)
def One (L : List Tok) (z : Int) (s : ByteArray) (z' : Int) : Prop := ∃ k, ∀ a b c d, PC.T7one.f k L a b c d z s = some (z', a, b, c, d)
def Vri (L : List Tok) (z : Int) (t n : ByteArray) (p q z' : Int) : Prop := ∃ k, ∀ a b c d, PC.T7variable.f k L a b c d z = some (t, n, p, q, z', a, b, c, d)
def Beg (L : List Tok) (z : Int) (r : Bool) : Prop := ∃ k, ∀ a b c d, PC.T7begins.f k L a b c d z = some (r, a, b, c, d)
def TxO (w0 w : World) (g : Nat) (L : List Tok) (a b c d : Int) (w' : World) : Prop := Tx w0 w' g L a b c d ∧ Ch (Tb g) w w'
section
variable {w0 w : World} {g : Nat} {L : List Tok} {a b c d : Int}
theorem twd (h : Tx w0 w g L a b c d) {z : Int} {s : ByteArray} (hf : Wd L z s) : Calls Tryz.prog 25 #[.pointer (some ⟨g, 0, none⟩), .int .i64 z] w fun e w' => e = .returned (.string s) ∧ TxO w0 w g L a b c d w' := by
 refine (PC.T7word.calls g L a b c d z s a b c d w0 w h.st h.bel (hf a b c d)).mono ?_
 rintro e w' ⟨rfl, hI, hB, hK⟩
 exact ⟨rfl, h.to hI hB hK⟩
theorem tplc (h : Tx w0 w g L a b c d) {z p q : Int} (hf : Plc L z p q) : Calls Tryz.prog 28 #[.pointer (some ⟨g, 0, none⟩), .int .i64 z] w fun e w' => e = .returned (.agg #[.int .i64 p, .int .i64 q]) ∧ TxO w0 w g L a b c d w' := by
 refine (PC.T7place.calls g L a b c d z p q a b c d w0 w h.st h.bel (hf a b c d)).mono ?_
 rintro e w' ⟨rfl, hI, hB, hK⟩
 exact ⟨rfl, h.to hI hB hK⟩
theorem tnm (h : Tx w0 w g L a b c d) {z z' : Int} {s : ByteArray} (hf : Nm L z s z') : Calls Tryz.prog 54 #[.pointer (some ⟨g, 0, none⟩), .int .i64 z] w fun e w' => e = .returned (.tuple #[.string s, .int .i64 z']) ∧ TxO w0 w g L a b c d w' := by
 obtain ⟨k, hf⟩ := hf
 refine (PC.T7name.calls k g L a b c d z s z' a b c d w0 w h.st h.bel (hf a b c d)).mono ?_
 rintro e w' ⟨rfl, hI, hB, hK⟩
 exact ⟨rfl, h.to hI hB hK⟩
theorem tone (h : Tx w0 w g L a b c d) {z z' : Int} {s : ByteArray} (hf : One L z s z') : Calls Tryz.prog 29 #[.pointer (some ⟨g, 0, none⟩), .int .i64 z, .string s] w fun e w' => e = .returned (.int .i64 z') ∧ TxO w0 w g L a b c d w' := by
 obtain ⟨k, hf⟩ := hf
 refine (PC.T7one.calls k g L a b c d z s z' a b c d w0 w h.st h.bel (hf a b c d)).mono ?_
 rintro e w' ⟨rfl, hI, hB, hK⟩
 exact ⟨rfl, h.to hI hB hK⟩
theorem tvri (h : Tx w0 w g L a b c d) {z p q z' : Int} {t n : ByteArray} (hf : Vri L z t n p q z') : Calls Tryz.prog 59 #[.pointer (some ⟨g, 0, none⟩), .int .i64 z] w fun e w' => e = .returned (.tuple #[.agg #[.string t, .string n, .int .i64 p, .int .i64 q], .int .i64 z']) ∧ TxO w0 w g L a b c d w' := by
 obtain ⟨k, hf⟩ := hf
 refine (PC.T7variable.calls k g L a b c d z t n p q z' a b c d w0 w h.st h.bel (hf a b c d)).mono ?_
 rintro e w' ⟨rfl, hI, hB, hK⟩
 exact ⟨rfl, h.to hI hB hK⟩
theorem tbeg (h : Tx w0 w g L a b c d) {z : Int} {r : Bool} (hf : Beg L z r) : Calls Tryz.prog 98 #[.pointer (some ⟨g, 0, none⟩), .int .i64 z] w fun e w' => e = .returned (.bool r) ∧ TxO w0 w g L a b c d w' := by
 obtain ⟨k, hf⟩ := hf
 refine (PC.T7begins.calls k g L a b c d z r a b c d w0 w h.st h.bel (hf a b c d)).mono ?_
 rintro e w' ⟨rfl, hI, hB, hK⟩
 exact ⟨rfl, h.to hI hB hK⟩
end
end Go.Proofs.YtgjpgfedlgdjhaaGreatDoor
end
