/- The elements of slices that come in: steps, edges, texts. -/
import Derived.Test.YtnkjhmfliinnoaaKA
namespace Go.Proofs.Ytnkjhmfliinnoaa
set_option linter.all false
open Go Go.Sx Go.Proofs Go.ChangeShapes
set_option maxRecDepth 100000
def I64 (z : Int) : Prop := -9223372036854775808 ≤ z ∧ z ≤ 9223372036854775807
/-- three whole numbers: Kind, Key, Val; or A, B, W. -/
abbrev OpA := Int × Int × Int
def opA (o : OpA) : List Value := [.int .i64 o.1, .int .i64 o.2.1, .int .i64 o.2.2]
def opAW (o : OpA) : Prop := I64 o.1 ∧ I64 o.2.1 ∧ I64 o.2.2
theorem opA_len (o : OpA) : (opA o).length = 3 := rfl
def txtS (s : ByteArray) : List Value := [.string s]
def txtSW (s : ByteArray) : Prop := s.size ≤ maxLen
theorem txtS_len (s : ByteArray) : (txtS s).length = 1 := rfl
section
variable {H : Type} {enc : TypeId × Value → H} {W : World} {base : Nat} {spare : Nat → Bool} {held : Bool}
theorem op146_elem (fuel : Nat) (cs : List Value) (x : DataW H × List MemPlace) (h : DataW.trod enc Try.prog W base spare held fuel 146 cs = some x) (hl : cs.length = 3) : ∃ o, opAW o ∧ cs = opA o := by
  obtain ⟨xs, n, _, _, _, hx, hf⟩ := DataW.trod_struct Try.underlying146 h
  have c3 : Try.prog.cellsOf 3 = 1 := by kernel_rfl
  have c2 : Try.prog.cellsOf 2 = 1 := by kernel_rfl
  have f0 : DataW.trod enc Try.prog W base spare held n 3 ((cs.drop 0).take (Try.prog.cellsOf 3)) = xs[0]? := hf 0 _ rfl
  have f1 : DataW.trod enc Try.prog W base spare held n 3 ((cs.drop 1).take (Try.prog.cellsOf 3)) = xs[1]? := hf 1 _ rfl
  have f2 : DataW.trod enc Try.prog W base spare held n 2 ((cs.drop 2).take (Try.prog.cellsOf 2)) = xs[2]? := hf 2 _ rfl
  rw [List.getElem?_eq_getElem (by rw [hx]; decide)] at f0 f1 f2
  rw [c3] at f0 f1; rw [c2] at f2
  obtain ⟨z, e0, _, w0⟩ := DataW.trod_int Try.underlying3 f0
  obtain ⟨m, e1, _, w1⟩ := DataW.trod_int Try.underlying3 f1
  obtain ⟨s, e2, _, w2⟩ := DataW.trod_int Try.underlying2 f2
  exact ⟨(z, m, s), ⟨int_wf w0, int_wf w1, int_wf w2⟩, cells3 hl e0 e1 e2⟩
theorem open_ops78 {fuel : Nat} {x : DataW H × List MemPlace} {a : Option Addr} {len cap : Nat} (h : DataW.trod enc Try.prog W base spare held fuel 78 [.slice a len cap] = some x) :
    ∃ os : List OpA, os.length = len ∧ len ≤ cap ∧ cap ≤ maxLen ∧ (∀ o ∈ os, opAW o) ∧ SlH (hp W) a (os.flatMap opA) :=
  open_sl opA opAW opA_len (by decide) Try.underlying78 (by kernel_rfl) op146_elem h
theorem txtS_elem (fuel : Nat) (cs : List Value) (x : DataW H × List MemPlace) (h : DataW.trod enc Try.prog W base spare held fuel 9 cs = some x) (_ : cs.length = 1) : ∃ o, txtSW o ∧ cs = txtS o := by
  obtain ⟨s, e, _, w2⟩ := DataW.trod_string Try.underlying9 h
  exact ⟨s, w2, e⟩
theorem open_txts {fuel : Nat} {x : DataW H × List MemPlace} {a : Option Addr} {len cap : Nat} (h : DataW.trod enc Try.prog W base spare held fuel 42 [.slice a len cap] = some x) :
    ∃ os : List ByteArray, os.length = len ∧ len ≤ cap ∧ cap ≤ maxLen ∧ (∀ o ∈ os, txtSW o) ∧ SlH (hp W) a (os.flatMap txtS) :=
  open_sl txtS txtSW txtS_len (by decide) Try.underlying42 (by kernel_rfl) txtS_elem h
end
end Go.Proofs.Ytnkjhmfliinnoaa

