/- The elements of slices that come in: fields of a row of steps, texts, sections. -/
import Derived.Test.YtphmjdbdhhbdoaaK8
namespace Go.Proofs.Ytphmjdbdhhbdoaa
set_option linter.all false
open Go Go.Sx Go.Proofs Go.ChangeShapes
set_option maxRecDepth 100000
/-! ### a step of layer 3: its kind, a number, a text -/
abbrev Op3 := Int × Int × List Nat
def op3C (o : Op3) : List Value := [.int .i64 o.1, .int .i64 o.2.1, .string (strN o.2.2)]
def op3W (o : Op3) : Prop := (-9223372036854775808 ≤ o.1 ∧ o.1 ≤ 9223372036854775807) ∧ (-9223372036854775808 ≤ o.2.1 ∧ o.2.1 ≤ 9223372036854775807) ∧ (∀ b ∈ o.2.2, b < 256) ∧ o.2.2.length ≤ maxLen
theorem op3_len (o : Op3) : (op3C o).length = 3 := rfl
def txtC (s : List Nat) : List Value := [.string (strN s)]
def txtW (s : List Nat) : Prop := (∀ b ∈ s, b < 256) ∧ s.length ≤ maxLen
theorem txt_len (s : List Nat) : (txtC s).length = 1 := rfl
/-! ### a section: its tag, where its body lies, its cap, the body -/
abbrev SecM := Nat × Option Addr × Nat × List Nat
def secC (s : SecM) : List Value := [.int .u8 (s.1 : Int), .slice s.2.1 s.2.2.2.length s.2.2.1]
theorem sec_len (s : SecM) : (secC s).length = 2 := rfl
def secW (h : Hp) (s : SecM) : Prop := s.1 < 256 ∧ (∀ b ∈ s.2.2.2, b < 256) ∧ s.2.2.2.length ≤ s.2.2.1 ∧ SlH h s.2.1 (nats .u8 s.2.2.2)
section
variable {H : Type} {enc : TypeId × Value → H} {W : World} {base : Nat} {spare : Nat → Bool} {held : Bool}
theorem bytesN_size (s : ByteArray) : (bytesN s).length = s.size := by simp [bytesN]
theorem op3_elem (fuel : Nat) (cs : List Value) (x : DataW H × List MemPlace) (h : DataW.trod enc Try.prog W base spare held fuel 70 cs = some x) (hl : cs.length = 3) : ∃ o, op3W o ∧ cs = op3C o := by
  obtain ⟨xs, n, _, _, _, hx, hf⟩ := DataW.trod_struct Try.underlying70 h
  have c3 : Try.prog.cellsOf 3 = 1 := by kernel_rfl
  have c2 : Try.prog.cellsOf 2 = 1 := by kernel_rfl
  have c9 : Try.prog.cellsOf 9 = 1 := by kernel_rfl
  have f0 : DataW.trod enc Try.prog W base spare held n 3 ((cs.drop 0).take (Try.prog.cellsOf 3)) = xs[0]? := hf 0 _ rfl
  have f1 : DataW.trod enc Try.prog W base spare held n 2 ((cs.drop 1).take (Try.prog.cellsOf 2)) = xs[1]? := hf 1 _ rfl
  have f2 : DataW.trod enc Try.prog W base spare held n 9 ((cs.drop 2).take (Try.prog.cellsOf 9)) = xs[2]? := hf 2 _ rfl
  rw [List.getElem?_eq_getElem (by rw [hx]; decide)] at f0 f1 f2
  rw [c3] at f0; rw [c2] at f1; rw [c9] at f2
  obtain ⟨z, e0, _, w0⟩ := DataW.trod_int Try.underlying3 f0
  obtain ⟨m, e1, _, w1⟩ := DataW.trod_int Try.underlying2 f1
  obtain ⟨s, e2, _, w2⟩ := DataW.trod_string Try.underlying9 f2
  refine ⟨(z, m, bytesN s), ⟨int_wf w0, int_wf w1, bytesN_lt s, by rw [bytesN_size]; exact w2⟩, ?_⟩
  unfold op3C
  rw [strN_bytesN]
  exact cells3 hl e0 e1 e2
theorem txt_elem (fuel : Nat) (cs : List Value) (x : DataW H × List MemPlace) (h : DataW.trod enc Try.prog W base spare held fuel 9 cs = some x) (_ : cs.length = 1) : ∃ o, txtW o ∧ cs = txtC o := by
  obtain ⟨s, e, _, w2⟩ := DataW.trod_string Try.underlying9 h
  refine ⟨bytesN s, ⟨bytesN_lt s, by rw [bytesN_size]; exact w2⟩, ?_⟩
  unfold txtC
  rw [strN_bytesN]; exact e
theorem open_op3s {fuel : Nat} {x : DataW H × List MemPlace} {a : Option Addr} {len cap : Nat} (h : DataW.trod enc Try.prog W base spare held fuel 65 [.slice a len cap] = some x) :
    ∃ os : List Op3, os.length = len ∧ len ≤ cap ∧ cap ≤ maxLen ∧ (∀ o ∈ os, op3W o) ∧ SlH (hp W) a (os.flatMap op3C) :=
  open_sl op3C op3W op3_len (by decide) Try.underlying65 (by kernel_rfl) op3_elem h
theorem open_txts {fuel : Nat} {x : DataW H × List MemPlace} {a : Option Addr} {len cap : Nat} (h : DataW.trod enc Try.prog W base spare held fuel 117 [.slice a len cap] = some x) :
    ∃ os : List (List Nat), os.length = len ∧ len ≤ cap ∧ cap ≤ maxLen ∧ (∀ o ∈ os, txtW o) ∧ SlH (hp W) a (os.flatMap txtC) :=
  open_sl txtC txtW txt_len (by decide) Try.underlying117 (by kernel_rfl) txt_elem h
theorem sec_elem (fuel : Nat) (cs : List Value) (x : DataW H × List MemPlace) (h : DataW.trod enc Try.prog W base (fun _ => true) held fuel 105 cs = some x) (hl : cs.length = 2) : ∃ o, secW (hp W) o ∧ cs = secC o := by
  obtain ⟨xs, n, _, _, _, hx, hf⟩ := DataW.trod_struct Try.underlying105 h
  have c5 : Try.prog.cellsOf 5 = 1 := by kernel_rfl
  have c22 : Try.prog.cellsOf 22 = 1 := by kernel_rfl
  have f0 : DataW.trod enc Try.prog W base (fun _ => true) held n 5 ((cs.drop 0).take (Try.prog.cellsOf 5)) = xs[0]? := hf 0 _ rfl
  have f1 : DataW.trod enc Try.prog W base (fun _ => true) held n 22 ((cs.drop 1).take (Try.prog.cellsOf 22)) = xs[1]? := hf 1 _ rfl
  rw [List.getElem?_eq_getElem (by rw [hx]; decide)] at f0 f1
  rw [c5] at f0; rw [c22] at f1
  obtain ⟨z, e0, _, w0⟩ := DataW.trod_int Try.underlying5 f0
  obtain ⟨t, rfl, ht⟩ := nat_of_u8 w0
  obtain ⟨p, l, c, e1, zs, hr⟩ : ∃ p l c, (cs.drop 1).take 1 = [.slice p l c] ∧ ∃ zs : List Int, (p = none ∧ l = 0 ∧ c = 0 ∧ zs = []) ∨ ∃ x, p = some x ∧ l ≤ c ∧ c ≤ maxLen ∧ zs.length = c ∧ (∀ i, i < zs.length → W.cell? (x.add i) = some (.int .u8 (zs.getD i 0))) ∧ ∀ n ∈ zs, (Lit.int .u8 n).wf = true := by
    rcases open_ints Try.underlying22 Try.underlying5 c5 f1 with ⟨hcs, _⟩ | ⟨x, l, c, zs, hcs, _, hl, hm, hz, _, hcell, hwz⟩
    · exact ⟨none, 0, 0, hcs, [], .inl ⟨rfl, rfl, rfl, rfl⟩⟩
    · exact ⟨some x, l, c, hcs, zs, .inr ⟨_, rfl, hl, hm, by simpa using hz, hcell, hwz⟩⟩
  obtain ⟨bs, rfl, hc, hb, hs⟩ := row_bytes hr
  exact ⟨(t, p, c, bs), ⟨ht, hb, hc, hs⟩, cells2 hl e0 e1⟩
theorem open_secs {fuel : Nat} {x : DataW H × List MemPlace} {a : Option Addr} {len cap : Nat} (h : DataW.trod enc Try.prog W base (fun _ => true) held fuel 98 [.slice a len cap] = some x) :
    ∃ os : List SecM, os.length = len ∧ len ≤ cap ∧ cap ≤ maxLen ∧ (∀ o ∈ os, secW (hp W) o) ∧ SlH (hp W) a (os.flatMap secC) :=
  open_sl secC (secW (hp W)) sec_len (by decide) Try.underlying98 (by kernel_rfl) sec_elem h
end
end Go.Proofs.Ytphmjdbdhhbdoaa
