/- Arrays of two whole numbers that come in. -/
import Derived.Test.YtpbknokakooekaaRO
import Derived.OpenShut
namespace Go.Proofs.Ytpbknokakooekaa
set_option linter.all false
open Go Go.Sx Go.Proofs Go.ChangeShapes
set_option maxRecDepth 100000
section
variable {H : Type} {enc : TypeId × Value → H} {P : Program} {W : World} {base : Nat} {spare : Nat → Bool} {held : Bool}
theorem open_arr2 {t e : TypeId} {d : DataW H} {p : List MemPlace} {v : Value} (ht : P.underlying t = some (.array 2 e)) (hte : P.underlying e = some (.int .i64)) (hce : P.cellsOf e = 1) (hct : P.cellsOf t = 2) (h : DataW.Trod enc P W base spare held t v d p) :
    ∃ a b : Int, v = .agg ⟨[.int .i64 a, .int .i64 b]⟩ ∧ I64 a ∧ I64 b := by
  obtain ⟨fuel, hf⟩ := h
  obtain ⟨xs, m, _, _, hl, hxl, hel⟩ := DataW.trod_array ht hf
  have f0 := hel 0 (by decide)
  have f1 := hel 1 (by decide)
  rw [hce, List.getElem?_eq_getElem (by omega)] at f0 f1
  obtain ⟨a, e0, _, w0⟩ := DataW.trod_int hte f0
  obtain ⟨b, e1, _, w1⟩ := DataW.trod_int hte f1
  have hc := cells2 (hl.trans hct) e0 e1
  refine ⟨a, b, ?_, int_wf w0, int_wf w1⟩
  cases v with
  | agg ys => exact congrArg Value.agg (Array.ext' hc)
  | _ => simp [Value.cells] at hc
end
end Go.Proofs.Ytpbknokakooekaa

