/- Coarse: levels of the statements. -/
import Derived.Test.YtnkjhmfliinnoaaO3
namespace Go.Proofs.Ytnkjhmfliinnoaa
set_option linter.all false
open Go Go.Sx Go.Proofs
set_option maxRecDepth 100000
set_option maxHeartbeats 2000000
theorem lvV_one (x : LvX) : ∀ v ∈ lvV x, Value.oneCell' v = true := by simp [lvV, Value.oneCell']
theorem lwC_gr {M : Nat → Prop} {w0 w : World} {P X : List Cap} {D : List Nat} {z : List LvX} (H : St M w0 w (P ++ (z.flatMap lvC ++ X)) D) : ∀ x ∈ z, Gr (hp w) x.g x.ms := fun x hx => gr_of_ok fun c hc => okAll H c (List.mem_append_right _ (List.mem_append_left _ (List.mem_flatMap.2 ⟨x, hx, List.mem_append_right _ hc⟩)))
end Go.Proofs.Ytnkjhmfliinnoaa

