/- Coarse: levels of the statements. -/
import Derived.Test.YtlkmlppamkidlaaGreatSqO3
import Derived.Test.YtlkmlppamkidlaaGreatSqH
set_option linter.all false
set_option maxRecDepth 100000
set_option maxHeartbeats 2000000
section
namespace Go.Proofs.YtlkmlppamkidlaaGreat
open Go Go.Sx Go.Proofs
theorem lwC_gr {M : Nat → Prop} {w0 w : World} {P X : List Cap} {D : List Nat} {z : List LvX} (H : St M w0 w (P ++ (z.flatMap lvC ++ X)) D) : ∀ x ∈ z, Gr (hp w) x.g x.ms := fun x hx => gr_of_ok fun c hc => okAll H c (List.mem_append_right _ (List.mem_append_left _ (List.mem_flatMap.2 ⟨x, hx, List.mem_append_right _ hc⟩)))
end Go.Proofs.YtlkmlppamkidlaaGreat
end
