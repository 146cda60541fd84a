/- Parts: plain laws of what is mended. -/
import Derived.Test.YtlkmlppamkidlaaGreatSqE6
import Derived.Test.YtlkmlppamkidlaaGreatSqH
set_option linter.all false
set_option maxRecDepth 100000
set_option maxHeartbeats 2000000
section
namespace Go.Proofs.YtlkmlppamkidlaaGreat
open Go Go.Sx Go.Proofs
theorem mend_right {T : List IE} {ws : List Int} (hm : ∀ z ∈ ws, mayW z) {k : Nat} {p : List Int} (hR : CutR ws.length p (k : Int)) : CutR ws.length (mendL T ws k p) (k : Int) := (mend_prop hm _ p (Nat.lt_succ_self _) hR).1
theorem mend_good {T : List IE} {ws : List Int} (hm : ∀ z ∈ ws, mayW z) {k : Nat} {p : List Int} (hR : CutR ws.length p (k : Int)) : goodM ws k (mendL T ws k p) := (mend_prop hm _ p (Nat.lt_succ_self _) hR).2
theorem good_fits {ws : List Int} {k : Nat} {p : List Int} (hR : CutR ws.length p (k : Int)) (h : goodM ws k p) : fitsB ws p (k : Int) := ⟨hR, fun j hj => h.1 j (by omega)⟩
end Go.Proofs.YtlkmlppamkidlaaGreat
end
