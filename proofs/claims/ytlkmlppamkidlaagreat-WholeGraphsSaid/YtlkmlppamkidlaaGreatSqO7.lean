/- Coarse, plain laws: things that are alone; how many there are, what they weigh. -/
import Derived.Test.YtlkmlppamkidlaaGreatSqO3
import Derived.Test.YtlkmlppamkidlaaGreatSqQH
import Derived.Test.YtlkmlppamkidlaaGreatSqH
set_option linter.all false
set_option maxRecDepth 100000
set_option maxHeartbeats 2000000
section
namespace Go.Proofs.YtlkmlppamkidlaaGreat
open Go Go.Sx Go.Proofs
theorem idL_succ (n : Nat) : idL (n + 1) = idL n ++ [(n : Int)] := by unfold idL; rw [List.range_succ, List.map_append]; rfl
end Go.Proofs.YtlkmlppamkidlaaGreat
end
