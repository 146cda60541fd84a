/- Pairing: the statements' pairs (function 71). -/
import Derived.Test.YtpbknokakooekaaN2
namespace Go.Proofs.Ytpbknokakooekaa
set_option linter.all false
open Go Go.Sx Go.Proofs
set_option maxRecDepth 100000
set_option maxHeartbeats 2000000
theorem ints_snoc (k : IntKind) (xs : List Int) (x : Int) : ints k (xs ++ [x]) = ints k xs ++ [.int k x] := by unfold ints; rw [List.map_append]; rfl
abbrev pqC (b7 b6 : Nat) (q1 q2 : Option Addr) (k c1 c2 : Nat) (xs : List (Int × Int)) : List Cap := [.row b7 23 [.slice q2 k c2], .row b6 23 [.slice q1 k c1], .app q2 k c2 3 1 (ints .i64 (xs.map (·.2))), .app q1 k c1 3 1 (ints .i64 (xs.map (·.1)))]
end Go.Proofs.Ytpbknokakooekaa

