/- The elements of slices that come in: steps, edges, texts. -/
import Derived.Test.YtlkmlppamkidlaaGreatSqKA
import Derived.Test.YtlkmlppamkidlaaGreatSqH
set_option linter.all false
set_option maxRecDepth 100000
set_option maxHeartbeats 2000000
section
namespace Go.Proofs.YtlkmlppamkidlaaGreat
open Go Go.Sx Go.Proofs Go.ChangeShapes
abbrev OpA := Int × Int × Int
def opA (o : OpA) : List Value := [.int .i64 o.1, .int .i64 o.2.1, .int .i64 o.2.2]
section
variable {H : Type} {enc : TypeId × Value → H} {W : World} {base : Nat} {spare : Nat → Bool} {held : Bool}
end
end Go.Proofs.YtlkmlppamkidlaaGreat
end
