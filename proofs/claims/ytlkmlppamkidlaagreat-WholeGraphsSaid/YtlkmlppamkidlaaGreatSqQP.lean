/- Plain laws of pairs. -/
import Derived.Test.YtlkmlppamkidlaaGreatSqN2
import Derived.Test.YtlkmlppamkidlaaGreatSqGA
import Derived.Test.YtlkmlppamkidlaaGreatSqH
set_option linter.all false
set_option maxRecDepth 100000
set_option maxHeartbeats 2000000
section
namespace Go.Proofs.YtlkmlppamkidlaaGreat
open Go Go.Sx Go.Proofs
end Go.Proofs.YtlkmlppamkidlaaGreat
end
