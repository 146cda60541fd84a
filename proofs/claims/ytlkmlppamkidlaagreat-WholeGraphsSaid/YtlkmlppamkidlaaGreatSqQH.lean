/- Plain laws of Heavy. -/
import Derived.Test.YtlkmlppamkidlaaGreatSqN4
import Derived.Test.YtlkmlppamkidlaaGreatSqQP
import Derived.Test.YtlkmlppamkidlaaGreatSqH
set_option linter.all false
set_option maxRecDepth 100000
set_option maxHeartbeats 2000000
section
namespace Go.Proofs.YtlkmlppamkidlaaGreat
open Go Go.Sx Go.Proofs
end Go.Proofs.YtlkmlppamkidlaaGreat
end
