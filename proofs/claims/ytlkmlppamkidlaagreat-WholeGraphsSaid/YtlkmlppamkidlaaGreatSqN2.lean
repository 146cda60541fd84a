/- Pairing: Pairs (functions 99, 123), Count (73). -/
import Derived.Test.YtlkmlppamkidlaaGreatSqUA
import Derived.Test.YtlkmlppamkidlaaGreatSqH
set_option linter.all false
set_option maxRecDepth 100000
set_option maxHeartbeats 2000000
section
namespace Go.Proofs.YtlkmlppamkidlaaGreat
open Go Go.Sx Go.Proofs
end Go.Proofs.YtlkmlppamkidlaaGreat
end
