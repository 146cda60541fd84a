/- Keys in order, each with something: Clone, run, All, From. -/
import Derived.Test.YtpbknokakooekaaMA1
namespace Go.Proofs.Ytpbknokakooekaa
set_option linter.all false
open Go Go.Sx Go.Proofs
set_option maxRecDepth 100000
set_option maxHeartbeats 2000000
def ItA (bl : Nat) (p : Option Addr) (c : Nat) (es : List (Int × Int)) (h : Hp) : Prop := SlH h (some ⟨bl, 0, none⟩) [.slice p es.length c] ∧ SlH h p (es.flatMap entA)
end Go.Proofs.Ytpbknokakooekaa

