/- Joins, one behind the other. -/
import Derived.Test.YtpbknokakooekaaH3
import Derived.Test.YtpbknokakooekaaK14
namespace Go.Proofs.Ytpbknokakooekaa
set_option linter.all false
open Go Go.Sx Go.Proofs
def foldJ (n : Nat) (ops : List OpA) : List IE := ops.foldl (fun T o => (joinN T n o.1 o.2.1 o.2.2).2) (List.replicate n [])
theorem foldJ_snoc {n : Nat} {ops : List OpA} {i : Nat} {o : OpA} (h : ops[i]? = some o) : foldJ n (ops.take (i + 1)) = (joinN (foldJ n (ops.take i)) n o.1 o.2.1 o.2.2).2 := by
  unfold foldJ
  rw [take_snoc h, List.foldl_append]; rfl
end Go.Proofs.Ytpbknokakooekaa

