/- Keys in order, each with something: Insert, Put, Delete, Drop. -/
import Derived.Test.YtpbknokakooekaaMA1
import Derived.Test.YtpbknokakooekaaQ2
namespace Go.Proofs.Ytpbknokakooekaa
set_option linter.all false
open Go Go.Sx Go.Proofs
set_option maxRecDepth 100000
set_option maxHeartbeats 2000000
theorem entsA_set {es : List (Int × Int)} {r : Nat} {k : Int} {u v : Int} (h : es[r]? = some (k, u)) : (es.flatMap entA).set (r * 2 + 1) (.int .i64 v) = (es.set r (k, v)).flatMap entA := by
  induction es generalizing r with
  | nil => simp at h
  | cons e es ih =>
    cases r with
    | zero =>
      simp only [List.getElem?_cons_zero, Option.some.injEq] at h
      subst h
      rfl
    | succ r =>
      simp only [List.getElem?_cons_succ] at h
      rw [List.set_cons_succ, List.flatMap_cons, List.flatMap_cons, ← ih h]
      rw [List.set_append_right _ _ (by rw [entA_len]; omega), entA_len, show (r + 1) * 2 + 1 - 2 = r * 2 + 1 by omega]
theorem entsA_take (es : List (Int × Int)) (r : Nat) : (es.take r).flatMap entA ++ (es.drop r).flatMap entA = es.flatMap entA := by rw [← List.flatMap_append, List.take_append_drop]
theorem entsA_split {es : List (Int × Int)} {r : Nat} {x : Int × Int} (h : es[r]? = some x) : (es.take r).flatMap entA ++ entA x ++ (es.drop (r + 1)).flatMap entA = es.flatMap entA := by
  obtain ⟨hlt, rfl⟩ := List.getElem?_eq_some_iff.1 h
  conv => rhs; rw [← List.take_append_drop r es, List.drop_eq_getElem_cons hlt, List.flatMap_append, List.flatMap_cons]
  rw [List.append_assoc]
end Go.Proofs.Ytpbknokakooekaa

