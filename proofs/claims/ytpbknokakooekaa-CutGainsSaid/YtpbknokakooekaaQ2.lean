/- Plain laws of rows of cells that are moved. -/
import Derived.Test.YtpbknokakooekaaQ1
namespace Go.Sx
set_option linter.all false
theorem mv_take {α : Type} {A : List α} (B : List α) {m : Nat} (h : A.length = m) : (A ++ B).take m = A := by subst h; exact List.take_left
theorem mv_drop {α : Type} {A : List α} (B : List α) {m : Nat} (h : A.length = m) : (A ++ B).drop m = B := by subst h; exact List.drop_left
theorem mv_drop2 {α : Type} {A : List α} (B : List α) {m k : Nat} (h : A.length = m) : (A ++ B).drop (m + k) = B.drop k := by subst h; rw [← List.drop_drop, List.drop_left]
theorem mv_take2 {α : Type} {A : List α} (B : List α) {m k : Nat} (h : A.length = m) : (A ++ B).take (m + k) = A ++ B.take k := by subst h; rw [List.take_append, Nat.add_sub_cancel_left, List.take_of_length_le (Nat.le_add_right _ _)]
/-- room is there: what stands behind goes up, then the new comes. -/
theorem mv_room {α : Type} {A B zs ys : List α} {m k l : Nat} (hA : A.length = m) (hB : B.length = l) (hk : k ≤ zs.length) :
    ∃ us, (((A ++ B ++ zs).take (m + k) ++ B ++ (A ++ B ++ zs).drop (m + k + l)).take m ++ ys ++ ((A ++ B ++ zs).take (m + k) ++ B ++ (A ++ B ++ zs).drop (m + k + l)).drop (m + k)) = A ++ ys ++ B ++ us ∧ us.length = zs.length - k := by
  rw [List.append_assoc A B zs, mv_take2 _ hA, show m + k + l = m + (k + l) by omega, mv_drop2 _ hA]
  have h1 : ((B ++ zs).take k).length = k := by rw [List.length_take, List.length_append]; omega
  refine ⟨(B ++ zs).drop (k + l), ?_, ?_⟩
  · rw [show A ++ (B ++ zs).take k ++ B ++ (B ++ zs).drop (k + l) = A ++ ((B ++ zs).take k ++ (B ++ (B ++ zs).drop (k + l))) by simp, mv_take _ hA, mv_drop2 _ hA, mv_drop _ h1]
    simp
  · rw [List.length_drop, List.length_append]; omega
theorem mv_grow {α : Type} {A B zs ys : List α} {m k l : Nat} (hA : A.length = m) (hB : B.length = l) (hy : ys.length = k) (hk : k + l ≤ zs.length) :
    ∃ us, (((A ++ zs).take m ++ ys ++ (A ++ zs).drop (m + k)).take (m + k) ++ B ++ ((A ++ zs).take m ++ ys ++ (A ++ zs).drop (m + k)).drop (m + k + l)) = A ++ ys ++ B ++ us ∧ us.length = zs.length - (k + l) := by
  rw [mv_take _ hA, mv_drop2 _ hA]
  have h1 : (A ++ ys).length = m + k := by rw [List.length_append]; omega
  refine ⟨(zs.drop k).drop l, ?_, ?_⟩
  · rw [mv_take _ h1, mv_drop2 _ h1]
  · rw [List.length_drop, List.length_drop]; omega
theorem mv_del {α : Type} {A X B zs : List α} {m k l : Nat} (hA : A.length = m) (hX : X.length = k) (hB : B.length = l) :
    ∃ us, ((A ++ X ++ B ++ zs).take m ++ B ++ (A ++ X ++ B ++ zs).drop (m + l)) = A ++ B ++ us ∧ us.length = k + zs.length := by
  rw [show A ++ X ++ B ++ zs = A ++ (X ++ B ++ zs) by simp, mv_take _ hA, mv_drop2 _ hA]
  refine ⟨_, rfl, ?_⟩
  simp; omega
end Go.Sx

