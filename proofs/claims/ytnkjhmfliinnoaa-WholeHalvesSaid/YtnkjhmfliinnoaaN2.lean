/- Pairing: Pairs (functions 99, 123), Count (73). -/
import Derived.Test.YtnkjhmfliinnoaaUA
namespace Go.Proofs.Ytnkjhmfliinnoaa
set_option linter.all false
open Go Go.Sx Go.Proofs
set_option maxRecDepth 100000
set_option maxHeartbeats 2000000
def prE (m : List Int) (k : Nat) : List (Int × Int) := if RightP m ∧ (k : Int) < m.getD k 0 then [((k : Int), m.getD k 0)] else []
def prU (m : List Int) : Nat → List (Int × Int)
  | 0 => []
  | k + 1 => prU m k ++ prE m k
def prL (m : List Int) : List (Int × Int) := prU m m.length
theorem prU_len (m : List Int) : ∀ k, (prU m k).length ≤ k
  | 0 => Nat.le_refl 0
  | k + 1 => by
    have := prU_len m k
    have h2 : (prE m k).length ≤ 1 := by unfold prE; split <;> simp
    simp only [prU, List.length_append]; omega
theorem prU_pre (m : List Int) (k : Nat) : ∀ n, k ≤ n → ∃ R, prU m n = prU m k ++ R
  | 0, h => ⟨[], by rw [show k = 0 by omega, List.append_nil]⟩
  | n + 1, h => by
    by_cases hk : k = n + 1
    · exact ⟨[], by rw [hk, List.append_nil]⟩
    · obtain ⟨R, hR⟩ := prU_pre m k n (by omega)
      exact ⟨R ++ prE m n, by rw [prU, hR, List.append_assoc]⟩
theorem prL_at {m : List Int} {k : Nat} (hk : k < m.length) (hR : RightP m) (h : (k : Int) < m.getD k 0) : (prL m)[(prU m k).length]? = some ((k : Int), m.getD k 0) ∧ (prU m (k + 1)).length = (prU m k).length + 1 := by
  have h1 : prE m k = [((k : Int), m.getD k 0)] := by unfold prE; rw [if_pos ⟨hR, h⟩]
  obtain ⟨R, hR⟩ := prU_pre m (k + 1) m.length hk
  have h2 : prU m (k + 1) = prU m k ++ [((k : Int), m.getD k 0)] := by rw [prU, h1]
  refine ⟨?_, by rw [h2, List.length_append]; rfl⟩
  unfold prL
  rw [hR, h2, List.append_assoc, List.getElem?_append_right (Nat.le_refl _), Nat.sub_self]
  rfl
theorem prU_no {m : List Int} {k : Nat} (h : ¬ (RightP m ∧ (k : Int) < m.getD k 0)) : prU m (k + 1) = prU m k := by rw [prU, prE, if_neg h, List.append_nil]
def PrA (b1 b3 : Nat) (p : Option Addr) (c : Nat) (m : List Int) (h : Hp) : Prop := SlH h (some ⟨b1, 0, none⟩) [.slice p m.length c] ∧ SlH h (some ⟨b3, 0, none⟩) [.bool (decide (RightP m))] ∧ SlH h p (ints .i64 m)
theorem prA_at {M : Nat → Prop} {w0 w : World} {L : List Cap} {D : List Nat} {b1 b3 i j : Nat} {p : Option Addr} {c : Nat} {m : List Int} (H : St M w0 w L D) (hi : L[i]? = some (.row b3 4 [.bool (decide (RightP m))])) (hj : L[j]? = some (.row b1 23 [.slice p m.length c])) (hs : SlH (hp w) p (ints .i64 m)) : PrA b1 b3 p c m (hp w) :=
  ⟨ok_row (H.cap hj), ok_row (H.cap hi), hs⟩
def cntM (m : List Int) : Int := if RightP m then (m.length : Int) - ((prL m).length : Int) else 0
end Go.Proofs.Ytnkjhmfliinnoaa

