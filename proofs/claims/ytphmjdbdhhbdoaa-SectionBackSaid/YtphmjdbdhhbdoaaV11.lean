/- Plain laws of the numbers' bytes: what Put writes Get reads back, and what Get reads is what Put writes; Fold and Unfold turn one another back; a half needs no more bytes. -/
import Derived.Test.YtphmjdbdhhbdoaaV9
namespace Go.Proofs.Ytphmjdbdhhbdoaa
set_option linter.all false
open Go Go.Sx Go.Proofs
theorem getR_putN (r : List Nat) : ∀ (x i acc : Nat), i ≤ 9 → x * 128 ^ i < 18446744073709551616 → (i = 0 ∨ x ≠ 0) → getR i acc (putN x ++ r) = (acc + x * 128 ^ i, i + (putN x).length, 0) := by
  intro x
  induction x using Nat.strongRecOn with
  | ind x ih =>
    intro i acc hi hx h0
    have h9 : (128 : Nat) ^ 9 = 9223372036854775808 := by decide
    by_cases h : x < 128
    · rw [putN_lt h, List.cons_append, getR, if_neg, if_neg (by omega), if_neg (by omega)]
      · rfl
      · rintro ⟨rfl, h1⟩
        rw [h9] at hx; omega
    · rw [putN_ge (by omega), List.cons_append, getR, if_neg, if_pos (by omega)]
      · have hlt : i < 9 := by
          rcases Nat.lt_or_ge i 9 with h1 | h1
          · exact h1
          · have : i = 9 := by omega
            subst this; rw [h9] at hx; omega
        have hm : x / 128 * 128 ^ (i + 1) ≤ x * 128 ^ i := by
          rw [Nat.pow_succ, Nat.mul_comm (128 ^ i) 128, ← Nat.mul_assoc]
          exact Nat.mul_le_mul_right _ (Nat.div_mul_le_self x 128)
        rw [ih (x / 128) (by omega) (i + 1) _ (by omega) (by omega) (by omega)]
        have h2 : (x % 128 + 128) % 128 = x % 128 := by omega
        rw [h2, List.length_cons]
        have h3 : x % 128 * 128 ^ i + x / 128 * 128 ^ (i + 1) = x * 128 ^ i := by
          rw [Nat.pow_succ, Nat.mul_comm (128 ^ i) 128, ← Nat.mul_assoc, ← Nat.add_mul, Nat.mul_comm (x / 128) 128, Nat.mod_add_div]
        exact Prod.ext (by dsimp only; omega) (Prod.ext (by dsimp only; omega) rfl)
      · rintro ⟨rfl, h1⟩
        rw [h9] at hx; omega
theorem getN_putN {x : Nat} (hx : x < 18446744073709551616) (r : List Nat) : getN (putN x ++ r) = (x, (putN x).length, 0) := by
  have := getR_putN r x 0 0 (by decide) (by simpa using hx) (.inl rfl)
  unfold getN
  simpa using this
theorem getR_err : ∀ (bs : List Nat) (i acc : Nat), (getR i acc bs).2.2 ≠ 0 → (getR i acc bs).1 = 0 ∧ (getR i acc bs).2.1 = 0
  | [], i, acc, _ => by simp [getR]
  | c :: r, i, acc, h => by
    simp only [getR] at h ⊢
    split
    · exact ⟨rfl, rfl⟩
    · rename_i h1
      rw [if_neg h1] at h
      split
      · rename_i h2
        rw [if_pos h2] at h
        exact getR_err r _ _ h
      · rename_i h2
        rw [if_neg h2] at h
        split
        · exact ⟨rfl, rfl⟩
        · rename_i h3
          rw [if_neg h3] at h
          exact absurd rfl h
theorem getN_err {bs : List Nat} (h : (getN bs).2.2 ≠ 0) : (getN bs).1 = 0 ∧ (getN bs).2.1 = 0 := getR_err bs 0 0 h
theorem putN_getR : ∀ (bs : List Nat) (i acc : Nat), (∀ c ∈ bs, c < 256) → (getR i acc bs).2.2 = 0 → ∃ y, (getR i acc bs).1 = acc + y * 128 ^ i ∧ putN y = bs.take ((getR i acc bs).2.1 - i) ∧ i < (getR i acc bs).2.1 ∧ (0 < i → y ≠ 0)
  | [], i, acc, _, h => by simp [getR] at h
  | c :: r, i, acc, hb, h => by
    have hc := hb c List.mem_cons_self
    simp only [getR] at h ⊢
    split
    · rename_i h1; rw [if_pos h1] at h; exact absurd h (by simp)
    · rename_i h1
      rw [if_neg h1] at h
      split
      · rename_i h2
        rw [if_pos h2] at h
        obtain ⟨y, e1, e2, e3, e4⟩ := putN_getR r (i + 1) _ (fun x hx => hb x (List.mem_cons_of_mem _ hx)) h
        refine ⟨c % 128 + 128 * y, ?_, ?_, by omega, fun _ => by have := e4 (by omega); omega⟩
        · rw [e1, Nat.add_mul, Nat.pow_succ, Nat.mul_comm 128 y, Nat.mul_assoc, Nat.mul_comm 128 (128 ^ i), Nat.add_assoc]
        · have h4 := e4 (by omega)
          rw [putN_ge (by omega)]
          have h5 : (c % 128 + 128 * y) / 128 = y := by omega
          have h6 : (c % 128 + 128 * y) % 128 + 128 = c := by omega
          rw [h5, h6, e2, show (getR (i + 1) (acc + c % 128 * 128 ^ i) r).2.1 - i = ((getR (i + 1) (acc + c % 128 * 128 ^ i) r).2.1 - (i + 1)) + 1 by omega, List.take_succ_cons]
      · rename_i h2
        rw [if_neg h2] at h
        split
        · rename_i h3; rw [if_pos h3] at h; exact absurd h (by simp)
        · rename_i h3
          refine ⟨c, rfl, ?_, by dsimp only; omega, by omega⟩
          rw [putN_lt (by omega)]
          dsimp only
          rw [show i + 1 - i = 1 by omega]; rfl
theorem putN_getN {bs : List Nat} (hb : ∀ c ∈ bs, c < 256) (h : (getN bs).2.2 = 0) : putN (getN bs).1 = bs.take (getN bs).2.1 := by
  obtain ⟨y, e1, e2, _, _⟩ := putN_getR bs 0 0 hb h
  have : (getN bs).1 = y := by unfold getN; omega
  rw [this, e2]; rfl
theorem fold_unfold {x : Nat} (hx : x < 18446744073709551616) : foldN (unfoldZ x) = x := by unfold foldN unfoldZ; split <;> split <;> omega
theorem unfold_fold (z : Int) : unfoldZ (foldN z) = z := by unfold foldN unfoldZ; split <;> split <;> omega
theorem putN_half (x : Nat) : (putN (x / 2)).length ≤ (putN x).length := by
  rw [putN_length, putN_length]
  by_cases h : x = 0
  · subst h; simp
  · have := bitlen_two h
    omega
end Go.Proofs.Ytphmjdbdhhbdoaa
