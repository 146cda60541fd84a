/- What varint.Get answers, bounded. -/
import Derived.Test.YtnkjhmfliinnoaaV2
namespace Go.Proofs.Ytnkjhmfliinnoaa
set_option linter.all false
open Go Go.Sx Go.Proofs
set_option maxRecDepth 100000
set_option maxHeartbeats 2000000
theorem pow_step {c i : Nat} (hi : i ≤ 9) (h9 : i = 9 → c ≤ 1) : c % 128 * 128 ^ i ≤ 9223372036854775808 := by
  by_cases h : i = 9
  · subst h; have := h9 rfl
    have h2 : c % 128 ≤ 1 := by omega
    calc c % 128 * 128 ^ 9 ≤ 1 * 128 ^ 9 := Nat.mul_le_mul_right _ h2
      _ ≤ 9223372036854775808 := by decide
  · have h8 : (128 : Nat) ^ i ≤ 128 ^ 8 := Nat.pow_le_pow_right (by decide) (by omega)
    calc c % 128 * 128 ^ i ≤ 127 * 128 ^ 8 := Nat.mul_le_mul (by omega) h8
      _ ≤ 9223372036854775808 := by decide
theorem get_spec' (p : Option Addr) (cap len : Nat) (bs : List Nat) (hl : len = bs.length) (hb : ∀ c ∈ bs, c < 256) (w0 : World) (hs : SlH (hp w0) p (nats .u8 bs)) (hlen : bs.length ≤ 1000000) :
    CallsV Try.prog 169 #[.slice p len cap] w0 fun v w => v = getV (getN bs) ∧ w = w0 := by subst hl; exact get_spec p cap bs hb w0 hs hlen

/-- what Get answers: how many bytes it took, and a number below 2^64. -/
theorem getR_bound : ∀ (bs : List Nat) (i acc : Nat), (∀ c ∈ bs, c < 256) → acc < 128 ^ i → i ≤ 9 → (getR i acc bs).1 < 18446744073709551616 ∧ ((getR i acc bs).2.2 = 0 → i < (getR i acc bs).2.1 ∧ (getR i acc bs).2.1 ≤ i + bs.length)
  | [], i, acc, _, _, _ => by simp [getR]
  | c :: r, i, acc, hb, ha, hi => by
    simp only [getR]
    have hc := hb c List.mem_cons_self
    split
    · simp
    · rename_i h9
      split
      · rename_i h128
        have h8 : i < 9 := by omega
        have := getR_bound r (i + 1) (acc + c % 128 * 128 ^ i) (fun x hx => hb x (List.mem_cons_of_mem _ hx)) (by
          rw [Nat.pow_succ]
          have : c % 128 * 128 ^ i ≤ 127 * 128 ^ i := Nat.mul_le_mul_right _ (by omega)
          omega) (by omega)
        refine ⟨this.1, fun h => ?_⟩
        have := this.2 h
        simp only [List.length_cons]; omega
      · split
        · simp
        · rename_i h128 _
          have hp := pow128_le hi
          have hs := pow_step (c := c) hi (by omega)
          rw [show c % 128 = c by omega] at hs
          refine ⟨by dsimp only; omega, fun _ => by simp⟩
theorem getN_lt {bs : List Nat} (hb : ∀ c ∈ bs, c < 256) : (getN bs).1 < 18446744073709551616 := (getR_bound bs 0 0 hb (by simp) (by decide)).1
theorem getN_size {bs : List Nat} (hb : ∀ c ∈ bs, c < 256) (h : (getN bs).2.2 = 0) : 1 ≤ (getN bs).2.1 ∧ (getN bs).2.1 ≤ bs.length := by
  have := (getR_bound bs 0 0 hb (by simp) (by decide)).2 h
  unfold getN; omega

end Go.Proofs.Ytnkjhmfliinnoaa

