/- More rules for walking Go code, beside the ones in Core. -/
import Derived.Test.YtpbknokakooekaaTy
namespace Go.Sx
set_option linter.all false
open Go Go.Proofs
variable {P : Program} {r : Option Nat} {n : Nat} {e : Env} {D : List Nat} {w : World} {Q : Post}
/-- a block whose exits meet. -/
theorem wc_blockJ {σ : Type} {id : Nat} {c : Code} (ws : List Nat) (lv : σ → Env → Env) (I : σ → List Nat → World → Prop)
    (h : WC P r n c e D w (blk id (thn (fun e' D' w' => ∃ s', lv s' e' = e' ∧ Off ws e' e ∧ I s' D' w') Q))) (rest : ∀ s j D w, I s D w → Q .normal (lv s (mix ws j e)) D w) : WC P r n (.block id c) e D w Q := by
  refine wc_block (WC.mono h ?_)
  have key : ∀ x e' D' w', thn (fun e' D' w' => ∃ s', lv s' e' = e' ∧ Off ws e' e ∧ I s' D' w') Q x e' D' w' → Q x e' D' w' := by
    intro x e' D' w' hq
    cases x with
    | normal =>
      obtain ⟨s', k1, k2, k3⟩ := hq
      have := rest s' e' D' w' k3
      rwa [mix_off k2, k1] at this
    | exit id => exact hq
    | goto l => exact hq
    | ret => exact hq
    | panic ch => exact hq
    | outgrown => exact hq
  intro x e' D' w' hq
  cases x with
  | exit i =>
    simp only [blk] at hq ⊢
    cases hi : Nat.beq i id with
    | true => rw [hi, cond_true] at hq; rw [cond_true]; exact key .normal _ _ _ hq
    | false => rw [hi, cond_false] at hq; rw [cond_false]; exact hq
  | normal => exact key _ _ _ _ hq
  | goto l => exact key _ _ _ _ hq
  | ret => exact key _ _ _ _ hq
  | panic ch => exact key _ _ _ _ hq
  | outgrown => exact key _ _ _ _ hq
end Go.Sx

