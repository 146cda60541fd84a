/- Plain laws of bounds and of the weights of parts. -/
import Derived.Test.YtpbknokakooekaaCP
namespace Go.Proofs.Ytpbknokakooekaa
set_option linter.all false
open Go Go.Sx Go.Proofs
def mxW (ws : List Int) (k : Nat) : Int := (ws.take k).foldl max 0
theorem mxW_succ {ws : List Int} {k : Nat} (h : k < ws.length) : mxW ws (k + 1) = max (mxW ws k) (ws.getD k 0) := by
  unfold mxW; rw [take_snoc (getD_some h), List.foldl_append]; rfl
theorem mxW_nn (ws : List Int) : ∀ k, k ≤ ws.length → 0 ≤ mxW ws k
  | 0, _ => Int.le_refl 0
  | k + 1, h => by rw [mxW_succ (by omega)]; have := mxW_nn ws k (by omega); omega
theorem mxW_ge {ws : List Int} {j : Nat} : ∀ k, k ≤ ws.length → j < k → ws.getD j 0 ≤ mxW ws k
  | 0, _, h => absurd h (Nat.not_lt_zero _)
  | k + 1, hk, h => by
    rw [mxW_succ (by omega)]
    rcases Nat.lt_or_ge j k with h1 | h1
    · have := mxW_ge (ws := ws) k (by omega) h1; omega
    · rw [show j = k by omega]; omega
theorem mxW_le {ws : List Int} (hm : ∀ z ∈ ws, mayW z) : ∀ k, k ≤ ws.length → mxW ws k ≤ 1099511627776
  | 0, _ => by show (0 : Int) ≤ _; decide
  | k + 1, h => by rw [mxW_succ (by omega)]; have := mxW_le hm k (by omega); have := ws_nn hm k; omega
def upV (a b : Int) : Int := if a < 1 ∨ b < 1 then 0 else (a - 1) / b + 1
theorem div_of {a b q r : Int} (hb : 0 < b) (h : a = b * q + r) (h0 : 0 ≤ r) (h1 : r < b) : a / b = q ∧ a % b = r := (Int.ediv_emod_unique hb).2 ⟨by omega, h0, h1⟩
theorem upV_ref {a b : Int} (ha : 1 ≤ a) (hb : 1 ≤ b) : upV a b = if 0 < a % b then a / b + 1 else a / b := by
  have h1 := Int.emod_add_mul_ediv a b
  have h2 := Int.emod_nonneg a (show b ≠ 0 by omega)
  have h3 := Int.emod_lt_of_pos a (show 0 < b by omega)
  unfold upV
  rw [if_neg (by omega)]
  split
  · rw [(div_of (a := a - 1) (q := a / b) (r := a % b - 1) (by omega) (by omega) (by omega) (by omega)).1]
  · have e : b * (a / b - 1) = b * (a / b) - b := by rw [Int.mul_sub, Int.mul_one]
    rw [(div_of (a := a - 1) (q := a / b - 1) (r := b - 1) (by omega) (by omega) (by omega) (by omega)).1]
    omega
theorem upV_mul {a b : Int} (ha : 0 ≤ a) (hb : 1 ≤ b) : a ≤ b * upV a b := by
  unfold upV
  split
  · have : a = 0 := by omega
    rw [this]; simp
  · have h1 := Int.emod_add_mul_ediv (a - 1) b
    have h3 := Int.emod_lt_of_pos (a - 1) (show 0 < b by omega)
    rw [Int.mul_add, Int.mul_one]
    omega
theorem upV_in {a b : Int} (ha : 0 ≤ a) (hb : 1 ≤ b) : 0 ≤ upV a b ∧ upV a b ≤ a := by
  unfold upV
  split
  · omega
  · have h1 := Int.ediv_nonneg (show 0 ≤ a - 1 by omega) (show 0 ≤ b by omega)
    have h2 := Int.ediv_le_self (a := a - 1) b (by omega)
    omega
theorem upV_anti {a b : Int} (ha : 0 ≤ a) (hb : 1 ≤ b) : upV a (b + 1) ≤ upV a b := by
  unfold upV
  split
  · split
    · omega
    · have h1 := Int.ediv_nonneg (show 0 ≤ a - 1 by omega) (show 0 ≤ b by omega)
      omega
  · rw [if_neg (by omega)]
    have h : (a - 1) / (b + 1) ≤ (a - 1) / b := by
      rw [Int.le_ediv_iff_mul_le (by omega)]
      have h1 := Int.emod_add_mul_ediv (a - 1) (b + 1)
      have h2 := Int.emod_nonneg (a - 1) (show b + 1 ≠ 0 by omega)
      have h3 := Int.ediv_nonneg (show 0 ≤ a - 1 by omega) (show 0 ≤ b + 1 by omega)
      have e : (b + 1) * ((a - 1) / (b + 1)) = (a - 1) / (b + 1) * b + (a - 1) / (b + 1) := by rw [Int.add_mul, Int.one_mul, Int.mul_comm b]
      omega
    omega
def boundV (ws : List Int) (k : Int) : Int := if mayK k then upV ws.sum k + mxW ws ws.length else 0
theorem boundV_in {ws : List Int} (hm : ∀ z ∈ ws, mayW z) (k : Int) : 0 ≤ boundV ws k ∧ boundV ws k ≤ (ws.length : Int) * 1099511627776 + 1099511627776 := by
  have hs := sum_le hm
  have h1 := mxW_nn ws ws.length (Nat.le_refl _)
  have h2 := mxW_le hm ws.length (Nat.le_refl _)
  unfold boundV
  split
  · rename_i hk
    have h3 := upV_in hs.1 hk.1
    omega
  · omega
def fitsB (ws p : List Int) (k : Int) : Prop := CutR ws.length p k ∧ ∀ j, j < k.toNat → wtAt ws p j p.length ≤ boundV ws k
instance (ws p : List Int) (k : Int) : Decidable (fitsB ws p k) := by unfold fitsB; infer_instance
/-- all parts together weigh what all things do. -/
theorem wt_total {ws p : List Int} {k : Nat} : ∀ n, (∀ i, i < n → ¬ badP (k : Int) (p.getD i 0)) → sumN k (fun j => wtAt ws p j n) = sumN n fun t => ws.getD t 0
  | 0, _ => sumN_zero k
  | n + 1, h => by
    have ih := wt_total (ws := ws) n fun i hi => h i (by omega)
    have hb := h n (by omega)
    unfold badP at hb
    rw [sumN_succ, ← ih]
    have e : ∀ j, wtAt ws p j (n + 1) = wtAt ws p j n + (if j = (p.getD n 0).toNat then ws.getD n 0 else 0) := fun j => by
      unfold wtAt; rw [sumN_succ]
      congr 1
      by_cases h : j = (p.getD n 0).toNat
      · rw [if_pos h, if_pos (by omega)]
      · rw [if_neg h, if_neg (by omega)]
    rw [sumN_congr (fun j _ => e j), sumN_add, sumN_upd (g := fun _ => 0) (ws.getD n 0) (by omega) rfl, sumN_zero]
    omega
theorem sum_take (ws : List Int) : ∀ k, k ≤ ws.length → sumN k (fun j => ws.getD j 0) = (ws.take k).sum
  | 0, _ => rfl
  | k + 1, h => by
    rw [sumN_succ, sum_take ws k (by omega), take_snoc (getD_some (by omega)), List.sum_append]; simp
theorem sum_all (ws : List Int) : sumN ws.length (fun j => ws.getD j 0) = ws.sum := by rw [sum_take ws _ (Nat.le_refl _), List.take_length]
theorem sum_wt {ws p : List Int} {k : Nat} (h : CutR ws.length p k) : (wtL ws p k p.length).sum = ws.sum := by
  have h1 := wt_total (ws := ws) p.length h.2.2
  rw [h.2.1, sum_all] at h1
  rw [← h1, ← h.2.1]
  rfl
end Go.Proofs.Ytpbknokakooekaa

