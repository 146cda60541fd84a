/- Plain laws of sums by a polynomial: numbers moved to the right, by it; rows of bytes as one number; what two rows that both fit are apart by. -/
import Derived.Test.YtnkjhmfliinnoaaCore
namespace Go.Proofs.Ytnkjhmfliinnoaa
set_option linter.all false
open Go Go.Sx Go.Proofs
theorem xor_half (x y : Nat) : (x ^^^ y) / 2 = x / 2 ^^^ y / 2 := by
  have := Nat.shiftRight_xor_distrib (a := x) (b := y) (i := 1)
  simpa [Nat.shiftRight_eq_div_pow] using this
theorem xor_div (k x y : Nat) : (x ^^^ y) / 2 ^ k = x / 2 ^ k ^^^ y / 2 ^ k := by
  have := Nat.shiftRight_xor_distrib (a := x) (b := y) (i := k)
  simpa [Nat.shiftRight_eq_div_pow] using this
theorem xor_par (x y : Nat) : (x ^^^ y) % 2 = (x + y) % 2 := by
  have h := Nat.xor_mod_two_pow (a := x) (b := y) (n := 1)
  simp only [Nat.pow_one] at h
  rw [h]
  rcases Nat.mod_two_eq_zero_or_one x with h1 | h1 <;> rcases Nat.mod_two_eq_zero_or_one y with h2 | h2 <;> rw [h1, h2] <;> simp <;> omega
theorem xor4 (a b c d : Nat) : (a ^^^ b) ^^^ (c ^^^ d) = (a ^^^ c) ^^^ (b ^^^ d) := by
  rw [Nat.xor_assoc, Nat.xor_assoc, ← Nat.xor_assoc b c d, Nat.xor_comm b c, Nat.xor_assoc]
theorem xor_mul2 (k x y : Nat) : (x ^^^ y) * 2 ^ k = x * 2 ^ k ^^^ y * 2 ^ k := by
  have := Nat.shiftLeft_xor_distrib (a := x) (b := y) (i := k)
  simpa [Nat.shiftLeft_eq] using this
/-- x has k low bits, y stands above them. -/
theorem xor_low {k x y : Nat} (h : x < 2 ^ k) : x ^^^ y * 2 ^ k = x + y * 2 ^ k := by
  apply Nat.eq_of_testBit_eq
  intro i
  rw [Nat.testBit_xor, Nat.add_comm x, Nat.mul_comm y]
  rw [Nat.testBit_two_pow_mul_add y h, Nat.testBit_two_pow_mul]
  by_cases hi : i < k
  · simp [hi, show ¬ k ≤ i by omega]
  · have : x.testBit i = false := Nat.testBit_lt_two_pow (Nat.lt_of_lt_of_le h (Nat.pow_le_pow_right (by decide) (by omega)))
    simp [hi, this, show k ≤ i by omega]

def stp (p n : Nat) : Nat := if n % 2 = 1 then n / 2 ^^^ p else n / 2
def stps : Nat → Nat → Nat → Nat
  | 0, _, n => n
  | k + 1, p, n => stps k p (stp p n)
theorem stp_zero (p : Nat) : stp p 0 = 0 := by simp [stp]
theorem stps_zero (k p : Nat) : stps k p 0 = 0 := by induction k with | zero => rfl | succ k ih => rw [stps, stp_zero, ih]
theorem stp_xor (p x y : Nat) : stp p (x ^^^ y) = stp p x ^^^ stp p y := by
  unfold stp
  rw [xor_half, xor_par]
  rcases Nat.mod_two_eq_zero_or_one x with h1 | h1 <;> rcases Nat.mod_two_eq_zero_or_one y with h2 | h2
  · rw [if_neg (by omega), if_neg (by omega), if_neg (by omega)]
  · rw [if_pos (by omega), if_neg (by omega), if_pos (by omega), Nat.xor_assoc]
  · rw [if_pos (by omega), if_pos (by omega), if_neg (by omega), Nat.xor_assoc, Nat.xor_assoc, Nat.xor_comm p]
  · rw [if_neg (by omega), if_pos (by omega), if_pos (by omega), xor4, Nat.xor_self, Nat.xor_zero]
theorem stps_xor (p : Nat) : ∀ (k x y : Nat), stps k p (x ^^^ y) = stps k p x ^^^ stps k p y
  | 0, _, _ => rfl
  | k + 1, x, y => by rw [stps, stp_xor, stps_xor p k]; rfl
theorem stp_two (p y : Nat) : stp p (2 * y) = y := by unfold stp; rw [if_neg (by omega)]; omega
theorem stps_pow (p : Nat) : ∀ (k y : Nat), stps k p (y * 2 ^ k) = y
  | 0, y => by simp [stps]
  | k + 1, y => by
    have h : y * 2 ^ (k + 1) = 2 * (y * 2 ^ k) := by rw [Nat.pow_succ]; ac_rfl
    rw [stps, h, stp_two, stps_pow p k]
theorem stps_add (p : Nat) : ∀ (a b x : Nat), stps (a + b) p x = stps b p (stps a p x)
  | 0, b, x => by rw [Nat.zero_add]; rfl
  | a + 1, b, x => by rw [Nat.add_right_comm, stps, stps_add p a b]; rfl
theorem stp_lt {p x : Nat} (hp : p < 2 ^ 32) (hx : x < 2 ^ 32) : stp p x < 2 ^ 32 := by
  unfold stp; split
  · exact Nat.xor_lt_two_pow (by omega) hp
  · omega
theorem stps_lt {p : Nat} (hp : p < 2 ^ 32) : ∀ (k : Nat) {x : Nat}, x < 2 ^ 32 → stps k p x < 2 ^ 32
  | 0, _, h => h
  | k + 1, _, h => stps_lt hp k (stp_lt hp h)
theorem stp_ne {p x : Nat} (hp : 2147483648 ≤ p) (hx : x < 2 ^ 32) (h : stp p x = 0) : x = 0 := by
  unfold stp at h; split at h
  · have h1 : x / 2 = p := by
      have := congrArg (· ^^^ p) h
      simp only [Nat.xor_assoc, Nat.xor_self, Nat.xor_zero, Nat.zero_xor] at this
      exact this
    omega
  · omega
theorem stps_ne {p : Nat} (hp : p < 2 ^ 32) (h31 : 2147483648 ≤ p) : ∀ (k : Nat) {x : Nat}, x < 2 ^ 32 → stps k p x = 0 → x = 0
  | 0, _, _, h => h
  | k + 1, _, hx, h => stp_ne h31 hx (stps_ne hp h31 k (stp_lt hp hx) h)

def tabN (p i : Nat) : Nat := stps 8 p i
def regN (p : Nat) : Nat → List Nat → Nat
  | n, [] => n
  | n, c :: b => regN p (tabN p (n % 256 ^^^ c) ^^^ n / 256) b
def ones32 : Nat := 4294967295
def sumN (p s : Nat) (b : List Nat) : Nat := ones32 ^^^ regN p (ones32 ^^^ s) b
/-- bytes as one number, the first one lowest. -/
def leV : List Nat → Nat
  | [] => 0
  | c :: b => c ^^^ leV b * 256
theorem reg_step (p n c : Nat) : tabN p (n % 256 ^^^ c) ^^^ n / 256 = stps 8 p (n ^^^ c) := by
  have h : n ^^^ c = (n % 256 ^^^ c) ^^^ n / 256 * 2 ^ 8 := by
    have h1 : n % 256 ^^^ n / 256 * 2 ^ 8 = n := by rw [xor_low (k := 8) (by omega)]; omega
    rw [Nat.xor_assoc, Nat.xor_comm c, ← Nat.xor_assoc, h1]
  rw [h, stps_xor, stps_pow]; rfl
theorem regN_stps (p : Nat) : ∀ (b : List Nat) (n : Nat), regN p n b = stps (8 * b.length) p (n ^^^ leV b)
  | [], n => by simp [regN, stps, leV]
  | c :: b, n => by
    rw [regN, reg_step, regN_stps p b, List.length_cons, Nat.mul_succ, Nat.add_comm, stps_add, leV, ← Nat.xor_assoc, stps_xor p 8 (n ^^^ c)]
    have h2 := stps_pow p 8 (leV b)
    rw [show leV b * 2 ^ 8 = leV b * 256 from rfl] at h2
    rw [h2]
theorem regN_lt {p : Nat} (hp : p < 2 ^ 32) : ∀ (b : List Nat) {n : Nat}, n < 2 ^ 32 → (∀ c ∈ b, c < 256) → regN p n b < 2 ^ 32
  | [], _, h, _ => h
  | c :: b, n, h, hb => by
    refine regN_lt hp b ?_ (fun x hx => hb x (List.mem_cons_of_mem _ hx))
    have hc := hb c List.mem_cons_self
    refine Nat.xor_lt_two_pow (stps_lt hp 8 (Nat.lt_of_lt_of_le (Nat.xor_lt_two_pow (n := 8) (by omega) (by omega)) (by decide))) (by omega)
theorem sumN_lt {p s : Nat} {b : List Nat} (hp : p < 4294967296) (hs : s < 4294967296) (hb : ∀ c ∈ b, c < 256) : sumN p s b < 4294967296 := by
  unfold sumN
  exact Nat.xor_lt_two_pow (n := 32) (by decide) (regN_lt (by omega) b (Nat.xor_lt_two_pow (by decide) (by omega)) hb)
theorem tabN_lt {p i : Nat} (hp : p < 4294967296) (hi : i < 256) : tabN p i < 4294967296 := stps_lt (p := p) (by omega) 8 (by omega)
theorem regN_append (p : Nat) : ∀ (a b : List Nat) (n : Nat), regN p n (a ++ b) = regN p (regN p n a) b
  | [], _, _ => rfl
  | c :: a, b, n => by rw [List.cons_append, regN, regN_append p a b]; rfl
theorem ones_ones (x : Nat) : ones32 ^^^ (ones32 ^^^ x) = x := by rw [← Nat.xor_assoc, Nat.xor_self, Nat.zero_xor]
theorem sumN_append (p s : Nat) (a b : List Nat) : sumN p (sumN p s a) b = sumN p s (a ++ b) := by
  unfold sumN; rw [ones_ones, regN_append]
theorem xor256 (x y : Nat) : (x ^^^ y) * 256 = x * 256 ^^^ y * 256 := xor_mul2 8 x y
theorem low256 {c : Nat} (y : Nat) (h : c < 256) : c ^^^ y * 256 = c + y * 256 := xor_low (k := 8) h
theorem leV_append : ∀ (a b : List Nat), leV (a ++ b) = leV a ^^^ leV b * 2 ^ (8 * a.length)
  | [], b => by simp [leV]
  | c :: a, b => by
    rw [List.cons_append, leV, leV_append a b, leV, List.length_cons, show 8 * (a.length + 1) = 8 * a.length + 8 from rfl, Nat.pow_add, xor256, Nat.xor_assoc, Nat.mul_assoc]
theorem leV_lt : ∀ (a : List Nat), (∀ c ∈ a, c < 256) → leV a < 2 ^ (8 * a.length)
  | [], _ => by simp [leV]
  | c :: a, h => by
    have hc := h c List.mem_cons_self
    have ih := leV_lt a (fun x hx => h x (List.mem_cons_of_mem _ hx))
    rw [leV, List.length_cons, show 8 * (a.length + 1) = 8 * a.length + 8 from rfl, Nat.pow_add, low256 _ hc]
    omega
theorem leV_zeros : ∀ k : Nat, leV (List.replicate k 0) = 0
  | 0 => rfl
  | k + 1 => by rw [List.replicate_succ, leV, leV_zeros k]; rfl
theorem leV_zip : ∀ (a b : List Nat), a.length = b.length → leV (List.zipWith (· ^^^ ·) a b) = leV a ^^^ leV b
  | [], [], _ => rfl
  | x :: a, y :: b, h => by
    rw [List.zipWith_cons_cons, leV, leV_zip a b (by simpa using h), leV, leV]
    rw [xor256, xor4]
  | [], _ :: _, h => by simp at h
  | _ :: _, [], h => by simp at h
/-- a bit turned. -/
theorem leV_set : ∀ (a : List Nat) (j k : Nat), j < a.length → leV (a.set j (a.getD j 0 ^^^ 2 ^ k)) = leV a ^^^ 2 ^ (8 * j + k)
  | [], j, k, h => by simp at h
  | c :: a, 0, k, _ => by
    simp only [List.set_cons_zero, leV, List.getD_cons_zero, Nat.mul_zero, Nat.zero_add]
    rw [Nat.xor_assoc, Nat.xor_comm (2 ^ k), ← Nat.xor_assoc]
  | c :: a, j + 1, k, h => by
    simp only [List.set_cons_succ, leV, List.getD_cons_succ]
    rw [leV_set a j k (by simpa using h)]
    rw [xor256, Nat.xor_assoc, show 2 ^ (8 * j + k) * 256 = 2 ^ (8 * (j + 1) + k) by rw [show 8 * (j + 1) + k = (8 * j + k) + 8 by omega, Nat.pow_add (2 : Nat) (8 * j + k) 8]]
theorem sumN_stps (p : Nat) (b : List Nat) : sumN p 0 b = ones32 ^^^ stps (8 * b.length) p (ones32 ^^^ leV b) := by
  unfold sumN; rw [regN_stps, Nat.xor_zero]
theorem sumN_mix (p : Nat) (a b : List Nat) (h : a.length = b.length) : sumN p 0 (List.zipWith (· ^^^ ·) a b) = sumN p 0 a ^^^ sumN p 0 b ^^^ sumN p 0 (List.replicate a.length 0) := by
  have hl : (List.zipWith (· ^^^ ·) a b).length = a.length := by simp [h]
  rw [sumN_stps, sumN_stps, sumN_stps, sumN_stps, hl, ← h, List.length_replicate, leV_zip a b h, leV_zeros, Nat.xor_zero]
  have e : ones32 ^^^ (leV a ^^^ leV b) = ((ones32 ^^^ leV a) ^^^ (ones32 ^^^ leV b)) ^^^ ones32 := by
    rw [xor4, Nat.xor_self, Nat.zero_xor, Nat.xor_comm]
  rw [e, stps_xor, stps_xor]
  generalize stps (8 * a.length) p (ones32 ^^^ leV a) = x
  generalize stps (8 * a.length) p (ones32 ^^^ leV b) = y
  generalize stps (8 * a.length) p ones32 = z
  rw [xor4 ones32 x ones32 y, Nat.xor_self, Nat.zero_xor, ← Nat.xor_assoc, Nat.xor_comm ones32, Nat.xor_assoc, Nat.xor_assoc]
/-- bytes and the sum that stands behind them. -/
def sealed (p : Nat) (s : List Nat) : Prop := sumN p 0 (s.take (s.length - 4)) = leV (s.drop (s.length - 4))
theorem sealed_iff (p : Nat) (s : List Nat) (h4 : 4 ≤ s.length) : sealed p s ↔ stps (8 * (s.length - 4)) p (ones32 ^^^ leV s) = ones32 := by
  have hs : s = s.take (s.length - 4) ++ s.drop (s.length - 4) := (List.take_append_drop _ _).symm
  have hl : (s.take (s.length - 4)).length = s.length - 4 := by rw [List.length_take]; omega
  have hv : leV s = leV (s.take (s.length - 4)) ^^^ leV (s.drop (s.length - 4)) * 2 ^ (8 * (s.length - 4)) := by
    have := leV_append (s.take (s.length - 4)) (s.drop (s.length - 4))
    rw [List.take_append_drop, hl] at this; exact this
  unfold sealed
  rw [sumN_stps, hl, hv, ← Nat.xor_assoc, stps_xor p _ (ones32 ^^^ leV _), stps_pow]
  constructor
  · intro h; rw [← h]; generalize stps _ p _ = x; rw [Nat.xor_comm ones32, ← Nat.xor_assoc, Nat.xor_self, Nat.zero_xor]
  · intro h
    have := congrArg (· ^^^ leV (s.drop (s.length - 4))) h
    simp only [Nat.xor_assoc, Nat.xor_self, Nat.xor_zero] at this
    rw [this, ones_ones]
theorem sealed_turn {p : Nat} (hp : p < 2 ^ 32) (h31 : 2147483648 ≤ p) {s t : List Nat} (hlen : s.length = t.length) (h4 : 4 ≤ s.length) (hs : sealed p s) (ht : sealed p t) {a turn : Nat} (ha : a ≤ 8 * (s.length - 4)) (htn : turn < 2 ^ 32)
    (hv : leV t = leV s ^^^ turn * 2 ^ a) : turn = 0 := by
  have h1 := (sealed_iff p s h4).1 hs
  have h2 := (sealed_iff p t (by omega)).1 ht
  rw [← hlen, hv, ← Nat.xor_assoc, stps_xor, h1] at h2
  have h3 : stps (8 * (s.length - 4)) p (turn * 2 ^ a) = 0 := by
    have := congrArg (ones32 ^^^ ·) h2
    simp only [Nat.xor_self] at this
    rwa [ones_ones] at this
  obtain ⟨c, hc⟩ : ∃ c, 8 * (s.length - 4) = a + c := ⟨8 * (s.length - 4) - a, by omega⟩
  rw [hc, stps_add, stps_pow] at h3
  exact stps_ne hp h31 c htn h3
end Go.Proofs.Ytnkjhmfliinnoaa

