/- What Same, the law's own Put, Len64, Len, Fold and Unfold return: functions 32, 33, 101, 34 to 38. -/
import Derived.Test.YtnkjhmfliinnoaaV1
namespace Go.Proofs.Ytnkjhmfliinnoaa
set_option linter.all false
open Go Go.Sx Go.Proofs
set_option maxRecDepth 100000
set_option maxHeartbeats 2000000

/-! ### bytes are the same -/
theorem u8_inj {a b : List Nat} (ha : ∀ x ∈ a, x < 256) (hb : ∀ x ∈ b, x < 256) (h : a.map UInt8.ofNat = b.map UInt8.ofNat) : a = b := by
  induction a generalizing b with
  | nil => cases b with
    | nil => rfl
    | cons y b => simp at h
  | cons x a ih =>
    cases b with
    | nil => simp at h
    | cons y b =>
      simp only [List.map_cons, List.cons.injEq] at h
      have hx := ha x List.mem_cons_self
      have hy := hb y List.mem_cons_self
      have h1 := congrArg UInt8.toNat h.1
      simp only [UInt8.toNat_ofNat'] at h1
      have : x = y := by omega
      rw [this, ih (fun z hz => ha z (List.mem_cons_of_mem _ hz)) (fun z hz => hb z (List.mem_cons_of_mem _ hz)) h.2]
theorem strN_toList (bs : List Nat) : (strN bs).toList = bs.map UInt8.ofNat := by unfold strN; rw [ByteArray.toList_mk]
theorem strN_beq {a b : List Nat} (ha : ∀ x ∈ a, x < 256) (hb : ∀ x ∈ b, x < 256) : ((strN a).toList == (strN b).toList) = decide (a = b) := by
  rw [strN_toList, strN_toList, Bool.eq_iff_iff, beq_iff_eq, decide_eq_true_eq]
  exact ⟨u8_inj ha hb, fun h => by rw [h]⟩

theorem same_spec (p q : Option Addr) (c c' : Nat) (a b : List Nat) (ha : ∀ x ∈ a, x < 256) (hb : ∀ x ∈ b, x < 256) (w0 : World) (h1 : SlH (hp w0) p (nats .u8 a)) (h2 : SlH (hp w0) q (nats .u8 b)) :
    CallsV Try.prog 36 #[.slice p a.length c, .slice q b.length c'] w0 fun v w => v = .bool (decide (a = b)) ∧ w = w0 := by
  refine callsV_of Try.func36 rfl rfl ?_
  refine wc_seq ?_
  refine wc_region ?_
  (apply ow_assign; (· rfl); (· ((conv => lhs; whnf) <;> rfl)))
  refine ow_nil ?_
  refine wc_seq ?_
  refine wc_region ?_
  (apply ow_move; (· rfl); (· ((conv => lhs; whnf) <;> rfl)))
  refine ow_toStr rfl rfl rfl h1 (tyAt rfl) rfl (tyAt rfl) rfl (tyAt rfl) rfl ?_
  (apply ow_move; (· rfl); (· ((conv => lhs; whnf) <;> rfl)))
  refine ow_toStr rfl rfl rfl h2 (tyAt rfl) rfl (tyAt rfl) rfl (tyAt rfl) rfl ?_
  refine ow_strcmp rfl rfl rfl rfl ?_
  rw [strN_beq ha hb]
  (apply ow_assign; (· rfl); (· ((conv => lhs; whnf) <;> rfl)))
  refine ow_nil ?_
  refine wc_ret ⟨.inr rfl, w0, rfl, _, .tmp .nil, rfl, rfl⟩

/-! ### the document's bytes of a number -/
theorem refPut_spec (x : Nat) (hx : x < 18446744073709551616) (w0 : World) :
    CallsV Try.prog 78 #[.int .u64 x] w0 fun v w => ∃ p cap, v = .slice p (putN x).length cap ∧ St Pu w0 w [.app p (putN x).length cap 5 1 (nats .u8 (putN x))] [] := by
  refine callsV_of Try.func78 rfl rfl ?_
  have H := St.init w0
  have h10 := putN_len10 hx
  refine wc_seq ?_
  refine wc_region ?_
  (apply ow_assign; (· rfl); (· ((conv => lhs; whnf) <;> rfl)))
  refine ow_nil ?_
  refine wc_seq ?_
  refine wc_region ?_
  refine ow_buildSlice1 (vs := []) H rfl (tyAt rfl) rfl (tyAt rfl) rfl rfl rfl rfl rfl (by simp [Value.one]) (fun b w H => ?_)
  have H := H.rowApp (i := 0) (len := 0) (sz := 1) rfl rfl (by omega)
  simp only [List.set_cons_zero] at H
  (apply ow_assign; (· rfl); (· ((conv => lhs; whnf) <;> rfl)))
  refine ow_nil ?_
  refine wc_seq ?_
  refine wc_block ?_
  refine wc_loopS [0, 3, 5, 6, 7, 8, 9, 10, 11, 12, 13, 14, 15] (fun (s : Nat × Option Addr × Nat × Nat) e => upd (upd e 0 (.int .u64 s.1)) 3 (.slice s.2.1 s.2.2.1 s.2.2.2))
    (fun s D w => D = [] ∧ s.1 < 18446744073709551616 ∧ ∃ acc, s.2.2.1 = acc.length ∧ acc ++ putN s.1 = putN x ∧ St Pu w0 w [.app s.2.1 s.2.2.1 s.2.2.2 5 1 (nats .u8 acc)] []) (fun s _ => s.1) (x, _, _, _) (by first | exact rfl | exact upd_self' rfl rfl | exact upd_self' rfl (upd_self' rfl rfl) | exact upd_self' rfl (upd_self' rfl (upd_self' rfl rfl)) | exact upd_self' rfl (upd_self' rfl (upd_self' rfl (upd_self' rfl rfl)))) ⟨rfl, hx, [], rfl, rfl, H⟩ ?_
  rintro ⟨m, p, l, c⟩ j D w ⟨rfl, hm, acc, rfl, hacc, H⟩
  dsimp only at hm hacc H
  have hlen : acc.length ≤ 10 := by have := congrArg List.length hacc; simp at this; omega
  refine wc_seq ?_
  refine wc_seq ?_
  refine wc_region ?_
  (apply ow_move; (· rfl); (· ((conv => lhs; whnf) <;> rfl)))
  refine ow_gtr rfl rfl rfl ?_
  refine ow_nil ?_
  refine wc_cond_dec rfl (fun h => ?_) (fun h => ?_) <;> try dsimp only at h
  · refine wc_skip ?_
    refine wc_block ?_
    refine wc_seq ?_
    refine wc_region ?_
    (apply ow_move; (· rfl); (· ((conv => lhs; whnf) <;> rfl)))
    (apply ow_move; (· rfl); (· ((conv => lhs; whnf) <;> rfl)))
    refine ow_rem rfl rfl rfl (by omega) (by omega) ?_
    refine ow_add rfl rfl rfl (by simp only [InK]; omega) ?_
    refine ow_conv_in rfl rfl (tyAt rfl) (tyAt rfl) rfl (by simp only [InK]; omega) ?_
    refine ow_buildSlice1 (vs := [.int _ _]) H rfl (tyAt rfl) rfl (tyAt rfl) rfl rfl rfl rfl rfl (by simp [Value.one]) (fun b w H => ?_)
    refine ow_append (i := 1) H rfl rfl (tyAt rfl) rfl (tyAt rfl) rfl (by decide) rfl rfl (H.rowSl (i := 0) rfl) rfl (by simp [Value.oneCell']) (by simp; omega) (by simp; omega) (fun p c w H => ?_)
    dsimp only [List.set] at H
    replace H := H.drop
    (apply ow_assign; (· rfl); (· ((conv => lhs; whnf) <;> rfl)))
    refine ow_nil ?_
    refine wc_region ?_
    (apply ow_move; (· rfl); (· ((conv => lhs; whnf) <;> rfl)))
    refine ow_quo rfl rfl rfl (by omega) (by omega) (by simp only [InK]; omega) ?_
    (apply ow_assign; (· rfl); (· ((conv => lhs; whnf) <;> rfl)))
    refine ow_nil ?_
    have hput : putN m = (m % 128 + 128) :: putN (m / 128) := putN_ge (by omega)
    refine ⟨(m / 128, p, acc.length + 1, c), upd_self' rfl (upd_self' rfl rfl), by repeat (first | with_reducible exact Off.mix | with_reducible exact Off.refl | ((with_reducible refine Off.upd ?_ ?_); (· rfl))), ⟨rfl, by dsimp only; omega, acc ++ [m % 128 + 128], by simp, by rw [← hacc, hput]; simp, ?_⟩, by dsimp only at h ⊢; omega⟩
    have e1 : (128 + (m : Int) % 128) = ((m % 128 + 128 : Nat) : Int) := by omega
    rw [e1] at H
    simpa [nats] using H
  · refine wc_exit ?_
    refine wc_seq ?_
    refine wc_region ?_
    (apply ow_move; (· rfl); (· ((conv => lhs; whnf) <;> rfl)))
    (apply ow_move; (· rfl); (· ((conv => lhs; whnf) <;> rfl)))
    refine ow_conv_in rfl rfl (tyAt rfl) (tyAt rfl) rfl (by simp only [InK]; omega) ?_
    refine ow_buildSlice1 (vs := [.int _ _]) H rfl (tyAt rfl) rfl (tyAt rfl) rfl rfl rfl rfl rfl (by simp [Value.one]) (fun b w H => ?_)
    refine ow_append (i := 1) H rfl rfl (tyAt rfl) rfl (tyAt rfl) rfl (by decide) rfl rfl (H.rowSl (i := 0) rfl) rfl (by simp [Value.oneCell']) (by simp; omega) (by simp; omega) (fun p c w H => ?_)
    dsimp only [List.set] at H
    replace H := H.drop
    (apply ow_assign; (· rfl); (· ((conv => lhs; whnf) <;> rfl)))
    refine ow_nil ?_
    refine wc_ret ?_
    obtain ⟨w, hT, H⟩ := H.takes Try.prog
    refine ⟨.inr rfl, w, hT, _, .tmp .nil, ?_⟩
    have hput : putN m = [m] := putN_lt (by omega)
    rw [← hacc, hput]
    exact ⟨p, c, by simp; rfl, by simpa [nats] using H⟩

/-! ### how many bytes -/
def bitlen (x : Nat) : Nat := if x = 0 then 0 else Nat.log2 x + 1
theorem bitlen_two {x : Nat} (h : x ≠ 0) : bitlen x = bitlen (x / 2) + 1 := by
  unfold bitlen
  rw [if_neg h]
  by_cases h2 : x / 2 = 0
  · have : x = 1 := by omega
    subst this; rfl
  · rw [if_neg h2, Nat.log2_def, if_pos (by omega)]
theorem bitlen_pow : ∀ (k : Nat) {x : Nat}, 2 ^ k ≤ x → bitlen x = bitlen (x / 2 ^ k) + k
  | 0, x, _ => by simp
  | k + 1, x, h => by
    have hp : 0 < 2 ^ k := Nat.two_pow_pos k
    have h1 : x ≠ 0 := by rw [Nat.pow_succ] at h; omega
    have h2 : 2 ^ k ≤ x / 2 := by rw [Nat.pow_succ] at h; omega
    rw [bitlen_two h1, bitlen_pow k h2, Nat.div_div_eq_div_mul, Nat.pow_succ, Nat.mul_comm 2]; omega
theorem bitlen_le : ∀ (k : Nat) {x : Nat}, x < 2 ^ k → bitlen x ≤ k
  | 0, x, h => by have : x = 0 := by simpa using h
                  subst this; simp [bitlen]
  | k + 1, x, h => by
    by_cases h1 : x = 0
    · subst h1; simp [bitlen]
    · rw [bitlen_two h1]
      have := bitlen_le k (x := x / 2) (by rw [Nat.pow_succ] at h; omega)
      omega
theorem bitlen_pos {x : Nat} (h : x ≠ 0) : 1 ≤ bitlen x := by unfold bitlen; rw [if_neg h]; omega
theorem putN_length : ∀ (n : Nat), (putN n).length = max (bitlen n + 6) 7 / 7 := by
  intro n
  induction n using Nat.strongRecOn with
  | _ n ih =>
    by_cases h : n < 128
    · rw [putN_lt h]
      have := bitlen_le 7 (x := n) h
      simp; omega
    · rw [putN_ge (by omega), List.length_cons, ih (n / 128) (by omega)]
      have h1 := bitlen_pow 7 (x := n) (by omega)
      have h2 := bitlen_pos (x := n / 128) (by omega)
      have h3 : (2 : Nat) ^ 7 = 128 := by decide
      rw [h3] at h1
      omega
def len8 : ByteArray := ⟨#[0, 1, 2, 2, 3, 3, 3, 3, 4, 4, 4, 4, 4, 4, 4, 4, 5, 5, 5, 5, 5, 5, 5, 5, 5, 5, 5, 5, 5, 5, 5, 5, 6, 6, 6, 6, 6, 6, 6, 6, 6, 6, 6, 6, 6, 6, 6, 6, 6, 6, 6, 6, 6, 6, 6, 6, 6, 6, 6, 6, 6, 6, 6, 6, 7, 7, 7, 7, 7, 7, 7, 7, 7, 7, 7, 7, 7, 7, 7, 7, 7, 7, 7, 7, 7, 7, 7, 7, 7, 7, 7, 7, 7, 7, 7, 7, 7, 7, 7, 7, 7, 7, 7, 7, 7, 7, 7, 7, 7, 7, 7, 7, 7, 7, 7, 7, 7, 7, 7, 7, 7, 7, 7, 7, 7, 7, 7, 7, 8, 8, 8, 8, 8, 8, 8, 8, 8, 8, 8, 8, 8, 8, 8, 8, 8, 8, 8, 8, 8, 8, 8, 8, 8, 8, 8, 8, 8, 8, 8, 8, 8, 8, 8, 8, 8, 8, 8, 8, 8, 8, 8, 8, 8, 8, 8, 8, 8, 8, 8, 8, 8, 8, 8, 8, 8, 8, 8, 8, 8, 8, 8, 8, 8, 8, 8, 8, 8, 8, 8, 8, 8, 8, 8, 8, 8, 8, 8, 8, 8, 8, 8, 8, 8, 8, 8, 8, 8, 8, 8, 8, 8, 8, 8, 8, 8, 8, 8, 8, 8, 8, 8, 8, 8, 8, 8, 8, 8, 8, 8, 8, 8, 8, 8, 8, 8, 8, 8, 8, 8, 8, 8, 8, 8, 8, 8, 8]⟩
theorem len8_at : ∀ x : Fin 256, len8[x.val]? = some (UInt8.ofNat (bitlen x.val)) := by decide +kernel
/-! ### folded numbers -/
def foldN (z : Int) : Nat := if 0 ≤ z then (2 * z).toNat else (-2 * z - 1).toNat
def unfoldZ (x : Nat) : Int := if x % 2 = 0 then (x / 2 : Nat) else -((x / 2 : Nat) : Int) - 1
theorem foldN_lt {z : Int} (h1 : -9223372036854775808 ≤ z) (h2 : z ≤ 9223372036854775807) : foldN z < 18446744073709551616 := by unfold foldN; split <;> omega
theorem unfoldZ_in {x : Nat} (hx : x < 18446744073709551616) : -9223372036854775808 ≤ unfoldZ x ∧ unfoldZ x ≤ 9223372036854775807 := by unfold unfoldZ; split <;> omega
theorem xor_ones (m x : Nat) (hx : x < 2 ^ m) : x ^^^ (2 ^ m - 1) = 2 ^ m - 1 - x := by
  have h : (BitVec.ofNat m x ^^^ BitVec.allOnes m).toNat = (~~~ (BitVec.ofNat m x)).toNat := by rw [BitVec.xor_allOnes]
  rw [BitVec.toNat_xor, BitVec.toNat_not, BitVec.toNat_ofNat, BitVec.toNat_allOnes, Nat.mod_eq_of_lt hx] at h
  exact h

theorem and1 {x : Nat} (hx : x < 18446744073709551616) : bw .and .u64 (x : Int) 1 = ((x % 2 : Nat) : Int) := by
  have := and_u64 (y := 1) hx (by decide)
  rw [Nat.and_one_is_mod] at this
  exact this
theorem xor_i64_zero {a : Nat} (ha : a < 9223372036854775808) : bw .xor .i64 (a : Int) 0 = (a : Int) := by
  have := xor_gen .i64 a 0
  rw [Nat.zero_mod, Nat.xor_zero, show IntKind.i64.bits = 64 from rfl, Nat.mod_eq_of_lt (by omega)] at this
  rw [show ((0 : Nat) : Int) = 0 from rfl] at this
  rw [this]; exact wrap_in (by simp only [InK]; omega)
theorem xor_i64_neg {a : Nat} (ha : a < 9223372036854775808) : bw .xor .i64 (a : Int) (-1) = -(a : Int) - 1 := by
  show IntKind.i64.wrap ((BitVec.ofInt 64 a ^^^ BitVec.ofInt 64 (-1)).toNat : Int) = _
  have e : BitVec.ofInt 64 (-1) = BitVec.allOnes 64 := by decide
  rw [e, BitVec.xor_allOnes, ofInt_nat, BitVec.toNat_not, BitVec.toNat_ofNat]
  simp [IntKind.wrap, IntKind.bits, IntKind.signed]
  omega
end Go.Proofs.Ytnkjhmfliinnoaa

