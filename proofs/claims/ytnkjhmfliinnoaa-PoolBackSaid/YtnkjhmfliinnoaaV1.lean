/- What varint.Put writes and varint.Get reads: functions 31 and 29 return the plain functions putN and getN's answers. -/
import Derived.Test.YtnkjhmfliinnoaaTy
namespace Go.Proofs.Ytnkjhmfliinnoaa
set_option linter.all false
open Go Go.Sx Go.Proofs
set_option maxRecDepth 100000
set_option maxHeartbeats 2000000

/-! ### numbers' bytes -/
def putN (n : Nat) : List Nat := if n < 128 then [n] else (n % 128 + 128) :: putN (n / 128)
termination_by n
decreasing_by omega
theorem putN_lt {n : Nat} (h : n < 128) : putN n = [n] := by rw [putN, if_pos h]
theorem putN_ge {n : Nat} (h : 128 ≤ n) : putN n = (n % 128 + 128) :: putN (n / 128) := by rw [putN, if_neg (by omega)]
theorem putN_len : ∀ (k n : Nat), n < 128 ^ (k + 1) → (putN n).length ≤ k + 1
  | 0, n, h => by rw [putN_lt (by omega)]; simp
  | k + 1, n, h => by
    by_cases h1 : n < 128
    · rw [putN_lt h1]; simp
    · rw [putN_ge (by omega)]
      have h2 : n / 128 < 128 ^ (k + 1) := Nat.div_lt_of_lt_mul (by rw [Nat.pow_succ, Nat.mul_comm] at h; exact h)
      have := putN_len k (n / 128) h2
      simp; omega
theorem putN_len10 {n : Nat} (h : n < 18446744073709551616) : (putN n).length ≤ 10 := by
  have h1 : (128 : Nat) ^ (9 + 1) = 1180591620717411303424 := by decide
  exact putN_len 9 n (by omega)
theorem bw_or128 : ∀ x : Fin 256, bw .or .u8 (x.val : Int) 128 = ((x.val % 128 + 128 : Nat) : Int) := by decide
theorem or128 (x : Nat) : bw .or .u8 (IntKind.u8.wrap x) 128 = ((x % 128 + 128 : Nat) : Int) := by
  rw [wrap_u8]
  have := bw_or128 ⟨x % 256, by omega⟩
  simp only at this
  rw [this]; congr 1; omega
theorem shr7 (x : Nat) : (x : Int).fdiv (2 ^ min (7 : Int).toNat IntKind.u64.bits) = ((x / 128 : Nat) : Int) := shr_nat x 7 64 (by decide)

theorem put_spec (x : Nat) (hx : x < 18446744073709551616) (w0 : World) :
    CallsV Try.prog 119 #[.int .u64 x] w0 fun v w => ∃ p cap, v = .slice p (putN x).length cap ∧ St Pu w0 w [.app p (putN x).length cap 5 1 (nats .u8 (putN x))] [] := by
  refine callsV_of Try.func119 rfl rfl ?_
  have H := (St.init w0).nilApp 5 1
  have h10 := putN_len10 hx
  refine wc_seq ?_
  refine wc_region ?_
  (apply ow_assign; (· rfl); (· ((conv => lhs; whnf) <;> rfl)))
  refine ow_nil ?_
  refine wc_seq ?_
  refine wc_region ?_
  (apply ow_assign; (· rfl); (· ((conv => lhs; whnf) <;> rfl)))
  refine ow_nil ?_
  refine wc_seq ?_
  refine wc_block ?_
  refine wc_loopS [0, 3, 4, 5, 6, 7, 8, 9, 10, 11, 12, 13] (fun (s : Nat × Option Addr × Nat × Nat) e => upd (upd e 0 (.int .u64 s.1)) 3 (.slice s.2.1 s.2.2.1 s.2.2.2))
    (fun s D w => D = [] ∧ s.1 < 18446744073709551616 ∧ ∃ acc, s.2.2.1 = acc.length ∧ acc ++ putN s.1 = putN x ∧ St Pu w0 w [.app s.2.1 s.2.2.1 s.2.2.2 5 1 (nats .u8 acc)] []) (fun s _ => s.1) (x, none, 0, 0) (by first | exact rfl | exact upd_self' rfl rfl | exact upd_self' rfl (upd_self' rfl rfl) | exact upd_self' rfl (upd_self' rfl (upd_self' rfl rfl)) | exact upd_self' rfl (upd_self' rfl (upd_self' rfl (upd_self' rfl rfl)))) ⟨rfl, hx, [], rfl, rfl, H⟩ ?_
  rintro ⟨m, p, l, c⟩ j D w ⟨rfl, hm, acc, rfl, hacc, H⟩
  dsimp only at hm hacc H
  have hlen : acc.length ≤ 10 := by have := congrArg List.length hacc; simp at this; omega
  refine wc_seq ?_
  refine wc_seq ?_
  refine wc_region ?_
  (apply ow_move; (· rfl); (· ((conv => lhs; whnf) <;> rfl)))
  refine ow_geq rfl rfl rfl ?_
  refine ow_nil ?_
  refine wc_cond_dec rfl (fun h => ?_) (fun h => ?_) <;> try dsimp only at h
  · refine wc_skip ?_
    refine wc_block ?_
    refine wc_seq ?_
    refine wc_region ?_
    (apply ow_move; (· rfl); (· ((conv => lhs; whnf) <;> rfl)))
    (apply ow_move; (· rfl); (· ((conv => lhs; whnf) <;> rfl)))
    refine ow_conv rfl rfl (tyAt rfl) (tyAt rfl) rfl ?_
    refine ow_or rfl rfl rfl ?_
    refine ow_buildSlice1 (vs := [.int _ _]) H rfl (tyAt rfl) rfl (tyAt rfl) rfl rfl rfl rfl rfl (by simp [Value.one]) (fun b w H => ?_)
    refine ow_append (i := 1) H rfl rfl (tyAt rfl) rfl (tyAt rfl) rfl (by decide) rfl rfl (H.rowSl (i := 0) rfl) rfl (by simp [Value.oneCell']) (by simp; omega) (by simp; omega) (fun p c w H => ?_)
    dsimp only [List.set] at H
    replace H := H.drop
    (apply ow_assign; (· rfl); (· ((conv => lhs; whnf) <;> rfl)))
    refine ow_nil ?_
    refine wc_region ?_
    (apply ow_move; (· rfl); (· ((conv => lhs; whnf) <;> rfl)))
    refine ow_shr rfl rfl rfl (by omega) ?_
    (apply ow_assign; (· rfl); (· ((conv => lhs; whnf) <;> rfl)))
    refine ow_nil ?_
    have hput : putN m = (m % 128 + 128) :: putN (m / 128) := putN_ge (by omega)
    refine ⟨(m / 128, p, acc.length + 1, c), upd_self' rfl (upd_self' (congrArg (Value.int .u64) (shr7 m)) rfl), by repeat (first | with_reducible exact Off.mix | with_reducible exact Off.refl | ((with_reducible refine Off.upd ?_ ?_); (· rfl))), ⟨rfl, by dsimp only; omega, acc ++ [m % 128 + 128], by simp, by rw [← hacc, hput]; simp, ?_⟩, by dsimp only at h ⊢; omega⟩
    rw [or128] at H; simpa [nats] using H
  · refine wc_exit ?_
    refine wc_seq ?_
    refine wc_region ?_
    (apply ow_move; (· rfl); (· ((conv => lhs; whnf) <;> rfl)))
    (apply ow_move; (· rfl); (· ((conv => lhs; whnf) <;> rfl)))
    refine ow_conv_in rfl rfl (tyAt rfl) (tyAt rfl) rfl (by simp only [InK]; omega) ?_
    refine ow_buildSlice1 (vs := [.int _ _]) H rfl (tyAt rfl) rfl (tyAt rfl) rfl rfl rfl rfl rfl (by simp [Value.one]) (fun b w H => ?_)
    refine ow_append (i := 1) H rfl rfl (tyAt rfl) rfl (tyAt rfl) rfl (by decide) rfl rfl (H.rowSl (i := 0) rfl) rfl (by simp [Value.oneCell']) (by simp; omega) (by simp; omega) (fun p c w H => ?_)
    dsimp only [List.set] at H
    replace H := H.drop
    (apply ow_assign; (· rfl); (· ((conv => lhs; whnf) <;> rfl)))
    refine ow_nil ?_
    refine wc_ret ?_
    obtain ⟨w, hT, H⟩ := H.takes Try.prog
    refine ⟨.inr rfl, w, hT, _, .tmp .nil, ?_⟩
    have hput : putN m = [m] := putN_lt (by omega)
    rw [← hacc, hput]
    exact ⟨p, c, by simp; rfl, by simpa [nats] using H⟩

/-! ### the number at the beginning of bytes -/
def getR : Nat → Nat → List Nat → Nat × Nat × Nat
  | _, _, [] => (0, 0, 20)
  | i, acc, c :: r => if i = 9 ∧ 1 < c then (0, 0, 23) else if 128 ≤ c then getR (i + 1) (acc + c % 128 * 128 ^ i) r else if c = 0 ∧ 0 < i then (0, 0, 21) else (acc + c * 128 ^ i, i + 1, 0)
def getN (bs : List Nat) : Nat × Nat × Nat := getR 0 0 bs
def getV (x : Nat × Nat × Nat) : Value := .tuple #[.int .u64 x.1, .int .i64 x.2.1, .int .i64 x.2.2]
theorem pow128 (i : Nat) : 128 ^ i = 2 ^ (7 * i) := by rw [Nat.pow_mul]
theorem or_add {acc c i : Nat} (h : acc < 128 ^ i) : acc ||| c * 128 ^ i = acc + c * 128 ^ i := by
  rw [pow128] at h ⊢
  rw [Nat.or_comm, ← Nat.shiftLeft_eq, ← Nat.shiftLeft_add_eq_or_of_lt h, Nat.add_comm]
theorem pow128_le {i : Nat} (h : i ≤ 9) : 128 ^ i ≤ 9223372036854775808 := by
  have := Nat.pow_le_pow_right (n := 128) (by decide) h; simpa using this
theorem drop_at {bs : List Nat} {i : Nat} (h : i < bs.length) : bs.drop i = bs.getD i 0 :: bs.drop (i + 1) := by
  rw [List.drop_eq_getElem_cons h, List.getD, List.getElem?_eq_getElem h]; rfl
theorem getD_lt {bs : List Nat} {m i : Nat} (hb : ∀ c ∈ bs, c < m) (h : i < bs.length) : bs.getD i 0 < m := by
  rw [List.getD, List.getElem?_eq_getElem h]; exact hb _ (List.getElem_mem h)
theorem and127 : ∀ x : Fin 256, bw .and .u8 (x.val : Int) 127 = ((x.val % 128 : Nat) : Int) := by decide
theorem and127' {x : Nat} (h : x < 256) : bw .and .u8 (x : Int) 127 = ((x % 128 : Nat) : Int) := and127 ⟨x, h⟩

/-- the bits' way. -/
theorem or_step {acc c i : Nat} (hi : i ≤ 9) (hacc : acc < 128 ^ i) (hc : c < 128) (h9 : i = 9 → c ≤ 1) :
    bw .or .u64 acc (IntKind.u64.wrap ((c : Int) * 2 ^ min (7 * (i : Int)).toNat IntKind.u64.bits)) = ((acc + c * 128 ^ i : Nat) : Int) := by
  have hp := pow128_le hi
  have h7 : (7 * (i : Int)) = ((7 * i : Nat) : Int) := by omega
  have hlt : c * 128 ^ i < 18446744073709551616 := by
    by_cases h : i = 9
    · subst h; have := h9 rfl
      calc c * 128 ^ 9 ≤ 1 * 128 ^ 9 := Nat.mul_le_mul_right _ this
        _ < 18446744073709551616 := by decide
    · have h8 : (128 : Nat) ^ i ≤ 128 ^ 8 := Nat.pow_le_pow_right (by decide) (by omega)
      calc c * 128 ^ i ≤ 128 * 128 ^ 8 := Nat.mul_le_mul (by omega) h8
        _ < 18446744073709551616 := by decide
  rw [h7, shl_u64 (by omega), ← pow128, Nat.mod_eq_of_lt hlt, or_u64 (by omega) hlt, or_add hacc]

theorem get_spec (p : Option Addr) (cap : Nat) (bs : List Nat) (hb : ∀ c ∈ bs, c < 256) (w0 : World) (hs : SlH (hp w0) p (nats .u8 bs)) (hlen : bs.length ≤ 1000000) :
    CallsV Try.prog 169 #[.slice p bs.length cap] w0 fun v w => v = getV (getN bs) ∧ w = w0 := by
  refine callsV_of Try.func169 rfl rfl ?_
  refine wc_seq ?_
  refine wc_region ?_
  (apply ow_assign; (· rfl); (· ((conv => lhs; whnf) <;> rfl)))
  (apply ow_assign; (· rfl); (· ((conv => lhs; whnf) <;> rfl)))
  (apply ow_assign; (· rfl); (· ((conv => lhs; whnf) <;> rfl)))
  refine ow_nil ?_
  refine wc_seq ?_
  refine wc_seq ?_
  refine wc_region ?_
  (apply ow_move; (· rfl); (· ((conv => lhs; whnf) <;> rfl)))
  refine ow_len rfl rfl (tyAt rfl) rfl ?_
  (apply ow_move; (· rfl); (· ((conv => lhs; whnf) <;> rfl)))
  refine ow_nil ?_
  refine wc_block ?_
  refine wc_loopS [2, 3, 4, 5, 6, 9, 10, 11, 12, 13, 14, 15, 16, 17, 18, 19, 20, 21, 22, 23, 24, 25, 26, 27, 28, 29, 30, 31, 32, 33, 34, 35, 36, 37, 38, 39, 40, 41, 42, 43, 44, 45, 46, 47, 48]
    (fun (s : Nat × Nat) e => upd (upd e 2 (.int .u64 s.1)) 9 (.int .i64 s.2))
    (fun s D w => D = [] ∧ w = w0 ∧ s.2 ≤ bs.length ∧ s.1 < 128 ^ s.2 ∧ s.2 ≤ 9 ∧ getR s.2 s.1 (bs.drop s.2) = getN bs) (fun s _ => bs.length - s.2) (0, 0) (by first | exact rfl | exact upd_self' rfl rfl | exact upd_self' rfl (upd_self' rfl rfl) | exact upd_self' rfl (upd_self' rfl (upd_self' rfl rfl)) | exact upd_self' rfl (upd_self' rfl (upd_self' rfl (upd_self' rfl rfl)))) ⟨rfl, rfl, Nat.zero_le _, by simp, by simp, rfl⟩ ?_
  rintro ⟨acc, i⟩ j D w ⟨rfl, rfl, hi, hacc, h9, hg⟩
  dsimp only at hi hacc h9 hg
  refine wc_seq ?_
  refine wc_region ?_
  refine ow_lss rfl rfl rfl ?_
  refine ow_nil ?_
  refine wc_seq ?_
  refine wc_cond_dec rfl (fun h => ?_) (fun h => ?_) <;> try dsimp only at h
  · have hlt : i < bs.length := by omega
    have hc := getD_lt hb hlt
    have hcell := hs.some_of (by simp; omega)
    obtain ⟨b, o, rfl⟩ := hcell
    have hload := hs.nat hlt
    rw [drop_at hlt] at hg
    simp only [getR] at hg
    obtain ⟨c, hcd⟩ : ∃ c, bs.getD i 0 = c := ⟨_, rfl⟩
    rw [hcd] at hg hc hload
    refine wc_skip ?_
    refine wc_seq ?_
    refine wc_block ?_
    refine wc_seq ?_
    refine wc_region ?_
    (apply ow_move; (· rfl); (· ((conv => lhs; whnf) <;> rfl)))
    refine ow_idx1 (j := i) rfl (tyAt rfl) rfl (tyAt rfl) rfl rfl (by first | rfl | omega) (by omega) rfl ?_
    refine ow_load rfl (tyAt rfl) rfl rfl (hload) ?_
    (apply ow_assign; (· rfl); (· ((conv => lhs; whnf) <;> rfl)))
    (apply ow_assign; (· rfl); (· ((conv => lhs; whnf) <;> rfl)))
    refine ow_nil ?_
    refine wc_seq ?_
    refine wc_block ?_
    refine wc_seq ?_
    refine wc_region ?_
    (apply ow_move; (· rfl); (· ((conv => lhs; whnf) <;> rfl)))
    refine ow_eql rfl rfl rfl ?_
    (apply ow_move; (· rfl); (· ((conv => lhs; whnf) <;> rfl)))
    refine ow_guard_dec rfl rfl rfl (fun h => ?_) (fun h => ?_) <;> try dsimp only at h
    · refine ow_guard_yes rfl rfl rfl rfl ?_
      (apply ow_move; (· rfl); (· ((conv => lhs; whnf) <;> rfl)))
      refine ow_guard_yes rfl rfl rfl rfl ?_
      refine ow_gtr rfl rfl rfl ?_
      (apply ow_pick_t; (· rfl); (· rfl); (· ((conv => lhs; whnf) <;> rfl)))
      (apply ow_assign; (· rfl); (· ((conv => lhs; whnf) <;> rfl)))
      refine ow_nil ?_
      refine wc_cond_dec rfl (fun h => ?_) (fun h => ?_) <;> try dsimp only at h
      · refine wc_seq ?_
        refine wc_region ?_
        (apply ow_assign; (· rfl); (· ((conv => lhs; whnf) <;> rfl)))
        (apply ow_assign; (· rfl); (· ((conv => lhs; whnf) <;> rfl)))
        (apply ow_assign; (· rfl); (· ((conv => lhs; whnf) <;> rfl)))
        refine ow_nil ?_
        refine wc_ret ⟨.inr rfl, _, rfl, _, .tmp (.tmp (.tmp .nil)), ?_⟩
        rw [if_pos (by omega)] at hg
        rw [← hg]; exact ⟨rfl, rfl⟩
      · rw [if_neg (by omega)] at hg
        refine wc_seq ?_
        refine wc_region ?_
        (apply ow_move; (· rfl); (· ((conv => lhs; whnf) <;> rfl)))
        refine ow_geq rfl rfl rfl ?_
        (apply ow_assign; (· rfl); (· ((conv => lhs; whnf) <;> rfl)))
        refine ow_nil ?_
        refine wc_cond_dec rfl (fun h => ?_) (fun h => ?_) <;> try dsimp only at h
        · refine wc_seq ?_
          refine wc_region ?_
          (apply ow_move; (· rfl); (· ((conv => lhs; whnf) <;> rfl)))
          (apply ow_move; (· rfl); (· ((conv => lhs; whnf) <;> rfl)))
          refine ow_and rfl rfl rfl ?_
          refine ow_conv_in rfl rfl (tyAt rfl) (tyAt rfl) rfl (by simp only [InK]; omega) ?_
          (apply ow_move; (· rfl); (· ((conv => lhs; whnf) <;> rfl)))
          refine ow_mul rfl rfl rfl (by simp only [InK]; omega) ?_
          refine ow_shl rfl rfl rfl (by omega) ?_
          refine ow_or rfl rfl rfl ?_
          (apply ow_assign; (· rfl); (· ((conv => lhs; whnf) <;> rfl)))
          refine ow_nil ?_
          refine wc_exit ?_
          refine wc_region ?_
          refine ow_add rfl rfl rfl (by simp only [InK]; omega) ?_
          (apply ow_move; (· rfl); (· ((conv => lhs; whnf) <;> rfl)))
          refine ow_nil ?_
          rw [if_pos (by omega)] at hg
          refine ⟨(acc + c % 128 * 128 ^ i, i + 1), upd_self' rfl (upd_self' (congrArg (Value.int .u64) ?_) rfl), by repeat (first | with_reducible exact Off.mix | with_reducible exact Off.refl | ((with_reducible refine Off.upd ?_ ?_); (· rfl))), ⟨rfl, rfl, by dsimp only; omega, ?_, by dsimp only; omega, hg⟩, by dsimp only; omega⟩
          · dsimp only; rw [and127' hc]; try rw [wrap_in (k := .u64) (z := ((c % 128 : Nat) : Int)) (by simp only [InK]; omega)]
            with_reducible exact or_step (c := c % 128) h9 hacc (by omega) (by omega)
          · dsimp only
            have : c % 128 * 128 ^ i ≤ 127 * 128 ^ i := Nat.mul_le_mul_right _ (by omega)
            rw [Nat.pow_succ]; omega
        · rw [if_neg (by omega)] at hg
          refine wc_seq ?_
          refine wc_region ?_
          (apply ow_move; (· rfl); (· ((conv => lhs; whnf) <;> rfl)))
          refine ow_eql rfl rfl rfl ?_
          (apply ow_move; (· rfl); (· ((conv => lhs; whnf) <;> rfl)))
          refine ow_guard_dec rfl rfl rfl (fun h => ?_) (fun h => ?_) <;> try dsimp only at h
          · refine ow_guard_yes rfl rfl rfl rfl ?_
            (apply ow_move; (· rfl); (· ((conv => lhs; whnf) <;> rfl)))
            refine ow_guard_yes rfl rfl rfl rfl ?_
            refine ow_gtr rfl rfl rfl ?_
            (apply ow_pick_t; (· rfl); (· rfl); (· ((conv => lhs; whnf) <;> rfl)))
            (apply ow_assign; (· rfl); (· ((conv => lhs; whnf) <;> rfl)))
            refine ow_nil ?_
            refine wc_cond_dec rfl (fun h => ?_) (fun h => ?_) <;> try dsimp only at h
            · rw [if_pos (by omega)] at hg
              refine wc_seq ?_
              refine wc_region ?_
              (apply ow_assign; (· rfl); (· ((conv => lhs; whnf) <;> rfl)))
              (apply ow_assign; (· rfl); (· ((conv => lhs; whnf) <;> rfl)))
              (apply ow_assign; (· rfl); (· ((conv => lhs; whnf) <;> rfl)))
              refine ow_nil ?_
              refine wc_ret ⟨.inr rfl, _, rfl, _, .tmp (.tmp (.tmp .nil)), ?_⟩
              rw [← hg]; exact ⟨rfl, rfl⟩
            · rw [if_neg (by omega)] at hg
              refine wc_skip ?_
              refine wc_seq ?_
              refine wc_region ?_
              (apply ow_move; (· rfl); (· ((conv => lhs; whnf) <;> rfl)))
              (apply ow_move; (· rfl); (· ((conv => lhs; whnf) <;> rfl)))
              refine ow_conv_in rfl rfl (tyAt rfl) (tyAt rfl) rfl (by simp only [InK]; omega) ?_
              (apply ow_move; (· rfl); (· ((conv => lhs; whnf) <;> rfl)))
              refine ow_mul rfl rfl rfl (by simp only [InK]; omega) ?_
              refine ow_shl rfl rfl rfl (by omega) ?_
              refine ow_or rfl rfl rfl ?_
              (apply ow_move; (· rfl); (· ((conv => lhs; whnf) <;> rfl)))
              refine ow_add rfl rfl rfl (by simp only [InK]; omega) ?_
              (apply ow_assign; (· rfl); (· ((conv => lhs; whnf) <;> rfl)))
              (apply ow_assign; (· rfl); (· ((conv => lhs; whnf) <;> rfl)))
              (apply ow_assign; (· rfl); (· ((conv => lhs; whnf) <;> rfl)))
              refine ow_nil ?_
              refine wc_ret ⟨.inr rfl, _, rfl, _, .tmp (.tmp (.tmp .nil)), ?_⟩
              rw [← hg]
              have hor := or_step (c := c) h9 hacc (by omega) (by omega)
              refine ⟨?_, rfl⟩
              simp only [getV, ← hor]
              try rw [wrap_in (k := .u64) (z := ((c : Nat) : Int)) (by simp only [InK]; omega)]
              rfl
          · rw [if_neg (by omega)] at hg
            refine ow_guard_no rfl rfl rfl rfl rfl rfl rfl ?_
            refine ow_guard_no rfl rfl rfl rfl rfl rfl rfl ?_
            (apply ow_pick_f; (· rfl); (· rfl); (· ((conv => lhs; whnf) <;> rfl)))
            (apply ow_assign; (· rfl); (· ((conv => lhs; whnf) <;> rfl)))
            refine ow_nil ?_
            refine wc_cond_false rfl ?_
            refine wc_skip ?_
            refine wc_seq ?_
            refine wc_region ?_
            (apply ow_move; (· rfl); (· ((conv => lhs; whnf) <;> rfl)))
            (apply ow_move; (· rfl); (· ((conv => lhs; whnf) <;> rfl)))
            refine ow_conv_in rfl rfl (tyAt rfl) (tyAt rfl) rfl (by simp only [InK]; omega) ?_
            (apply ow_move; (· rfl); (· ((conv => lhs; whnf) <;> rfl)))
            refine ow_mul rfl rfl rfl (by simp only [InK]; omega) ?_
            refine ow_shl rfl rfl rfl (by omega) ?_
            refine ow_or rfl rfl rfl ?_
            (apply ow_move; (· rfl); (· ((conv => lhs; whnf) <;> rfl)))
            refine ow_add rfl rfl rfl (by simp only [InK]; omega) ?_
            (apply ow_assign; (· rfl); (· ((conv => lhs; whnf) <;> rfl)))
            (apply ow_assign; (· rfl); (· ((conv => lhs; whnf) <;> rfl)))
            (apply ow_assign; (· rfl); (· ((conv => lhs; whnf) <;> rfl)))
            refine ow_nil ?_
            refine wc_ret ⟨.inr rfl, _, rfl, _, .tmp (.tmp (.tmp .nil)), ?_⟩
            rw [← hg]
            have hor := or_step (c := c) h9 hacc (by omega) (by omega)
            refine ⟨?_, rfl⟩
            simp only [getV, ← hor]
            try rw [wrap_in (k := .u64) (z := ((c : Nat) : Int)) (by simp only [InK]; omega)]
            rfl
    · rw [if_neg (by omega)] at hg
      refine ow_guard_no rfl rfl rfl rfl rfl rfl rfl ?_
      refine ow_guard_no rfl rfl rfl rfl rfl rfl rfl ?_
      (apply ow_pick_f; (· rfl); (· rfl); (· ((conv => lhs; whnf) <;> rfl)))
      (apply ow_assign; (· rfl); (· ((conv => lhs; whnf) <;> rfl)))
      refine ow_nil ?_
      refine wc_cond_false rfl ?_
      refine wc_seq ?_
      refine wc_region ?_
      (apply ow_move; (· rfl); (· ((conv => lhs; whnf) <;> rfl)))
      refine ow_geq rfl rfl rfl ?_
      (apply ow_assign; (· rfl); (· ((conv => lhs; whnf) <;> rfl)))
      refine ow_nil ?_
      refine wc_cond_dec rfl (fun h => ?_) (fun h => ?_) <;> try dsimp only at h
      · refine wc_seq ?_
        refine wc_region ?_
        (apply ow_move; (· rfl); (· ((conv => lhs; whnf) <;> rfl)))
        (apply ow_move; (· rfl); (· ((conv => lhs; whnf) <;> rfl)))
        refine ow_and rfl rfl rfl ?_
        refine ow_conv rfl rfl (tyAt rfl) (tyAt rfl) rfl ?_
        (apply ow_move; (· rfl); (· ((conv => lhs; whnf) <;> rfl)))
        refine ow_mul rfl rfl rfl (by simp only [InK]; omega) ?_
        refine ow_shl rfl rfl rfl (by omega) ?_
        refine ow_or rfl rfl rfl ?_
        (apply ow_assign; (· rfl); (· ((conv => lhs; whnf) <;> rfl)))
        refine ow_nil ?_
        refine wc_exit ?_
        refine wc_region ?_
        refine ow_add rfl rfl rfl (by simp only [InK]; omega) ?_
        (apply ow_move; (· rfl); (· ((conv => lhs; whnf) <;> rfl)))
        refine ow_nil ?_
        rw [if_pos (by omega)] at hg
        refine ⟨(acc + c % 128 * 128 ^ i, i + 1), upd_self' rfl (upd_self' (congrArg (Value.int .u64) ?_) rfl), by repeat (first | with_reducible exact Off.mix | with_reducible exact Off.refl | ((with_reducible refine Off.upd ?_ ?_); (· rfl))), ⟨rfl, rfl, by dsimp only; omega, ?_, by dsimp only; omega, hg⟩, by dsimp only; omega⟩
        · dsimp only; rw [and127' hc]; try rw [wrap_in (k := .u64) (z := ((c % 128 : Nat) : Int)) (by simp only [InK]; omega)]
          with_reducible exact or_step (c := c % 128) h9 hacc (by omega) (by omega)
        · dsimp only
          have : c % 128 * 128 ^ i ≤ 127 * 128 ^ i := Nat.mul_le_mul_right _ (by omega)
          rw [Nat.pow_succ]; omega
      · rw [if_neg (by omega)] at hg
        refine wc_seq ?_
        refine wc_region ?_
        (apply ow_move; (· rfl); (· ((conv => lhs; whnf) <;> rfl)))
        refine ow_eql rfl rfl rfl ?_
        (apply ow_move; (· rfl); (· ((conv => lhs; whnf) <;> rfl)))
        refine ow_guard_dec rfl rfl rfl (fun h => ?_) (fun h => ?_) <;> try dsimp only at h
        · refine ow_guard_yes rfl rfl rfl rfl ?_
          (apply ow_move; (· rfl); (· ((conv => lhs; whnf) <;> rfl)))
          refine ow_guard_yes rfl rfl rfl rfl ?_
          refine ow_gtr rfl rfl rfl ?_
          (apply ow_pick_t; (· rfl); (· rfl); (· ((conv => lhs; whnf) <;> rfl)))
          (apply ow_assign; (· rfl); (· ((conv => lhs; whnf) <;> rfl)))
          refine ow_nil ?_
          refine wc_cond_dec rfl (fun h => ?_) (fun h => ?_) <;> try dsimp only at h
          · rw [if_pos (by omega)] at hg
            refine wc_seq ?_
            refine wc_region ?_
            (apply ow_assign; (· rfl); (· ((conv => lhs; whnf) <;> rfl)))
            (apply ow_assign; (· rfl); (· ((conv => lhs; whnf) <;> rfl)))
            (apply ow_assign; (· rfl); (· ((conv => lhs; whnf) <;> rfl)))
            refine ow_nil ?_
            refine wc_ret ⟨.inr rfl, _, rfl, _, .tmp (.tmp (.tmp .nil)), ?_⟩
            rw [← hg]; exact ⟨rfl, rfl⟩
          · rw [if_neg (by omega)] at hg
            refine wc_skip ?_
            refine wc_seq ?_
            refine wc_region ?_
            (apply ow_move; (· rfl); (· ((conv => lhs; whnf) <;> rfl)))
            (apply ow_move; (· rfl); (· ((conv => lhs; whnf) <;> rfl)))
            refine ow_conv_in rfl rfl (tyAt rfl) (tyAt rfl) rfl (by simp only [InK]; omega) ?_
            (apply ow_move; (· rfl); (· ((conv => lhs; whnf) <;> rfl)))
            refine ow_mul rfl rfl rfl (by simp only [InK]; omega) ?_
            refine ow_shl rfl rfl rfl (by omega) ?_
            refine ow_or rfl rfl rfl ?_
            (apply ow_move; (· rfl); (· ((conv => lhs; whnf) <;> rfl)))
            refine ow_add rfl rfl rfl (by simp only [InK]; omega) ?_
            (apply ow_assign; (· rfl); (· ((conv => lhs; whnf) <;> rfl)))
            (apply ow_assign; (· rfl); (· ((conv => lhs; whnf) <;> rfl)))
            (apply ow_assign; (· rfl); (· ((conv => lhs; whnf) <;> rfl)))
            refine ow_nil ?_
            refine wc_ret ⟨.inr rfl, _, rfl, _, .tmp (.tmp (.tmp .nil)), ?_⟩
            rw [← hg]
            have hor := or_step (c := c) h9 hacc (by omega) (by omega)
            refine ⟨?_, rfl⟩
            simp only [getV, ← hor]
            try rw [wrap_in (k := .u64) (z := ((c : Nat) : Int)) (by simp only [InK]; omega)]
            rfl
        · rw [if_neg (by omega)] at hg
          refine ow_guard_no rfl rfl rfl rfl rfl rfl rfl ?_
          refine ow_guard_no rfl rfl rfl rfl rfl rfl rfl ?_
          (apply ow_pick_f; (· rfl); (· rfl); (· ((conv => lhs; whnf) <;> rfl)))
          (apply ow_assign; (· rfl); (· ((conv => lhs; whnf) <;> rfl)))
          refine ow_nil ?_
          refine wc_cond_false rfl ?_
          refine wc_skip ?_
          refine wc_seq ?_
          refine wc_region ?_
          (apply ow_move; (· rfl); (· ((conv => lhs; whnf) <;> rfl)))
          (apply ow_move; (· rfl); (· ((conv => lhs; whnf) <;> rfl)))
          refine ow_conv_in rfl rfl (tyAt rfl) (tyAt rfl) rfl (by simp only [InK]; omega) ?_
          (apply ow_move; (· rfl); (· ((conv => lhs; whnf) <;> rfl)))
          refine ow_mul rfl rfl rfl (by simp only [InK]; omega) ?_
          refine ow_shl rfl rfl rfl (by omega) ?_
          refine ow_or rfl rfl rfl ?_
          (apply ow_move; (· rfl); (· ((conv => lhs; whnf) <;> rfl)))
          refine ow_add rfl rfl rfl (by simp only [InK]; omega) ?_
          (apply ow_assign; (· rfl); (· ((conv => lhs; whnf) <;> rfl)))
          (apply ow_assign; (· rfl); (· ((conv => lhs; whnf) <;> rfl)))
          (apply ow_assign; (· rfl); (· ((conv => lhs; whnf) <;> rfl)))
          refine ow_nil ?_
          refine wc_ret ⟨.inr rfl, _, rfl, _, .tmp (.tmp (.tmp .nil)), ?_⟩
          rw [← hg]
          have hor := or_step (c := c) h9 hacc (by omega) (by omega)
          refine ⟨?_, rfl⟩
          simp only [getV, ← hor]
          try rw [wrap_in (k := .u64) (z := ((c : Nat) : Int)) (by simp only [InK]; omega)]
          rfl
  · refine wc_exit ?_
    refine wc_seq ?_
    refine wc_region ?_
    (apply ow_assign; (· rfl); (· ((conv => lhs; whnf) <;> rfl)))
    (apply ow_assign; (· rfl); (· ((conv => lhs; whnf) <;> rfl)))
    (apply ow_assign; (· rfl); (· ((conv => lhs; whnf) <;> rfl)))
    refine ow_nil ?_
    refine wc_ret ⟨.inr rfl, _, rfl, _, .tmp (.tmp (.tmp .nil)), ?_⟩
    have : i = bs.length := by omega
    subst this
    have h0 : bs.drop bs.length = [] := by simp
    rw [← hg, h0]; exact ⟨rfl, rfl⟩
end Go.Proofs.Ytnkjhmfliinnoaa

