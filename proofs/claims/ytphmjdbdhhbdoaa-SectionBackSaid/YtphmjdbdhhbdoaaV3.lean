/- What the law's own Get and Held return: functions 30 and 42. -/
import Derived.Test.YtphmjdbdhhbdoaaV2
namespace Go.Proofs.Ytphmjdbdhhbdoaa
set_option linter.all false
open Go Go.Sx Go.Proofs
set_option maxRecDepth 100000
set_option maxHeartbeats 2000000

theorem pow_step {c i : Nat} (hi : i ≤ 9) (h9 : i = 9 → c ≤ 1) : c % 128 * 128 ^ i ≤ 9223372036854775808 := by
  by_cases h : i = 9
  · subst h; have := h9 rfl
    have h2 : c % 128 ≤ 1 := by omega
    calc c % 128 * 128 ^ 9 ≤ 1 * 128 ^ 9 := Nat.mul_le_mul_right _ h2
      _ ≤ 9223372036854775808 := by decide
  · have h8 : (128 : Nat) ^ i ≤ 128 ^ 8 := Nat.pow_le_pow_right (by decide) (by omega)
    calc c % 128 * 128 ^ i ≤ 127 * 128 ^ 8 := Nat.mul_le_mul (by omega) h8
      _ ≤ 9223372036854775808 := by decide

theorem refGet_spec (p : Option Addr) (cap : Nat) (bs : List Nat) (hb : ∀ c ∈ bs, c < 256) (w0 : World) (hs : SlH (hp w0) p (nats .u8 bs)) (hlen : bs.length ≤ 1000000) :
    CallsV Try.prog 30 #[.slice p bs.length cap] w0 fun v w => v = getV (getN bs) ∧ w = w0 := by
  refine callsV_of Try.func30 rfl rfl ?_
  have hbs := hb
  clear hb
  refine wc_seq ?_
  refine wc_region ?_
  (apply ow_assign; (· rfl); (· ((conv => lhs; whnf) <;> rfl)))
  (apply ow_assign; (· rfl); (· ((conv => lhs; whnf) <;> rfl)))
  (apply ow_assign; (· rfl); (· ((conv => lhs; whnf) <;> rfl)))
  refine ow_nil ?_
  refine wc_seq ?_
  refine wc_region ?_
  (apply ow_assign; (· rfl); (· ((conv => lhs; whnf) <;> rfl)))
  refine ow_nil ?_
  refine wc_seq ?_
  refine wc_region ?_
  (apply ow_assign; (· rfl); (· ((conv => lhs; whnf) <;> rfl)))
  refine ow_nil ?_
  refine wc_seq ?_
  refine wc_seq ?_
  refine wc_region ?_
  (apply ow_assign; (· rfl); (· ((conv => lhs; whnf) <;> rfl)))
  refine ow_nil ?_
  refine wc_block ?_
  refine wc_loopS [2, 3, 4, 5, 6, 7, 8, 9, 10, 11, 12, 13, 14, 15, 16, 17, 18, 19, 20, 21, 22, 23, 24, 25, 26, 27, 28, 29, 30, 31, 32, 33, 34, 35, 36, 37, 38, 39, 40, 41, 42, 43, 44]
    (fun (s : Nat × Nat × Nat) e => upd (upd (upd e 5 (.int .u64 s.1)) 6 (.int .u64 s.2.1)) 7 (.int .i64 s.2.2))
    (fun s D w => D = [] ∧ w = w0 ∧ s.2.2 ≤ bs.length ∧ s.2.1 = 128 ^ s.2.2 ∧ s.1 < 128 ^ s.2.2 ∧ s.2.2 ≤ 9 ∧ getR s.2.2 s.1 (bs.drop s.2.2) = getN bs) (fun s _ => bs.length - s.2.2) (0, 1, 0) (by first | exact rfl | exact upd_self' rfl rfl | exact upd_self' rfl (upd_self' rfl rfl) | exact upd_self' rfl (upd_self' rfl (upd_self' rfl rfl)) | exact upd_self' rfl (upd_self' rfl (upd_self' rfl (upd_self' rfl rfl)))) ⟨rfl, rfl, Nat.zero_le _, rfl, by simp, by simp, rfl⟩ ?_
  rintro ⟨acc, b, i⟩ j D w ⟨rfl, rfl, hi, hb, hacc, h9, hg⟩
  dsimp only at hi hb hacc h9 hg
  refine wc_seq ?_
  refine wc_seq ?_
  refine wc_region ?_
  (apply ow_move; (· rfl); (· ((conv => lhs; whnf) <;> rfl)))
  (apply ow_move; (· rfl); (· ((conv => lhs; whnf) <;> rfl)))
  refine ow_len rfl rfl (tyAt rfl) rfl ?_
  refine ow_lss rfl rfl rfl ?_
  refine ow_nil ?_
  refine wc_cond_dec rfl (fun h => ?_) (fun h => ?_) <;> try dsimp only at h
  · have hlt : i < bs.length := by omega
    have hc := getD_lt hbs hlt
    obtain ⟨bb, o, rfl⟩ := hs.some_of (by simp; omega)
    have hload := hs.nat hlt
    rw [drop_at hlt] at hg
    simp only [getR] at hg
    obtain ⟨c, hcd⟩ : ∃ c, bs.getD i 0 = c := ⟨_, rfl⟩
    rw [hcd] at hg hc hload
    refine wc_skip ?_
    refine wc_seq ?_
    refine wc_block ?_
    refine wc_seq ?_
    refine wc_region ?_
    (apply ow_move; (· rfl); (· ((conv => lhs; whnf) <;> rfl)))
    (apply ow_move; (· rfl); (· ((conv => lhs; whnf) <;> rfl)))
    refine ow_idx1 (j := i) rfl (tyAt rfl) rfl (tyAt rfl) rfl rfl (by first | rfl | omega) (by omega) rfl ?_
    refine ow_load rfl (tyAt rfl) rfl rfl (hload) ?_
    refine ow_conv_in rfl rfl (tyAt rfl) (tyAt rfl) rfl (by simp only [InK]; omega) ?_
    (apply ow_assign; (· rfl); (· ((conv => lhs; whnf) <;> rfl)))
    refine ow_nil ?_
    refine wc_seq ?_
    refine wc_seq ?_
    refine wc_region ?_
    (apply ow_move; (· rfl); (· ((conv => lhs; whnf) <;> rfl)))
    refine ow_eql rfl rfl rfl ?_
    (apply ow_move; (· rfl); (· ((conv => lhs; whnf) <;> rfl)))
    refine ow_guard_dec rfl rfl rfl (fun h => ?_) (fun h => ?_) <;> try dsimp only at h
    · refine ow_guard_yes rfl rfl rfl rfl ?_
      (apply ow_move; (· rfl); (· ((conv => lhs; whnf) <;> rfl)))
      refine ow_guard_yes rfl rfl rfl rfl ?_
      refine ow_gtr rfl rfl rfl ?_
      (apply ow_pick_t; (· rfl); (· rfl); (· ((conv => lhs; whnf) <;> rfl)))
      refine ow_nil ?_
      refine wc_cond_dec rfl (fun h => ?_) (fun h => ?_) <;> try dsimp only at h
      · refine wc_seq ?_
        refine wc_region ?_
        (apply ow_assign; (· rfl); (· ((conv => lhs; whnf) <;> rfl)))
        (apply ow_assign; (· rfl); (· ((conv => lhs; whnf) <;> rfl)))
        (apply ow_assign; (· rfl); (· ((conv => lhs; whnf) <;> rfl)))
        refine ow_nil ?_
        refine wc_ret ⟨.inr rfl, _, rfl, _, .tmp (.tmp (.tmp .nil)), ?_⟩
        rw [if_pos (by omega)] at hg
        rw [← hg]; exact ⟨rfl, rfl⟩
      · rw [if_neg (by omega)] at hg
        have hps := pow_step (c := c) h9 (by omega)
        have hp1 := pow128_le h9
        rw [← hb] at hps hp1 hacc
        have hm2 : (c : Int) % 128 * (b : Int) = ((c % 128 * b : Nat) : Int) := by simp
        have hm1 : (0 : Int) ≤ (c : Int) % 128 * (b : Int) := by rw [hm2]; omega
        have hm3 : (c : Int) % 128 * (b : Int) ≤ 9223372036854775808 := by omega
        refine wc_skip ?_
        refine wc_seq ?_
        refine wc_region ?_
        (apply ow_move; (· rfl); (· ((conv => lhs; whnf) <;> rfl)))
        (apply ow_move; (· rfl); (· ((conv => lhs; whnf) <;> rfl)))
        refine ow_rem rfl rfl rfl (by omega) (by omega) ?_
        (apply ow_move; (· rfl); (· ((conv => lhs; whnf) <;> rfl)))
        refine ow_mul rfl rfl rfl (by simp only [InK]; omega) ?_
        refine ow_add rfl rfl rfl (by simp only [InK]; omega) ?_
        (apply ow_assign; (· rfl); (· ((conv => lhs; whnf) <;> rfl)))
        refine ow_nil ?_
        refine wc_seq ?_
        refine wc_region ?_
        (apply ow_move; (· rfl); (· ((conv => lhs; whnf) <;> rfl)))
        refine ow_mulw rfl rfl rfl ?_
        (apply ow_assign; (· rfl); (· ((conv => lhs; whnf) <;> rfl)))
        refine ow_nil ?_
        refine wc_seq ?_
        refine wc_region ?_
        (apply ow_move; (· rfl); (· ((conv => lhs; whnf) <;> rfl)))
        refine ow_lss rfl rfl rfl ?_
        refine ow_nil ?_
        refine wc_cond_dec rfl (fun h => ?_) (fun h => ?_) <;> try dsimp only at h
        · rw [if_neg (by omega)] at hg
          have hmod : c % 128 = c := by omega
          refine wc_seq ?_
          refine wc_seq ?_
          refine wc_region ?_
          (apply ow_move; (· rfl); (· ((conv => lhs; whnf) <;> rfl)))
          refine ow_eql rfl rfl rfl ?_
          (apply ow_move; (· rfl); (· ((conv => lhs; whnf) <;> rfl)))
          refine ow_guard_dec rfl rfl rfl (fun h => ?_) (fun h => ?_) <;> try dsimp only at h
          · refine ow_guard_yes rfl rfl rfl rfl ?_
            (apply ow_move; (· rfl); (· ((conv => lhs; whnf) <;> rfl)))
            refine ow_guard_yes rfl rfl rfl rfl ?_
            refine ow_gtr rfl rfl rfl ?_
            (apply ow_pick_t; (· rfl); (· rfl); (· ((conv => lhs; whnf) <;> rfl)))
            refine ow_nil ?_
            refine wc_cond_dec rfl (fun h => ?_) (fun h => ?_) <;> try dsimp only at h
            · rw [if_pos (by omega)] at hg
              refine wc_seq ?_
              refine wc_region ?_
              (apply ow_assign; (· rfl); (· ((conv => lhs; whnf) <;> rfl)))
              (apply ow_assign; (· rfl); (· ((conv => lhs; whnf) <;> rfl)))
              (apply ow_assign; (· rfl); (· ((conv => lhs; whnf) <;> rfl)))
              refine ow_nil ?_
              refine wc_ret ⟨.inr rfl, _, rfl, _, .tmp (.tmp (.tmp .nil)), ?_⟩
              rw [← hg]; exact ⟨rfl, rfl⟩
            · rw [if_neg (by omega)] at hg
              refine wc_skip ?_
              refine wc_seq ?_
              refine wc_region ?_
              (apply ow_move; (· rfl); (· ((conv => lhs; whnf) <;> rfl)))
              (apply ow_move; (· rfl); (· ((conv => lhs; whnf) <;> rfl)))
              refine ow_add rfl rfl rfl (by simp only [InK]; omega) ?_
              (apply ow_assign; (· rfl); (· ((conv => lhs; whnf) <;> rfl)))
              (apply ow_assign; (· rfl); (· ((conv => lhs; whnf) <;> rfl)))
              (apply ow_assign; (· rfl); (· ((conv => lhs; whnf) <;> rfl)))
              refine ow_nil ?_
              refine wc_ret ⟨.inr rfl, _, rfl, _, .tmp (.tmp (.tmp .nil)), ?_⟩
              rw [← hg]
              refine ⟨?_, rfl⟩
              simp only [getV, ← hb]
              rw [← hmod]
              simp [pack]
              refine ⟨?_, rfl, rfl⟩
              show Value.int .u64 _ = _
              congr 1
          · rw [if_neg (by omega)] at hg
            refine ow_guard_no rfl rfl rfl rfl rfl rfl rfl ?_
            refine ow_guard_no rfl rfl rfl rfl rfl rfl rfl ?_
            (apply ow_pick_f; (· rfl); (· rfl); (· ((conv => lhs; whnf) <;> rfl)))
            refine ow_nil ?_
            refine wc_cond_false rfl ?_
            refine wc_skip ?_
            refine wc_seq ?_
            refine wc_region ?_
            (apply ow_move; (· rfl); (· ((conv => lhs; whnf) <;> rfl)))
            (apply ow_move; (· rfl); (· ((conv => lhs; whnf) <;> rfl)))
            refine ow_add rfl rfl rfl (by simp only [InK]; omega) ?_
            (apply ow_assign; (· rfl); (· ((conv => lhs; whnf) <;> rfl)))
            (apply ow_assign; (· rfl); (· ((conv => lhs; whnf) <;> rfl)))
            (apply ow_assign; (· rfl); (· ((conv => lhs; whnf) <;> rfl)))
            refine ow_nil ?_
            refine wc_ret ⟨.inr rfl, _, rfl, _, .tmp (.tmp (.tmp .nil)), ?_⟩
            rw [← hg]
            refine ⟨?_, rfl⟩
            simp only [getV, ← hb]
            rw [← hmod]
            simp [pack]
            refine ⟨?_, rfl, rfl⟩
            show Value.int .u64 _ = _
            congr 1
        · rw [if_pos (by omega)] at hg
          refine wc_skip ?_
          refine wc_region ?_
          (apply ow_move; (· rfl); (· ((conv => lhs; whnf) <;> rfl)))
          refine ow_add rfl rfl rfl (by simp only [InK]; omega) ?_
          (apply ow_assign; (· rfl); (· ((conv => lhs; whnf) <;> rfl)))
          refine ow_nil ?_
          refine ⟨(acc + c % 128 * b, b * 128, i + 1), upd_self' rfl (upd_self' (congrArg (Value.int .u64) ?_) (upd_self' (congrArg (Value.int .u64) ?_) rfl)), by repeat (first | with_reducible exact Off.mix | with_reducible exact Off.refl | ((with_reducible refine Off.upd ?_ ?_); (· rfl))), ⟨rfl, rfl, by dsimp only; omega, by dsimp only; rw [hb, Nat.pow_succ], ?_, by dsimp only; omega, by dsimp only; rw [hb]; exact hg⟩, by dsimp only; omega⟩
          · dsimp only
            have h8 : i ≤ 8 := by omega
            have : 128 ^ i ≤ 128 ^ 8 := Nat.pow_le_pow_right (by decide) h8
            rw [← hb, show (128 : Nat) ^ 8 = 72057594037927936 from by decide] at this
            first | (rw [wrap_in (k := .u64) (by simp only [InK]; omega)]; simp) | simp
          · dsimp only; simp
          · dsimp only
            have h1 : c % 128 * b ≤ 127 * b := Nat.mul_le_mul_right _ (by omega)
            rw [Nat.pow_succ, ← hb]; omega
    · rw [if_neg (by omega)] at hg
      have hps := pow_step (c := c) h9 (by omega)
      have hp1 := pow128_le h9
      rw [← hb] at hps hp1 hacc
      have hm2 : (c : Int) % 128 * (b : Int) = ((c % 128 * b : Nat) : Int) := by simp
      have hm1 : (0 : Int) ≤ (c : Int) % 128 * (b : Int) := by rw [hm2]; omega
      have hm3 : (c : Int) % 128 * (b : Int) ≤ 9223372036854775808 := by omega
      refine ow_guard_no rfl rfl rfl rfl rfl rfl rfl ?_
      refine ow_guard_no rfl rfl rfl rfl rfl rfl rfl ?_
      (apply ow_pick_f; (· rfl); (· rfl); (· ((conv => lhs; whnf) <;> rfl)))
      refine ow_nil ?_
      refine wc_cond_false rfl ?_
      refine wc_skip ?_
      refine wc_seq ?_
      refine wc_region ?_
      (apply ow_move; (· rfl); (· ((conv => lhs; whnf) <;> rfl)))
      (apply ow_move; (· rfl); (· ((conv => lhs; whnf) <;> rfl)))
      refine ow_rem rfl rfl rfl (by omega) (by omega) ?_
      (apply ow_move; (· rfl); (· ((conv => lhs; whnf) <;> rfl)))
      refine ow_mul rfl rfl rfl (by simp only [InK]; omega) ?_
      refine ow_add rfl rfl rfl (by simp only [InK]; omega) ?_
      (apply ow_assign; (· rfl); (· ((conv => lhs; whnf) <;> rfl)))
      refine ow_nil ?_
      refine wc_seq ?_
      refine wc_region ?_
      (apply ow_move; (· rfl); (· ((conv => lhs; whnf) <;> rfl)))
      refine ow_mulw rfl rfl rfl ?_
      (apply ow_assign; (· rfl); (· ((conv => lhs; whnf) <;> rfl)))
      refine ow_nil ?_
      refine wc_seq ?_
      refine wc_region ?_
      (apply ow_move; (· rfl); (· ((conv => lhs; whnf) <;> rfl)))
      refine ow_lss rfl rfl rfl ?_
      refine ow_nil ?_
      refine wc_cond_dec rfl (fun h => ?_) (fun h => ?_) <;> try dsimp only at h
      · rw [if_neg (by omega)] at hg
        have hmod : c % 128 = c := by omega
        refine wc_seq ?_
        refine wc_seq ?_
        refine wc_region ?_
        (apply ow_move; (· rfl); (· ((conv => lhs; whnf) <;> rfl)))
        refine ow_eql rfl rfl rfl ?_
        (apply ow_move; (· rfl); (· ((conv => lhs; whnf) <;> rfl)))
        refine ow_guard_dec rfl rfl rfl (fun h => ?_) (fun h => ?_) <;> try dsimp only at h
        · refine ow_guard_yes rfl rfl rfl rfl ?_
          (apply ow_move; (· rfl); (· ((conv => lhs; whnf) <;> rfl)))
          refine ow_guard_yes rfl rfl rfl rfl ?_
          refine ow_gtr rfl rfl rfl ?_
          (apply ow_pick_t; (· rfl); (· rfl); (· ((conv => lhs; whnf) <;> rfl)))
          refine ow_nil ?_
          refine wc_cond_dec rfl (fun h => ?_) (fun h => ?_) <;> try dsimp only at h
          · rw [if_pos (by omega)] at hg
            refine wc_seq ?_
            refine wc_region ?_
            (apply ow_assign; (· rfl); (· ((conv => lhs; whnf) <;> rfl)))
            (apply ow_assign; (· rfl); (· ((conv => lhs; whnf) <;> rfl)))
            (apply ow_assign; (· rfl); (· ((conv => lhs; whnf) <;> rfl)))
            refine ow_nil ?_
            refine wc_ret ⟨.inr rfl, _, rfl, _, .tmp (.tmp (.tmp .nil)), ?_⟩
            rw [← hg]; exact ⟨rfl, rfl⟩
          · rw [if_neg (by omega)] at hg
            refine wc_skip ?_
            refine wc_seq ?_
            refine wc_region ?_
            (apply ow_move; (· rfl); (· ((conv => lhs; whnf) <;> rfl)))
            (apply ow_move; (· rfl); (· ((conv => lhs; whnf) <;> rfl)))
            refine ow_add rfl rfl rfl (by simp only [InK]; omega) ?_
            (apply ow_assign; (· rfl); (· ((conv => lhs; whnf) <;> rfl)))
            (apply ow_assign; (· rfl); (· ((conv => lhs; whnf) <;> rfl)))
            (apply ow_assign; (· rfl); (· ((conv => lhs; whnf) <;> rfl)))
            refine ow_nil ?_
            refine wc_ret ⟨.inr rfl, _, rfl, _, .tmp (.tmp (.tmp .nil)), ?_⟩
            rw [← hg]
            refine ⟨?_, rfl⟩
            simp only [getV, ← hb]
            rw [← hmod]
            simp [pack]
            refine ⟨?_, rfl, rfl⟩
            show Value.int .u64 _ = _
            congr 1
        · rw [if_neg (by omega)] at hg
          refine ow_guard_no rfl rfl rfl rfl rfl rfl rfl ?_
          refine ow_guard_no rfl rfl rfl rfl rfl rfl rfl ?_
          (apply ow_pick_f; (· rfl); (· rfl); (· ((conv => lhs; whnf) <;> rfl)))
          refine ow_nil ?_
          refine wc_cond_false rfl ?_
          refine wc_skip ?_
          refine wc_seq ?_
          refine wc_region ?_
          (apply ow_move; (· rfl); (· ((conv => lhs; whnf) <;> rfl)))
          (apply ow_move; (· rfl); (· ((conv => lhs; whnf) <;> rfl)))
          refine ow_add rfl rfl rfl (by simp only [InK]; omega) ?_
          (apply ow_assign; (· rfl); (· ((conv => lhs; whnf) <;> rfl)))
          (apply ow_assign; (· rfl); (· ((conv => lhs; whnf) <;> rfl)))
          (apply ow_assign; (· rfl); (· ((conv => lhs; whnf) <;> rfl)))
          refine ow_nil ?_
          refine wc_ret ⟨.inr rfl, _, rfl, _, .tmp (.tmp (.tmp .nil)), ?_⟩
          rw [← hg]
          refine ⟨?_, rfl⟩
          simp only [getV, ← hb]
          rw [← hmod]
          simp [pack]
          refine ⟨?_, rfl, rfl⟩
          show Value.int .u64 _ = _
          congr 1
      · rw [if_pos (by omega)] at hg
        refine wc_skip ?_
        refine wc_region ?_
        (apply ow_move; (· rfl); (· ((conv => lhs; whnf) <;> rfl)))
        refine ow_add rfl rfl rfl (by simp only [InK]; omega) ?_
        (apply ow_assign; (· rfl); (· ((conv => lhs; whnf) <;> rfl)))
        refine ow_nil ?_
        refine ⟨(acc + c % 128 * b, b * 128, i + 1), upd_self' rfl (upd_self' (congrArg (Value.int .u64) ?_) (upd_self' (congrArg (Value.int .u64) ?_) rfl)), by repeat (first | with_reducible exact Off.mix | with_reducible exact Off.refl | ((with_reducible refine Off.upd ?_ ?_); (· rfl))), ⟨rfl, rfl, by dsimp only; omega, by dsimp only; rw [hb, Nat.pow_succ], ?_, by dsimp only; omega, by dsimp only; rw [hb]; exact hg⟩, by dsimp only; omega⟩
        · dsimp only
          have h8 : i ≤ 8 := by omega
          have : 128 ^ i ≤ 128 ^ 8 := Nat.pow_le_pow_right (by decide) h8
          rw [← hb, show (128 : Nat) ^ 8 = 72057594037927936 from by decide] at this
          first | (rw [wrap_in (k := .u64) (by simp only [InK]; omega)]; simp) | simp
        · dsimp only; simp
        · dsimp only
          have h1 : c % 128 * b ≤ 127 * b := Nat.mul_le_mul_right _ (by omega)
          rw [Nat.pow_succ, ← hb]; omega
  · refine wc_exit ?_
    refine wc_seq ?_
    refine wc_region ?_
    (apply ow_assign; (· rfl); (· ((conv => lhs; whnf) <;> rfl)))
    (apply ow_assign; (· rfl); (· ((conv => lhs; whnf) <;> rfl)))
    (apply ow_assign; (· rfl); (· ((conv => lhs; whnf) <;> rfl)))
    refine ow_nil ?_
    refine wc_ret ⟨.inr rfl, _, rfl, _, .tmp (.tmp (.tmp .nil)), ?_⟩
    have : i = bs.length := by omega
    subst this
    have h0 : bs.drop bs.length = [] := by simp
    rw [← hg, h0]; exact ⟨rfl, rfl⟩

/-! ### a number held between two -/
theorem held_spec (n lo hi : Int) (w0 : World) : CallsV Try.prog 42 #[.int .i64 n, .int .i64 lo, .int .i64 hi] w0 fun v w => v = .int .i64 (if (if n > hi then hi else n) < lo then lo else (if n > hi then hi else n)) ∧ w = w0 := by
  refine callsV_of Try.func42 rfl rfl ?_
  refine wc_seq ?_
  refine wc_region ?_
  (apply ow_assign; (· rfl); (· ((conv => lhs; whnf) <;> rfl)))
  refine ow_nil ?_
  refine wc_seq ?_
  refine wc_seq ?_
  refine wc_region ?_
  (apply ow_move; (· rfl); (· ((conv => lhs; whnf) <;> rfl)))
  (apply ow_move; (· rfl); (· ((conv => lhs; whnf) <;> rfl)))
  refine ow_gtr rfl rfl rfl ?_
  refine ow_nil ?_
  refine wc_cond_dec rfl (fun h => ?_) (fun h => ?_) <;> try dsimp only at h
  · refine wc_region ?_
    (apply ow_move; (· rfl); (· ((conv => lhs; whnf) <;> rfl)))
    (apply ow_assign; (· rfl); (· ((conv => lhs; whnf) <;> rfl)))
    refine ow_nil ?_
    refine wc_seq ?_
    refine wc_seq ?_
    refine wc_region ?_
    (apply ow_move; (· rfl); (· ((conv => lhs; whnf) <;> rfl)))
    (apply ow_move; (· rfl); (· ((conv => lhs; whnf) <;> rfl)))
    refine ow_lss rfl rfl rfl ?_
    refine ow_nil ?_
    refine wc_cond_dec rfl (fun h => ?_) (fun h => ?_) <;> try dsimp only at h
    · refine wc_region ?_
      (apply ow_move; (· rfl); (· ((conv => lhs; whnf) <;> rfl)))
      (apply ow_assign; (· rfl); (· ((conv => lhs; whnf) <;> rfl)))
      refine ow_nil ?_
      refine wc_seq ?_
      refine wc_region ?_
      (apply ow_move; (· rfl); (· ((conv => lhs; whnf) <;> rfl)))
      (apply ow_assign; (· rfl); (· ((conv => lhs; whnf) <;> rfl)))
      refine ow_nil ?_
      refine wc_ret ⟨.inr rfl, _, rfl, _, .tmp .nil, ?_⟩
      exact ⟨by rw [if_pos (show n > hi by omega), if_pos h]; rfl, rfl⟩
    · refine wc_skip ?_
      refine wc_seq ?_
      refine wc_region ?_
      (apply ow_move; (· rfl); (· ((conv => lhs; whnf) <;> rfl)))
      (apply ow_assign; (· rfl); (· ((conv => lhs; whnf) <;> rfl)))
      refine ow_nil ?_
      refine wc_ret ⟨.inr rfl, _, rfl, _, .tmp .nil, ?_⟩
      exact ⟨by rw [if_pos (show n > hi by omega), if_neg h]; rfl, rfl⟩
  · refine wc_skip ?_
    refine wc_seq ?_
    refine wc_seq ?_
    refine wc_region ?_
    (apply ow_move; (· rfl); (· ((conv => lhs; whnf) <;> rfl)))
    (apply ow_move; (· rfl); (· ((conv => lhs; whnf) <;> rfl)))
    refine ow_lss rfl rfl rfl ?_
    refine ow_nil ?_
    refine wc_cond_dec rfl (fun h => ?_) (fun h => ?_) <;> try dsimp only at h
    · refine wc_region ?_
      (apply ow_move; (· rfl); (· ((conv => lhs; whnf) <;> rfl)))
      (apply ow_assign; (· rfl); (· ((conv => lhs; whnf) <;> rfl)))
      refine ow_nil ?_
      refine wc_seq ?_
      refine wc_region ?_
      (apply ow_move; (· rfl); (· ((conv => lhs; whnf) <;> rfl)))
      (apply ow_assign; (· rfl); (· ((conv => lhs; whnf) <;> rfl)))
      refine ow_nil ?_
      refine wc_ret ⟨.inr rfl, _, rfl, _, .tmp .nil, ?_⟩
      exact ⟨by rw [if_neg (show ¬ n > hi by omega), if_pos h]; rfl, rfl⟩
    · refine wc_skip ?_
      refine wc_seq ?_
      refine wc_region ?_
      (apply ow_move; (· rfl); (· ((conv => lhs; whnf) <;> rfl)))
      (apply ow_assign; (· rfl); (· ((conv => lhs; whnf) <;> rfl)))
      refine ow_nil ?_
      refine wc_ret ⟨.inr rfl, _, rfl, _, .tmp .nil, ?_⟩
      exact ⟨by rw [if_neg (show ¬ n > hi by omega), if_neg h]; rfl, rfl⟩
end Go.Proofs.Ytphmjdbdhhbdoaa
