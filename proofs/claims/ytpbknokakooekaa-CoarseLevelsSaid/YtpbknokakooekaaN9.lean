/- Pairing: the document's Right, Pairs: functions 70, 72. -/
import Derived.Test.YtpbknokakooekaaN3
namespace Go.Proofs.Ytpbknokakooekaa
set_option linter.all false
open Go Go.Sx Go.Proofs
set_option maxRecDepth 100000
set_option maxHeartbeats 2000000
theorem refRight_spec (p : Option Addr) (c : Nat) (m : List Int) (hm : m.length ≤ 9223372036854775807) (w0 : World) (hs : SlH (hp w0) p (ints .i64 m)) :
    CallsV Try.prog 83 #[.slice p m.length c] w0 fun v w => v = .bool (decide (RightP m)) ∧ w = w0 := by
  refine callsV_of Try.func83 rfl rfl ?_
  refine wc_seq ?_
  refine wc_region ?_
  (apply ow_assign; (· rfl); (· ((conv => lhs; whnf) <;> rfl)))
  refine ow_nil ?_
  refine wc_seq ?_
  refine wc_seq ?_
  refine wc_region ?_
  (apply ow_assign; (· rfl); (· ((conv => lhs; whnf) <;> rfl)))
  refine ow_nil ?_
  refine wc_blockJ [2, 3, 5, 6, 7, 8, 9, 10, 11, 12, 13, 14, 15, 16, 17, 18, 19, 20, 21, 22, 23, 24] (fun (_ : Unit) e => e) (fun _ D w => D = [] ∧ w = w0 ∧ ∀ k, k < m.length → 0 ≤ m.getD k 0 ∧ m.getD k 0 < (m.length : Int)) ?_ ?_
  · refine wc_loopS [2, 3, 5, 6, 7, 8, 9, 10, 11, 12, 13, 14, 15, 16, 17, 18, 19, 20, 21, 22, 23, 24] (fun (s : Nat) e => upd e 3 (.int .i64 s)) (fun s D w => D = [] ∧ w = w0 ∧ s ≤ m.length ∧ ∀ k, k < s → 0 ≤ m.getD k 0 ∧ m.getD k 0 < (m.length : Int)) (fun s _ => m.length - s) 0 (by first | exact rfl | exact upd_self' rfl rfl | exact upd_self' rfl (upd_self' rfl rfl) | exact upd_self' rfl (upd_self' rfl (upd_self' rfl rfl)) | exact upd_self' rfl (upd_self' rfl (upd_self' rfl (upd_self' rfl rfl)))) ⟨rfl, rfl, Nat.zero_le _, fun k hk => by omega⟩ ?_
    rintro i j D w ⟨rfl, rfl, hi, hok⟩
    refine wc_seq ?_
    refine wc_seq ?_
    refine wc_region ?_
    (apply ow_move; (· rfl); (· ((conv => lhs; whnf) <;> rfl)))
    (apply ow_move; (· rfl); (· ((conv => lhs; whnf) <;> rfl)))
    refine ow_len rfl rfl (tyAt rfl) rfl ?_
    refine ow_lss rfl rfl rfl ?_
    refine ow_nil ?_
    refine wc_cond_dec rfl (fun h => ?_) (fun h => ?_) <;> try dsimp only at h
    · have hlt : i < m.length := by omega
      obtain ⟨b, o, rfl⟩ := hs.some_of (by simp; omega)
      have hsi := hs.int hlt
      have hno : ¬ (0 ≤ m.getD i 0 ∧ m.getD i 0 < (m.length : Int)) → (.bool false : Value) = .bool (decide (RightP m)) := fun h => congrArg Value.bool (decide_eq_false (fun hr => h ⟨(hr i hlt).1, (hr i hlt).2.1⟩)).symm
      have hyes : (0 ≤ m.getD i 0 ∧ m.getD i 0 < (m.length : Int)) → ∀ k, k < i + 1 → 0 ≤ m.getD k 0 ∧ m.getD k 0 < (m.length : Int) := fun h k hk => by
        rcases Nat.lt_or_ge k i with h1 | h1
        · exact hok k h1
        · rw [show k = i by omega]; exact h
      obtain ⟨z, hz⟩ : ∃ z, m.getD i 0 = z := ⟨_, rfl⟩
      rw [hz] at hsi hno hyes
      refine wc_skip ?_
      refine wc_seq ?_
      refine wc_block ?_
      refine wc_seq ?_
      refine wc_region ?_
      (apply ow_move; (· rfl); (· ((conv => lhs; whnf) <;> rfl)))
      (apply ow_move; (· rfl); (· ((conv => lhs; whnf) <;> rfl)))
      refine ow_idx1 (j := i) rfl (tyAt rfl) rfl (tyAt rfl) rfl rfl rfl hlt rfl ?_
      refine ow_load rfl (tyAt rfl) rfl rfl hsi ?_
      refine ow_lss rfl rfl rfl ?_
      (apply ow_move; (· rfl); (· ((conv => lhs; whnf) <;> rfl)))
      refine ow_guard_dec rfl rfl rfl (fun h => ?_) (fun h => ?_) <;> try dsimp only at h
      · refine ow_guard_no rfl rfl rfl rfl rfl rfl rfl ?_
        refine ow_guard_no rfl rfl rfl rfl rfl rfl rfl ?_
        refine ow_guard_no rfl rfl rfl rfl rfl rfl rfl ?_
        refine ow_guard_no rfl rfl rfl rfl rfl rfl rfl ?_
        refine ow_guard_no rfl rfl rfl rfl rfl rfl rfl ?_
        refine ow_guard_no rfl rfl rfl rfl rfl rfl rfl ?_
        refine ow_guard_no rfl rfl rfl rfl rfl rfl rfl ?_
        (apply ow_pick_t; (· rfl); (· rfl); (· ((conv => lhs; whnf) <;> rfl)))
        refine ow_nil ?_
        refine wc_cond_true rfl ?_
        refine wc_seq ?_
        refine wc_region ?_
        (apply ow_assign; (· rfl); (· ((conv => lhs; whnf) <;> rfl)))
        refine ow_nil ?_
        refine wc_ret ⟨.inr rfl, _, rfl, _, .tmp .nil, hno (fun h' => by omega), rfl⟩
      have h0 := h
      clear h
      refine ow_guard_yes rfl rfl rfl rfl ?_
      (apply ow_move; (· rfl); (· ((conv => lhs; whnf) <;> rfl)))
      refine ow_guard_yes rfl rfl rfl rfl ?_
      (apply ow_move; (· rfl); (· ((conv => lhs; whnf) <;> rfl)))
      refine ow_guard_yes rfl rfl rfl rfl ?_
      refine ow_idx1 (j := i) rfl (tyAt rfl) rfl (tyAt rfl) rfl rfl rfl hlt rfl ?_
      refine ow_guard_yes rfl rfl rfl rfl ?_
      refine ow_load rfl (tyAt rfl) rfl rfl hsi ?_
      refine ow_guard_yes rfl rfl rfl rfl ?_
      (apply ow_move; (· rfl); (· ((conv => lhs; whnf) <;> rfl)))
      refine ow_guard_yes rfl rfl rfl rfl ?_
      refine ow_len rfl rfl (tyAt rfl) rfl ?_
      refine ow_guard_yes rfl rfl rfl rfl ?_
      refine ow_geq rfl rfl rfl ?_
      (apply ow_pick_f; (· rfl); (· rfl); (· ((conv => lhs; whnf) <;> rfl)))
      refine ow_nil ?_
      refine wc_cond_dec rfl (fun h => ?_) (fun h => ?_) <;> try dsimp only at h
      · refine wc_seq ?_
        refine wc_region ?_
        (apply ow_assign; (· rfl); (· ((conv => lhs; whnf) <;> rfl)))
        refine ow_nil ?_
        refine wc_ret ⟨.inr rfl, _, rfl, _, .tmp .nil, hno (fun h' => by omega), rfl⟩
      refine wc_skip ?_
      refine wc_region ?_
      (apply ow_move; (· rfl); (· ((conv => lhs; whnf) <;> rfl)))
      refine ow_add rfl rfl rfl (by simp only [InK]; omega) ?_
      (apply ow_assign; (· rfl); (· ((conv => lhs; whnf) <;> rfl)))
      refine ow_nil ?_
      exact ⟨i + 1, by first | exact rfl | exact upd_self' rfl rfl | exact upd_self' rfl (upd_self' rfl rfl) | exact upd_self' rfl (upd_self' rfl (upd_self' rfl rfl)) | exact upd_self' rfl (upd_self' rfl (upd_self' rfl (upd_self' rfl rfl))), by repeat (first | with_reducible exact Off.mix | with_reducible exact Off.refl | ((with_reducible refine Off.upd ?_ ?_); (· rfl))), ⟨rfl, rfl, hlt, hyes ⟨by omega, by omega⟩⟩, by omega⟩
    · have hi' : i = m.length := by omega
      subst hi'
      refine wc_exit ?_
      exact ⟨(), rfl, by repeat (first | with_reducible exact Off.mix | with_reducible exact Off.refl | ((with_reducible refine Off.upd ?_ ?_); (· rfl))), ⟨rfl, rfl, hok⟩⟩
  rintro _ j D w ⟨rfl, rfl, hin⟩
  refine wc_seq ?_
  refine wc_seq ?_
  refine wc_region ?_
  (apply ow_assign; (· rfl); (· ((conv => lhs; whnf) <;> rfl)))
  refine ow_nil ?_
  refine wc_block ?_
  refine wc_loopS [2, 4, 25, 26, 27, 28, 29, 30, 31, 32, 33, 34, 35, 36, 37, 38, 39] (fun (s : Nat) e => upd e 4 (.int .i64 s)) (fun s D w1 => D = [] ∧ w1 = w ∧ s ≤ m.length ∧ ∀ k, k < s → okAt m k) (fun s _ => m.length - s) 0 (by first | exact rfl | exact upd_self' rfl rfl | exact upd_self' rfl (upd_self' rfl rfl) | exact upd_self' rfl (upd_self' rfl (upd_self' rfl rfl)) | exact upd_self' rfl (upd_self' rfl (upd_self' rfl (upd_self' rfl rfl)))) ⟨rfl, rfl, Nat.zero_le _, fun k hk => by omega⟩ ?_
  rintro i j D w ⟨rfl, rfl, hi, hok⟩
  refine wc_seq ?_
  refine wc_seq ?_
  refine wc_region ?_
  (apply ow_move; (· rfl); (· ((conv => lhs; whnf) <;> rfl)))
  (apply ow_move; (· rfl); (· ((conv => lhs; whnf) <;> rfl)))
  refine ow_len rfl rfl (tyAt rfl) rfl ?_
  refine ow_lss rfl rfl rfl ?_
  refine ow_nil ?_
  refine wc_cond_dec rfl (fun h => ?_) (fun h => ?_) <;> try dsimp only at h
  · have hlt : i < m.length := by omega
    obtain ⟨b, o, rfl⟩ := hs.some_of (by simp; omega)
    have hsi := hs.int hlt
    have hin2 := hin i hlt
    have hno : ¬ okAt m i → (.bool false : Value) = .bool (decide (RightP m)) := fun h => congrArg Value.bool (decide_eq_false (fun hr => h (hr i hlt))).symm
    have hyes : okAt m i → ∀ k, k < i + 1 → okAt m k := fun h k hk => by
      rcases Nat.lt_or_ge k i with h1 | h1
      · exact hok k h1
      · rw [show k = i by omega]; exact h
    unfold okAt at hno hyes
    obtain ⟨z, hz⟩ : ∃ z, m.getD i 0 = z := ⟨_, rfl⟩
    rw [hz] at hsi hno hyes hin2
    have hzl : z.toNat < m.length := by omega
    refine wc_skip ?_
    refine wc_seq ?_
    refine wc_block ?_
    refine wc_seq ?_
    refine wc_region ?_
    (apply ow_move; (· rfl); (· ((conv => lhs; whnf) <;> rfl)))
    (apply ow_move; (· rfl); (· ((conv => lhs; whnf) <;> rfl)))
    (apply ow_move; (· rfl); (· ((conv => lhs; whnf) <;> rfl)))
    refine ow_idx1 (j := i) rfl (tyAt rfl) rfl (tyAt rfl) rfl rfl rfl hlt rfl ?_
    refine ow_load rfl (tyAt rfl) rfl rfl hsi ?_
    refine ow_idx1 (j := z.toNat) rfl (tyAt rfl) rfl (tyAt rfl) rfl rfl (by omega) hzl rfl ?_
    refine ow_load rfl (tyAt rfl) rfl rfl (hs.int hzl) ?_
    (apply ow_move; (· rfl); (· ((conv => lhs; whnf) <;> rfl)))
    refine ow_neq rfl rfl rfl ?_
    refine ow_nil ?_
    by_cases he : m.getD z.toNat 0 = (i : Int)
    · rw [decide_eq_false (show ¬ ¬ (m.getD z.toNat 0 = (i : Int)) from fun h => h he)]
      refine wc_cond_false rfl ?_
      refine wc_skip ?_
      refine wc_region ?_
      (apply ow_move; (· rfl); (· ((conv => lhs; whnf) <;> rfl)))
      refine ow_add rfl rfl rfl (by simp only [InK]; omega) ?_
      (apply ow_assign; (· rfl); (· ((conv => lhs; whnf) <;> rfl)))
      refine ow_nil ?_
      exact ⟨i + 1, by first | exact rfl | exact upd_self' rfl rfl | exact upd_self' rfl (upd_self' rfl rfl) | exact upd_self' rfl (upd_self' rfl (upd_self' rfl rfl)) | exact upd_self' rfl (upd_self' rfl (upd_self' rfl (upd_self' rfl rfl))), by repeat (first | with_reducible exact Off.mix | with_reducible exact Off.refl | ((with_reducible refine Off.upd ?_ ?_); (· rfl))), ⟨rfl, rfl, hlt, hyes ⟨by omega, by omega, he⟩⟩, by omega⟩
    · rw [decide_eq_true (show ¬ (m.getD z.toNat 0 = (i : Int)) from he)]
      refine wc_cond_true rfl ?_
      refine wc_seq ?_
      refine wc_region ?_
      (apply ow_assign; (· rfl); (· ((conv => lhs; whnf) <;> rfl)))
      refine ow_nil ?_
      refine wc_ret ⟨.inr rfl, _, rfl, _, .tmp .nil, hno (fun h' => he h'.2.2), rfl⟩
  · have hi' : i = m.length := by omega
    subst hi'
    refine wc_exit ?_
    refine wc_seq ?_
    refine wc_region ?_
    (apply ow_assign; (· rfl); (· ((conv => lhs; whnf) <;> rfl)))
    refine ow_nil ?_
    refine wc_ret ⟨.inr rfl, _, rfl, _, .tmp .nil, congrArg Value.bool (decide_eq_true hok).symm, rfl⟩
abbrev rpC (q1 q2 : Option Addr) (c1 c2 : Nat) (xs : List (Int × Int)) : List Cap := [.app q2 xs.length c2 3 1 (ints .i64 (xs.map (·.2))), .app q1 xs.length c1 3 1 (ints .i64 (xs.map (·.1)))]
end Go.Proofs.Ytpbknokakooekaa

