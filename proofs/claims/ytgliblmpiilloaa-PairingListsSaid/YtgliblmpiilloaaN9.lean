/- Pairing: the document's Right, Pairs: functions 70, 72. -/
import Derived.Test.YtgliblmpiilloaaN3
namespace Go.Proofs.Ytgliblmpiilloaa
set_option linter.all false
open Go Go.Sx Go.Proofs
set_option maxRecDepth 100000
set_option maxHeartbeats 2000000
theorem refRight_spec (p : Option Addr) (c : Nat) (m : List Int) (hm : m.length ≤ 9223372036854775807) (w0 : World) (hs : SlH (hp w0) p (ints .i64 m)) :
    CallsV Try.prog 70 #[.slice p m.length c] w0 fun v w => v = .bool (decide (RightP m)) ∧ w = w0 := by
  refine callsV_of Try.func70 rfl rfl ?_
  refine wc_seq ?_
  refine wc_region ?_
  (apply ow_assign; (· rfl); (· ((conv => lhs; whnf) <;> rfl)))
  refine ow_nil ?_
  refine wc_seq ?_
  refine wc_seq ?_
  refine wc_region ?_
  (apply ow_assign; (· rfl); (· ((conv => lhs; whnf) <;> rfl)))
  refine ow_nil ?_
  refine wc_blockJ [2, 3, 5, 6, 7, 8, 9, 10, 11, 12, 13, 14, 15, 16, 17, 18, 19, 20, 21, 22, 23, 24] (fun (_ : Unit) e => e) (fun _ D w => D = [] ∧ w = w0 ∧ ∀ k, k < m.length → 0 ≤ m.getD k 0 ∧ m.getD k 0 < (m.length : Int)) ?_ ?_
  · refine wc_loopS [2, 3, 5, 6, 7, 8, 9, 10, 11, 12, 13, 14, 15, 16, 17, 18, 19, 20, 21, 22, 23, 24] (fun (s : Nat) e => upd e 3 (.int .i64 s)) (fun s D w => D = [] ∧ w = w0 ∧ s ≤ m.length ∧ ∀ k, k < s → 0 ≤ m.getD k 0 ∧ m.getD k 0 < (m.length : Int)) (fun s _ => m.length - s) 0 (by first | exact rfl | exact upd_self' rfl rfl | exact upd_self' rfl (upd_self' rfl rfl) | exact upd_self' rfl (upd_self' rfl (upd_self' rfl rfl)) | exact upd_self' rfl (upd_self' rfl (upd_self' rfl (upd_self' rfl rfl)))) ⟨rfl, rfl, Nat.zero_le _, fun k hk => by omega⟩ ?_
    rintro i j D w ⟨rfl, rfl, hi, hok⟩
    refine wc_seq ?_
    refine wc_seq ?_
    refine wc_region ?_
    (apply ow_move; (· rfl); (· ((conv => lhs; whnf) <;> rfl)))
    (apply ow_move; (· rfl); (· ((conv => lhs; whnf) <;> rfl)))
    refine ow_len rfl rfl (tyAt rfl) rfl ?_
    refine ow_lss rfl rfl rfl ?_
    refine ow_nil ?_
    refine wc_cond_dec rfl (fun h => ?_) (fun h => ?_) <;> try dsimp only at h
    · have hlt : i < m.length := by omega
      obtain ⟨b, o, rfl⟩ := hs.some_of (by simp; omega)
      have hsi := hs.int hlt
      have hno : ¬ (0 ≤ m.getD i 0 ∧ m.getD i 0 < (m.length : Int)) → (.bool false : Value) = .bool (decide (RightP m)) := fun h => congrArg Value.bool (decide_eq_false (fun hr => h ⟨(hr i hlt).1, (hr i hlt).2.1⟩)).symm
      have hyes : (0 ≤ m.getD i 0 ∧ m.getD i 0 < (m.length : Int)) → ∀ k, k < i + 1 → 0 ≤ m.getD k 0 ∧ m.getD k 0 < (m.length : Int) := fun h k hk => by
        rcases Nat.lt_or_ge k i with h1 | h1
        · exact hok k h1
        · rw [show k = i by omega]; exact h
      obtain ⟨z, hz⟩ : ∃ z, m.getD i 0 = z := ⟨_, rfl⟩
      rw [hz] at hsi hno hyes
      refine wc_skip ?_
      refine wc_seq ?_
      refine wc_block ?_
      refine wc_seq ?_
      refine wc_region ?_
      (apply ow_move; (· rfl); (· ((conv => lhs; whnf) <;> rfl)))
      (apply ow_move; (· rfl); (· ((conv => lhs; whnf) <;> rfl)))
      refine ow_idx1 (j := i) rfl (tyAt rfl) rfl (tyAt rfl) rfl rfl rfl hlt rfl ?_
      refine ow_load rfl (tyAt rfl) rfl rfl hsi ?_
      refine ow_lss rfl rfl rfl ?_
      (apply ow_move; (· rfl); (· ((conv => lhs; whnf) <;> rfl)))
      refine ow_guard_dec rfl rfl rfl (fun h => ?_) (fun h => ?_) <;> try dsimp only at h
      · refine ow_guard_no rfl rfl rfl rfl rfl rfl rfl ?_
        refine ow_guard_no rfl rfl rfl rfl rfl rfl rfl ?_
        refine ow_guard_no rfl rfl rfl rfl rfl rfl rfl ?_
        refine ow_guard_no rfl rfl rfl rfl rfl rfl rfl ?_
        refine ow_guard_no rfl rfl rfl rfl rfl rfl rfl ?_
        refine ow_guard_no rfl rfl rfl rfl rfl rfl rfl ?_
        refine ow_guard_no rfl rfl rfl rfl rfl rfl rfl ?_
        (apply ow_pick_t; (· rfl); (· rfl); (· ((conv => lhs; whnf) <;> rfl)))
        refine ow_nil ?_
        refine wc_cond_true rfl ?_
        refine wc_seq ?_
        refine wc_region ?_
        (apply ow_assign; (· rfl); (· ((conv => lhs; whnf) <;> rfl)))
        refine ow_nil ?_
        refine wc_ret ⟨.inr rfl, _, rfl, _, .tmp .nil, hno (fun h' => by omega), rfl⟩
      have h0 := h
      clear h
      refine ow_guard_yes rfl rfl rfl rfl ?_
      (apply ow_move; (· rfl); (· ((conv => lhs; whnf) <;> rfl)))
      refine ow_guard_yes rfl rfl rfl rfl ?_
      (apply ow_move; (· rfl); (· ((conv => lhs; whnf) <;> rfl)))
      refine ow_guard_yes rfl rfl rfl rfl ?_
      refine ow_idx1 (j := i) rfl (tyAt rfl) rfl (tyAt rfl) rfl rfl rfl hlt rfl ?_
      refine ow_guard_yes rfl rfl rfl rfl ?_
      refine ow_load rfl (tyAt rfl) rfl rfl hsi ?_
      refine ow_guard_yes rfl rfl rfl rfl ?_
      (apply ow_move; (· rfl); (· ((conv => lhs; whnf) <;> rfl)))
      refine ow_guard_yes rfl rfl rfl rfl ?_
      refine ow_len rfl rfl (tyAt rfl) rfl ?_
      refine ow_guard_yes rfl rfl rfl rfl ?_
      refine ow_geq rfl rfl rfl ?_
      (apply ow_pick_f; (· rfl); (· rfl); (· ((conv => lhs; whnf) <;> rfl)))
      refine ow_nil ?_
      refine wc_cond_dec rfl (fun h => ?_) (fun h => ?_) <;> try dsimp only at h
      · refine wc_seq ?_
        refine wc_region ?_
        (apply ow_assign; (· rfl); (· ((conv => lhs; whnf) <;> rfl)))
        refine ow_nil ?_
        refine wc_ret ⟨.inr rfl, _, rfl, _, .tmp .nil, hno (fun h' => by omega), rfl⟩
      refine wc_skip ?_
      refine wc_region ?_
      (apply ow_move; (· rfl); (· ((conv => lhs; whnf) <;> rfl)))
      refine ow_add rfl rfl rfl (by simp only [InK]; omega) ?_
      (apply ow_assign; (· rfl); (· ((conv => lhs; whnf) <;> rfl)))
      refine ow_nil ?_
      exact ⟨i + 1, by first | exact rfl | exact upd_self' rfl rfl | exact upd_self' rfl (upd_self' rfl rfl) | exact upd_self' rfl (upd_self' rfl (upd_self' rfl rfl)) | exact upd_self' rfl (upd_self' rfl (upd_self' rfl (upd_self' rfl rfl))), by repeat (first | with_reducible exact Off.mix | with_reducible exact Off.refl | ((with_reducible refine Off.upd ?_ ?_); (· rfl))), ⟨rfl, rfl, hlt, hyes ⟨by omega, by omega⟩⟩, by omega⟩
    · have hi' : i = m.length := by omega
      subst hi'
      refine wc_exit ?_
      exact ⟨(), rfl, by repeat (first | with_reducible exact Off.mix | with_reducible exact Off.refl | ((with_reducible refine Off.upd ?_ ?_); (· rfl))), ⟨rfl, rfl, hok⟩⟩
  rintro _ j D w ⟨rfl, rfl, hin⟩
  refine wc_seq ?_
  refine wc_seq ?_
  refine wc_region ?_
  (apply ow_assign; (· rfl); (· ((conv => lhs; whnf) <;> rfl)))
  refine ow_nil ?_
  refine wc_block ?_
  refine wc_loopS [2, 4, 25, 26, 27, 28, 29, 30, 31, 32, 33, 34, 35, 36, 37, 38, 39] (fun (s : Nat) e => upd e 4 (.int .i64 s)) (fun s D w1 => D = [] ∧ w1 = w ∧ s ≤ m.length ∧ ∀ k, k < s → okAt m k) (fun s _ => m.length - s) 0 (by first | exact rfl | exact upd_self' rfl rfl | exact upd_self' rfl (upd_self' rfl rfl) | exact upd_self' rfl (upd_self' rfl (upd_self' rfl rfl)) | exact upd_self' rfl (upd_self' rfl (upd_self' rfl (upd_self' rfl rfl)))) ⟨rfl, rfl, Nat.zero_le _, fun k hk => by omega⟩ ?_
  rintro i j D w ⟨rfl, rfl, hi, hok⟩
  refine wc_seq ?_
  refine wc_seq ?_
  refine wc_region ?_
  (apply ow_move; (· rfl); (· ((conv => lhs; whnf) <;> rfl)))
  (apply ow_move; (· rfl); (· ((conv => lhs; whnf) <;> rfl)))
  refine ow_len rfl rfl (tyAt rfl) rfl ?_
  refine ow_lss rfl rfl rfl ?_
  refine ow_nil ?_
  refine wc_cond_dec rfl (fun h => ?_) (fun h => ?_) <;> try dsimp only at h
  · have hlt : i < m.length := by omega
    obtain ⟨b, o, rfl⟩ := hs.some_of (by simp; omega)
    have hsi := hs.int hlt
    have hin2 := hin i hlt
    have hno : ¬ okAt m i → (.bool false : Value) = .bool (decide (RightP m)) := fun h => congrArg Value.bool (decide_eq_false (fun hr => h (hr i hlt))).symm
    have hyes : okAt m i → ∀ k, k < i + 1 → okAt m k := fun h k hk => by
      rcases Nat.lt_or_ge k i with h1 | h1
      · exact hok k h1
      · rw [show k = i by omega]; exact h
    unfold okAt at hno hyes
    obtain ⟨z, hz⟩ : ∃ z, m.getD i 0 = z := ⟨_, rfl⟩
    rw [hz] at hsi hno hyes hin2
    have hzl : z.toNat < m.length := by omega
    refine wc_skip ?_
    refine wc_seq ?_
    refine wc_block ?_
    refine wc_seq ?_
    refine wc_region ?_
    (apply ow_move; (· rfl); (· ((conv => lhs; whnf) <;> rfl)))
    (apply ow_move; (· rfl); (· ((conv => lhs; whnf) <;> rfl)))
    (apply ow_move; (· rfl); (· ((conv => lhs; whnf) <;> rfl)))
    refine ow_idx1 (j := i) rfl (tyAt rfl) rfl (tyAt rfl) rfl rfl rfl hlt rfl ?_
    refine ow_load rfl (tyAt rfl) rfl rfl hsi ?_
    refine ow_idx1 (j := z.toNat) rfl (tyAt rfl) rfl (tyAt rfl) rfl rfl (by omega) hzl rfl ?_
    refine ow_load rfl (tyAt rfl) rfl rfl (hs.int hzl) ?_
    (apply ow_move; (· rfl); (· ((conv => lhs; whnf) <;> rfl)))
    refine ow_neq rfl rfl rfl ?_
    refine ow_nil ?_
    by_cases he : m.getD z.toNat 0 = (i : Int)
    · rw [decide_eq_false (show ¬ ¬ (m.getD z.toNat 0 = (i : Int)) from fun h => h he)]
      refine wc_cond_false rfl ?_
      refine wc_skip ?_
      refine wc_region ?_
      (apply ow_move; (· rfl); (· ((conv => lhs; whnf) <;> rfl)))
      refine ow_add rfl rfl rfl (by simp only [InK]; omega) ?_
      (apply ow_assign; (· rfl); (· ((conv => lhs; whnf) <;> rfl)))
      refine ow_nil ?_
      exact ⟨i + 1, by first | exact rfl | exact upd_self' rfl rfl | exact upd_self' rfl (upd_self' rfl rfl) | exact upd_self' rfl (upd_self' rfl (upd_self' rfl rfl)) | exact upd_self' rfl (upd_self' rfl (upd_self' rfl (upd_self' rfl rfl))), by repeat (first | with_reducible exact Off.mix | with_reducible exact Off.refl | ((with_reducible refine Off.upd ?_ ?_); (· rfl))), ⟨rfl, rfl, hlt, hyes ⟨by omega, by omega, he⟩⟩, by omega⟩
    · rw [decide_eq_true (show ¬ (m.getD z.toNat 0 = (i : Int)) from he)]
      refine wc_cond_true rfl ?_
      refine wc_seq ?_
      refine wc_region ?_
      (apply ow_assign; (· rfl); (· ((conv => lhs; whnf) <;> rfl)))
      refine ow_nil ?_
      refine wc_ret ⟨.inr rfl, _, rfl, _, .tmp .nil, hno (fun h' => he h'.2.2), rfl⟩
  · have hi' : i = m.length := by omega
    subst hi'
    refine wc_exit ?_
    refine wc_seq ?_
    refine wc_region ?_
    (apply ow_assign; (· rfl); (· ((conv => lhs; whnf) <;> rfl)))
    refine ow_nil ?_
    refine wc_ret ⟨.inr rfl, _, rfl, _, .tmp .nil, congrArg Value.bool (decide_eq_true hok).symm, rfl⟩
abbrev rpC (q1 q2 : Option Addr) (c1 c2 : Nat) (xs : List (Int × Int)) : List Cap := [.app q2 xs.length c2 3 1 (ints .i64 (xs.map (·.2))), .app q1 xs.length c1 3 1 (ints .i64 (xs.map (·.1)))]
theorem refPairs_spec (p : Option Addr) (c : Nat) (m : List Int) (hm : m.length ≤ 1000000) (w0 : World) (hs : SlH (hp w0) p (ints .i64 m)) :
    CallsV Try.prog 72 #[.slice p m.length c] w0 fun v w => ∃ q1 c1 q2 c2, v = .tuple #[.slice q1 (prL m).length c1, .slice q2 (prL m).length c2] ∧ St Pu w0 w (rpC q1 q2 c1 c2 (prL m)) [] := by
  refine callsV_of Try.func72 rfl rfl ?_
  have H := St.init w0
  refine wc_seq ?_
  refine wc_region ?_
  (apply ow_assign; (· rfl); (· ((conv => lhs; whnf) <;> rfl)))
  (apply ow_assign; (· rfl); (· ((conv => lhs; whnf) <;> rfl)))
  refine ow_nil ?_
  refine wc_seq ?_
  refine wc_region ?_
  refine ow_buildSlice0 H rfl (tyAt rfl) rfl (tyAt rfl) (fun ba w H => ?_)
  replace H := H.rowApp (i := 0) (len := 0) (sz := 1) rfl rfl (by omega)
  dsimp only [List.set] at H
  refine ow_buildSlice0 H rfl (tyAt rfl) rfl (tyAt rfl) (fun bb w H => ?_)
  replace H := H.rowApp (i := 0) (len := 0) (sz := 1) rfl rfl (by omega)
  dsimp only [List.set] at H
  replace H : St Pu w0 w (rpC (some ⟨ba, 0, none⟩) (some ⟨bb, 0, none⟩) 0 0 (prU m 0)) [] := H
  (apply ow_assign; (· rfl); (· ((conv => lhs; whnf) <;> rfl)))
  (apply ow_assign; (· rfl); (· ((conv => lhs; whnf) <;> rfl)))
  refine ow_nil ?_
  refine wc_seq ?_
  refine wc_seq ?_
  refine wc_region ?_
  (apply ow_assign; (· rfl); (· ((conv => lhs; whnf) <;> rfl)))
  refine ow_nil ?_
  refine wc_block ?_
  refine wc_loopS [4, 5, 6, 9, 10, 11, 12, 13, 14, 15, 16, 17, 18, 19, 20, 21, 22, 23, 24, 25, 26, 27, 28, 29, 30, 31, 32, 33, 34, 35] (fun (s : Nat × (Option Addr × Nat) × Option Addr × Nat) e => upd (upd (upd e 4 (.slice s.2.1.1 (prU m s.1).length s.2.1.2)) 5 (.slice s.2.2.1 (prU m s.1).length s.2.2.2)) 6 (.int .i64 s.1)) (fun s D w => D = [] ∧ s.1 ≤ m.length ∧ St Pu w0 w (rpC s.2.1.1 s.2.2.1 s.2.1.2 s.2.2.2 (prU m s.1)) []) (fun s _ => m.length - s.1) (0, (some ⟨ba, 0, none⟩, 0), some ⟨bb, 0, none⟩, 0) (by first | exact rfl | exact upd_self' rfl rfl | exact upd_self' rfl (upd_self' rfl rfl) | exact upd_self' rfl (upd_self' rfl (upd_self' rfl rfl)) | exact upd_self' rfl (upd_self' rfl (upd_self' rfl (upd_self' rfl rfl)))) ⟨rfl, Nat.zero_le _, H⟩ ?_
  clear H
  rintro ⟨i, ⟨q1, c1⟩, q2, c2⟩ j D w ⟨rfl, hi, H⟩
  dsimp only at hi H ⊢
  have hpl := prU_len m i
  refine wc_seq ?_
  refine wc_seq ?_
  refine wc_region ?_
  (apply ow_move; (· rfl); (· ((conv => lhs; whnf) <;> rfl)))
  (apply ow_move; (· rfl); (· ((conv => lhs; whnf) <;> rfl)))
  refine ow_len rfl rfl (tyAt rfl) rfl ?_
  refine ow_lss rfl rfl rfl ?_
  (apply ow_move; (· rfl); (· ((conv => lhs; whnf) <;> rfl)))
  refine ow_guard_dec rfl rfl rfl (fun h => ?_) (fun h => ?_) <;> try dsimp only at h
  · have hlt : i < m.length := by omega
    clear h
    refine ow_guard_yes rfl rfl rfl rfl ?_
    (apply ow_move; (· rfl); (· ((conv => lhs; whnf) <;> rfl)))
    refine ow_guard_yes rfl rfl rfl rfl ?_
    refine ow_call rfl rfl (ent (by kernel_rfl)) (CallsV.mono (refRight_spec p c m (by omega) w (H.oldSl hs)) ?_) rfl
    rintro v w' ⟨rfl, rfl⟩
    by_cases hR : RightP m
    · rw [decide_eq_true hR]
      have hsx := hs
      obtain ⟨bq, oq, rfl⟩ := hs.some_of (by simp; omega)
      have hpe : prU m (i + 1) = prU m i ++ prE m i := rfl
      (apply ow_pick_t; (· rfl); (· rfl); (· ((conv => lhs; whnf) <;> rfl)))
      refine ow_nil ?_
      refine wc_cond_true rfl ?_
      refine wc_skip ?_
      refine wc_seq ?_
      refine wc_block ?_
      refine wc_seq ?_
      refine wc_region ?_
      (apply ow_move; (· rfl); (· ((conv => lhs; whnf) <;> rfl)))
      (apply ow_move; (· rfl); (· ((conv => lhs; whnf) <;> rfl)))
      (apply ow_move; (· rfl); (· ((conv => lhs; whnf) <;> rfl)))
      refine ow_idx1 (j := i) rfl (tyAt rfl) rfl (tyAt rfl) rfl rfl rfl hlt rfl ?_
      refine ow_load rfl (tyAt rfl) rfl rfl ((H.oldSl hsx).int hlt) ?_
      refine ow_lss rfl rfl rfl ?_
      refine ow_nil ?_
      refine wc_cond_dec rfl (fun h => ?_) (fun h => ?_) <;> try dsimp only at h
      · rw [show prE m i = [((i : Int), m.getD i 0)] from if_pos ⟨hR, h⟩] at hpe
        have hl1 : (prU m (i + 1)).length = (prU m i).length + 1 := by rw [hpe, List.length_append]; rfl
        have hi1 : ints .i64 ((prU m (i + 1)).map (·.1)) = ints .i64 ((prU m i).map (·.1)) ++ [.int .i64 (i : Int)] := by rw [hpe, List.map_append, List.map_singleton, ints_snoc]
        have hi2 : ints .i64 ((prU m (i + 1)).map (·.2)) = ints .i64 ((prU m i).map (·.2)) ++ [.int .i64 (m.getD i 0)] := by rw [hpe, List.map_append, List.map_singleton, ints_snoc]
        refine wc_seq ?_
        refine wc_region ?_
        (apply ow_move; (· rfl); (· ((conv => lhs; whnf) <;> rfl)))
        (apply ow_move; (· rfl); (· ((conv => lhs; whnf) <;> rfl)))
        refine ow_buildSlice1 (vs := [.int .i64 (i : Int)]) H rfl (tyAt rfl) rfl (tyAt rfl) rfl rfl rfl rfl rfl (by simp [Value.one]) (fun ea w H => ?_)
        refine ow_append (i := 2) H rfl rfl (tyAt rfl) rfl (tyAt rfl) rfl (by decide) rfl rfl (H.rowSl (i := 0) rfl) rfl (by simp [Value.oneCell']) (by dsimp only; omega) (by omega) (fun p1 d1 w H => ?_)
        dsimp only [List.set] at H
        replace H := H.drop
        (apply ow_assign; (· rfl); (· ((conv => lhs; whnf) <;> rfl)))
        refine ow_nil ?_
        refine wc_region ?_
        (apply ow_move; (· rfl); (· ((conv => lhs; whnf) <;> rfl)))
        (apply ow_move; (· rfl); (· ((conv => lhs; whnf) <;> rfl)))
        (apply ow_move; (· rfl); (· ((conv => lhs; whnf) <;> rfl)))
        refine ow_idx1 (j := i) rfl (tyAt rfl) rfl (tyAt rfl) rfl rfl rfl hlt rfl ?_
        refine ow_load rfl (tyAt rfl) rfl rfl ((H.oldSl hsx).int hlt) ?_
        refine ow_buildSlice1 (vs := [.int .i64 (m.getD i 0)]) H rfl (tyAt rfl) rfl (tyAt rfl) rfl rfl rfl rfl rfl (by simp [Value.one]) (fun eb w H => ?_)
        refine ow_append (i := 1) H rfl rfl (tyAt rfl) rfl (tyAt rfl) rfl (by decide) rfl rfl (H.rowSl (i := 0) rfl) rfl (by simp [Value.oneCell']) (by dsimp only; omega) (by omega) (fun p2 d2 w H => ?_)
        dsimp only [List.set] at H
        replace H := H.drop
        rw [← hi1, ← hi2, ← hl1] at H
        rw [← hl1]
        (apply ow_assign; (· rfl); (· ((conv => lhs; whnf) <;> rfl)))
        refine ow_nil ?_
        refine wc_region ?_
        (apply ow_move; (· rfl); (· ((conv => lhs; whnf) <;> rfl)))
        refine ow_add rfl rfl rfl (by simp only [InK]; omega) ?_
        (apply ow_assign; (· rfl); (· ((conv => lhs; whnf) <;> rfl)))
        refine ow_nil ?_
        exact ⟨(i + 1, (p1, d1), p2, d2), by first | exact rfl | exact upd_self' rfl rfl | exact upd_self' rfl (upd_self' rfl rfl) | exact upd_self' rfl (upd_self' rfl (upd_self' rfl rfl)) | exact upd_self' rfl (upd_self' rfl (upd_self' rfl (upd_self' rfl rfl))), by repeat (first | with_reducible exact Off.mix | with_reducible exact Off.refl | ((with_reducible refine Off.upd ?_ ?_); (· rfl))), ⟨rfl, hlt, H⟩, by dsimp only; omega⟩
      · rw [show prE m i = [] from if_neg (fun h' => h h'.2), List.append_nil] at hpe
        rw [← hpe] at H ⊢
        refine wc_skip ?_
        refine wc_region ?_
        (apply ow_move; (· rfl); (· ((conv => lhs; whnf) <;> rfl)))
        refine ow_add rfl rfl rfl (by simp only [InK]; omega) ?_
        (apply ow_assign; (· rfl); (· ((conv => lhs; whnf) <;> rfl)))
        refine ow_nil ?_
        exact ⟨(i + 1, (q1, c1), q2, c2), by first | exact rfl | exact upd_self' rfl rfl | exact upd_self' rfl (upd_self' rfl rfl) | exact upd_self' rfl (upd_self' rfl (upd_self' rfl rfl)) | exact upd_self' rfl (upd_self' rfl (upd_self' rfl (upd_self' rfl rfl))), by repeat (first | with_reducible exact Off.mix | with_reducible exact Off.refl | ((with_reducible refine Off.upd ?_ ?_); (· rfl))), ⟨rfl, hlt, H⟩, by dsimp only; omega⟩
    · have hnil : ∀ k, prU m k = [] := by
        intro k
        induction k with
        | zero => rfl
        | succ k ih => rw [prU_no (fun h => hR h.1), ih]
      rw [decide_eq_false hR]
      have e : prL m = prU m i := by rw [hnil i]; exact hnil _
      rw [e]
      (apply ow_pick_t; (· rfl); (· rfl); (· ((conv => lhs; whnf) <;> rfl)))
      refine ow_nil ?_
      refine wc_cond_false rfl ?_
      refine wc_exit ?_
      refine wc_seq ?_
      refine wc_region ?_
      (apply ow_move; (· rfl); (· ((conv => lhs; whnf) <;> rfl)))
      (apply ow_move; (· rfl); (· ((conv => lhs; whnf) <;> rfl)))
      (apply ow_assign; (· rfl); (· ((conv => lhs; whnf) <;> rfl)))
      (apply ow_assign; (· rfl); (· ((conv => lhs; whnf) <;> rfl)))
      refine ow_nil ?_
      refine wc_ret ?_
      obtain ⟨w, hT, H⟩ := H.takes Try.prog
      refine ⟨.inr rfl, w, hT, _, .tmp (.tmp .nil), ?_⟩
      exact ⟨_, _, _, _, rfl, H⟩
  · have hi' : i = m.length := by omega
    subst hi'
    refine ow_guard_no rfl rfl rfl rfl rfl rfl rfl ?_
    refine ow_guard_no rfl rfl rfl rfl rfl rfl rfl ?_
    (apply ow_pick_f; (· rfl); (· rfl); (· ((conv => lhs; whnf) <;> rfl)))
    refine ow_nil ?_
    refine wc_cond_false rfl ?_
    refine wc_exit ?_
    refine wc_seq ?_
    refine wc_region ?_
    (apply ow_move; (· rfl); (· ((conv => lhs; whnf) <;> rfl)))
    (apply ow_move; (· rfl); (· ((conv => lhs; whnf) <;> rfl)))
    (apply ow_assign; (· rfl); (· ((conv => lhs; whnf) <;> rfl)))
    (apply ow_assign; (· rfl); (· ((conv => lhs; whnf) <;> rfl)))
    refine ow_nil ?_
    refine wc_ret ?_
    obtain ⟨w, hT, H⟩ := H.takes Try.prog
    refine ⟨.inr rfl, w, hT, _, .tmp (.tmp .nil), ?_⟩
    exact ⟨_, _, _, _, rfl, H⟩
end Go.Proofs.Ytgliblmpiilloaa
