/- Cut: Index, Contains, Cut, Gain, Up, Bound, Fits. -/
import Derived.Test.YtpbknokakooekaaCB
import Derived.Test.YtpbknokakooekaaN1
namespace Go.Proofs.Ytpbknokakooekaa
set_option linter.all false
open Go Go.Sx Go.Proofs
set_option maxRecDepth 100000
set_option maxHeartbeats 2000000
theorem index_spec (p : List Int) (q : Option Addr) (c : Nat) (v : Int) (hm : p.length ≤ 9223372036854775807) (w0 : World) (hs : SlH (hp w0) q (ints .i64 p)) :
    CallsV Try.prog 103 #[.slice q p.length c, .int .i64 v] w0 fun r w => ((∃ i : Nat, i < p.length ∧ p.getD i 0 = v ∧ (∀ j, j < i → p.getD j 0 ≠ v) ∧ r = .int .i64 (i : Int)) ∨ (r = .int .i64 (-1) ∧ ∀ i, i < p.length → p.getD i 0 ≠ v)) ∧ w = w0 := by
  refine callsV_of Try.func103 rfl rfl ?_
  refine wc_seq ?_
  refine wc_region ?_
  (apply ow_assign; (· rfl); (· ((conv => lhs; whnf) <;> rfl)))
  refine ow_nil ?_
  refine wc_seq ?_
  refine wc_seq ?_
  refine wc_region ?_
  (apply ow_move; (· rfl); (· ((conv => lhs; whnf) <;> rfl)))
  refine ow_len rfl rfl (tyAt rfl) rfl ?_
  (apply ow_move; (· rfl); (· ((conv => lhs; whnf) <;> rfl)))
  refine ow_nil ?_
  refine wc_block ?_
  refine wc_loopS [4, 5, 8, 9, 10, 11, 12, 13, 14, 15, 16, 17, 18] (fun (s : Nat) e => upd e 8 (.int .i64 s)) (fun s D w => D = [] ∧ w = w0 ∧ s ≤ p.length ∧ ∀ i, i < s → p.getD i 0 ≠ v) (fun s _ => p.length - s) 0 (by first | exact rfl | exact upd_self' rfl rfl | exact upd_self' rfl (upd_self' rfl rfl) | exact upd_self' rfl (upd_self' rfl (upd_self' rfl rfl)) | exact upd_self' rfl (upd_self' rfl (upd_self' rfl (upd_self' rfl rfl)))) ⟨rfl, rfl, Nat.zero_le _, fun k hk => absurd hk (Nat.not_lt_zero _)⟩ ?_
  rintro i j D w ⟨rfl, rfl, hi, hok⟩
  refine wc_seq ?_
  refine wc_region ?_
  refine ow_lss rfl rfl rfl ?_
  refine ow_nil ?_
  refine wc_seq ?_
  refine wc_cond_dec rfl (fun h => ?_) (fun h => ?_) <;> try dsimp only at h
  · have hlt : i < p.length := by omega
    obtain ⟨bq, o, rfl⟩ := hs.some_of (by simp; omega)
    refine wc_skip ?_
    refine wc_seq ?_
    refine wc_block ?_
    refine wc_seq ?_
    refine wc_region ?_
    (apply ow_move; (· rfl); (· ((conv => lhs; whnf) <;> rfl)))
    (apply ow_assign; (· rfl); (· ((conv => lhs; whnf) <;> rfl)))
    refine ow_nil ?_
    refine wc_seq ?_
    refine wc_region ?_
    (apply ow_move; (· rfl); (· ((conv => lhs; whnf) <;> rfl)))
    (apply ow_move; (· rfl); (· ((conv => lhs; whnf) <;> rfl)))
    (apply ow_move; (· rfl); (· ((conv => lhs; whnf) <;> rfl)))
    refine ow_idx1 (j := i) rfl (tyAt rfl) rfl (tyAt rfl) rfl rfl rfl hlt rfl ?_
    refine ow_load rfl (tyAt rfl) rfl rfl (hs.int hlt) ?_
    refine ow_eql rfl rfl rfl ?_
    refine ow_nil ?_
    refine wc_cond_dec rfl (fun h => ?_) (fun h => ?_) <;> try dsimp only at h
    · have he := h.symm
      refine wc_seq ?_
      refine wc_region ?_
      (apply ow_move; (· rfl); (· ((conv => lhs; whnf) <;> rfl)))
      (apply ow_assign; (· rfl); (· ((conv => lhs; whnf) <;> rfl)))
      refine ow_nil ?_
      refine wc_ret ⟨.inr rfl, _, rfl, _, .tmp .nil, .inl ⟨i, hlt, he, hok, rfl⟩, rfl⟩
    · have he : p.getD i 0 ≠ v := fun h' => h h'.symm
      refine wc_skip ?_
      refine wc_region ?_
      refine ow_add rfl rfl rfl (by simp only [InK]; omega) ?_
      (apply ow_move; (· rfl); (· ((conv => lhs; whnf) <;> rfl)))
      refine ow_nil ?_
      refine ⟨i + 1, by first | exact rfl | exact upd_self' rfl rfl | exact upd_self' rfl (upd_self' rfl rfl) | exact upd_self' rfl (upd_self' rfl (upd_self' rfl rfl)) | exact upd_self' rfl (upd_self' rfl (upd_self' rfl (upd_self' rfl rfl))), by repeat (first | with_reducible exact Off.mix | with_reducible exact Off.refl | ((with_reducible refine Off.upd ?_ ?_); (· rfl))), ⟨rfl, rfl, hlt, fun k2 hk2 => ?_⟩, by omega⟩
      rcases Nat.lt_or_ge k2 i with h1 | h1
      · exact hok k2 h1
      · rw [show k2 = i by omega]; exact he
  · have hi' : i = p.length := by omega
    subst hi'
    refine wc_exit ?_
    refine wc_seq ?_
    refine wc_region ?_
    (apply ow_assign; (· rfl); (· ((conv => lhs; whnf) <;> rfl)))
    refine ow_nil ?_
    refine wc_ret ⟨.inr rfl, _, rfl, _, .tmp .nil, .inr ⟨rfl, hok⟩, rfl⟩
def hasP (p : List Int) (v : Int) : Prop := ¬ ∀ i, i < p.length → p.getD i 0 ≠ v
instance (p : List Int) (v : Int) : Decidable (hasP p v) := by unfold hasP; infer_instance
theorem contains_spec (p : List Int) (q : Option Addr) (c : Nat) (v : Int) (hm : p.length ≤ 9223372036854775807) (w0 : World) (hs : SlH (hp w0) q (ints .i64 p)) :
    CallsV Try.prog 129 #[.slice q p.length c, .int .i64 v] w0 fun r w => r = .bool (decide (hasP p v)) ∧ w = w0 := by
  refine callsV_of Try.func129 rfl rfl ?_
  refine wc_seq ?_
  refine wc_region ?_
  (apply ow_assign; (· rfl); (· ((conv => lhs; whnf) <;> rfl)))
  refine ow_nil ?_
  refine wc_seq ?_
  refine wc_region ?_
  (apply ow_move; (· rfl); (· ((conv => lhs; whnf) <;> rfl)))
  (apply ow_move; (· rfl); (· ((conv => lhs; whnf) <;> rfl)))
  refine ow_call rfl rfl (ent (by kernel_rfl)) (CallsV.mono (index_spec p q c v hm w0 hs) ?_) rfl
  rintro r w ⟨(⟨i, hi, hb, _, rfl⟩ | ⟨rfl, hok⟩), rfl⟩
  · refine ow_geq rfl rfl rfl ?_
    (apply ow_assign; (· rfl); (· ((conv => lhs; whnf) <;> rfl)))
    refine ow_nil ?_
    refine wc_ret ⟨.inr rfl, _, rfl, _, .tmp .nil, ?_, rfl⟩
    rw [decide_eq_true (show hasP p v from fun h => h i hi hb)]
    exact congrArg Value.bool (decide_eq_true (by omega))
  · refine ow_geq rfl rfl rfl ?_
    (apply ow_assign; (· rfl); (· ((conv => lhs; whnf) <;> rfl)))
    refine ow_nil ?_
    refine wc_ret ⟨.inr rfl, _, rfl, _, .tmp .nil, ?_, rfl⟩
    rw [decide_eq_false (show ¬ hasP p v from fun h => h hok)]
    rfl
theorem up_spec (a b : Int) (hb : b ≤ 9223372036854775807) (ha : a ≤ 9223372036854775807) (w0 : World) : CallsV Try.prog 96 #[.int .i64 a, .int .i64 b] w0 fun v w => v = .int .i64 (upV a b) ∧ w = w0 := by
  refine callsV_of Try.func96 rfl rfl ?_
  unfold upV
  refine wc_seq ?_
  refine wc_region ?_
  (apply ow_assign; (· rfl); (· ((conv => lhs; whnf) <;> rfl)))
  refine ow_nil ?_
  refine wc_seq ?_
  refine wc_seq ?_
  refine wc_region ?_
  (apply ow_move; (· rfl); (· ((conv => lhs; whnf) <;> rfl)))
  refine ow_lss rfl rfl rfl ?_
  (apply ow_move; (· rfl); (· ((conv => lhs; whnf) <;> rfl)))
  refine ow_guard_dec rfl rfl rfl (fun h => ?_) (fun h => ?_) <;> try dsimp only at h
  · rw [if_pos (.inl h)]
    refine ow_guard_no rfl rfl rfl rfl rfl rfl rfl ?_
    refine ow_guard_no rfl rfl rfl rfl rfl rfl rfl ?_
    (apply ow_pick_t; (· rfl); (· rfl); (· ((conv => lhs; whnf) <;> rfl)))
    refine ow_nil ?_
    refine wc_cond_true rfl ?_
    refine wc_seq ?_
    refine wc_region ?_
    (apply ow_assign; (· rfl); (· ((conv => lhs; whnf) <;> rfl)))
    refine ow_nil ?_
    refine wc_ret ⟨.inr rfl, _, rfl, _, .tmp .nil, rfl, rfl⟩
  · have ha0 := h
    clear h
    refine ow_guard_yes rfl rfl rfl rfl ?_
    (apply ow_move; (· rfl); (· ((conv => lhs; whnf) <;> rfl)))
    refine ow_guard_yes rfl rfl rfl rfl ?_
    refine ow_lss rfl rfl rfl ?_
    (apply ow_pick_f; (· rfl); (· rfl); (· ((conv => lhs; whnf) <;> rfl)))
    refine ow_nil ?_
    refine wc_cond_dec rfl (fun h => ?_) (fun h => ?_) <;> try dsimp only at h
    · rw [if_pos (.inr h)]
      refine wc_seq ?_
      refine wc_region ?_
      (apply ow_assign; (· rfl); (· ((conv => lhs; whnf) <;> rfl)))
      refine ow_nil ?_
      refine wc_ret ⟨.inr rfl, _, rfl, _, .tmp .nil, rfl, rfl⟩
    · rw [if_neg (by omega)]
      have h2 := Int.ediv_nonneg (show 0 ≤ a - 1 by omega) (show 0 ≤ b by omega)
      have h3 := Int.ediv_le_self (a := a - 1) b (by omega)
      refine wc_skip ?_
      refine wc_seq ?_
      refine wc_region ?_
      (apply ow_move; (· rfl); (· ((conv => lhs; whnf) <;> rfl)))
      refine ow_sub rfl rfl rfl (by simp only [InK]; omega) ?_
      (apply ow_move; (· rfl); (· ((conv => lhs; whnf) <;> rfl)))
      refine ow_quo rfl rfl rfl (by omega) (by omega) (by simp only [InK]; omega) ?_
      refine ow_add rfl rfl rfl (by simp only [InK]; omega) ?_
      (apply ow_assign; (· rfl); (· ((conv => lhs; whnf) <;> rfl)))
      refine ow_nil ?_
      refine wc_ret ⟨.inr rfl, _, rfl, _, .tmp .nil, rfl, rfl⟩
theorem bound_spec (g : GX) (ms : List MpT) (k : Int) (h4 : g.ws.length ≤ 4096) (hmay : ∀ z ∈ g.ws, mayW z) (w0 : World) (hG : Gr (hp w0) g ms) :
    CallsV Try.prog 54 #[.pointer (some ⟨g.b, 0, none⟩), .int .i64 k] w0 fun v w => v = .int .i64 (boundV g.ws k) ∧ St Pu w0 w [] [] := by
  refine callsV_of Try.func54 rfl rfl ?_
  have H := St.init w0
  unfold boundV
  refine wc_seq ?_
  refine wc_region ?_
  (apply ow_assign; (· rfl); (· ((conv => lhs; whnf) <;> rfl)))
  refine ow_nil ?_
  refine wc_seq ?_
  refine wc_seq ?_
  refine wc_region ?_
  (apply ow_move; (· rfl); (· ((conv => lhs; whnf) <;> rfl)))
  refine ow_call rfl rfl (ent (by kernel_rfl)) (CallsV.mono (mayK_spec k w0) ?_) rfl
  rintro v w ⟨rfl, rfl⟩
  by_cases hk : mayK k
  · rw [decide_eq_true hk, if_pos hk]
    refine ow_not rfl rfl ?_
    refine ow_nil ?_
    refine wc_cond_false rfl ?_
    refine wc_skip ?_
    refine wc_seq ?_
    refine wc_region ?_
    (apply ow_assign; (· rfl); (· ((conv => lhs; whnf) <;> rfl)))
    refine ow_nil ?_
    refine wc_seq ?_
    refine wc_seq ?_
    refine wc_region ?_
    (apply ow_move; (· rfl); (· ((conv => lhs; whnf) <;> rfl)))
    refine ow_call rfl rfl (ent (by kernel_rfl)) (CallsV.mono (glen_spec g ms w hG) ?_) rfl
    rintro v w' ⟨rfl, rfl⟩
    (apply ow_move; (· rfl); (· ((conv => lhs; whnf) <;> rfl)))
    refine ow_nil ?_
    refine wc_blockJ [5, 6, 12, 13, 14, 15, 16, 17, 18, 19, 20] (fun (_ : Unit) e => upd e 5 (.int .i64 (mxW g.ws g.ws.length))) (fun _ D w => D = [] ∧ w = w') ?_ ?_
    · refine wc_loopS [5, 6, 12, 13, 14, 15, 16, 17, 18, 19, 20] (fun (s : Nat) e => upd (upd e 5 (.int .i64 (mxW g.ws s))) 12 (.int .i64 s)) (fun s D w => D = [] ∧ w = w' ∧ s ≤ g.ws.length) (fun s _ => g.ws.length - s) 0 (by first | exact rfl | exact upd_self' rfl rfl | exact upd_self' rfl (upd_self' rfl rfl) | exact upd_self' rfl (upd_self' rfl (upd_self' rfl rfl)) | exact upd_self' rfl (upd_self' rfl (upd_self' rfl (upd_self' rfl rfl)))) ⟨rfl, rfl, Nat.zero_le _⟩ ?_
      rintro i j D w ⟨rfl, rfl, hi⟩
      refine wc_seq ?_
      refine wc_region ?_
      refine ow_lss rfl rfl rfl ?_
      refine ow_nil ?_
      refine wc_seq ?_
      refine wc_cond_dec rfl (fun h => ?_) (fun h => ?_) <;> try dsimp only at h
      · have hlt : i < g.ws.length := by omega
        have hsn := mxW_succ hlt
        have hwt : wtG g.ws (i : Int) = g.ws.getD i 0 := by unfold wtG; rw [if_pos ⟨by omega, by omega⟩, Int.toNat_natCast]
        refine wc_skip ?_
        refine wc_seq ?_
        refine wc_block ?_
        refine wc_seq ?_
        refine wc_region ?_
        (apply ow_move; (· rfl); (· ((conv => lhs; whnf) <;> rfl)))
        (apply ow_assign; (· rfl); (· ((conv => lhs; whnf) <;> rfl)))
        refine ow_nil ?_
        refine wc_region ?_
        (apply ow_move; (· rfl); (· ((conv => lhs; whnf) <;> rfl)))
        (apply ow_move; (· rfl); (· ((conv => lhs; whnf) <;> rfl)))
        (apply ow_move; (· rfl); (· ((conv => lhs; whnf) <;> rfl)))
        refine ow_call rfl rfl (ent (by kernel_rfl)) (CallsV.mono (weight_spec g ms (i : Int) w hG) ?_) rfl
        rintro v w2 ⟨rfl, rfl⟩
        rw [hwt]
        refine ow_max rfl rfl rfl ?_
        (apply ow_assign; (· rfl); (· ((conv => lhs; whnf) <;> rfl)))
        refine ow_nil ?_
        refine wc_region ?_
        refine ow_add rfl rfl rfl (by simp only [InK]; omega) ?_
        (apply ow_move; (· rfl); (· ((conv => lhs; whnf) <;> rfl)))
        refine ow_nil ?_
        refine ⟨i + 1, ?_, by repeat (first | with_reducible exact Off.mix | with_reducible exact Off.refl | ((with_reducible refine Off.upd ?_ ?_); (· rfl))), ⟨rfl, rfl, hlt⟩, by omega⟩
        rw [hsn]
        first | exact rfl | exact upd_self' rfl rfl | exact upd_self' rfl (upd_self' rfl rfl) | exact upd_self' rfl (upd_self' rfl (upd_self' rfl rfl)) | exact upd_self' rfl (upd_self' rfl (upd_self' rfl (upd_self' rfl rfl)))
      · have hi' : i = g.ws.length := by omega
        subst hi'
        refine wc_exit ?_
        exact ⟨(), by first | exact rfl | exact upd_self' rfl rfl | exact upd_self' rfl (upd_self' rfl rfl) | exact upd_self' rfl (upd_self' rfl (upd_self' rfl rfl)) | exact upd_self' rfl (upd_self' rfl (upd_self' rfl (upd_self' rfl rfl))), by repeat (first | with_reducible exact Off.mix | with_reducible exact Off.refl | ((with_reducible refine Off.upd ?_ ?_); (· rfl))), rfl, rfl⟩
    rintro _ j D w ⟨rfl, rfl⟩
    have hs := sum_le hmay
    have h1 := mxW_nn g.ws g.ws.length (Nat.le_refl _)
    have h2 := mxW_le hmay g.ws.length (Nat.le_refl _)
    have h3 := upV_in hs.1 hk.1
    have hk2 := hk.2
    refine wc_seq ?_
    refine wc_region ?_
    (apply ow_move; (· rfl); (· ((conv => lhs; whnf) <;> rfl)))
    refine ow_call rfl rfl (ent (by kernel_rfl)) (CallsV.mono (total_spec g ms h4 hmay w hG) ?_) rfl
    rintro v w' ⟨rfl, rfl⟩
    (apply ow_move; (· rfl); (· ((conv => lhs; whnf) <;> rfl)))
    refine ow_call rfl rfl (ent (by kernel_rfl)) (CallsV.mono (up_spec g.ws.sum k (by omega) (by omega) _) ?_) rfl
    rintro v w2 ⟨rfl, rfl⟩
    (apply ow_move; (· rfl); (· ((conv => lhs; whnf) <;> rfl)))
    refine ow_add rfl rfl rfl (by simp only [InK]; omega) ?_
    (apply ow_assign; (· rfl); (· ((conv => lhs; whnf) <;> rfl)))
    refine ow_nil ?_
    refine wc_ret ?_
    obtain ⟨w, hT, H⟩ := H.takes Try.prog
    refine ⟨.inr rfl, w, hT, _, .tmp .nil, ?_⟩
    exact ⟨rfl, H⟩
  · rw [decide_eq_false hk, if_neg hk]
    refine ow_not rfl rfl ?_
    refine ow_nil ?_
    refine wc_cond_true rfl ?_
    refine wc_seq ?_
    refine wc_region ?_
    (apply ow_assign; (· rfl); (· ((conv => lhs; whnf) <;> rfl)))
    refine ow_nil ?_
    refine wc_ret ?_
    obtain ⟨w, hT, H⟩ := H.takes Try.prog
    refine ⟨.inr rfl, w, hT, _, .tmp .nil, ?_⟩
    exact ⟨rfl, H⟩
theorem over_spec (b : Nat) (k x : Int) (w0 : World) (hk : SlH (hp w0) (some ⟨b, 0, none⟩) [.int .i64 k]) : CallsV Try.prog 99 #[.int .i64 x, .pointer (some ⟨b, 0, none⟩)] w0 fun v w => v = .bool (decide (k < x)) ∧ w = w0 := by
  refine callsV_of Try.func99 rfl rfl ?_
  refine wc_seq ?_
  refine wc_region ?_
  (apply ow_assign; (· rfl); (· ((conv => lhs; whnf) <;> rfl)))
  refine ow_nil ?_
  refine wc_seq ?_
  refine wc_region ?_
  (apply ow_move; (· rfl); (· ((conv => lhs; whnf) <;> rfl)))
  refine ow_load rfl (tyAt rfl) rfl rfl (hk.cell (j := 0) rfl) ?_
  refine ow_gtr rfl rfl rfl ?_
  (apply ow_assign; (· rfl); (· ((conv => lhs; whnf) <;> rfl)))
  refine ow_nil ?_
  refine wc_ret ⟨.inr rfl, _, rfl, _, .tmp .nil, rfl, rfl⟩
theorem overIdx_spec (b : Nat) (k : Int) (p : List Int) (q : Option Addr) (c : Nat) (hm : p.length ≤ 9223372036854775807) (w0 : World) (hk : SlH (hp w0) (some ⟨b, 0, none⟩) [.int .i64 k]) (hs : SlH (hp w0) q (ints .i64 p)) :
    CallsV Try.prog 130 #[.slice q p.length c, .func (.func 99) #[] #[.pointer (some ⟨b, 0, none⟩)]] w0 fun v w => ((∃ i : Nat, i < p.length ∧ k < p.getD i 0 ∧ v = .int .i64 (i : Int)) ∨ (v = .int .i64 (-1) ∧ ∀ i, i < p.length → ¬ k < p.getD i 0)) ∧ w = w0 := by
  refine callsV_of Try.func130 rfl rfl ?_
  refine wc_seq ?_
  refine wc_region ?_
  (apply ow_assign; (· rfl); (· ((conv => lhs; whnf) <;> rfl)))
  refine ow_nil ?_
  refine wc_seq ?_
  refine wc_seq ?_
  refine wc_region ?_
  (apply ow_move; (· rfl); (· ((conv => lhs; whnf) <;> rfl)))
  refine ow_len rfl rfl (tyAt rfl) rfl ?_
  (apply ow_move; (· rfl); (· ((conv => lhs; whnf) <;> rfl)))
  refine ow_nil ?_
  refine wc_block ?_
  refine wc_loopS [4, 5, 8, 9, 10, 11, 12, 13, 14, 15, 16, 17, 18] (fun (s : Nat) e => upd e 8 (.int .i64 s)) (fun s D w => D = [] ∧ w = w0 ∧ s ≤ p.length ∧ ∀ i, i < s → ¬ k < p.getD i 0) (fun s _ => p.length - s) 0 (by first | exact rfl | exact upd_self' rfl rfl | exact upd_self' rfl (upd_self' rfl rfl) | exact upd_self' rfl (upd_self' rfl (upd_self' rfl rfl)) | exact upd_self' rfl (upd_self' rfl (upd_self' rfl (upd_self' rfl rfl)))) ⟨rfl, rfl, Nat.zero_le _, fun k hk => absurd hk (Nat.not_lt_zero _)⟩ ?_
  rintro i j D w ⟨rfl, rfl, hi, hok⟩
  refine wc_seq ?_
  refine wc_region ?_
  refine ow_lss rfl rfl rfl ?_
  refine ow_nil ?_
  refine wc_seq ?_
  refine wc_cond_dec rfl (fun h => ?_) (fun h => ?_) <;> try dsimp only at h
  · have hlt : i < p.length := by omega
    obtain ⟨bq, o, rfl⟩ := hs.some_of (by simp; omega)
    refine wc_skip ?_
    refine wc_seq ?_
    refine wc_block ?_
    refine wc_seq ?_
    refine wc_region ?_
    (apply ow_move; (· rfl); (· ((conv => lhs; whnf) <;> rfl)))
    (apply ow_assign; (· rfl); (· ((conv => lhs; whnf) <;> rfl)))
    refine ow_nil ?_
    refine wc_seq ?_
    refine wc_region ?_
    (apply ow_move; (· rfl); (· ((conv => lhs; whnf) <;> rfl)))
    (apply ow_move; (· rfl); (· ((conv => lhs; whnf) <;> rfl)))
    (apply ow_move; (· rfl); (· ((conv => lhs; whnf) <;> rfl)))
    refine ow_idx1 (j := i) rfl (tyAt rfl) rfl (tyAt rfl) rfl rfl rfl hlt rfl ?_
    refine ow_load rfl (tyAt rfl) rfl rfl (hs.int hlt) ?_
    refine ow_call rfl rfl (ent (by kernel_rfl)) (CallsV.mono (over_spec b k (p.getD i 0) w hk) ?_) rfl
    rintro v w' ⟨rfl, rfl⟩
    by_cases hb : k < p.getD i 0
    · rw [decide_eq_true hb]
      refine ow_nil ?_
      refine wc_cond_true rfl ?_
      refine wc_seq ?_
      refine wc_region ?_
      (apply ow_move; (· rfl); (· ((conv => lhs; whnf) <;> rfl)))
      (apply ow_assign; (· rfl); (· ((conv => lhs; whnf) <;> rfl)))
      refine ow_nil ?_
      refine wc_ret ⟨.inr rfl, _, rfl, _, .tmp .nil, .inl ⟨i, hlt, hb, rfl⟩, rfl⟩
    · rw [decide_eq_false hb]
      refine ow_nil ?_
      refine wc_cond_false rfl ?_
      refine wc_skip ?_
      refine wc_region ?_
      refine ow_add rfl rfl rfl (by simp only [InK]; omega) ?_
      (apply ow_move; (· rfl); (· ((conv => lhs; whnf) <;> rfl)))
      refine ow_nil ?_
      refine ⟨i + 1, by first | exact rfl | exact upd_self' rfl rfl | exact upd_self' rfl (upd_self' rfl rfl) | exact upd_self' rfl (upd_self' rfl (upd_self' rfl rfl)) | exact upd_self' rfl (upd_self' rfl (upd_self' rfl (upd_self' rfl rfl))), by repeat (first | with_reducible exact Off.mix | with_reducible exact Off.refl | ((with_reducible refine Off.upd ?_ ?_); (· rfl))), ⟨rfl, rfl, hlt, fun k2 hk2 => ?_⟩, by omega⟩
      rcases Nat.lt_or_ge k2 i with h1 | h1
      · exact hok k2 h1
      · rw [show k2 = i by omega]; exact hb
  · have hi' : i = p.length := by omega
    subst hi'
    refine wc_exit ?_
    refine wc_seq ?_
    refine wc_region ?_
    (apply ow_assign; (· rfl); (· ((conv => lhs; whnf) <;> rfl)))
    refine ow_nil ?_
    refine wc_ret ⟨.inr rfl, _, rfl, _, .tmp .nil, .inr ⟨rfl, hok⟩, rfl⟩
theorem overAny_spec (b : Nat) (k : Int) (p : List Int) (q : Option Addr) (c : Nat) (hm : p.length ≤ 9223372036854775807) (w0 : World) (hk : SlH (hp w0) (some ⟨b, 0, none⟩) [.int .i64 k]) (hs : SlH (hp w0) q (ints .i64 p)) :
    CallsV Try.prog 98 #[.slice q p.length c, .func (.func 99) #[] #[.pointer (some ⟨b, 0, none⟩)]] w0 fun v w => v = .bool (decide (¬ ∀ i, i < p.length → ¬ k < p.getD i 0)) ∧ w = w0 := by
  refine callsV_of Try.func98 rfl rfl ?_
  refine wc_seq ?_
  refine wc_region ?_
  (apply ow_assign; (· rfl); (· ((conv => lhs; whnf) <;> rfl)))
  refine ow_nil ?_
  refine wc_seq ?_
  refine wc_region ?_
  (apply ow_move; (· rfl); (· ((conv => lhs; whnf) <;> rfl)))
  (apply ow_move; (· rfl); (· ((conv => lhs; whnf) <;> rfl)))
  refine ow_call rfl rfl (ent (by kernel_rfl)) (CallsV.mono (overIdx_spec b k p q c hm w0 hk hs) ?_) rfl
  rintro v w ⟨(⟨i, hi, hb, rfl⟩ | ⟨rfl, hok⟩), rfl⟩
  · refine ow_geq rfl rfl rfl ?_
    (apply ow_assign; (· rfl); (· ((conv => lhs; whnf) <;> rfl)))
    refine ow_nil ?_
    refine wc_ret ⟨.inr rfl, _, rfl, _, .tmp .nil, ?_, rfl⟩
    rw [decide_eq_true (show ¬ ∀ i, i < p.length → ¬ k < p.getD i 0 from fun h => h i hi hb)]
    exact congrArg Value.bool (decide_eq_true (by omega))
  · refine ow_geq rfl rfl rfl ?_
    (apply ow_assign; (· rfl); (· ((conv => lhs; whnf) <;> rfl)))
    refine ow_nil ?_
    refine wc_ret ⟨.inr rfl, _, rfl, _, .tmp .nil, ?_, rfl⟩
    rw [decide_eq_false (show ¬ ¬ ∀ i, i < p.length → ¬ k < p.getD i 0 from fun h => h hok)]
    rfl
theorem fits_spec (g : GX) (ms : List MpT) (p : List Int) (q : Option Addr) (c : Nat) (k : Int) (hm : p.length ≤ 9223372036854775807) (hmay : ∀ z ∈ g.ws, mayW z) (hn : ms.length = g.ws.length) (h4 : g.ws.length ≤ 4096) (w0 : World) (hG : Gr (hp w0) g ms) (hs : SlH (hp w0) q (ints .i64 p)) :
    CallsV Try.prog 58 #[.pointer (some ⟨g.b, 0, none⟩), .slice q p.length c, .int .i64 k] w0 fun v w => v = .bool (decide (fitsB g.ws p k)) ∧ St Pu w0 w [] [] := by
  refine callsV_of Try.func58 rfl rfl ?_
  have H := St.init w0
  refine wc_seq ?_
  refine wc_region ?_
  (apply ow_assign; (· rfl); (· ((conv => lhs; whnf) <;> rfl)))
  refine ow_nil ?_
  refine wc_seq ?_
  refine wc_region ?_
  (apply ow_move; (· rfl); (· ((conv => lhs; whnf) <;> rfl)))
  (apply ow_move; (· rfl); (· ((conv => lhs; whnf) <;> rfl)))
  refine ow_call rfl rfl (ent (by kernel_rfl)) (CallsV.mono (bound_spec g ms k h4 hmay w0 hG) ?_) rfl
  rintro v w ⟨rfl, H'⟩
  replace H := H.call H'
  rw [List.nil_append] at H
  clear H'
  refine ow_alloc (l := [.int .i64 0]) H rfl (tyAt rfl) rfl (fun b7 w H => ?_)
  refine ow_store (i := 0) (o := 0) (v := .int .i64 (boundV g.ws k)) H (tyAt rfl) rfl rfl rfl rfl rfl (by simp) (fun w H => ?_)
  dsimp only [List.set] at H
  refine ow_nil ?_
  refine wc_seq ?_
  refine wc_region ?_
  (apply ow_move; (· rfl); (· ((conv => lhs; whnf) <;> rfl)))
  (apply ow_move; (· rfl); (· ((conv => lhs; whnf) <;> rfl)))
  (apply ow_move; (· rfl); (· ((conv => lhs; whnf) <;> rfl)))
  refine ow_call rfl rfl (ent (by kernel_rfl)) (CallsV.mono (cutRight_spec g ms p q c k hm w (Gr.old H hG) (H.oldSl hs)) ?_) rfl
  rintro v w ⟨rfl, H'⟩
  replace H := H.call H'
  rw [List.nil_append] at H
  clear H'
  by_cases hR : CutR g.ws.length p k
  · rw [decide_eq_true hR]
    have hk := hR.1
    unfold mayK at hk
    obtain ⟨kn, rfl⟩ : ∃ kn : Nat, k = (kn : Int) := ⟨k.toNat, by omega⟩
    (apply ow_move; (· rfl); (· ((conv => lhs; whnf) <;> rfl)))
    refine ow_guard_yes rfl rfl rfl rfl ?_
    (apply ow_move; (· rfl); (· ((conv => lhs; whnf) <;> rfl)))
    refine ow_guard_yes rfl rfl rfl rfl ?_
    (apply ow_move; (· rfl); (· ((conv => lhs; whnf) <;> rfl)))
    refine ow_guard_yes rfl rfl rfl rfl ?_
    (apply ow_move; (· rfl); (· ((conv => lhs; whnf) <;> rfl)))
    refine ow_guard_yes rfl rfl rfl rfl ?_
    refine ow_call rfl rfl (ent (by kernel_rfl)) (CallsV.mono (weights_spec g ms p q c kn hm hmay hn h4 w (Gr.old H hG) (H.oldSl hs)) ?_) rfl
    rintro v w (⟨hno, _⟩ | ⟨_, b, rfl, H'⟩)
    · exact absurd hR hno
    replace H := H.call H'
    simp only [List.cons_append, List.nil_append] at H
    clear H'
    have hl := wtL_len g.ws p kn p.length
    have ho := overAny_spec b7 (boundV g.ws (kn : Int)) (wtL g.ws p kn p.length) (some ⟨b, 0, none⟩) kn (by omega) w (H.rowSl (i := 1) rfl) (H.rowSl (i := 0) rfl)
    rw [hl] at ho
    refine ow_guard_yes rfl rfl rfl rfl ?_
    refine ow_makeFunc (fs := []) (cs := [.pointer _]) rfl rfl rfl ?_
    refine ow_guard_yes rfl rfl rfl rfl ?_
    refine ow_call rfl rfl (ent (by kernel_rfl)) (CallsV.mono (ho) ?_) rfl
    rintro v w' ⟨rfl, rfl⟩
    refine ow_guard_yes rfl rfl rfl rfl ?_
    refine ow_not_dec rfl rfl ?_
    (apply ow_pick_t; (· rfl); (· rfl); (· ((conv => lhs; whnf) <;> rfl)))
    (apply ow_assign; (· rfl); (· ((conv => lhs; whnf) <;> rfl)))
    refine ow_nil ?_
    refine wc_ret ?_
    obtain ⟨w, hT, H⟩ := H.takes Try.prog
    refine ⟨.inr rfl, w, hT, _, .tmp .nil, ?_⟩
    refine ⟨congrArg Value.bool ?_, H.none⟩
    have hiff : (∀ i, i < kn → ¬ boundV g.ws (kn : Int) < (wtL g.ws p kn p.length).getD i 0) ↔ fitsB g.ws p (kn : Int) := by
      unfold fitsB
      rw [Int.toNat_natCast]
      constructor
      · exact fun h => ⟨hR, fun j hj => by have := h j hj; rw [wtL_at hj] at this; omega⟩
      · exact fun h i hi => by rw [wtL_at hi]; have := h.2 i hi; omega
    by_cases hf : fitsB g.ws p (kn : Int)
    · rw [decide_eq_true hf]
      exact decide_eq_true (show ¬ ¬ _ from fun h => h (hiff.2 hf))
    · rw [decide_eq_false hf]
      exact decide_eq_false (show ¬ ¬ ¬ _ from fun h => h (fun h' => hf (hiff.1 h')))
  · rw [decide_eq_false hR]
    (apply ow_move; (· rfl); (· ((conv => lhs; whnf) <;> rfl)))
    refine ow_guard_no rfl rfl rfl rfl rfl rfl rfl ?_
    refine ow_guard_no rfl rfl rfl rfl rfl rfl rfl ?_
    refine ow_guard_no rfl rfl rfl rfl rfl rfl rfl ?_
    refine ow_guard_no rfl rfl rfl rfl rfl rfl rfl ?_
    refine ow_guard_no rfl rfl rfl rfl rfl rfl rfl ?_
    refine ow_guard_no rfl rfl rfl rfl rfl rfl rfl ?_
    refine ow_guard_no rfl rfl rfl rfl rfl rfl rfl ?_
    (apply ow_pick_f; (· rfl); (· rfl); (· ((conv => lhs; whnf) <;> rfl)))
    (apply ow_assign; (· rfl); (· ((conv => lhs; whnf) <;> rfl)))
    refine ow_nil ?_
    refine wc_ret ?_
    obtain ⟨w, hT, H⟩ := H.takes Try.prog
    refine ⟨.inr rfl, w, hT, _, .tmp .nil, ?_⟩
    exact ⟨congrArg Value.bool (decide_eq_false (fun h : fitsB g.ws p k => hR h.1)).symm, H.none⟩
end Go.Proofs.Ytpbknokakooekaa

