/- Pairing: lists of mates: SameInts, Right (the program's and the document's), alone. -/
import Derived.Test.YtpbknokakooekaaG6
import Derived.Test.YtpbknokakooekaaK14
namespace Go.Proofs.Ytpbknokakooekaa
set_option linter.all false
open Go Go.Sx Go.Proofs
set_option maxRecDepth 100000
set_option maxHeartbeats 2000000
/-- has the one at i a mate that has it? -/
def okAt (m : List Int) (i : Nat) : Prop := 0 ≤ m.getD i 0 ∧ m.getD i 0 < (m.length : Int) ∧ m.getD (m.getD i 0).toNat 0 = (i : Int)
instance (m : List Int) (i : Nat) : Decidable (okAt m i) := by unfold okAt; infer_instance
def RightP (m : List Int) : Prop := ∀ i, i < m.length → okAt m i
instance (m : List Int) : Decidable (RightP m) := by unfold RightP; infer_instance
theorem getD_some {m : List Int} {i : Nat} (h : i < m.length) : m[i]? = some (m.getD i 0) := by rw [List.getD_eq_getElem?_getD, List.getElem?_eq_getElem h]; rfl
theorem sameInts_spec (p q : Option Addr) (n k c c' : Nat) (xs ys : List Int) (hn : n = xs.length) (hk : k = ys.length) (hm : xs.length ≤ 9223372036854775807) (hm2 : ys.length ≤ 9223372036854775807) (w0 : World) (hx0 : SlH (hp w0) p (ints .i64 xs)) (hy0 : SlH (hp w0) q (ints .i64 ys)) :
    CallsV Try.prog 36 #[.slice p n c, .slice q k c'] w0 fun v w => v = .bool (decide (xs = ys)) ∧ St Pu w0 w [] [] := by
  subst hn hk
  refine callsV_of Try.func36 rfl rfl ?_
  have H := St.init w0
  refine wc_seq ?_
  refine wc_region ?_
  (apply ow_assign; (· rfl); (· ((conv => lhs; whnf) <;> rfl)))
  refine ow_nil ?_
  refine wc_seq ?_
  refine wc_seq ?_
  refine wc_region ?_
  (apply ow_move; (· rfl); (· ((conv => lhs; whnf) <;> rfl)))
  refine ow_len rfl rfl (tyAt rfl) rfl ?_
  (apply ow_move; (· rfl); (· ((conv => lhs; whnf) <;> rfl)))
  refine ow_len rfl rfl (tyAt rfl) rfl ?_
  refine ow_neq rfl rfl rfl ?_
  refine ow_nil ?_
  refine wc_cond_dec rfl (fun h => ?_) (fun h => ?_) <;> try dsimp only at h
  · refine wc_seq ?_
    refine wc_region ?_
    (apply ow_assign; (· rfl); (· ((conv => lhs; whnf) <;> rfl)))
    refine ow_nil ?_
    refine wc_ret ?_
    obtain ⟨w, hT, H⟩ := H.takes Try.prog
    refine ⟨.inr rfl, w, hT, _, .tmp .nil, ?_⟩
    exact ⟨congrArg Value.bool (decide_eq_false (fun e => h (by rw [e]))).symm, H⟩
  have hl : xs.length = ys.length := by omega
  refine wc_skip ?_
  refine wc_seq ?_
  refine wc_seq ?_
  refine wc_region ?_
  (apply ow_assign; (· rfl); (· ((conv => lhs; whnf) <;> rfl)))
  refine ow_nil ?_
  refine wc_block ?_
  refine wc_loopS [4, 5, 11, 12, 13, 14, 15, 16, 17, 18, 19, 20, 21, 22, 23, 24, 25] (fun (s : Nat) e => upd e 5 (.int .i64 s)) (fun s D w => D = [] ∧ s ≤ xs.length ∧ xs.take s = ys.take s ∧ St Pu w0 w [] []) (fun s _ => xs.length - s) 0 (by first | exact rfl | exact upd_self' rfl rfl | exact upd_self' rfl (upd_self' rfl rfl) | exact upd_self' rfl (upd_self' rfl (upd_self' rfl rfl)) | exact upd_self' rfl (upd_self' rfl (upd_self' rfl (upd_self' rfl rfl)))) ⟨rfl, Nat.zero_le _, rfl, H⟩ ?_
  clear H h
  rintro i j D w ⟨rfl, hi, he, H⟩
  refine wc_seq ?_
  refine wc_seq ?_
  refine wc_region ?_
  (apply ow_move; (· rfl); (· ((conv => lhs; whnf) <;> rfl)))
  (apply ow_move; (· rfl); (· ((conv => lhs; whnf) <;> rfl)))
  refine ow_len rfl rfl (tyAt rfl) rfl ?_
  refine ow_lss rfl rfl rfl ?_
  refine ow_nil ?_
  refine wc_cond_dec rfl (fun h => ?_) (fun h => ?_) <;> try dsimp only at h
  · have hlt : i < xs.length := by omega
    have hlt2 : i < ys.length := by omega
    obtain ⟨b, o, rfl⟩ := hx0.some_of (by simp; omega)
    obtain ⟨b2, o2, rfl⟩ := hy0.some_of (by simp; omega)
    refine wc_skip ?_
    refine wc_seq ?_
    refine wc_block ?_
    refine wc_seq ?_
    refine wc_drawK (fun w => St Pu w0 w [] []) 99 (by kernel_rfl) (by kernel_rfl) (by intro c e D w h; first | exact h.elim | (rcases h with ⟨h | h, _⟩ <;> cases h)) ?_
    replace H := H.drew
    apply ak_take (i := 0) rfl rfl rfl rfl (by kernel_rfl) (by with_reducible first | exact H | rfl)
    · intro w Q' HS hq; replace H := HS; clear HS; (apply ow_move; (· rfl); (· ((conv => lhs; whnf) <;> rfl))); exact ow_nil hq
    apply ak_take (i := 1) rfl rfl rfl rfl (by kernel_rfl) (by with_reducible first | exact H | rfl)
    · intro w Q' HS hq; replace H := HS; clear HS; (apply ow_move; (· rfl); (· ((conv => lhs; whnf) <;> rfl))); exact ow_nil hq
    apply ak_take (i := 2) rfl rfl rfl rfl (by kernel_rfl) (by with_reducible first | exact H | rfl)
    · intro w Q' HS hq; replace H := HS; clear HS; refine ow_idx1 (j := i) rfl (tyAt rfl) rfl (tyAt rfl) rfl rfl rfl hlt rfl ?_; exact ow_nil hq
    apply ak_take (i := 3) rfl rfl rfl rfl (by kernel_rfl) (by with_reducible first | exact H | rfl)
    · intro w Q' HS hq; replace H := HS; clear HS; refine ow_load rfl (tyAt rfl) rfl rfl ((H.oldSl hx0).int hlt) ?_; exact ow_nil hq
    apply ak_take (i := 4) rfl rfl rfl rfl (by kernel_rfl) (by with_reducible first | exact H | rfl)
    · intro w Q' HS hq; replace H := HS; clear HS; (apply ow_move; (· rfl); (· ((conv => lhs; whnf) <;> rfl))); exact ow_nil hq
    apply ak_take (i := 5) rfl rfl rfl rfl (by kernel_rfl) (by with_reducible first | exact H | rfl)
    · intro w Q' HS hq; replace H := HS; clear HS; (apply ow_move; (· rfl); (· ((conv => lhs; whnf) <;> rfl))); exact ow_nil hq
    apply ak_take (i := 6) rfl rfl rfl rfl (by kernel_rfl) (by with_reducible first | exact H | rfl)
    · intro w Q' HS hq; replace H := HS; clear HS; refine ow_idx1 (j := i) rfl (tyAt rfl) rfl (tyAt rfl) rfl rfl rfl hlt2 rfl ?_; exact ow_nil hq
    apply ak_take (i := 7) rfl rfl rfl rfl (by kernel_rfl) (by with_reducible first | exact H | rfl)
    · intro w Q' HS hq; replace H := HS; clear HS; refine ow_load rfl (tyAt rfl) rfl rfl ((H.oldSl hy0).int hlt2) ?_; exact ow_nil hq
    apply ak_take (i := 8) rfl rfl rfl rfl (by kernel_rfl) (by with_reducible first | exact H | rfl)
    · intro w Q' HS hq; replace H := HS; clear HS; refine ow_neq rfl rfl rfl ?_; exact ow_nil hq
    refine ak_done (by kernel_rfl) ?_
    skip
    refine wc_cond_dec rfl (fun h => ?_) (fun h => ?_) <;> try dsimp only at h
    · have hxy := h
      refine wc_seq ?_
      refine wc_region ?_
      (apply ow_assign; (· rfl); (· ((conv => lhs; whnf) <;> rfl)))
      refine ow_nil ?_
      refine wc_ret ?_
      obtain ⟨w, hT, H⟩ := H.takes Try.prog
      refine ⟨.inr rfl, w, hT, _, .tmp .nil, ?_⟩
      exact ⟨congrArg Value.bool (decide_eq_false (fun e => hxy (by rw [e]))).symm, H⟩
    · have hxy := Decidable.of_not_not h
      refine wc_skip ?_
      refine wc_region ?_
      (apply ow_move; (· rfl); (· ((conv => lhs; whnf) <;> rfl)))
      refine ow_add rfl rfl rfl (by simp only [InK]; omega) ?_
      (apply ow_assign; (· rfl); (· ((conv => lhs; whnf) <;> rfl)))
      refine ow_nil ?_
      refine ⟨i + 1, by first | exact rfl | exact upd_self' rfl rfl | exact upd_self' rfl (upd_self' rfl rfl) | exact upd_self' rfl (upd_self' rfl (upd_self' rfl rfl)) | exact upd_self' rfl (upd_self' rfl (upd_self' rfl (upd_self' rfl rfl))), by repeat (first | with_reducible exact Off.mix | with_reducible exact Off.refl | ((with_reducible refine Off.upd ?_ ?_); (· rfl))), ⟨rfl, hlt, ?_, H⟩, by omega⟩
      rw [take_snoc (getD_some hlt), take_snoc (getD_some hlt2), he, hxy]
  · have hi' : i = xs.length := by omega
    subst hi'
    rw [List.take_length, hl, List.take_length] at he
    refine wc_exit ?_
    refine wc_seq ?_
    refine wc_region ?_
    (apply ow_assign; (· rfl); (· ((conv => lhs; whnf) <;> rfl)))
    refine ow_nil ?_
    refine wc_ret ?_
    obtain ⟨w, hT, H⟩ := H.takes Try.prog
    refine ⟨.inr rfl, w, hT, _, .tmp .nil, ?_⟩
    exact ⟨congrArg Value.bool (decide_eq_true he).symm, H⟩
theorem right_spec (p : Option Addr) (c : Nat) (m : List Int) (hm : m.length ≤ 9223372036854775807) (w0 : World) (hs : SlH (hp w0) p (ints .i64 m)) :
    CallsV Try.prog 77 #[.slice p m.length c] w0 fun v w => v = .bool (decide (RightP m)) ∧ w = w0 := by
  refine callsV_of Try.func77 rfl rfl ?_
  refine wc_seq ?_
  refine wc_region ?_
  (apply ow_assign; (· rfl); (· ((conv => lhs; whnf) <;> rfl)))
  refine ow_nil ?_
  refine wc_seq ?_
  refine wc_seq ?_
  refine wc_region ?_
  (apply ow_move; (· rfl); (· ((conv => lhs; whnf) <;> rfl)))
  refine ow_len rfl rfl (tyAt rfl) rfl ?_
  (apply ow_move; (· rfl); (· ((conv => lhs; whnf) <;> rfl)))
  refine ow_nil ?_
  refine wc_block ?_
  refine wc_loopS [2, 3, 4, 7, 8, 9, 10, 11, 12, 13, 14, 15, 16, 17, 18, 19, 20, 21, 22, 23, 24, 25, 26, 27, 28] (fun (s : Nat) e => upd e 7 (.int .i64 s)) (fun s D w => D = [] ∧ w = w0 ∧ s ≤ m.length ∧ ∀ k, k < s → okAt m k) (fun s _ => m.length - s) 0 (by first | exact rfl | exact upd_self' rfl rfl | exact upd_self' rfl (upd_self' rfl rfl) | exact upd_self' rfl (upd_self' rfl (upd_self' rfl rfl)) | exact upd_self' rfl (upd_self' rfl (upd_self' rfl (upd_self' rfl rfl)))) ⟨rfl, rfl, Nat.zero_le _, fun k hk => by omega⟩ ?_
  rintro i j D w ⟨rfl, rfl, hi, hok⟩
  refine wc_seq ?_
  refine wc_region ?_
  refine ow_lss rfl rfl rfl ?_
  refine ow_nil ?_
  refine wc_seq ?_
  refine wc_cond_dec rfl (fun h => ?_) (fun h => ?_) <;> try dsimp only at h
  · have hlt : i < m.length := by omega
    obtain ⟨b, o, rfl⟩ := hs.some_of (by simp; omega)
    have hsi := hs.int hlt
    have hno : ¬ okAt m i → (.bool false : Value) = .bool (decide (RightP m)) := fun h => congrArg Value.bool (decide_eq_false (fun hr => h (hr i hlt))).symm
    have hyes : okAt m i → ∀ k, k < i + 1 → okAt m k := fun h k hk => by
      rcases Nat.lt_or_ge k i with h1 | h1
      · exact hok k h1
      · rw [show k = i by omega]; exact h
    unfold okAt at hno hyes
    obtain ⟨z, hz⟩ : ∃ z, m.getD i 0 = z := ⟨_, rfl⟩
    rw [hz] at hsi hno hyes
    refine wc_skip ?_
    refine wc_seq ?_
    refine wc_block ?_
    refine wc_seq ?_
    refine wc_region ?_
    (apply ow_move; (· rfl); (· ((conv => lhs; whnf) <;> rfl)))
    refine ow_idx1 (j := i) rfl (tyAt rfl) rfl (tyAt rfl) rfl rfl rfl hlt rfl ?_
    refine ow_load rfl (tyAt rfl) rfl rfl hsi ?_
    (apply ow_assign; (· rfl); (· ((conv => lhs; whnf) <;> rfl)))
    (apply ow_assign; (· rfl); (· ((conv => lhs; whnf) <;> rfl)))
    refine ow_nil ?_
    refine wc_seq ?_
    refine wc_region ?_
    (apply ow_move; (· rfl); (· ((conv => lhs; whnf) <;> rfl)))
    refine ow_lss rfl rfl rfl ?_
    (apply ow_move; (· rfl); (· ((conv => lhs; whnf) <;> rfl)))
    refine ow_guard_dec rfl rfl rfl (fun h => ?_) (fun h => ?_) <;> try dsimp only at h
    · refine ow_guard_no rfl rfl rfl rfl rfl rfl rfl ?_
      refine ow_guard_no rfl rfl rfl rfl rfl rfl rfl ?_
      refine ow_guard_no rfl rfl rfl rfl rfl rfl rfl ?_
      refine ow_guard_no rfl rfl rfl rfl rfl rfl rfl ?_
      (apply ow_pick_t; (· rfl); (· rfl); (· ((conv => lhs; whnf) <;> rfl)))
      (apply ow_move; (· rfl); (· ((conv => lhs; whnf) <;> rfl)))
      refine ow_guard_no rfl rfl rfl rfl rfl rfl rfl ?_
      refine ow_guard_no rfl rfl rfl rfl rfl rfl rfl ?_
      refine ow_guard_no rfl rfl rfl rfl rfl rfl rfl ?_
      refine ow_guard_no rfl rfl rfl rfl rfl rfl rfl ?_
      refine ow_guard_no rfl rfl rfl rfl rfl rfl rfl ?_
      refine ow_guard_no rfl rfl rfl rfl rfl rfl rfl ?_
      (apply ow_pick_t; (· rfl); (· rfl); (· ((conv => lhs; whnf) <;> rfl)))
      refine ow_nil ?_
      refine wc_cond_true rfl ?_
      refine wc_seq ?_
      refine wc_region ?_
      (apply ow_assign; (· rfl); (· ((conv => lhs; whnf) <;> rfl)))
      refine ow_nil ?_
      refine wc_ret ⟨.inr rfl, _, rfl, _, .tmp .nil, hno (fun h' => by omega), rfl⟩
    refine ow_guard_yes rfl rfl rfl rfl ?_
    (apply ow_move; (· rfl); (· ((conv => lhs; whnf) <;> rfl)))
    refine ow_guard_yes rfl rfl rfl rfl ?_
    (apply ow_move; (· rfl); (· ((conv => lhs; whnf) <;> rfl)))
    refine ow_guard_yes rfl rfl rfl rfl ?_
    refine ow_len rfl rfl (tyAt rfl) rfl ?_
    refine ow_guard_yes rfl rfl rfl rfl ?_
    refine ow_geq rfl rfl rfl ?_
    (apply ow_pick_f; (· rfl); (· rfl); (· ((conv => lhs; whnf) <;> rfl)))
    (apply ow_move; (· rfl); (· ((conv => lhs; whnf) <;> rfl)))
    rename_i h0
    refine ow_guard_dec rfl rfl rfl (fun h => ?_) (fun h => ?_) <;> try dsimp only at h
    · refine ow_guard_no rfl rfl rfl rfl rfl rfl rfl ?_
      refine ow_guard_no rfl rfl rfl rfl rfl rfl rfl ?_
      refine ow_guard_no rfl rfl rfl rfl rfl rfl rfl ?_
      refine ow_guard_no rfl rfl rfl rfl rfl rfl rfl ?_
      refine ow_guard_no rfl rfl rfl rfl rfl rfl rfl ?_
      refine ow_guard_no rfl rfl rfl rfl rfl rfl rfl ?_
      (apply ow_pick_t; (· rfl); (· rfl); (· ((conv => lhs; whnf) <;> rfl)))
      refine ow_nil ?_
      refine wc_cond_true rfl ?_
      refine wc_seq ?_
      refine wc_region ?_
      (apply ow_assign; (· rfl); (· ((conv => lhs; whnf) <;> rfl)))
      refine ow_nil ?_
      refine wc_ret ⟨.inr rfl, _, rfl, _, .tmp .nil, hno (fun h' => by omega), rfl⟩
    have hzl : z.toNat < m.length := by omega
    refine ow_guard_yes rfl rfl rfl rfl ?_
    (apply ow_move; (· rfl); (· ((conv => lhs; whnf) <;> rfl)))
    refine ow_guard_yes rfl rfl rfl rfl ?_
    (apply ow_move; (· rfl); (· ((conv => lhs; whnf) <;> rfl)))
    refine ow_guard_yes rfl rfl rfl rfl ?_
    refine ow_idx1 (j := z.toNat) rfl (tyAt rfl) rfl (tyAt rfl) rfl rfl (by omega) hzl rfl ?_
    refine ow_guard_yes rfl rfl rfl rfl ?_
    refine ow_load rfl (tyAt rfl) rfl rfl (hs.int hzl) ?_
    refine ow_guard_yes rfl rfl rfl rfl ?_
    (apply ow_move; (· rfl); (· ((conv => lhs; whnf) <;> rfl)))
    refine ow_guard_yes rfl rfl rfl rfl ?_
    refine ow_neq rfl rfl rfl ?_
    (apply ow_pick_f; (· rfl); (· rfl); (· ((conv => lhs; whnf) <;> rfl)))
    refine ow_nil ?_
    by_cases he : m.getD z.toNat 0 = (i : Int)
    · rw [decide_eq_false (show ¬ ¬ (m.getD z.toNat 0 = (i : Int)) from fun h => h he)]
      refine wc_cond_false rfl ?_
      refine wc_skip ?_
      refine wc_region ?_
      refine ow_add rfl rfl rfl (by simp only [InK]; omega) ?_
      (apply ow_move; (· rfl); (· ((conv => lhs; whnf) <;> rfl)))
      refine ow_nil ?_
      exact ⟨i + 1, by first | exact rfl | exact upd_self' rfl rfl | exact upd_self' rfl (upd_self' rfl rfl) | exact upd_self' rfl (upd_self' rfl (upd_self' rfl rfl)) | exact upd_self' rfl (upd_self' rfl (upd_self' rfl (upd_self' rfl rfl))), by repeat (first | with_reducible exact Off.mix | with_reducible exact Off.refl | ((with_reducible refine Off.upd ?_ ?_); (· rfl))), ⟨rfl, rfl, hlt, hyes ⟨by omega, by omega, he⟩⟩, by omega⟩
    · rw [decide_eq_true (show ¬ (m.getD z.toNat 0 = (i : Int)) from he)]
      refine wc_cond_true rfl ?_
      refine wc_seq ?_
      refine wc_region ?_
      (apply ow_assign; (· rfl); (· ((conv => lhs; whnf) <;> rfl)))
      refine ow_nil ?_
      refine wc_ret ⟨.inr rfl, _, rfl, _, .tmp .nil, hno (fun h' => he h'.2.2), rfl⟩
  · have hi' : i = m.length := by omega
    subst hi'
    refine wc_exit ?_
    refine wc_seq ?_
    refine wc_region ?_
    (apply ow_assign; (· rfl); (· ((conv => lhs; whnf) <;> rfl)))
    refine ow_nil ?_
    refine wc_ret ⟨.inr rfl, _, rfl, _, .tmp .nil, congrArg Value.bool (decide_eq_true hok).symm, rfl⟩
end Go.Proofs.Ytpbknokakooekaa

