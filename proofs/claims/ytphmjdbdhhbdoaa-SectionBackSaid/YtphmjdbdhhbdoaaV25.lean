/- alive of the statements of layer 4: function 43. -/
import Derived.Test.YtphmjdbdhhbdoaaV24
import Derived.Test.YtphmjdbdhhbdoaaK6
namespace Go.Proofs.Ytphmjdbdhhbdoaa
set_option linter.all false
open Go Go.Sx Go.Proofs
set_option maxRecDepth 100000
set_option maxHeartbeats 2000000
def d9 : List Nat := [49, 50, 51, 52, 53, 54, 55, 56, 57]
theorem alive04 (w0 : World) : CallsV Try.prog 43 #[] w0 fun v w => v = .bool true ∧ St Pu w0 w [] [] := by
  refine callsV_of Try.func43 rfl rfl ?_
  have hb9 : ∀ c ∈ d9, c < 256 := by decide
  refine wc_seq ?_
  refine wc_region ?_
  (apply ow_assign; (· rfl); (· ((conv => lhs; whnf) <;> rfl)))
  refine ow_nil ?_
  refine wc_seq ?_
  refine wc_region ?_
  refine ow_call rfl rfl (ent (by kernel_rfl)) (CallsV.mono (make_spec 3988292384 (by decide) _) ?_) rfl
  rintro v w ⟨bt, rfl, H⟩
  (apply ow_assign; (· rfl); (· ((conv => lhs; whnf) <;> rfl)))
  refine ow_nil ?_
  refine wc_seq ?_
  refine wc_seq ?_
  refine wc_region ?_
  (apply ow_move; (· rfl); (· ((conv => lhs; whnf) <;> rfl)))
  refine ow_eqlPn rfl rfl rfl (tyAt rfl) rfl ?_
  refine ow_nil ?_
  refine wc_cond_false rfl ?_
  refine wc_skip ?_
  refine wc_seq ?_
  refine wc_region ?_
  refine ow_buildSlice1 (vs := [.int .u8 49, .int .u8 50, .int .u8 51, .int .u8 52, .int .u8 53, .int .u8 54, .int .u8 55, .int .u8 56, .int .u8 57]) H rfl (tyAt rfl) rfl (tyAt rfl) rfl rfl rfl rfl rfl (by simp [Value.one]) (fun b w H => ?_)
  refine ow_convLit (i := 0) H rfl rfl rfl (tyAt rfl) rfl (tyAt rfl) rfl (fun w H => ?_)
  dsimp only [List.set] at H
  (apply ow_assign; (· rfl); (· ((conv => lhs; whnf) <;> rfl)))
  refine ow_nil ?_
  refine wc_seq ?_
  refine wc_region ?_
  (apply ow_move; (· rfl); (· ((conv => lhs; whnf) <;> rfl)))
  have h9 : ∀ {b : Nat} {w : World}, SlH (hp w) (some ⟨b, 0, none⟩) [.int .u8 49, .int .u8 50, .int .u8 51, .int .u8 52, .int .u8 53, .int .u8 54, .int .u8 55, .int .u8 56, .int .u8 57] → SlH (hp w) (some ⟨b, 0, none⟩) (nats .u8 d9) := fun h => h
  refine ow_call rfl rfl (ent (by kernel_rfl)) (CallsV.mono (seal_spec _ _ _ d9 rfl (by decide) hb9 _ (h9 (H.cap (i := 0) rfl))) ?_) rfl
  rintro v w ⟨p3, c3, rfl, H'⟩
  replace H := H.call H'
  simp only [List.cons_append, List.nil_append] at H
  clear H'
  (apply ow_assign; (· rfl); (· ((conv => lhs; whnf) <;> rfl)))
  refine ow_nil ?_
  refine wc_seq ?_
  refine wc_region ?_
  (apply ow_move; (· rfl); (· ((conv => lhs; whnf) <;> rfl)))
  refine ow_call rfl rfl (ent (by kernel_rfl)) (CallsV.mono (unseal_spec _ _ _ (sealN d9) rfl (by rw [sealN_len]; decide) (appOk.le (H.cap (i := 0) rfl)) (sealN_lt hb9) _ (appOk.sl (H.cap (i := 0) rfl))) ?_) rfl
  rintro v w ⟨p4, c4, rfl, H'⟩
  replace H := H.call H'
  simp only [List.cons_append, List.nil_append] at H
  clear H'
  rw [unsealN_sealN hb9] at H ⊢
  (apply ow_move; (· rfl); (· ((conv => lhs; whnf) <;> rfl)))
  refine ow_extract rfl rfl rfl ?_
  refine ow_extract rfl rfl rfl ?_
  (apply ow_assign; (· rfl); (· ((conv => lhs; whnf) <;> rfl)))
  (apply ow_assign; (· rfl); (· ((conv => lhs; whnf) <;> rfl)))
  refine ow_nil ?_
  refine wc_seq ?_
  refine wc_region ?_
  (apply ow_move; (· rfl); (· ((conv => lhs; whnf) <;> rfl)))
  refine ow_call rfl rfl (ent (by kernel_rfl)) (CallsV.mono (unseal_spec _ _ _ d9 rfl (by decide) (by decide) hb9 _ (h9 (H.cap (i := 2) rfl))) ?_) rfl
  rintro v w ⟨p6, c6, rfl, H'⟩
  replace H := H.call H'
  simp only [List.cons_append, List.nil_append] at H
  clear H'
  have e6 : unsealN d9 = ([], 44) := by decide +kernel
  rw [e6] at H ⊢
  (apply ow_move; (· rfl); (· ((conv => lhs; whnf) <;> rfl)))
  refine ow_extract rfl rfl rfl ?_
  refine ow_extract rfl rfl rfl ?_
  (apply ow_assign; (· rfl); (· ((conv => lhs; whnf) <;> rfl)))
  (apply ow_assign; (· rfl); (· ((conv => lhs; whnf) <;> rfl)))
  refine ow_nil ?_
  refine wc_seq ?_
  refine wc_region ?_
  (apply ow_move; (· rfl); (· ((conv => lhs; whnf) <;> rfl)))
  refine ow_sliceHi rfl (tyAt rfl) rfl (tyAt rfl) rfl rfl (by omega) (by omega) ?_
  skip
  have h3 := (h9 (H.cap (i := 3) rfl)).hi1 (cap := 9) (by decide) 3
  rw [nats_take] at h3
  refine ow_call rfl rfl (ent (by kernel_rfl)) (CallsV.mono (unseal_spec _ _ _ (d9.take 3) rfl (by decide) (by decide) (by decide) _ h3) ?_) rfl
  rintro v w ⟨p8, c8, rfl, H'⟩
  replace H := H.call H'
  simp only [List.cons_append, List.nil_append] at H
  clear H'
  have e8 : unsealN (d9.take 3) = ([], 20) := by decide +kernel
  rw [e8] at H ⊢
  (apply ow_move; (· rfl); (· ((conv => lhs; whnf) <;> rfl)))
  refine ow_extract rfl rfl rfl ?_
  refine ow_extract rfl rfl rfl ?_
  (apply ow_assign; (· rfl); (· ((conv => lhs; whnf) <;> rfl)))
  (apply ow_assign; (· rfl); (· ((conv => lhs; whnf) <;> rfl)))
  refine ow_nil ?_
  refine wc_seq ?_
  have hp4 := appOk.sl (H.cap (i := 2) rfl)
  have hls := sealN_len d9
  rw [hls]
  refine wc_drawW 99 (by kernel_rfl) (by kernel_rfl) (by intro c e D w h; first | exact h.elim | (rcases h with ⟨h | h, _⟩ <;> cases h)) ?_
  replace H := H.drew
  apply ak_take (i := 0) rfl rfl rfl rfl (by kernel_rfl) (by with_reducible first | exact H | rfl)
  · intro w Q' HS hq; subst HS; (apply ow_move; (· rfl); (· ((conv => lhs; whnf) <;> rfl))); exact ow_nil hq
  apply ak_take (i := 1) rfl rfl rfl rfl (by kernel_rfl) (by with_reducible first | exact H | rfl)
  · intro w Q' HS hq; subst HS; (apply ow_move; (· rfl); (· ((conv => lhs; whnf) <;> rfl))); exact ow_nil hq
  have ht := H.rowSl (i := 5) rfl
  have hd9 := h9 (H.cap (i := 4) rfl)
  apply ak_one (i := 2)
  · kernel_rfl
  · rfl
  · rfl
  refine ow_call rfl rfl (ent (by kernel_rfl)) (CallsV.mono (sum_spec' 3988292384 (by decide) bt _ _ _ d9 rfl hb9 (by decide) _ ht hd9) ?_) rfl
  rintro v w' ⟨rfl, rfl⟩
  rw [show sumN 3988292384 0 d9 = 3421780262 from by decide +kernel]
  refine ow_nil ⟨fun _ => rfl, ?_⟩
  apply ak_take (i := 3) rfl rfl rfl rfl (by kernel_rfl) (by with_reducible first | exact H | rfl)
  · intro w Q' HS hq; subst HS; refine ow_eql rfl rfl rfl ?_; exact ow_nil hq
  apply ak_take (i := 4) rfl rfl rfl rfl (by kernel_rfl) (by with_reducible first | exact H | rfl)
  · intro w Q' HS hq; subst HS; (apply ow_move; (· rfl); (· ((conv => lhs; whnf) <;> rfl))); exact ow_nil hq
  apply ak_take (i := 5) rfl rfl rfl rfl (by kernel_rfl) (by with_reducible first | exact H | rfl)
  · intro w Q' HS hq; subst HS; refine ow_guard_yes rfl rfl rfl rfl ?_; (apply ow_move; (· rfl); (· ((conv => lhs; whnf) <;> rfl))); exact ow_nil hq
  apply ak_take (i := 6) rfl rfl rfl rfl (by kernel_rfl) (by with_reducible first | exact H | rfl)
  · intro w Q' HS hq; subst HS; refine ow_guard_yes rfl rfl rfl rfl ?_; (apply ow_move; (· rfl); (· ((conv => lhs; whnf) <;> rfl))); exact ow_nil hq
  apply ak_take (i := 7) rfl rfl rfl rfl (by kernel_rfl) (by with_reducible first | exact H | rfl)
  · intro w Q' HS hq; subst HS; refine ow_guard_yes rfl rfl rfl rfl ?_; (apply ow_move; (· rfl); (· ((conv => lhs; whnf) <;> rfl))); exact ow_nil hq
  apply ak_take (i := 8) rfl rfl rfl rfl (by kernel_rfl) (by with_reducible first | exact H | rfl)
  · intro w Q' HS hq; subst HS; refine ow_guard_yes rfl rfl rfl rfl ?_; refine ow_sliceHi rfl (tyAt rfl) rfl (tyAt rfl) rfl rfl (by omega) (by omega) ?_; exact ow_nil hq
  apply ak_take (i := 10) rfl rfl rfl rfl (by kernel_rfl) (by with_reducible first | exact H | rfl)
  · intro w Q' HS hq; subst HS; refine ow_guard_yes rfl rfl rfl rfl ?_; (apply ow_move; (· rfl); (· ((conv => lhs; whnf) <;> rfl))); exact ow_nil hq
  apply ak_take (i := 11) rfl rfl rfl rfl (by kernel_rfl) (by with_reducible first | exact H | rfl)
  · intro w Q' HS hq; subst HS; refine ow_guard_yes rfl rfl rfl rfl ?_; refine ow_sliceLo rfl (tyAt rfl) rfl (tyAt rfl) rfl rfl (by omega) (by omega) ?_; exact ow_nil hq
  apply ak_one (i := 9)
  · kernel_rfl
  · rfl
  · rfl
  refine ow_guard_yes rfl rfl rfl rfl ?_
  have hd4 := hd9.hi1 (cap := 9) (by decide) 4
  rw [nats_take] at hd4
  refine ow_call rfl rfl (ent (by kernel_rfl)) (CallsV.mono (sum_spec' 3988292384 (by decide) bt _ _ _ (d9.take 4) rfl (by decide) (by decide) _ ht hd4) ?_) rfl
  rintro v w ⟨rfl, rfl⟩
  refine ow_nil ⟨fun _ => rfl, ?_⟩
  apply ak_one (i := 12)
  · kernel_rfl
  · rfl
  · rfl
  refine ow_guard_yes rfl rfl rfl rfl ?_
  have hd5 := hd9.lo1 (cap := 9) (by decide) 4
  rw [nats_drop] at hd5
  refine ow_call rfl rfl (ent (by kernel_rfl)) (CallsV.mono (more_spec' 3988292384 (sumN 3988292384 0 (d9.take 4)) (by decide) (sumN_usual_lt (by decide)) bt _ _ _ (d9.drop 4) rfl (by decide) (by decide) _ ht hd5) ?_) rfl
  rintro v w' ⟨rfl, rfl⟩
  rw [show sumN 3988292384 (sumN 3988292384 0 (d9.take 4)) (d9.drop 4) = 3421780262 from by decide +kernel]
  refine ow_nil ⟨fun _ => rfl, ?_⟩
  apply ak_take (i := 13) rfl rfl rfl rfl (by kernel_rfl) (by with_reducible first | exact H | rfl)
  · intro w Q' HS hq; subst HS; refine ow_guard_yes rfl rfl rfl rfl ?_; refine ow_eql rfl rfl rfl ?_; exact ow_nil hq
  apply ak_take (i := 14) rfl rfl rfl rfl (by kernel_rfl) (by with_reducible first | exact H | rfl)
  · intro w Q' HS hq; subst HS; (apply ow_pick_t; (· rfl); (· rfl); (· ((conv => lhs; whnf) <;> rfl))); exact ow_nil hq
  apply ak_take (i := 15) rfl rfl rfl rfl (by kernel_rfl) (by with_reducible first | exact H | rfl)
  · intro w Q' HS hq; subst HS; (apply ow_move; (· rfl); (· ((conv => lhs; whnf) <;> rfl))); exact ow_nil hq
  apply ak_take (i := 16) rfl rfl rfl rfl (by kernel_rfl) (by with_reducible first | exact H | rfl)
  · intro w Q' HS hq; subst HS; refine ow_guard_yes rfl rfl rfl rfl ?_; (apply ow_move; (· rfl); (· ((conv => lhs; whnf) <;> rfl))); exact ow_nil hq
  apply ak_one (i := 17)
  · kernel_rfl
  · rfl
  · rfl
  refine ow_guard_yes rfl rfl rfl rfl ?_
  refine ow_call rfl rfl (ent (by kernel_rfl)) (CallsV.mono (at_spec 3988292384 0 (by decide) bt _ ht) ?_) rfl
  rintro v w ⟨rfl, rfl⟩
  rw [show tabN 3988292384 0 = 0 from by decide +kernel]
  refine ow_nil ⟨fun _ => rfl, ?_⟩
  apply ak_take (i := 18) rfl rfl rfl rfl (by kernel_rfl) (by with_reducible first | exact H | rfl)
  · intro w Q' HS hq; subst HS; refine ow_guard_yes rfl rfl rfl rfl ?_; refine ow_eql rfl rfl rfl ?_; exact ow_nil hq
  apply ak_take (i := 19) rfl rfl rfl rfl (by kernel_rfl) (by with_reducible first | exact H | rfl)
  · intro w Q' HS hq; subst HS; (apply ow_pick_t; (· rfl); (· rfl); (· ((conv => lhs; whnf) <;> rfl))); exact ow_nil hq
  apply ak_take (i := 20) rfl rfl rfl rfl (by kernel_rfl) (by with_reducible first | exact H | rfl)
  · intro w Q' HS hq; subst HS; (apply ow_move; (· rfl); (· ((conv => lhs; whnf) <;> rfl))); exact ow_nil hq
  apply ak_take (i := 21) rfl rfl rfl rfl (by kernel_rfl) (by with_reducible first | exact H | rfl)
  · intro w Q' HS hq; subst HS; refine ow_guard_yes rfl rfl rfl rfl ?_; (apply ow_move; (· rfl); (· ((conv => lhs; whnf) <;> rfl))); exact ow_nil hq
  apply ak_one (i := 22)
  · kernel_rfl
  · rfl
  · rfl
  refine ow_guard_yes rfl rfl rfl rfl ?_
  refine ow_call rfl rfl (ent (by kernel_rfl)) (CallsV.mono (at_spec 3988292384 128 (by decide) bt _ ht) ?_) rfl
  rintro v w' ⟨rfl, rfl⟩
  rw [show tabN 3988292384 128 = 3988292384 from by decide +kernel]
  refine ow_nil ⟨fun _ => rfl, ?_⟩
  have hp4 := appOk.sl (H.cap (i := 2) rfl)
  apply ak_take (i := 23) rfl rfl rfl rfl (by kernel_rfl) (by with_reducible first | exact H | rfl)
  · intro w Q' HS hq; subst HS; refine ow_guard_yes rfl rfl rfl rfl ?_; refine ow_eql rfl rfl rfl ?_; exact ow_nil hq
  apply ak_take (i := 24) rfl rfl rfl rfl (by kernel_rfl) (by with_reducible first | exact H | rfl)
  · intro w Q' HS hq; subst HS; (apply ow_pick_t; (· rfl); (· rfl); (· ((conv => lhs; whnf) <;> rfl))); exact ow_nil hq
  apply ak_take (i := 25) rfl rfl rfl rfl (by kernel_rfl) (by with_reducible first | exact H | rfl)
  · intro w Q' HS hq; subst HS; (apply ow_move; (· rfl); (· ((conv => lhs; whnf) <;> rfl))); exact ow_nil hq
  apply ak_take (i := 26) rfl rfl rfl rfl (by kernel_rfl) (by with_reducible first | exact H | rfl)
  · intro w Q' HS hq; subst HS; refine ow_guard_yes rfl rfl rfl rfl ?_; (apply ow_move; (· rfl); (· ((conv => lhs; whnf) <;> rfl))); exact ow_nil hq
  apply ak_take (i := 27) rfl rfl rfl rfl (by kernel_rfl) (by with_reducible first | exact H | rfl)
  · intro w Q' HS hq; subst HS; refine ow_guard_yes rfl rfl rfl rfl ?_; refine ow_len rfl rfl (tyAt rfl) rfl ?_; exact ow_nil hq
  apply ak_take (i := 28) rfl rfl rfl rfl (by kernel_rfl) (by with_reducible first | exact H | rfl)
  · intro w Q' HS hq; subst HS; refine ow_guard_yes rfl rfl rfl rfl ?_; refine ow_eql rfl rfl rfl ?_; exact ow_nil hq
  apply ak_take (i := 29) rfl rfl rfl rfl (by kernel_rfl) (by with_reducible first | exact H | rfl)
  · intro w Q' HS hq; subst HS; (apply ow_pick_t; (· rfl); (· rfl); (· ((conv => lhs; whnf) <;> rfl))); exact ow_nil hq
  apply ak_take (i := 30) rfl rfl rfl rfl (by kernel_rfl) (by with_reducible first | exact H | rfl)
  · intro w Q' HS hq; subst HS; (apply ow_move; (· rfl); (· ((conv => lhs; whnf) <;> rfl))); exact ow_nil hq
  apply ak_take (i := 31) rfl rfl rfl rfl (by kernel_rfl) (by with_reducible first | exact H | rfl)
  · intro w Q' HS hq; subst HS; refine ow_guard_yes rfl rfl rfl rfl ?_; (apply ow_move; (· rfl); (· ((conv => lhs; whnf) <;> rfl))); exact ow_nil hq
  apply ak_take (i := 32) rfl rfl rfl rfl (by kernel_rfl) (by with_reducible first | exact H | rfl)
  · intro w Q' HS hq; subst HS; refine ow_guard_yes rfl rfl rfl rfl ?_; refine ow_toStr (bs := d9) rfl rfl rfl hp4 (tyAt rfl) rfl (tyAt rfl) rfl (tyAt rfl) rfl ?_; exact ow_nil hq
  apply ak_take (i := 33) rfl rfl rfl rfl (by kernel_rfl) (by with_reducible first | exact H | rfl)
  · intro w Q' HS hq; subst HS; refine ow_guard_yes rfl rfl rfl rfl ?_; (apply ow_move; (· rfl); (· ((conv => lhs; whnf) <;> rfl))); exact ow_nil hq
  apply ak_take (i := 34) rfl rfl rfl rfl (by kernel_rfl) (by with_reducible first | exact H | rfl)
  · intro w Q' HS hq; subst HS; refine ow_guard_yes rfl rfl rfl rfl ?_; refine ow_toStr (bs := d9) rfl rfl rfl hd9 (tyAt rfl) rfl (tyAt rfl) rfl (tyAt rfl) rfl ?_; exact ow_nil hq
  apply ak_take (i := 35) rfl rfl rfl rfl (by kernel_rfl) (by with_reducible first | exact H | rfl)
  · intro w Q' HS hq; subst HS; refine ow_guard_yes rfl rfl rfl rfl ?_; refine ow_strcmp (b := true) rfl rfl rfl (by rw [strN_beq hb9 hb9]; simp) ?_; exact ow_nil hq
  apply ak_take (i := 36) rfl rfl rfl rfl (by kernel_rfl) (by with_reducible first | exact H | rfl)
  · intro w Q' HS hq; subst HS; (apply ow_pick_t; (· rfl); (· rfl); (· ((conv => lhs; whnf) <;> rfl))); exact ow_nil hq
  apply ak_take (i := 37) rfl rfl rfl rfl (by kernel_rfl) (by with_reducible first | exact H | rfl)
  · intro w Q' HS hq; subst HS; (apply ow_move; (· rfl); (· ((conv => lhs; whnf) <;> rfl))); exact ow_nil hq
  apply ak_take (i := 38) rfl rfl rfl rfl (by kernel_rfl) (by with_reducible first | exact H | rfl)
  · intro w Q' HS hq; subst HS; refine ow_guard_yes rfl rfl rfl rfl ?_; (apply ow_move; (· rfl); (· ((conv => lhs; whnf) <;> rfl))); exact ow_nil hq
  apply ak_take (i := 39) rfl rfl rfl rfl (by kernel_rfl) (by with_reducible first | exact H | rfl)
  · intro w Q' HS hq; subst HS; refine ow_guard_yes rfl rfl rfl rfl ?_; refine ow_eql rfl rfl rfl ?_; exact ow_nil hq
  apply ak_take (i := 40) rfl rfl rfl rfl (by kernel_rfl) (by with_reducible first | exact H | rfl)
  · intro w Q' HS hq; subst HS; (apply ow_pick_t; (· rfl); (· rfl); (· ((conv => lhs; whnf) <;> rfl))); exact ow_nil hq
  apply ak_take (i := 41) rfl rfl rfl rfl (by kernel_rfl) (by with_reducible first | exact H | rfl)
  · intro w Q' HS hq; subst HS; (apply ow_move; (· rfl); (· ((conv => lhs; whnf) <;> rfl))); exact ow_nil hq
  apply ak_take (i := 42) rfl rfl rfl rfl (by kernel_rfl) (by with_reducible first | exact H | rfl)
  · intro w Q' HS hq; subst HS; refine ow_guard_yes rfl rfl rfl rfl ?_; (apply ow_move; (· rfl); (· ((conv => lhs; whnf) <;> rfl))); exact ow_nil hq
  apply ak_take (i := 43) rfl rfl rfl rfl (by kernel_rfl) (by with_reducible first | exact H | rfl)
  · intro w Q' HS hq; subst HS; refine ow_guard_yes rfl rfl rfl rfl ?_; refine ow_eql rfl rfl rfl ?_; exact ow_nil hq
  apply ak_take (i := 44) rfl rfl rfl rfl (by kernel_rfl) (by with_reducible first | exact H | rfl)
  · intro w Q' HS hq; subst HS; (apply ow_pick_t; (· rfl); (· rfl); (· ((conv => lhs; whnf) <;> rfl))); exact ow_nil hq
  apply ak_take (i := 45) rfl rfl rfl rfl (by kernel_rfl) (by with_reducible first | exact H | rfl)
  · intro w Q' HS hq; subst HS; (apply ow_move; (· rfl); (· ((conv => lhs; whnf) <;> rfl))); exact ow_nil hq
  apply ak_take (i := 46) rfl rfl rfl rfl (by kernel_rfl) (by with_reducible first | exact H | rfl)
  · intro w Q' HS hq; subst HS; refine ow_guard_yes rfl rfl rfl rfl ?_; (apply ow_move; (· rfl); (· ((conv => lhs; whnf) <;> rfl))); exact ow_nil hq
  apply ak_take (i := 47) rfl rfl rfl rfl (by kernel_rfl) (by with_reducible first | exact H | rfl)
  · intro w Q' HS hq; subst HS; refine ow_guard_yes rfl rfl rfl rfl ?_; refine ow_eql rfl rfl rfl ?_; exact ow_nil hq
  apply ak_take (i := 48) rfl rfl rfl rfl (by kernel_rfl) (by with_reducible first | exact H | rfl)
  · intro w Q' HS hq; subst HS; (apply ow_pick_t; (· rfl); (· rfl); (· ((conv => lhs; whnf) <;> rfl))); exact ow_nil hq
  apply ak_take (i := 49) rfl rfl rfl rfl (by kernel_rfl) (by with_reducible first | exact H | rfl)
  · intro w Q' HS hq; subst HS; (apply ow_assign; (· rfl); (· ((conv => lhs; whnf) <;> rfl))); exact ow_nil hq
  refine ak_done (by kernel_rfl) ?_
  skip
  refine wc_ret ?_
  obtain ⟨w, hT, H⟩ := H.takes Try.prog
  refine ⟨.inr rfl, w, hT, _, .tmp .nil, ?_⟩
  exact ⟨rfl, H.none⟩
end Go.Proofs.Ytphmjdbdhhbdoaa
