/- The statement's function 'sandtablelaw22.SectionUnpacks' returns true at every input, and changes nothing that was there. -/
import Derived.Test.YtphmjdbdhhbdoaaV53
namespace Go.Proofs.Ytphmjdbdhhbdoaa
set_option linter.all false
open Go Go.Sx Go.Proofs
set_option maxRecDepth 100000
set_option maxHeartbeats 2000000
theorem law22Unpacks (q : Option Addr) (cap : Nat) (bs : List Nat) (hcap : bs.length ≤ cap) (hb : ∀ c ∈ bs, c < 256) (w0 : World) (hq : SlH (hp w0) q (nats .u8 bs)) :
    CallsV Try.prog 20 #[.slice q bs.length cap] w0 fun v w => v = .bool true ∧ St Pu w0 w [] [] := by
  refine callsV_of Try.func20 rfl rfl ?_
  refine wc_seq ?_
  refine wc_region ?_
  (apply ow_assign; (· rfl); (· ((conv => lhs; whnf) <;> rfl)))
  refine ow_nil ?_
  refine wc_seq ?_
  refine wc_seq ?_
  refine wc_region ?_
  refine ow_call rfl rfl (ent (by kernel_rfl)) (CallsV.mono (alive22 w0) ?_) rfl
  rintro v w ⟨rfl, H⟩
  refine ow_not rfl rfl ?_
  refine ow_nil ?_
  refine wc_cond_false rfl ?_
  refine wc_skip ?_
  refine wc_seq ?_
  refine wc_seq ?_
  refine wc_region ?_
  (apply ow_move; (· rfl); (· ((conv => lhs; whnf) <;> rfl)))
  refine ow_len rfl rfl (tyAt rfl) rfl ?_
  refine ow_gtr rfl rfl rfl ?_
  refine ow_nil ?_
  refine wc_cond_dec rfl (fun h => ?_) (fun h => ?_) <;> try dsimp only at h
  · refine wc_seq ?_
    refine wc_region ?_
    (apply ow_assign; (· rfl); (· ((conv => lhs; whnf) <;> rfl)))
    refine ow_nil ?_
    refine wc_ret ?_
    obtain ⟨w, hT, H⟩ := H.takes Try.prog
    refine ⟨.inr rfl, w, hT, _, .tmp .nil, ?_⟩
    exact ⟨rfl, H⟩
  have heq := unpack_eq hb (by omega)
  refine wc_skip ?_
  refine wc_seq ?_
  refine wc_region ?_
  (apply ow_move; (· rfl); (· ((conv => lhs; whnf) <;> rfl)))
  refine ow_call rfl rfl (ent (by kernel_rfl)) (CallsV.mono (unpack_spec q _ cap bs rfl (by omega) hcap hb _ (H.oldSl hq)) ?_) rfl
  rintro v w ⟨p1, c1, l1, rfl, h1, hok1, H'⟩
  replace H := H.call H'
  clear H'
  (apply ow_move; (· rfl); (· ((conv => lhs; whnf) <;> rfl)))
  refine ow_extract rfl rfl rfl ?_
  refine ow_extract rfl rfl rfl ?_
  (apply ow_assign; (· rfl); (· ((conv => lhs; whnf) <;> rfl)))
  (apply ow_assign; (· rfl); (· ((conv => lhs; whnf) <;> rfl)))
  refine ow_nil ?_
  refine wc_seq ?_
  refine wc_region ?_
  (apply ow_move; (· rfl); (· ((conv => lhs; whnf) <;> rfl)))
  refine ow_call rfl rfl (ent (by kernel_rfl)) (CallsV.mono (refUnpack_spec q _ cap bs rfl (by omega) hcap hb _ (H.oldSl hq)) ?_) rfl
  rintro v w ⟨p2, c2, l2, rfl, h2, hsw2, H'⟩
  have hsw3 : ∀ s ∈ l2, secW (hp w) s := fun s hs => ⟨(hsw2 s hs).1, (hsw2 s hs).2.1, (hsw2 s hs).2.2.1, H'.oldSl (hsw2 s hs).2.2.2⟩
  replace H := H.call H'
  clear H'
  rw [← heq] at h2 ⊢
  have hl1 : l1.length ≤ 255 := by
    have hl := congrArg List.length h1
    rw [List.length_map] at hl
    rw [hl]
    by_cases h0 : (unpackA bs).2 = 0
    · have hc := (packN_eq (unpackA_back h0)).1
      unfold checkN at hc
      by_cases h9 : 255 < (unpackA bs).1.length
      · rw [if_pos h9] at hc; cases hc
      · omega
    · rw [unpackA_fail h0]; exact Nat.zero_le _
  (apply ow_move; (· rfl); (· ((conv => lhs; whnf) <;> rfl)))
  refine ow_extract rfl rfl rfl ?_
  refine ow_extract rfl rfl rfl ?_
  (apply ow_assign; (· rfl); (· ((conv => lhs; whnf) <;> rfl)))
  (apply ow_assign; (· rfl); (· ((conv => lhs; whnf) <;> rfl)))
  refine ow_nil ?_
  refine wc_seq ?_
  refine wc_region ?_
  (apply ow_move; (· rfl); (· ((conv => lhs; whnf) <;> rfl)))
  (apply ow_move; (· rfl); (· ((conv => lhs; whnf) <;> rfl)))
  refine ow_eql rfl rfl rfl ?_
  (apply ow_move; (· rfl); (· ((conv => lhs; whnf) <;> rfl)))
  refine ow_guard_dec rfl rfl rfl (fun _ => ?_) (fun h => (h (by with_reducible rfl)).elim)
  refine ow_guard_yes rfl rfl rfl rfl ?_
  (apply ow_move; (· rfl); (· ((conv => lhs; whnf) <;> rfl)))
  refine ow_guard_yes rfl rfl rfl rfl ?_
  refine ow_call rfl rfl (ent (by kernel_rfl)) (CallsV.mono (as_spec p1 _ c1 l1 rfl (by omega) _ (appOk.sl (H.cap (i := 1) rfl))) ?_) rfl
  rintro v w ⟨p3, c3, rfl, H'⟩
  have hsw4 : ∀ s ∈ l2, secW (hp w) s := fun s hs => ⟨(hsw3 s hs).1, (hsw3 s hs).2.1, (hsw3 s hs).2.2.1, H'.oldSl (hsw3 s hs).2.2.2⟩
  replace H := H.call H'
  clear H'
  replace H : St Pu w0 w ([.app p3 l1.length c3 153 2 (l1.flatMap secC), .app p2 l2.length c2 153 2 (l2.flatMap secC)] ++ (.app p1 l1.length c1 105 2 (l1.flatMap secC) :: bodyC l1)) [] := by
    rw [List.append_nil] at H
    exact H
  have hsA := outSecs H hok1
  refine ow_guard_yes rfl rfl rfl rfl ?_
  (apply ow_move; (· rfl); (· ((conv => lhs; whnf) <;> rfl)))
  refine ow_guard_yes rfl rfl rfl rfl ?_
  refine ow_call rfl rfl (ent (by kernel_rfl)) (CallsV.mono (same22_spec p3 p2 _ _ c3 c2 l1 l2 rfl rfl (by omega) _ ⟨appOk.sl (H.cap (i := 0) rfl), hsA.2⟩ ⟨appOk.sl (H.cap (i := 1) rfl), hsw4⟩ (fun s hs => (hok1 s hs).2) (fun s hs => (hsw4 s hs).2.1)) ?_) rfl
  rintro v w ⟨rfl, H'⟩
  replace H := (H.call H').none
  clear H'
  rw [h1, h2, decide_eq_true (rfl : (unpackA bs).1 = (unpackA bs).1)]
  (apply ow_pick_t; (· rfl); (· rfl); (· ((conv => lhs; whnf) <;> rfl)))
  (apply ow_assign; (· rfl); (· ((conv => lhs; whnf) <;> rfl)))
  refine ow_nil ?_
  refine wc_ret ?_
  obtain ⟨w, hT, H⟩ := H.takes Try.prog
  refine ⟨.inr rfl, w, hT, _, .tmp .nil, ?_⟩
  exact ⟨rfl, H⟩
end Go.Proofs.Ytphmjdbdhhbdoaa
