/- What the law's alive returns: function 28 returns true. -/
import Derived.Test.YtphmjdbdhhbdoaaV6
namespace Go.Proofs.Ytphmjdbdhhbdoaa
set_option linter.all false
open Go Go.Sx Go.Proofs
set_option maxRecDepth 100000
set_option maxHeartbeats 2000000
theorem list_spec' (p : Option Addr) (cap len : Nat) (bs : List Nat) (hl : len = bs.length) (hb : ∀ x ∈ bs, x < 256) (hlen : bs.length ≤ 1000000) (hcap : bs.length ≤ cap) (most : Int) (w0 : World) (hs : SlH (hp w0) p (nats .u8 bs)) :
    CallsV Try.prog 39 #[.slice p len cap, .int .i64 most] w0 fun v w => ∃ q c, v = .slice q (takeZ most (allL bs)).length c ∧ St Pu w0 w [.app q (takeZ most (allL bs)).length c 24 1 ((takeZ most (allL bs)).map sndV)] [] := by
  subst hl; exact list_spec p cap bs hb hlen hcap most w0 hs
theorem alive02 (w0 : World) : CallsV Try.prog 28 #[] w0 fun v w => v = .bool true ∧ St Pu w0 w [] [] := by
  refine callsV_of Try.func28 rfl rfl ?_
  have H := St.init w0
  refine wc_seq ?_
  refine wc_region ?_
  (apply ow_assign; (· rfl); (· ((conv => lhs; whnf) <;> rfl)))
  refine ow_nil ?_
  refine wc_seq ?_
  refine wc_region ?_
  refine ow_buildSlice1 (vs := [.int _ _, .int _ _, .int _ _]) H rfl (tyAt rfl) rfl (tyAt rfl) rfl rfl rfl rfl rfl (by simp [Value.one]) (fun b w H => ?_)
  have g1 : getN [172, 2, 9] = (300, 2, 0) := by decide
  refine ow_call rfl rfl (ent (by kernel_rfl)) (CallsV.mono (get_spec' _ _ _ [172, 2, 9] rfl (by decide) w (H.rowSl (i := 0) rfl) (by decide)) ?_) rfl
  rintro v w' ⟨rfl, rfl⟩
  rw [g1]
  (apply ow_move; (· rfl); (· ((conv => lhs; whnf) <;> rfl)))
  refine ow_extract rfl rfl rfl ?_
  refine ow_extract rfl rfl rfl ?_
  refine ow_extract rfl rfl rfl ?_
  (apply ow_assign; (· rfl); (· ((conv => lhs; whnf) <;> rfl)))
  (apply ow_assign; (· rfl); (· ((conv => lhs; whnf) <;> rfl)))
  (apply ow_assign; (· rfl); (· ((conv => lhs; whnf) <;> rfl)))
  refine ow_nil ?_
  refine wc_seq ?_
  refine wc_region ?_
  refine ow_buildSlice1 (vs := [.int _ _]) H rfl (tyAt rfl) rfl (tyAt rfl) rfl rfl rfl rfl rfl (by simp [Value.one]) (fun b w H => ?_)
  have g2 : getN [128] = (0, 0, 20) := by decide
  refine ow_call rfl rfl (ent (by kernel_rfl)) (CallsV.mono (get_spec' _ _ _ [128] rfl (by decide) w (H.rowSl (i := 0) rfl) (by decide)) ?_) rfl
  rintro v w' ⟨rfl, rfl⟩
  rw [g2]
  (apply ow_move; (· rfl); (· ((conv => lhs; whnf) <;> rfl)))
  refine ow_extract rfl rfl rfl ?_
  refine ow_extract rfl rfl rfl ?_
  refine ow_extract rfl rfl rfl ?_
  (apply ow_assign; (· rfl); (· ((conv => lhs; whnf) <;> rfl)))
  (apply ow_assign; (· rfl); (· ((conv => lhs; whnf) <;> rfl)))
  (apply ow_assign; (· rfl); (· ((conv => lhs; whnf) <;> rfl)))
  refine ow_nil ?_
  refine wc_seq ?_
  refine wc_region ?_
  refine ow_buildSlice1 (vs := [.int _ _, .int _ _]) H rfl (tyAt rfl) rfl (tyAt rfl) rfl rfl rfl rfl rfl (by simp [Value.one]) (fun b w H => ?_)
  have g3 : getN [128, 0] = (0, 0, 21) := by decide
  refine ow_call rfl rfl (ent (by kernel_rfl)) (CallsV.mono (get_spec' _ _ _ [128, 0] rfl (by decide) w (H.rowSl (i := 0) rfl) (by decide)) ?_) rfl
  rintro v w' ⟨rfl, rfl⟩
  rw [g3]
  (apply ow_move; (· rfl); (· ((conv => lhs; whnf) <;> rfl)))
  refine ow_extract rfl rfl rfl ?_
  refine ow_extract rfl rfl rfl ?_
  refine ow_extract rfl rfl rfl ?_
  (apply ow_assign; (· rfl); (· ((conv => lhs; whnf) <;> rfl)))
  (apply ow_assign; (· rfl); (· ((conv => lhs; whnf) <;> rfl)))
  (apply ow_assign; (· rfl); (· ((conv => lhs; whnf) <;> rfl)))
  refine ow_nil ?_
  refine wc_seq ?_
  refine wc_region ?_
  have p300 : putN 300 = [172, 2] := by rw [putN_ge (by decide), putN_lt (by decide)]
  refine ow_call rfl rfl (ent (by kernel_rfl)) (CallsV.mono (put_spec 300 (by decide) _) ?_) rfl
  rintro v w ⟨p, c, rfl, H'⟩
  rw [p300] at H' ⊢
  replace H := H.call H'
  refine ow_toStr rfl rfl rfl (appOk.sl (H.cap (i := 0) rfl)) (tyAt rfl) rfl (tyAt rfl) rfl (tyAt rfl) rfl ?_
  have hb : ((strN [172, 2]).toList == (⟨#[172, 2]⟩ : ByteArray).toList) = true := by simp [strN]
  refine ow_strcmp (b := true) rfl rfl rfl (by show some _ = some _; exact congrArg some hb) ?_
  (apply ow_move; (· rfl); (· ((conv => lhs; whnf) <;> rfl)))
  refine ow_guard_yes rfl rfl rfl rfl ?_
  (apply ow_move; (· rfl); (· ((conv => lhs; whnf) <;> rfl)))
  refine ow_guard_yes rfl rfl rfl rfl ?_
  refine ow_eql rfl rfl rfl ?_
  (apply ow_pick_t; (· rfl); (· rfl); (· ((conv => lhs; whnf) <;> rfl)))
  (apply ow_move; (· rfl); (· ((conv => lhs; whnf) <;> rfl)))
  refine ow_guard_yes rfl rfl rfl rfl ?_
  (apply ow_move; (· rfl); (· ((conv => lhs; whnf) <;> rfl)))
  refine ow_guard_yes rfl rfl rfl rfl ?_
  refine ow_eql rfl rfl rfl ?_
  (apply ow_pick_t; (· rfl); (· rfl); (· ((conv => lhs; whnf) <;> rfl)))
  (apply ow_move; (· rfl); (· ((conv => lhs; whnf) <;> rfl)))
  refine ow_guard_yes rfl rfl rfl rfl ?_
  (apply ow_move; (· rfl); (· ((conv => lhs; whnf) <;> rfl)))
  refine ow_guard_yes rfl rfl rfl rfl ?_
  refine ow_eql rfl rfl rfl ?_
  (apply ow_pick_t; (· rfl); (· rfl); (· ((conv => lhs; whnf) <;> rfl)))
  (apply ow_move; (· rfl); (· ((conv => lhs; whnf) <;> rfl)))
  refine ow_guard_yes rfl rfl rfl rfl ?_
  (apply ow_move; (· rfl); (· ((conv => lhs; whnf) <;> rfl)))
  refine ow_guard_yes rfl rfl rfl rfl ?_
  refine ow_eql rfl rfl rfl ?_
  (apply ow_pick_t; (· rfl); (· rfl); (· ((conv => lhs; whnf) <;> rfl)))
  (apply ow_move; (· rfl); (· ((conv => lhs; whnf) <;> rfl)))
  refine ow_guard_yes rfl rfl rfl rfl ?_
  (apply ow_move; (· rfl); (· ((conv => lhs; whnf) <;> rfl)))
  refine ow_guard_yes rfl rfl rfl rfl ?_
  refine ow_eql rfl rfl rfl ?_
  (apply ow_pick_t; (· rfl); (· rfl); (· ((conv => lhs; whnf) <;> rfl)))
  (apply ow_move; (· rfl); (· ((conv => lhs; whnf) <;> rfl)))
  refine ow_guard_yes rfl rfl rfl rfl ?_
  have l300 : (putN 300).length = 2 := by rw [p300]; rfl
  refine ow_call rfl rfl (ent (by kernel_rfl)) (CallsV.mono (len_spec 300 (by decide) _) ?_) rfl
  rintro v w ⟨rfl, rfl⟩
  rw [l300]
  refine ow_guard_yes rfl rfl rfl rfl ?_
  refine ow_eql rfl rfl rfl ?_
  (apply ow_pick_t; (· rfl); (· rfl); (· ((conv => lhs; whnf) <;> rfl)))
  (apply ow_move; (· rfl); (· ((conv => lhs; whnf) <;> rfl)))
  refine ow_guard_yes rfl rfl rfl rfl ?_
  have l0 : (putN 0).length = 1 := by rw [putN_lt (by decide)]; rfl
  refine ow_call rfl rfl (ent (by kernel_rfl)) (CallsV.mono (len_spec 0 (by decide) _) ?_) rfl
  rintro v w ⟨rfl, rfl⟩
  rw [l0]
  refine ow_guard_yes rfl rfl rfl rfl ?_
  refine ow_eql rfl rfl rfl ?_
  (apply ow_pick_t; (· rfl); (· rfl); (· ((conv => lhs; whnf) <;> rfl)))
  (apply ow_move; (· rfl); (· ((conv => lhs; whnf) <;> rfl)))
  refine ow_guard_yes rfl rfl rfl rfl ?_
  have fm : foldN (-1) = 1 := by decide
  refine ow_call rfl rfl (ent (by kernel_rfl)) (CallsV.mono (fold_spec (-1) (by decide) (by decide) _) ?_) rfl
  rintro v w ⟨rfl, rfl⟩
  rw [fm]
  refine ow_guard_yes rfl rfl rfl rfl ?_
  refine ow_eql rfl rfl rfl ?_
  (apply ow_pick_t; (· rfl); (· rfl); (· ((conv => lhs; whnf) <;> rfl)))
  (apply ow_move; (· rfl); (· ((conv => lhs; whnf) <;> rfl)))
  refine ow_guard_yes rfl rfl rfl rfl ?_
  have um : unfoldZ 2 = 1 := by decide
  refine ow_call rfl rfl (ent (by kernel_rfl)) (CallsV.mono (unfold_spec 2 (by decide) _) ?_) rfl
  rintro v w ⟨rfl, rfl⟩
  rw [um]
  refine ow_guard_yes rfl rfl rfl rfl ?_
  refine ow_eql rfl rfl rfl ?_
  (apply ow_pick_t; (· rfl); (· rfl); (· ((conv => lhs; whnf) <;> rfl)))
  (apply ow_move; (· rfl); (· ((conv => lhs; whnf) <;> rfl)))
  refine ow_guard_yes rfl rfl rfl rfl ?_
  refine ow_buildSlice1 (vs := [.int _ _, .int _ _, .int _ _, .int _ _]) H rfl (tyAt rfl) rfl (tyAt rfl) rfl rfl rfl rfl rfl (by simp [Value.one]) (fun b w H => ?_)
  refine ow_guard_yes rfl rfl rfl rfl ?_
  have tl : (takeZ 9 (allL [1, 172, 2, 128])).length = 2 := by decide
  refine ow_call rfl rfl (ent (by kernel_rfl)) (CallsV.mono (list_spec' _ 4 4 [1, 172, 2, 128] rfl (by decide) (by decide) (by decide) 9 _ (H.rowSl (i := 0) rfl)) ?_) rfl
  rintro v w ⟨q, c9, rfl, H'⟩
  replace H := H.call H'
  rw [tl]
  refine ow_guard_yes rfl rfl rfl rfl ?_
  refine ow_len rfl rfl (tyAt rfl) rfl ?_
  refine ow_guard_yes rfl rfl rfl rfl ?_
  refine ow_eql rfl rfl rfl ?_
  (apply ow_pick_t; (· rfl); (· rfl); (· ((conv => lhs; whnf) <;> rfl)))
  (apply ow_assign; (· rfl); (· ((conv => lhs; whnf) <;> rfl)))
  refine ow_nil ?_
  refine wc_ret ?_
  obtain ⟨w, hT, H⟩ := H.takes Try.prog
  refine ⟨.inr rfl, w, hT, _, .tmp .nil, ?_⟩
  exact ⟨rfl, H.sub (List.nil_sublist _)⟩
end Go.Proofs.Ytphmjdbdhhbdoaa
