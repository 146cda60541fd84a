/- The statement's function 'sandtablelaw02.VarintLens' returns true at every two numbers, and changes nothing that was there. -/
import Derived.Test.YtphmjdbdhhbdoaaV13
import Derived.Test.YtphmjdbdhhbdoaaK2
namespace Go.Proofs.Ytphmjdbdhhbdoaa
set_option linter.all false
open Go Go.Sx Go.Proofs
set_option maxRecDepth 100000
set_option maxHeartbeats 2000000
theorem law02Lens (x : Nat) (hx : x < 18446744073709551616) (k : Int) (w0 : World) :
    CallsV Try.prog 7 #[.int .u64 x, .int .i64 k] w0 fun v w => v = .bool true ∧ St Pu w0 w [] [] := by
  refine callsV_of Try.func7 rfl rfl ?_
  have hx10 := putN_len10 hx
  obtain ⟨j, hj, hkj⟩ := and_mask k (m := 7) (by decide)
  obtain ⟨s, hsx⟩ : ∃ s, x / 2 / 2 ^ (7 * j + 6) = s := ⟨_, rfl⟩
  have hs57 : s < 144115188075855872 := by
    have h1 : (64 : Nat) ≤ 2 ^ (7 * j + 6) := by
      rw [Nat.pow_add]; have := Nat.two_pow_pos (7 * j); omega
    have h2 : x / 2 / 2 ^ (7 * j + 6) ≤ x / 2 / 64 := Nat.div_le_div_left h1 (by decide)
    omega
  have es : IntKind.i64.wrap (((x : Int).fdiv (2 ^ min (Int.toNat 1) IntKind.u64.bits)).fdiv (2 ^ min (7 * (j : Int) + 6).toNat IntKind.u64.bits)) = (s : Int) := by
    have e1 : (x : Int).fdiv (2 ^ min (Int.toNat 1) IntKind.u64.bits) = ((x / 2 : Nat) : Int) := shr_nat x 1 64 (by decide)
    rw [e1, show 7 * (j : Int) + 6 = ((7 * j + 6 : Nat) : Int) by omega, shr_nat (x / 2) (7 * j + 6) _ (by show 7 * j + 6 ≤ 64; omega), hsx]
    exact wrap_in (by simp only [InK]; omega)
  have f1 : foldN (s : Int) = 2 * s := by unfold foldN; rw [if_pos (by omega)]; omega
  have f2 : foldN (-(s : Int) - 1) = 2 * s + 1 := by unfold foldN; rw [if_neg (by omega)]; omega
  repeat (first
    | refine wc_seq ?_
    | refine wc_block ?_
    | refine wc_region ?_
    | refine ow_nil ?_
    | refine wc_skip ?_
    | refine wc_exit ?_
    | (apply ow_move; (· rfl); (· ((conv => lhs; whnf) <;> rfl)))
    | (apply ow_assign; (· rfl); (· ((conv => lhs; whnf) <;> rfl)))
    | refine ow_extract rfl rfl rfl ?_
    | refine ow_nilCheck_ptr rfl rfl ?_
    | refine ow_nilCheck_ptr0 rfl ?_
    | refine ow_fieldAddr rfl (tyAt rfl) rfl rfl rfl (tyAt rfl) rfl rfl ?_
    | refine ow_guard_yes rfl rfl rfl rfl ?_
    | refine ow_guard_no rfl rfl rfl rfl rfl rfl rfl ?_
    | refine ow_guard_dec rfl rfl rfl (fun _ => ?_) (fun h => (h (by with_reducible rfl)).elim)
    | refine ow_guard_dec rfl rfl rfl (fun h => (h (by with_reducible rfl)).elim) (fun _ => ?_)
    | (apply ow_pick_t; (· rfl); (· rfl); (· ((conv => lhs; whnf) <;> rfl)))
    | (apply ow_pick_f; (· rfl); (· rfl); (· ((conv => lhs; whnf) <;> rfl)))
    | refine wc_cond_true rfl ?_
    | refine wc_cond_false rfl ?_
    | refine ow_add rfl rfl rfl (by simp only [InK]; omega) ?_
    | refine ow_sub rfl rfl rfl (by simp only [InK]; omega) ?_
    | refine ow_lss rfl rfl rfl ?_
    | refine ow_leq rfl rfl rfl ?_
    | refine ow_gtr rfl rfl rfl ?_
    | refine ow_geq rfl rfl rfl ?_
    | refine ow_eql rfl rfl rfl ?_
    | refine ow_neq rfl rfl rfl ?_
    | refine ow_mul rfl rfl rfl (by simp only [InK]; omega) ?_
    | refine ow_quo rfl rfl rfl (by omega) (by omega) (by simp only [InK]; omega) ?_
    | refine ow_rem rfl rfl rfl (by omega) (by omega) ?_
    | refine ow_conv_in rfl rfl (tyAt rfl) (tyAt rfl) rfl (by simp only [InK]; omega) ?_
    | refine ow_conv rfl rfl (tyAt rfl) (tyAt rfl) rfl ?_
    | refine ow_not_dec rfl rfl ?_
    | refine ow_not rfl rfl ?_
    | refine ow_len rfl rfl (tyAt rfl) rfl ?_
    | refine ow_lenStr rfl rfl (tyAt rfl) rfl ?_
    | refine ow_max rfl rfl rfl ?_
    | refine ow_min rfl rfl rfl ?_
    | refine ow_and rfl rfl rfl ?_
    | refine ow_or rfl rfl rfl ?_
    | refine ow_xor rfl rfl rfl ?_
    | refine ow_neg rfl rfl (by simp only [InK]; omega) ?_
    | refine ow_negw rfl rfl ?_
    | refine ow_addw rfl rfl rfl ?_
    | refine ow_subw rfl rfl rfl ?_
    | refine ow_mulw rfl rfl rfl ?_
    | refine ow_compl rfl rfl ?_
    | refine ow_shl rfl rfl rfl (by omega) ?_
    | refine ow_shr rfl rfl rfl (by omega) ?_
    | refine ow_makeFunc (fs := []) (cs := []) rfl rfl rfl ?_
    | refine ow_makeFunc (fs := []) (cs := [.pointer _]) rfl rfl rfl ?_
    | refine ow_makeFunc (fs := []) (cs := [.pointer _, .pointer _]) rfl rfl rfl ?_
    | refine ow_makeFunc (fs := []) (cs := [.pointer _, .pointer _, .pointer _]) rfl rfl rfl ?_)
  refine ow_call rfl rfl (ent (by kernel_rfl)) (CallsV.mono (alive02 w0) ?_) rfl
  rintro v w ⟨rfl, H⟩
  repeat (first
    | refine wc_region ?_
    | refine ow_nil ?_
    | refine wc_skip ?_
    | refine wc_exit ?_
    | (apply ow_move; (· rfl); (· ((conv => lhs; whnf) <;> rfl)))
    | (apply ow_assign; (· rfl); (· ((conv => lhs; whnf) <;> rfl)))
    | refine ow_extract rfl rfl rfl ?_
    | refine ow_nilCheck_ptr rfl rfl ?_
    | refine ow_nilCheck_ptr0 rfl ?_
    | refine ow_fieldAddr rfl (tyAt rfl) rfl rfl rfl (tyAt rfl) rfl rfl ?_
    | refine ow_guard_yes rfl rfl rfl rfl ?_
    | refine ow_guard_no rfl rfl rfl rfl rfl rfl rfl ?_
    | refine ow_guard_dec rfl rfl rfl (fun _ => ?_) (fun h => (h (by with_reducible rfl)).elim)
    | refine ow_guard_dec rfl rfl rfl (fun h => (h (by with_reducible rfl)).elim) (fun _ => ?_)
    | (apply ow_pick_t; (· rfl); (· rfl); (· ((conv => lhs; whnf) <;> rfl)))
    | (apply ow_pick_f; (· rfl); (· rfl); (· ((conv => lhs; whnf) <;> rfl)))
    | refine wc_cond_true rfl ?_
    | refine wc_cond_false rfl ?_
    | refine ow_add rfl rfl rfl (by simp only [InK]; omega) ?_
    | refine ow_sub rfl rfl rfl (by simp only [InK]; omega) ?_
    | refine ow_lss rfl rfl rfl ?_
    | refine ow_leq rfl rfl rfl ?_
    | refine ow_gtr rfl rfl rfl ?_
    | refine ow_geq rfl rfl rfl ?_
    | refine ow_eql rfl rfl rfl ?_
    | refine ow_neq rfl rfl rfl ?_
    | refine ow_mul rfl rfl rfl (by simp only [InK]; omega) ?_
    | refine ow_quo rfl rfl rfl (by omega) (by omega) (by simp only [InK]; omega) ?_
    | refine ow_rem rfl rfl rfl (by omega) (by omega) ?_
    | refine ow_conv_in rfl rfl (tyAt rfl) (tyAt rfl) rfl (by simp only [InK]; omega) ?_
    | refine ow_conv rfl rfl (tyAt rfl) (tyAt rfl) rfl ?_
    | refine ow_not_dec rfl rfl ?_
    | refine ow_not rfl rfl ?_
    | refine ow_len rfl rfl (tyAt rfl) rfl ?_
    | refine ow_lenStr rfl rfl (tyAt rfl) rfl ?_
    | refine ow_max rfl rfl rfl ?_
    | refine ow_min rfl rfl rfl ?_
    | refine ow_and rfl rfl rfl ?_
    | refine ow_or rfl rfl rfl ?_
    | refine ow_xor rfl rfl rfl ?_
    | refine ow_neg rfl rfl (by simp only [InK]; omega) ?_
    | refine ow_negw rfl rfl ?_
    | refine ow_addw rfl rfl rfl ?_
    | refine ow_subw rfl rfl rfl ?_
    | refine ow_mulw rfl rfl rfl ?_
    | refine ow_compl rfl rfl ?_
    | refine ow_shl rfl rfl rfl (by omega) ?_
    | refine ow_shr rfl rfl rfl (by omega) ?_
    | refine ow_makeFunc (fs := []) (cs := []) rfl rfl rfl ?_
    | refine ow_makeFunc (fs := []) (cs := [.pointer _]) rfl rfl rfl ?_
    | refine ow_makeFunc (fs := []) (cs := [.pointer _, .pointer _]) rfl rfl rfl ?_
    | refine ow_makeFunc (fs := []) (cs := [.pointer _, .pointer _, .pointer _]) rfl rfl rfl ?_)
  refine wc_seq ?_
  repeat (first
    | refine wc_region ?_
    | refine ow_nil ?_
    | refine wc_skip ?_
    | refine wc_exit ?_
    | (apply ow_move; (· rfl); (· ((conv => lhs; whnf) <;> rfl)))
    | (apply ow_assign; (· rfl); (· ((conv => lhs; whnf) <;> rfl)))
    | refine ow_extract rfl rfl rfl ?_
    | refine ow_nilCheck_ptr rfl rfl ?_
    | refine ow_nilCheck_ptr0 rfl ?_
    | refine ow_fieldAddr rfl (tyAt rfl) rfl rfl rfl (tyAt rfl) rfl rfl ?_
    | refine ow_guard_yes rfl rfl rfl rfl ?_
    | refine ow_guard_no rfl rfl rfl rfl rfl rfl rfl ?_
    | refine ow_guard_dec rfl rfl rfl (fun _ => ?_) (fun h => (h (by with_reducible rfl)).elim)
    | refine ow_guard_dec rfl rfl rfl (fun h => (h (by with_reducible rfl)).elim) (fun _ => ?_)
    | (apply ow_pick_t; (· rfl); (· rfl); (· ((conv => lhs; whnf) <;> rfl)))
    | (apply ow_pick_f; (· rfl); (· rfl); (· ((conv => lhs; whnf) <;> rfl)))
    | refine wc_cond_true rfl ?_
    | refine wc_cond_false rfl ?_
    | refine ow_add rfl rfl rfl (by simp only [InK]; omega) ?_
    | refine ow_sub rfl rfl rfl (by simp only [InK]; omega) ?_
    | refine ow_lss rfl rfl rfl ?_
    | refine ow_leq rfl rfl rfl ?_
    | refine ow_gtr rfl rfl rfl ?_
    | refine ow_geq rfl rfl rfl ?_
    | refine ow_eql rfl rfl rfl ?_
    | refine ow_neq rfl rfl rfl ?_
    | refine ow_mul rfl rfl rfl (by simp only [InK]; omega) ?_
    | refine ow_quo rfl rfl rfl (by omega) (by omega) (by simp only [InK]; omega) ?_
    | refine ow_rem rfl rfl rfl (by omega) (by omega) ?_
    | refine ow_conv_in rfl rfl (tyAt rfl) (tyAt rfl) rfl (by simp only [InK]; omega) ?_
    | refine ow_conv rfl rfl (tyAt rfl) (tyAt rfl) rfl ?_
    | refine ow_not_dec rfl rfl ?_
    | refine ow_not rfl rfl ?_
    | refine ow_len rfl rfl (tyAt rfl) rfl ?_
    | refine ow_lenStr rfl rfl (tyAt rfl) rfl ?_
    | refine ow_max rfl rfl rfl ?_
    | refine ow_min rfl rfl rfl ?_
    | refine ow_and rfl rfl rfl ?_
    | refine ow_or rfl rfl rfl ?_
    | refine ow_xor rfl rfl rfl ?_
    | refine ow_neg rfl rfl (by simp only [InK]; omega) ?_
    | refine ow_negw rfl rfl ?_
    | refine ow_addw rfl rfl rfl ?_
    | refine ow_subw rfl rfl rfl ?_
    | refine ow_mulw rfl rfl rfl ?_
    | refine ow_compl rfl rfl ?_
    | refine ow_shl rfl rfl rfl (by omega) ?_
    | refine ow_shr rfl rfl rfl (by omega) ?_
    | refine ow_makeFunc (fs := []) (cs := []) rfl rfl rfl ?_
    | refine ow_makeFunc (fs := []) (cs := [.pointer _]) rfl rfl rfl ?_
    | refine ow_makeFunc (fs := []) (cs := [.pointer _, .pointer _]) rfl rfl rfl ?_
    | refine ow_makeFunc (fs := []) (cs := [.pointer _, .pointer _, .pointer _]) rfl rfl rfl ?_)
  rw [show bw .and .i64 k 7 = (j : Int) from hkj]
  repeat (first
    | refine wc_seq ?_
    | refine wc_block ?_
    | refine wc_region ?_
    | refine ow_nil ?_
    | refine wc_skip ?_
    | refine wc_exit ?_
    | (apply ow_move; (· rfl); (· ((conv => lhs; whnf) <;> rfl)))
    | (apply ow_assign; (· rfl); (· ((conv => lhs; whnf) <;> rfl)))
    | refine ow_extract rfl rfl rfl ?_
    | refine ow_nilCheck_ptr rfl rfl ?_
    | refine ow_nilCheck_ptr0 rfl ?_
    | refine ow_fieldAddr rfl (tyAt rfl) rfl rfl rfl (tyAt rfl) rfl rfl ?_
    | refine ow_guard_yes rfl rfl rfl rfl ?_
    | refine ow_guard_no rfl rfl rfl rfl rfl rfl rfl ?_
    | refine ow_guard_dec rfl rfl rfl (fun _ => ?_) (fun h => (h (by with_reducible rfl)).elim)
    | refine ow_guard_dec rfl rfl rfl (fun h => (h (by with_reducible rfl)).elim) (fun _ => ?_)
    | (apply ow_pick_t; (· rfl); (· rfl); (· ((conv => lhs; whnf) <;> rfl)))
    | (apply ow_pick_f; (· rfl); (· rfl); (· ((conv => lhs; whnf) <;> rfl)))
    | refine wc_cond_true rfl ?_
    | refine wc_cond_false rfl ?_
    | refine ow_add rfl rfl rfl (by simp only [InK]; omega) ?_
    | refine ow_sub rfl rfl rfl (by simp only [InK]; omega) ?_
    | refine ow_lss rfl rfl rfl ?_
    | refine ow_leq rfl rfl rfl ?_
    | refine ow_gtr rfl rfl rfl ?_
    | refine ow_geq rfl rfl rfl ?_
    | refine ow_eql rfl rfl rfl ?_
    | refine ow_neq rfl rfl rfl ?_
    | refine ow_mul rfl rfl rfl (by simp only [InK]; omega) ?_
    | refine ow_quo rfl rfl rfl (by omega) (by omega) (by simp only [InK]; omega) ?_
    | refine ow_rem rfl rfl rfl (by omega) (by omega) ?_
    | refine ow_conv_in rfl rfl (tyAt rfl) (tyAt rfl) rfl (by simp only [InK]; omega) ?_
    | refine ow_conv rfl rfl (tyAt rfl) (tyAt rfl) rfl ?_
    | refine ow_not_dec rfl rfl ?_
    | refine ow_not rfl rfl ?_
    | refine ow_len rfl rfl (tyAt rfl) rfl ?_
    | refine ow_lenStr rfl rfl (tyAt rfl) rfl ?_
    | refine ow_max rfl rfl rfl ?_
    | refine ow_min rfl rfl rfl ?_
    | refine ow_and rfl rfl rfl ?_
    | refine ow_or rfl rfl rfl ?_
    | refine ow_xor rfl rfl rfl ?_
    | refine ow_neg rfl rfl (by simp only [InK]; omega) ?_
    | refine ow_negw rfl rfl ?_
    | refine ow_addw rfl rfl rfl ?_
    | refine ow_subw rfl rfl rfl ?_
    | refine ow_mulw rfl rfl rfl ?_
    | refine ow_compl rfl rfl ?_
    | refine ow_shl rfl rfl rfl (by omega) ?_
    | refine ow_shr rfl rfl rfl (by omega) ?_
    | refine ow_makeFunc (fs := []) (cs := []) rfl rfl rfl ?_
    | refine ow_makeFunc (fs := []) (cs := [.pointer _]) rfl rfl rfl ?_
    | refine ow_makeFunc (fs := []) (cs := [.pointer _, .pointer _]) rfl rfl rfl ?_
    | refine ow_makeFunc (fs := []) (cs := [.pointer _, .pointer _, .pointer _]) rfl rfl rfl ?_)
  refine ow_guard_dec rfl rfl rfl (fun h => ?_) (fun h => ?_) <;> try dsimp only at h
  · repeat (first
      | refine wc_seq ?_
      | refine wc_block ?_
      | refine wc_region ?_
      | refine ow_nil ?_
      | refine wc_skip ?_
      | refine wc_exit ?_
      | (apply ow_move; (· rfl); (· ((conv => lhs; whnf) <;> rfl)))
      | (apply ow_assign; (· rfl); (· ((conv => lhs; whnf) <;> rfl)))
      | refine ow_extract rfl rfl rfl ?_
      | refine ow_nilCheck_ptr rfl rfl ?_
      | refine ow_nilCheck_ptr0 rfl ?_
      | refine ow_fieldAddr rfl (tyAt rfl) rfl rfl rfl (tyAt rfl) rfl rfl ?_
      | refine ow_guard_yes rfl rfl rfl rfl ?_
      | refine ow_guard_no rfl rfl rfl rfl rfl rfl rfl ?_
      | refine ow_guard_dec rfl rfl rfl (fun _ => ?_) (fun h => (h (by with_reducible rfl)).elim)
      | refine ow_guard_dec rfl rfl rfl (fun h => (h (by with_reducible rfl)).elim) (fun _ => ?_)
      | (apply ow_pick_t; (· rfl); (· rfl); (· ((conv => lhs; whnf) <;> rfl)))
      | (apply ow_pick_f; (· rfl); (· rfl); (· ((conv => lhs; whnf) <;> rfl)))
      | refine wc_cond_true rfl ?_
      | refine wc_cond_false rfl ?_
      | refine ow_add rfl rfl rfl (by simp only [InK]; omega) ?_
      | refine ow_sub rfl rfl rfl (by simp only [InK]; omega) ?_
      | refine ow_leq rfl rfl rfl ?_
      | refine ow_gtr rfl rfl rfl ?_
      | refine ow_geq rfl rfl rfl ?_
      | refine ow_eql rfl rfl rfl ?_
      | refine ow_neq rfl rfl rfl ?_
      | refine ow_mul rfl rfl rfl (by simp only [InK]; omega) ?_
      | refine ow_quo rfl rfl rfl (by omega) (by omega) (by simp only [InK]; omega) ?_
      | refine ow_rem rfl rfl rfl (by omega) (by omega) ?_
      | refine ow_conv_in rfl rfl (tyAt rfl) (tyAt rfl) rfl (by simp only [InK]; omega) ?_
      | refine ow_conv rfl rfl (tyAt rfl) (tyAt rfl) rfl ?_
      | refine ow_not_dec rfl rfl ?_
      | refine ow_not rfl rfl ?_
      | refine ow_len rfl rfl (tyAt rfl) rfl ?_
      | refine ow_lenStr rfl rfl (tyAt rfl) rfl ?_
      | refine ow_max rfl rfl rfl ?_
      | refine ow_min rfl rfl rfl ?_
      | refine ow_and rfl rfl rfl ?_
      | refine ow_or rfl rfl rfl ?_
      | refine ow_xor rfl rfl rfl ?_
      | refine ow_neg rfl rfl (by simp only [InK]; omega) ?_
      | refine ow_negw rfl rfl ?_
      | refine ow_addw rfl rfl rfl ?_
      | refine ow_subw rfl rfl rfl ?_
      | refine ow_mulw rfl rfl rfl ?_
      | refine ow_compl rfl rfl ?_
      | refine ow_shl rfl rfl rfl (by omega) ?_
      | refine ow_shr rfl rfl rfl (by omega) ?_
      | refine ow_makeFunc (fs := []) (cs := []) rfl rfl rfl ?_
      | refine ow_makeFunc (fs := []) (cs := [.pointer _]) rfl rfl rfl ?_
      | refine ow_makeFunc (fs := []) (cs := [.pointer _, .pointer _]) rfl rfl rfl ?_
      | refine ow_makeFunc (fs := []) (cs := [.pointer _, .pointer _, .pointer _]) rfl rfl rfl ?_)
    refine ow_lss rfl rfl rfl ?_
    by_cases h57 : (x : Int) < 144115188075855872
    · rw [decide_eq_true h57]
      repeat (first
        | refine wc_seq ?_
        | refine wc_block ?_
        | refine wc_region ?_
        | refine ow_nil ?_
        | refine wc_skip ?_
        | refine wc_exit ?_
        | (apply ow_move; (· rfl); (· ((conv => lhs; whnf) <;> rfl)))
        | (apply ow_assign; (· rfl); (· ((conv => lhs; whnf) <;> rfl)))
        | refine ow_extract rfl rfl rfl ?_
        | refine ow_nilCheck_ptr rfl rfl ?_
        | refine ow_nilCheck_ptr0 rfl ?_
        | refine ow_fieldAddr rfl (tyAt rfl) rfl rfl rfl (tyAt rfl) rfl rfl ?_
        | refine ow_guard_yes rfl rfl rfl rfl ?_
        | refine ow_guard_no rfl rfl rfl rfl rfl rfl rfl ?_
        | refine ow_guard_dec rfl rfl rfl (fun _ => ?_) (fun h => (h (by with_reducible rfl)).elim)
        | refine ow_guard_dec rfl rfl rfl (fun h => (h (by with_reducible rfl)).elim) (fun _ => ?_)
        | (apply ow_pick_t; (· rfl); (· rfl); (· ((conv => lhs; whnf) <;> rfl)))
        | (apply ow_pick_f; (· rfl); (· rfl); (· ((conv => lhs; whnf) <;> rfl)))
        | refine wc_cond_true rfl ?_
        | refine wc_cond_false rfl ?_
        | refine ow_add rfl rfl rfl (by simp only [InK]; omega) ?_
        | refine ow_sub rfl rfl rfl (by simp only [InK]; omega) ?_
        | refine ow_lss rfl rfl rfl ?_
        | refine ow_leq rfl rfl rfl ?_
        | refine ow_gtr rfl rfl rfl ?_
        | refine ow_geq rfl rfl rfl ?_
        | refine ow_eql rfl rfl rfl ?_
        | refine ow_neq rfl rfl rfl ?_
        | refine ow_mul rfl rfl rfl (by simp only [InK]; omega) ?_
        | refine ow_quo rfl rfl rfl (by omega) (by omega) (by simp only [InK]; omega) ?_
        | refine ow_rem rfl rfl rfl (by omega) (by omega) ?_
        | refine ow_conv_in rfl rfl (tyAt rfl) (tyAt rfl) rfl (by simp only [InK]; omega) ?_
        | refine ow_conv rfl rfl (tyAt rfl) (tyAt rfl) rfl ?_
        | refine ow_not_dec rfl rfl ?_
        | refine ow_not rfl rfl ?_
        | refine ow_len rfl rfl (tyAt rfl) rfl ?_
        | refine ow_lenStr rfl rfl (tyAt rfl) rfl ?_
        | refine ow_max rfl rfl rfl ?_
        | refine ow_min rfl rfl rfl ?_
        | refine ow_and rfl rfl rfl ?_
        | refine ow_or rfl rfl rfl ?_
        | refine ow_xor rfl rfl rfl ?_
        | refine ow_neg rfl rfl (by simp only [InK]; omega) ?_
        | refine ow_negw rfl rfl ?_
        | refine ow_addw rfl rfl rfl ?_
        | refine ow_subw rfl rfl rfl ?_
        | refine ow_mulw rfl rfl rfl ?_
        | refine ow_compl rfl rfl ?_
        | refine ow_shl rfl rfl rfl (by omega) ?_
        | refine ow_shr rfl rfl rfl (by omega) ?_
        | refine ow_makeFunc (fs := []) (cs := []) rfl rfl rfl ?_
        | refine ow_makeFunc (fs := []) (cs := [.pointer _]) rfl rfl rfl ?_
        | refine ow_makeFunc (fs := []) (cs := [.pointer _, .pointer _]) rfl rfl rfl ?_
        | refine ow_makeFunc (fs := []) (cs := [.pointer _, .pointer _, .pointer _]) rfl rfl rfl ?_)
      have e19 : IntKind.u64.wrap ((x : Int) * 2 ^ min (Int.toNat 7) IntKind.u64.bits) = ((x * 128 : Nat) : Int) := by
        have := shl_u64 (x := x) (k := 7) (by decide)
        rw [Nat.mod_eq_of_lt (by omega)] at this
        exact this
      rw [e19]
      refine ow_call rfl rfl (ent (by kernel_rfl)) (CallsV.mono (len_spec (x * 128) (by omega) _) ?_) rfl
      rintro v w' ⟨rfl, rfl⟩
      rw [putN_shift (by omega)]
      repeat (first
        | refine wc_seq ?_
        | refine wc_block ?_
        | refine wc_region ?_
        | refine ow_nil ?_
        | refine wc_skip ?_
        | refine wc_exit ?_
        | (apply ow_move; (· rfl); (· ((conv => lhs; whnf) <;> rfl)))
        | (apply ow_assign; (· rfl); (· ((conv => lhs; whnf) <;> rfl)))
        | refine ow_extract rfl rfl rfl ?_
        | refine ow_nilCheck_ptr rfl rfl ?_
        | refine ow_nilCheck_ptr0 rfl ?_
        | refine ow_fieldAddr rfl (tyAt rfl) rfl rfl rfl (tyAt rfl) rfl rfl ?_
        | refine ow_guard_yes rfl rfl rfl rfl ?_
        | refine ow_guard_no rfl rfl rfl rfl rfl rfl rfl ?_
        | refine ow_guard_dec rfl rfl rfl (fun _ => ?_) (fun h => (h (by with_reducible rfl)).elim)
        | refine ow_guard_dec rfl rfl rfl (fun h => (h (by with_reducible rfl)).elim) (fun _ => ?_)
        | (apply ow_pick_t; (· rfl); (· rfl); (· ((conv => lhs; whnf) <;> rfl)))
        | (apply ow_pick_f; (· rfl); (· rfl); (· ((conv => lhs; whnf) <;> rfl)))
        | refine wc_cond_true rfl ?_
        | refine wc_cond_false rfl ?_
        | refine ow_add rfl rfl rfl (by simp only [InK]; omega) ?_
        | refine ow_sub rfl rfl rfl (by simp only [InK]; omega) ?_
        | refine ow_lss rfl rfl rfl ?_
        | refine ow_leq rfl rfl rfl ?_
        | refine ow_gtr rfl rfl rfl ?_
        | refine ow_geq rfl rfl rfl ?_
        | refine ow_eql rfl rfl rfl ?_
        | refine ow_neq rfl rfl rfl ?_
        | refine ow_mul rfl rfl rfl (by simp only [InK]; omega) ?_
        | refine ow_quo rfl rfl rfl (by omega) (by omega) (by simp only [InK]; omega) ?_
        | refine ow_rem rfl rfl rfl (by omega) (by omega) ?_
        | refine ow_conv_in rfl rfl (tyAt rfl) (tyAt rfl) rfl (by simp only [InK]; omega) ?_
        | refine ow_conv rfl rfl (tyAt rfl) (tyAt rfl) rfl ?_
        | refine ow_not_dec rfl rfl ?_
        | refine ow_not rfl rfl ?_
        | refine ow_len rfl rfl (tyAt rfl) rfl ?_
        | refine ow_lenStr rfl rfl (tyAt rfl) rfl ?_
        | refine ow_max rfl rfl rfl ?_
        | refine ow_min rfl rfl rfl ?_
        | refine ow_and rfl rfl rfl ?_
        | refine ow_or rfl rfl rfl ?_
        | refine ow_xor rfl rfl rfl ?_
        | refine ow_neg rfl rfl (by simp only [InK]; omega) ?_
        | refine ow_negw rfl rfl ?_
        | refine ow_addw rfl rfl rfl ?_
        | refine ow_subw rfl rfl rfl ?_
        | refine ow_mulw rfl rfl rfl ?_
        | refine ow_compl rfl rfl ?_
        | refine ow_shl rfl rfl rfl (by omega) ?_
        | refine ow_shr rfl rfl rfl (by omega) ?_
        | refine ow_makeFunc (fs := []) (cs := []) rfl rfl rfl ?_
        | refine ow_makeFunc (fs := []) (cs := [.pointer _]) rfl rfl rfl ?_
        | refine ow_makeFunc (fs := []) (cs := [.pointer _, .pointer _]) rfl rfl rfl ?_
        | refine ow_makeFunc (fs := []) (cs := [.pointer _, .pointer _, .pointer _]) rfl rfl rfl ?_)
      refine ow_call rfl rfl (ent (by kernel_rfl)) (CallsV.mono (len_spec x (by omega) _) ?_) rfl
      rintro v w ⟨rfl, rfl⟩
      repeat (first
        | refine wc_seq ?_
        | refine wc_block ?_
        | refine wc_region ?_
        | refine ow_nil ?_
        | refine wc_skip ?_
        | refine wc_exit ?_
        | (apply ow_move; (· rfl); (· ((conv => lhs; whnf) <;> rfl)))
        | (apply ow_assign; (· rfl); (· ((conv => lhs; whnf) <;> rfl)))
        | refine ow_extract rfl rfl rfl ?_
        | refine ow_nilCheck_ptr rfl rfl ?_
        | refine ow_nilCheck_ptr0 rfl ?_
        | refine ow_fieldAddr rfl (tyAt rfl) rfl rfl rfl (tyAt rfl) rfl rfl ?_
        | refine ow_guard_yes rfl rfl rfl rfl ?_
        | refine ow_guard_no rfl rfl rfl rfl rfl rfl rfl ?_
        | refine ow_guard_dec rfl rfl rfl (fun _ => ?_) (fun h => (h (by with_reducible rfl)).elim)
        | refine ow_guard_dec rfl rfl rfl (fun h => (h (by with_reducible rfl)).elim) (fun _ => ?_)
        | (apply ow_pick_t; (· rfl); (· rfl); (· ((conv => lhs; whnf) <;> rfl)))
        | (apply ow_pick_f; (· rfl); (· rfl); (· ((conv => lhs; whnf) <;> rfl)))
        | refine wc_cond_true rfl ?_
        | refine wc_cond_false rfl ?_
        | refine ow_add rfl rfl rfl (by simp only [InK]; omega) ?_
        | refine ow_sub rfl rfl rfl (by simp only [InK]; omega) ?_
        | refine ow_lss rfl rfl rfl ?_
        | refine ow_leq rfl rfl rfl ?_
        | refine ow_gtr rfl rfl rfl ?_
        | refine ow_geq rfl rfl rfl ?_
        | refine ow_eql rfl rfl rfl ?_
        | refine ow_neq rfl rfl rfl ?_
        | refine ow_mul rfl rfl rfl (by simp only [InK]; omega) ?_
        | refine ow_quo rfl rfl rfl (by omega) (by omega) (by simp only [InK]; omega) ?_
        | refine ow_rem rfl rfl rfl (by omega) (by omega) ?_
        | refine ow_conv_in rfl rfl (tyAt rfl) (tyAt rfl) rfl (by simp only [InK]; omega) ?_
        | refine ow_conv rfl rfl (tyAt rfl) (tyAt rfl) rfl ?_
        | refine ow_not_dec rfl rfl ?_
        | refine ow_not rfl rfl ?_
        | refine ow_len rfl rfl (tyAt rfl) rfl ?_
        | refine ow_lenStr rfl rfl (tyAt rfl) rfl ?_
        | refine ow_max rfl rfl rfl ?_
        | refine ow_min rfl rfl rfl ?_
        | refine ow_and rfl rfl rfl ?_
        | refine ow_or rfl rfl rfl ?_
        | refine ow_xor rfl rfl rfl ?_
        | refine ow_neg rfl rfl (by simp only [InK]; omega) ?_
        | refine ow_negw rfl rfl ?_
        | refine ow_addw rfl rfl rfl ?_
        | refine ow_subw rfl rfl rfl ?_
        | refine ow_mulw rfl rfl rfl ?_
        | refine ow_compl rfl rfl ?_
        | refine ow_shl rfl rfl rfl (by omega) ?_
        | refine ow_shr rfl rfl rfl (by omega) ?_
        | refine ow_makeFunc (fs := []) (cs := []) rfl rfl rfl ?_
        | refine ow_makeFunc (fs := []) (cs := [.pointer _]) rfl rfl rfl ?_
        | refine ow_makeFunc (fs := []) (cs := [.pointer _, .pointer _]) rfl rfl rfl ?_
        | refine ow_makeFunc (fs := []) (cs := [.pointer _, .pointer _, .pointer _]) rfl rfl rfl ?_)
      refine wc_cond_dec rfl (fun h => ?_) (fun h => ?_) <;> try dsimp only at h
      · omega
      repeat (first
        | refine wc_seq ?_
        | refine wc_block ?_
        | refine wc_region ?_
        | refine ow_nil ?_
        | refine wc_skip ?_
        | refine wc_exit ?_
        | (apply ow_move; (· rfl); (· ((conv => lhs; whnf) <;> rfl)))
        | (apply ow_assign; (· rfl); (· ((conv => lhs; whnf) <;> rfl)))
        | refine ow_extract rfl rfl rfl ?_
        | refine ow_nilCheck_ptr rfl rfl ?_
        | refine ow_nilCheck_ptr0 rfl ?_
        | refine ow_fieldAddr rfl (tyAt rfl) rfl rfl rfl (tyAt rfl) rfl rfl ?_
        | refine ow_guard_yes rfl rfl rfl rfl ?_
        | refine ow_guard_no rfl rfl rfl rfl rfl rfl rfl ?_
        | refine ow_guard_dec rfl rfl rfl (fun _ => ?_) (fun h => (h (by with_reducible rfl)).elim)
        | refine ow_guard_dec rfl rfl rfl (fun h => (h (by with_reducible rfl)).elim) (fun _ => ?_)
        | (apply ow_pick_t; (· rfl); (· rfl); (· ((conv => lhs; whnf) <;> rfl)))
        | (apply ow_pick_f; (· rfl); (· rfl); (· ((conv => lhs; whnf) <;> rfl)))
        | refine wc_cond_true rfl ?_
        | refine wc_cond_false rfl ?_
        | refine ow_add rfl rfl rfl (by simp only [InK]; omega) ?_
        | refine ow_sub rfl rfl rfl (by simp only [InK]; omega) ?_
        | refine ow_lss rfl rfl rfl ?_
        | refine ow_leq rfl rfl rfl ?_
        | refine ow_gtr rfl rfl rfl ?_
        | refine ow_geq rfl rfl rfl ?_
        | refine ow_eql rfl rfl rfl ?_
        | refine ow_neq rfl rfl rfl ?_
        | refine ow_mul rfl rfl rfl (by simp only [InK]; omega) ?_
        | refine ow_quo rfl rfl rfl (by omega) (by omega) (by simp only [InK]; omega) ?_
        | refine ow_rem rfl rfl rfl (by omega) (by omega) ?_
        | refine ow_conv_in rfl rfl (tyAt rfl) (tyAt rfl) rfl (by simp only [InK]; omega) ?_
        | refine ow_conv rfl rfl (tyAt rfl) (tyAt rfl) rfl ?_
        | refine ow_not_dec rfl rfl ?_
        | refine ow_not rfl rfl ?_
        | refine ow_len rfl rfl (tyAt rfl) rfl ?_
        | refine ow_lenStr rfl rfl (tyAt rfl) rfl ?_
        | refine ow_max rfl rfl rfl ?_
        | refine ow_min rfl rfl rfl ?_
        | refine ow_and rfl rfl rfl ?_
        | refine ow_or rfl rfl rfl ?_
        | refine ow_xor rfl rfl rfl ?_
        | refine ow_neg rfl rfl (by simp only [InK]; omega) ?_
        | refine ow_negw rfl rfl ?_
        | refine ow_addw rfl rfl rfl ?_
        | refine ow_subw rfl rfl rfl ?_
        | refine ow_mulw rfl rfl rfl ?_
        | refine ow_compl rfl rfl ?_
        | refine ow_shl rfl rfl rfl (by omega) ?_
        | refine ow_shr rfl rfl rfl (by omega) ?_
        | refine ow_makeFunc (fs := []) (cs := []) rfl rfl rfl ?_
        | refine ow_makeFunc (fs := []) (cs := [.pointer _]) rfl rfl rfl ?_
        | refine ow_makeFunc (fs := []) (cs := [.pointer _, .pointer _]) rfl rfl rfl ?_
        | refine ow_makeFunc (fs := []) (cs := [.pointer _, .pointer _, .pointer _]) rfl rfl rfl ?_)
      rw [es]
      repeat (first
        | refine wc_seq ?_
        | refine wc_block ?_
        | refine wc_region ?_
        | refine ow_nil ?_
        | refine wc_skip ?_
        | refine wc_exit ?_
        | (apply ow_move; (· rfl); (· ((conv => lhs; whnf) <;> rfl)))
        | (apply ow_assign; (· rfl); (· ((conv => lhs; whnf) <;> rfl)))
        | refine ow_extract rfl rfl rfl ?_
        | refine ow_nilCheck_ptr rfl rfl ?_
        | refine ow_nilCheck_ptr0 rfl ?_
        | refine ow_fieldAddr rfl (tyAt rfl) rfl rfl rfl (tyAt rfl) rfl rfl ?_
        | refine ow_guard_yes rfl rfl rfl rfl ?_
        | refine ow_guard_no rfl rfl rfl rfl rfl rfl rfl ?_
        | refine ow_guard_dec rfl rfl rfl (fun _ => ?_) (fun h => (h (by with_reducible rfl)).elim)
        | refine ow_guard_dec rfl rfl rfl (fun h => (h (by with_reducible rfl)).elim) (fun _ => ?_)
        | (apply ow_pick_t; (· rfl); (· rfl); (· ((conv => lhs; whnf) <;> rfl)))
        | (apply ow_pick_f; (· rfl); (· rfl); (· ((conv => lhs; whnf) <;> rfl)))
        | refine wc_cond_true rfl ?_
        | refine wc_cond_false rfl ?_
        | refine ow_add rfl rfl rfl (by simp only [InK]; omega) ?_
        | refine ow_sub rfl rfl rfl (by simp only [InK]; omega) ?_
        | refine ow_lss rfl rfl rfl ?_
        | refine ow_leq rfl rfl rfl ?_
        | refine ow_gtr rfl rfl rfl ?_
        | refine ow_geq rfl rfl rfl ?_
        | refine ow_eql rfl rfl rfl ?_
        | refine ow_neq rfl rfl rfl ?_
        | refine ow_mul rfl rfl rfl (by simp only [InK]; omega) ?_
        | refine ow_quo rfl rfl rfl (by omega) (by omega) (by simp only [InK]; omega) ?_
        | refine ow_rem rfl rfl rfl (by omega) (by omega) ?_
        | refine ow_conv_in rfl rfl (tyAt rfl) (tyAt rfl) rfl (by simp only [InK]; omega) ?_
        | refine ow_conv rfl rfl (tyAt rfl) (tyAt rfl) rfl ?_
        | refine ow_not_dec rfl rfl ?_
        | refine ow_not rfl rfl ?_
        | refine ow_len rfl rfl (tyAt rfl) rfl ?_
        | refine ow_lenStr rfl rfl (tyAt rfl) rfl ?_
        | refine ow_max rfl rfl rfl ?_
        | refine ow_min rfl rfl rfl ?_
        | refine ow_and rfl rfl rfl ?_
        | refine ow_or rfl rfl rfl ?_
        | refine ow_xor rfl rfl rfl ?_
        | refine ow_neg rfl rfl (by simp only [InK]; omega) ?_
        | refine ow_negw rfl rfl ?_
        | refine ow_addw rfl rfl rfl ?_
        | refine ow_subw rfl rfl rfl ?_
        | refine ow_mulw rfl rfl rfl ?_
        | refine ow_compl rfl rfl ?_
        | refine ow_shl rfl rfl rfl (by omega) ?_
        | refine ow_shr rfl rfl rfl (by omega) ?_
        | refine ow_makeFunc (fs := []) (cs := []) rfl rfl rfl ?_
        | refine ow_makeFunc (fs := []) (cs := [.pointer _]) rfl rfl rfl ?_
        | refine ow_makeFunc (fs := []) (cs := [.pointer _, .pointer _]) rfl rfl rfl ?_
        | refine ow_makeFunc (fs := []) (cs := [.pointer _, .pointer _, .pointer _]) rfl rfl rfl ?_)
      refine ow_call rfl rfl (ent (by kernel_rfl)) (CallsV.mono (fold_spec _ (by omega) (by omega) _) ?_) rfl
      rintro v w ⟨rfl, rfl⟩
      repeat (first
        | refine wc_seq ?_
        | refine wc_block ?_
        | refine wc_region ?_
        | refine ow_nil ?_
        | refine wc_skip ?_
        | refine wc_exit ?_
        | (apply ow_move; (· rfl); (· ((conv => lhs; whnf) <;> rfl)))
        | (apply ow_assign; (· rfl); (· ((conv => lhs; whnf) <;> rfl)))
        | refine ow_extract rfl rfl rfl ?_
        | refine ow_nilCheck_ptr rfl rfl ?_
        | refine ow_nilCheck_ptr0 rfl ?_
        | refine ow_fieldAddr rfl (tyAt rfl) rfl rfl rfl (tyAt rfl) rfl rfl ?_
        | refine ow_guard_yes rfl rfl rfl rfl ?_
        | refine ow_guard_no rfl rfl rfl rfl rfl rfl rfl ?_
        | refine ow_guard_dec rfl rfl rfl (fun _ => ?_) (fun h => (h (by with_reducible rfl)).elim)
        | refine ow_guard_dec rfl rfl rfl (fun h => (h (by with_reducible rfl)).elim) (fun _ => ?_)
        | (apply ow_pick_t; (· rfl); (· rfl); (· ((conv => lhs; whnf) <;> rfl)))
        | (apply ow_pick_f; (· rfl); (· rfl); (· ((conv => lhs; whnf) <;> rfl)))
        | refine wc_cond_true rfl ?_
        | refine wc_cond_false rfl ?_
        | refine ow_add rfl rfl rfl (by simp only [InK]; omega) ?_
        | refine ow_sub rfl rfl rfl (by simp only [InK]; omega) ?_
        | refine ow_lss rfl rfl rfl ?_
        | refine ow_leq rfl rfl rfl ?_
        | refine ow_gtr rfl rfl rfl ?_
        | refine ow_geq rfl rfl rfl ?_
        | refine ow_eql rfl rfl rfl ?_
        | refine ow_neq rfl rfl rfl ?_
        | refine ow_mul rfl rfl rfl (by simp only [InK]; omega) ?_
        | refine ow_quo rfl rfl rfl (by omega) (by omega) (by simp only [InK]; omega) ?_
        | refine ow_rem rfl rfl rfl (by omega) (by omega) ?_
        | refine ow_conv_in rfl rfl (tyAt rfl) (tyAt rfl) rfl (by simp only [InK]; omega) ?_
        | refine ow_conv rfl rfl (tyAt rfl) (tyAt rfl) rfl ?_
        | refine ow_not_dec rfl rfl ?_
        | refine ow_not rfl rfl ?_
        | refine ow_len rfl rfl (tyAt rfl) rfl ?_
        | refine ow_lenStr rfl rfl (tyAt rfl) rfl ?_
        | refine ow_max rfl rfl rfl ?_
        | refine ow_min rfl rfl rfl ?_
        | refine ow_and rfl rfl rfl ?_
        | refine ow_or rfl rfl rfl ?_
        | refine ow_xor rfl rfl rfl ?_
        | refine ow_neg rfl rfl (by simp only [InK]; omega) ?_
        | refine ow_negw rfl rfl ?_
        | refine ow_addw rfl rfl rfl ?_
        | refine ow_subw rfl rfl rfl ?_
        | refine ow_mulw rfl rfl rfl ?_
        | refine ow_compl rfl rfl ?_
        | refine ow_shl rfl rfl rfl (by omega) ?_
        | refine ow_shr rfl rfl rfl (by omega) ?_
        | refine ow_makeFunc (fs := []) (cs := []) rfl rfl rfl ?_
        | refine ow_makeFunc (fs := []) (cs := [.pointer _]) rfl rfl rfl ?_
        | refine ow_makeFunc (fs := []) (cs := [.pointer _, .pointer _]) rfl rfl rfl ?_
        | refine ow_makeFunc (fs := []) (cs := [.pointer _, .pointer _, .pointer _]) rfl rfl rfl ?_)
      refine ow_call rfl rfl (ent (by kernel_rfl)) (CallsV.mono (len_spec _ (foldN_lt (by omega) (by omega)) _) ?_) rfl
      rintro v w' ⟨rfl, rfl⟩
      repeat (first
        | refine wc_seq ?_
        | refine wc_block ?_
        | refine wc_region ?_
        | refine ow_nil ?_
        | refine wc_skip ?_
        | refine wc_exit ?_
        | (apply ow_move; (· rfl); (· ((conv => lhs; whnf) <;> rfl)))
        | (apply ow_assign; (· rfl); (· ((conv => lhs; whnf) <;> rfl)))
        | refine ow_extract rfl rfl rfl ?_
        | refine ow_nilCheck_ptr rfl rfl ?_
        | refine ow_nilCheck_ptr0 rfl ?_
        | refine ow_fieldAddr rfl (tyAt rfl) rfl rfl rfl (tyAt rfl) rfl rfl ?_
        | refine ow_guard_yes rfl rfl rfl rfl ?_
        | refine ow_guard_no rfl rfl rfl rfl rfl rfl rfl ?_
        | refine ow_guard_dec rfl rfl rfl (fun _ => ?_) (fun h => (h (by with_reducible rfl)).elim)
        | refine ow_guard_dec rfl rfl rfl (fun h => (h (by with_reducible rfl)).elim) (fun _ => ?_)
        | (apply ow_pick_t; (· rfl); (· rfl); (· ((conv => lhs; whnf) <;> rfl)))
        | (apply ow_pick_f; (· rfl); (· rfl); (· ((conv => lhs; whnf) <;> rfl)))
        | refine wc_cond_true rfl ?_
        | refine wc_cond_false rfl ?_
        | refine ow_add rfl rfl rfl (by simp only [InK]; omega) ?_
        | refine ow_sub rfl rfl rfl (by simp only [InK]; omega) ?_
        | refine ow_lss rfl rfl rfl ?_
        | refine ow_leq rfl rfl rfl ?_
        | refine ow_gtr rfl rfl rfl ?_
        | refine ow_geq rfl rfl rfl ?_
        | refine ow_eql rfl rfl rfl ?_
        | refine ow_neq rfl rfl rfl ?_
        | refine ow_mul rfl rfl rfl (by simp only [InK]; omega) ?_
        | refine ow_quo rfl rfl rfl (by omega) (by omega) (by simp only [InK]; omega) ?_
        | refine ow_rem rfl rfl rfl (by omega) (by omega) ?_
        | refine ow_conv_in rfl rfl (tyAt rfl) (tyAt rfl) rfl (by simp only [InK]; omega) ?_
        | refine ow_conv rfl rfl (tyAt rfl) (tyAt rfl) rfl ?_
        | refine ow_not_dec rfl rfl ?_
        | refine ow_not rfl rfl ?_
        | refine ow_len rfl rfl (tyAt rfl) rfl ?_
        | refine ow_lenStr rfl rfl (tyAt rfl) rfl ?_
        | refine ow_max rfl rfl rfl ?_
        | refine ow_min rfl rfl rfl ?_
        | refine ow_and rfl rfl rfl ?_
        | refine ow_or rfl rfl rfl ?_
        | refine ow_xor rfl rfl rfl ?_
        | refine ow_neg rfl rfl (by simp only [InK]; omega) ?_
        | refine ow_negw rfl rfl ?_
        | refine ow_addw rfl rfl rfl ?_
        | refine ow_subw rfl rfl rfl ?_
        | refine ow_mulw rfl rfl rfl ?_
        | refine ow_compl rfl rfl ?_
        | refine ow_shl rfl rfl rfl (by omega) ?_
        | refine ow_shr rfl rfl rfl (by omega) ?_
        | refine ow_makeFunc (fs := []) (cs := []) rfl rfl rfl ?_
        | refine ow_makeFunc (fs := []) (cs := [.pointer _]) rfl rfl rfl ?_
        | refine ow_makeFunc (fs := []) (cs := [.pointer _, .pointer _]) rfl rfl rfl ?_
        | refine ow_makeFunc (fs := []) (cs := [.pointer _, .pointer _, .pointer _]) rfl rfl rfl ?_)
      refine ow_call rfl rfl (ent (by kernel_rfl)) (CallsV.mono (fold_spec _ (by omega) (by omega) _) ?_) rfl
      rintro v w ⟨rfl, rfl⟩
      repeat (first
        | refine wc_seq ?_
        | refine wc_block ?_
        | refine wc_region ?_
        | refine ow_nil ?_
        | refine wc_skip ?_
        | refine wc_exit ?_
        | (apply ow_move; (· rfl); (· ((conv => lhs; whnf) <;> rfl)))
        | (apply ow_assign; (· rfl); (· ((conv => lhs; whnf) <;> rfl)))
        | refine ow_extract rfl rfl rfl ?_
        | refine ow_nilCheck_ptr rfl rfl ?_
        | refine ow_nilCheck_ptr0 rfl ?_
        | refine ow_fieldAddr rfl (tyAt rfl) rfl rfl rfl (tyAt rfl) rfl rfl ?_
        | refine ow_guard_yes rfl rfl rfl rfl ?_
        | refine ow_guard_no rfl rfl rfl rfl rfl rfl rfl ?_
        | refine ow_guard_dec rfl rfl rfl (fun _ => ?_) (fun h => (h (by with_reducible rfl)).elim)
        | refine ow_guard_dec rfl rfl rfl (fun h => (h (by with_reducible rfl)).elim) (fun _ => ?_)
        | (apply ow_pick_t; (· rfl); (· rfl); (· ((conv => lhs; whnf) <;> rfl)))
        | (apply ow_pick_f; (· rfl); (· rfl); (· ((conv => lhs; whnf) <;> rfl)))
        | refine wc_cond_true rfl ?_
        | refine wc_cond_false rfl ?_
        | refine ow_add rfl rfl rfl (by simp only [InK]; omega) ?_
        | refine ow_sub rfl rfl rfl (by simp only [InK]; omega) ?_
        | refine ow_lss rfl rfl rfl ?_
        | refine ow_leq rfl rfl rfl ?_
        | refine ow_gtr rfl rfl rfl ?_
        | refine ow_geq rfl rfl rfl ?_
        | refine ow_eql rfl rfl rfl ?_
        | refine ow_neq rfl rfl rfl ?_
        | refine ow_mul rfl rfl rfl (by simp only [InK]; omega) ?_
        | refine ow_quo rfl rfl rfl (by omega) (by omega) (by simp only [InK]; omega) ?_
        | refine ow_rem rfl rfl rfl (by omega) (by omega) ?_
        | refine ow_conv_in rfl rfl (tyAt rfl) (tyAt rfl) rfl (by simp only [InK]; omega) ?_
        | refine ow_conv rfl rfl (tyAt rfl) (tyAt rfl) rfl ?_
        | refine ow_not_dec rfl rfl ?_
        | refine ow_not rfl rfl ?_
        | refine ow_len rfl rfl (tyAt rfl) rfl ?_
        | refine ow_lenStr rfl rfl (tyAt rfl) rfl ?_
        | refine ow_max rfl rfl rfl ?_
        | refine ow_min rfl rfl rfl ?_
        | refine ow_and rfl rfl rfl ?_
        | refine ow_or rfl rfl rfl ?_
        | refine ow_xor rfl rfl rfl ?_
        | refine ow_neg rfl rfl (by simp only [InK]; omega) ?_
        | refine ow_negw rfl rfl ?_
        | refine ow_addw rfl rfl rfl ?_
        | refine ow_subw rfl rfl rfl ?_
        | refine ow_mulw rfl rfl rfl ?_
        | refine ow_compl rfl rfl ?_
        | refine ow_shl rfl rfl rfl (by omega) ?_
        | refine ow_shr rfl rfl rfl (by omega) ?_
        | refine ow_makeFunc (fs := []) (cs := []) rfl rfl rfl ?_
        | refine ow_makeFunc (fs := []) (cs := [.pointer _]) rfl rfl rfl ?_
        | refine ow_makeFunc (fs := []) (cs := [.pointer _, .pointer _]) rfl rfl rfl ?_
        | refine ow_makeFunc (fs := []) (cs := [.pointer _, .pointer _, .pointer _]) rfl rfl rfl ?_)
      refine ow_call rfl rfl (ent (by kernel_rfl)) (CallsV.mono (len_spec _ (foldN_lt (by omega) (by omega)) _) ?_) rfl
      rintro v w' ⟨rfl, rfl⟩
      rw [f1, f2, ← putN_near s]
      repeat (first
        | refine wc_seq ?_
        | refine wc_block ?_
        | refine wc_region ?_
        | refine ow_nil ?_
        | refine wc_skip ?_
        | refine wc_exit ?_
        | (apply ow_move; (· rfl); (· ((conv => lhs; whnf) <;> rfl)))
        | (apply ow_assign; (· rfl); (· ((conv => lhs; whnf) <;> rfl)))
        | refine ow_extract rfl rfl rfl ?_
        | refine ow_nilCheck_ptr rfl rfl ?_
        | refine ow_nilCheck_ptr0 rfl ?_
        | refine ow_fieldAddr rfl (tyAt rfl) rfl rfl rfl (tyAt rfl) rfl rfl ?_
        | refine ow_guard_yes rfl rfl rfl rfl ?_
        | refine ow_guard_no rfl rfl rfl rfl rfl rfl rfl ?_
        | refine ow_guard_dec rfl rfl rfl (fun _ => ?_) (fun h => (h (by with_reducible rfl)).elim)
        | refine ow_guard_dec rfl rfl rfl (fun h => (h (by with_reducible rfl)).elim) (fun _ => ?_)
        | (apply ow_pick_t; (· rfl); (· rfl); (· ((conv => lhs; whnf) <;> rfl)))
        | (apply ow_pick_f; (· rfl); (· rfl); (· ((conv => lhs; whnf) <;> rfl)))
        | refine wc_cond_true rfl ?_
        | refine wc_cond_false rfl ?_
        | refine ow_add rfl rfl rfl (by simp only [InK]; omega) ?_
        | refine ow_sub rfl rfl rfl (by simp only [InK]; omega) ?_
        | refine ow_lss rfl rfl rfl ?_
        | refine ow_leq rfl rfl rfl ?_
        | refine ow_gtr rfl rfl rfl ?_
        | refine ow_geq rfl rfl rfl ?_
        | refine ow_eql rfl rfl rfl ?_
        | refine ow_neq rfl rfl rfl ?_
        | refine ow_mul rfl rfl rfl (by simp only [InK]; omega) ?_
        | refine ow_quo rfl rfl rfl (by omega) (by omega) (by simp only [InK]; omega) ?_
        | refine ow_rem rfl rfl rfl (by omega) (by omega) ?_
        | refine ow_conv_in rfl rfl (tyAt rfl) (tyAt rfl) rfl (by simp only [InK]; omega) ?_
        | refine ow_conv rfl rfl (tyAt rfl) (tyAt rfl) rfl ?_
        | refine ow_not_dec rfl rfl ?_
        | refine ow_not rfl rfl ?_
        | refine ow_len rfl rfl (tyAt rfl) rfl ?_
        | refine ow_lenStr rfl rfl (tyAt rfl) rfl ?_
        | refine ow_max rfl rfl rfl ?_
        | refine ow_min rfl rfl rfl ?_
        | refine ow_and rfl rfl rfl ?_
        | refine ow_or rfl rfl rfl ?_
        | refine ow_xor rfl rfl rfl ?_
        | refine ow_neg rfl rfl (by simp only [InK]; omega) ?_
        | refine ow_negw rfl rfl ?_
        | refine ow_addw rfl rfl rfl ?_
        | refine ow_subw rfl rfl rfl ?_
        | refine ow_mulw rfl rfl rfl ?_
        | refine ow_compl rfl rfl ?_
        | refine ow_shl rfl rfl rfl (by omega) ?_
        | refine ow_shr rfl rfl rfl (by omega) ?_
        | refine ow_makeFunc (fs := []) (cs := []) rfl rfl rfl ?_
        | refine ow_makeFunc (fs := []) (cs := [.pointer _]) rfl rfl rfl ?_
        | refine ow_makeFunc (fs := []) (cs := [.pointer _, .pointer _]) rfl rfl rfl ?_
        | refine ow_makeFunc (fs := []) (cs := [.pointer _, .pointer _, .pointer _]) rfl rfl rfl ?_)
      refine ow_call rfl rfl (ent (by kernel_rfl)) (CallsV.mono (fold_spec _ (by omega) (by omega) _) ?_) rfl
      rintro v w ⟨rfl, rfl⟩
      rw [f1]
      repeat (first
        | refine wc_seq ?_
        | refine wc_block ?_
        | refine wc_region ?_
        | refine ow_nil ?_
        | refine wc_skip ?_
        | refine wc_exit ?_
        | (apply ow_move; (· rfl); (· ((conv => lhs; whnf) <;> rfl)))
        | (apply ow_assign; (· rfl); (· ((conv => lhs; whnf) <;> rfl)))
        | refine ow_extract rfl rfl rfl ?_
        | refine ow_nilCheck_ptr rfl rfl ?_
        | refine ow_nilCheck_ptr0 rfl ?_
        | refine ow_fieldAddr rfl (tyAt rfl) rfl rfl rfl (tyAt rfl) rfl rfl ?_
        | refine ow_guard_yes rfl rfl rfl rfl ?_
        | refine ow_guard_no rfl rfl rfl rfl rfl rfl rfl ?_
        | refine ow_guard_dec rfl rfl rfl (fun _ => ?_) (fun h => (h (by with_reducible rfl)).elim)
        | refine ow_guard_dec rfl rfl rfl (fun h => (h (by with_reducible rfl)).elim) (fun _ => ?_)
        | (apply ow_pick_t; (· rfl); (· rfl); (· ((conv => lhs; whnf) <;> rfl)))
        | (apply ow_pick_f; (· rfl); (· rfl); (· ((conv => lhs; whnf) <;> rfl)))
        | refine wc_cond_true rfl ?_
        | refine wc_cond_false rfl ?_
        | refine ow_add rfl rfl rfl (by simp only [InK]; omega) ?_
        | refine ow_sub rfl rfl rfl (by simp only [InK]; omega) ?_
        | refine ow_lss rfl rfl rfl ?_
        | refine ow_leq rfl rfl rfl ?_
        | refine ow_gtr rfl rfl rfl ?_
        | refine ow_geq rfl rfl rfl ?_
        | refine ow_eql rfl rfl rfl ?_
        | refine ow_neq rfl rfl rfl ?_
        | refine ow_mul rfl rfl rfl (by simp only [InK]; omega) ?_
        | refine ow_quo rfl rfl rfl (by omega) (by omega) (by simp only [InK]; omega) ?_
        | refine ow_rem rfl rfl rfl (by omega) (by omega) ?_
        | refine ow_conv_in rfl rfl (tyAt rfl) (tyAt rfl) rfl (by simp only [InK]; omega) ?_
        | refine ow_conv rfl rfl (tyAt rfl) (tyAt rfl) rfl ?_
        | refine ow_not_dec rfl rfl ?_
        | refine ow_not rfl rfl ?_
        | refine ow_len rfl rfl (tyAt rfl) rfl ?_
        | refine ow_lenStr rfl rfl (tyAt rfl) rfl ?_
        | refine ow_max rfl rfl rfl ?_
        | refine ow_min rfl rfl rfl ?_
        | refine ow_and rfl rfl rfl ?_
        | refine ow_or rfl rfl rfl ?_
        | refine ow_xor rfl rfl rfl ?_
        | refine ow_neg rfl rfl (by simp only [InK]; omega) ?_
        | refine ow_negw rfl rfl ?_
        | refine ow_addw rfl rfl rfl ?_
        | refine ow_subw rfl rfl rfl ?_
        | refine ow_mulw rfl rfl rfl ?_
        | refine ow_compl rfl rfl ?_
        | refine ow_shl rfl rfl rfl (by omega) ?_
        | refine ow_shr rfl rfl rfl (by omega) ?_
        | refine ow_makeFunc (fs := []) (cs := []) rfl rfl rfl ?_
        | refine ow_makeFunc (fs := []) (cs := [.pointer _]) rfl rfl rfl ?_
        | refine ow_makeFunc (fs := []) (cs := [.pointer _, .pointer _]) rfl rfl rfl ?_
        | refine ow_makeFunc (fs := []) (cs := [.pointer _, .pointer _, .pointer _]) rfl rfl rfl ?_)
      refine ow_call rfl rfl (ent (by kernel_rfl)) (CallsV.mono (fold_spec _ (by omega) (by omega) _) ?_) rfl
      rintro v w' ⟨rfl, rfl⟩
      rw [f2]
      repeat (first
        | refine wc_seq ?_
        | refine wc_block ?_
        | refine wc_region ?_
        | refine ow_nil ?_
        | refine wc_skip ?_
        | refine wc_exit ?_
        | (apply ow_move; (· rfl); (· ((conv => lhs; whnf) <;> rfl)))
        | (apply ow_assign; (· rfl); (· ((conv => lhs; whnf) <;> rfl)))
        | refine ow_extract rfl rfl rfl ?_
        | refine ow_nilCheck_ptr rfl rfl ?_
        | refine ow_nilCheck_ptr0 rfl ?_
        | refine ow_fieldAddr rfl (tyAt rfl) rfl rfl rfl (tyAt rfl) rfl rfl ?_
        | refine ow_guard_yes rfl rfl rfl rfl ?_
        | refine ow_guard_no rfl rfl rfl rfl rfl rfl rfl ?_
        | refine ow_guard_dec rfl rfl rfl (fun _ => ?_) (fun h => (h (by with_reducible rfl)).elim)
        | refine ow_guard_dec rfl rfl rfl (fun h => (h (by with_reducible rfl)).elim) (fun _ => ?_)
        | (apply ow_pick_t; (· rfl); (· rfl); (· ((conv => lhs; whnf) <;> rfl)))
        | (apply ow_pick_f; (· rfl); (· rfl); (· ((conv => lhs; whnf) <;> rfl)))
        | refine wc_cond_true rfl ?_
        | refine wc_cond_false rfl ?_
        | refine ow_add rfl rfl rfl (by simp only [InK]; omega) ?_
        | refine ow_sub rfl rfl rfl (by simp only [InK]; omega) ?_
        | refine ow_lss rfl rfl rfl ?_
        | refine ow_leq rfl rfl rfl ?_
        | refine ow_gtr rfl rfl rfl ?_
        | refine ow_geq rfl rfl rfl ?_
        | refine ow_eql rfl rfl rfl ?_
        | refine ow_neq rfl rfl rfl ?_
        | refine ow_mul rfl rfl rfl (by simp only [InK]; omega) ?_
        | refine ow_quo rfl rfl rfl (by omega) (by omega) (by simp only [InK]; omega) ?_
        | refine ow_rem rfl rfl rfl (by omega) (by omega) ?_
        | refine ow_conv_in rfl rfl (tyAt rfl) (tyAt rfl) rfl (by simp only [InK]; omega) ?_
        | refine ow_conv rfl rfl (tyAt rfl) (tyAt rfl) rfl ?_
        | refine ow_not_dec rfl rfl ?_
        | refine ow_not rfl rfl ?_
        | refine ow_len rfl rfl (tyAt rfl) rfl ?_
        | refine ow_lenStr rfl rfl (tyAt rfl) rfl ?_
        | refine ow_max rfl rfl rfl ?_
        | refine ow_min rfl rfl rfl ?_
        | refine ow_and rfl rfl rfl ?_
        | refine ow_or rfl rfl rfl ?_
        | refine ow_xor rfl rfl rfl ?_
        | refine ow_neg rfl rfl (by simp only [InK]; omega) ?_
        | refine ow_negw rfl rfl ?_
        | refine ow_addw rfl rfl rfl ?_
        | refine ow_subw rfl rfl rfl ?_
        | refine ow_mulw rfl rfl rfl ?_
        | refine ow_compl rfl rfl ?_
        | refine ow_shl rfl rfl rfl (by omega) ?_
        | refine ow_shr rfl rfl rfl (by omega) ?_
        | refine ow_makeFunc (fs := []) (cs := []) rfl rfl rfl ?_
        | refine ow_makeFunc (fs := []) (cs := [.pointer _]) rfl rfl rfl ?_
        | refine ow_makeFunc (fs := []) (cs := [.pointer _, .pointer _]) rfl rfl rfl ?_
        | refine ow_makeFunc (fs := []) (cs := [.pointer _, .pointer _, .pointer _]) rfl rfl rfl ?_)
      refine ow_guard_dec rfl rfl rfl (fun _ => ?_) (fun h => (h (by omega)).elim)
      repeat (first
        | refine wc_seq ?_
        | refine wc_block ?_
        | refine wc_region ?_
        | refine ow_nil ?_
        | refine wc_skip ?_
        | refine wc_exit ?_
        | (apply ow_move; (· rfl); (· ((conv => lhs; whnf) <;> rfl)))
        | (apply ow_assign; (· rfl); (· ((conv => lhs; whnf) <;> rfl)))
        | refine ow_extract rfl rfl rfl ?_
        | refine ow_nilCheck_ptr rfl rfl ?_
        | refine ow_nilCheck_ptr0 rfl ?_
        | refine ow_fieldAddr rfl (tyAt rfl) rfl rfl rfl (tyAt rfl) rfl rfl ?_
        | refine ow_guard_yes rfl rfl rfl rfl ?_
        | refine ow_guard_no rfl rfl rfl rfl rfl rfl rfl ?_
        | refine ow_guard_dec rfl rfl rfl (fun _ => ?_) (fun h => (h (by with_reducible rfl)).elim)
        | refine ow_guard_dec rfl rfl rfl (fun h => (h (by with_reducible rfl)).elim) (fun _ => ?_)
        | (apply ow_pick_t; (· rfl); (· rfl); (· ((conv => lhs; whnf) <;> rfl)))
        | (apply ow_pick_f; (· rfl); (· rfl); (· ((conv => lhs; whnf) <;> rfl)))
        | refine wc_cond_true rfl ?_
        | refine wc_cond_false rfl ?_
        | refine ow_add rfl rfl rfl (by simp only [InK]; omega) ?_
        | refine ow_sub rfl rfl rfl (by simp only [InK]; omega) ?_
        | refine ow_lss rfl rfl rfl ?_
        | refine ow_leq rfl rfl rfl ?_
        | refine ow_gtr rfl rfl rfl ?_
        | refine ow_geq rfl rfl rfl ?_
        | refine ow_eql rfl rfl rfl ?_
        | refine ow_neq rfl rfl rfl ?_
        | refine ow_mul rfl rfl rfl (by simp only [InK]; omega) ?_
        | refine ow_quo rfl rfl rfl (by omega) (by omega) (by simp only [InK]; omega) ?_
        | refine ow_rem rfl rfl rfl (by omega) (by omega) ?_
        | refine ow_conv_in rfl rfl (tyAt rfl) (tyAt rfl) rfl (by simp only [InK]; omega) ?_
        | refine ow_conv rfl rfl (tyAt rfl) (tyAt rfl) rfl ?_
        | refine ow_not_dec rfl rfl ?_
        | refine ow_not rfl rfl ?_
        | refine ow_len rfl rfl (tyAt rfl) rfl ?_
        | refine ow_lenStr rfl rfl (tyAt rfl) rfl ?_
        | refine ow_max rfl rfl rfl ?_
        | refine ow_min rfl rfl rfl ?_
        | refine ow_and rfl rfl rfl ?_
        | refine ow_or rfl rfl rfl ?_
        | refine ow_xor rfl rfl rfl ?_
        | refine ow_neg rfl rfl (by simp only [InK]; omega) ?_
        | refine ow_negw rfl rfl ?_
        | refine ow_addw rfl rfl rfl ?_
        | refine ow_subw rfl rfl rfl ?_
        | refine ow_mulw rfl rfl rfl ?_
        | refine ow_compl rfl rfl ?_
        | refine ow_shl rfl rfl rfl (by omega) ?_
        | refine ow_shr rfl rfl rfl (by omega) ?_
        | refine ow_makeFunc (fs := []) (cs := []) rfl rfl rfl ?_
        | refine ow_makeFunc (fs := []) (cs := [.pointer _]) rfl rfl rfl ?_
        | refine ow_makeFunc (fs := []) (cs := [.pointer _, .pointer _]) rfl rfl rfl ?_
        | refine ow_makeFunc (fs := []) (cs := [.pointer _, .pointer _, .pointer _]) rfl rfl rfl ?_)
      refine ow_call rfl rfl (ent (by kernel_rfl)) (CallsV.mono (put_spec x hx _) ?_) rfl
      rintro v w ⟨p7, c7, rfl, H'⟩
      replace H := H.call H'
      repeat (first
        | refine wc_seq ?_
        | refine wc_block ?_
        | refine wc_region ?_
        | refine ow_nil ?_
        | refine wc_skip ?_
        | refine wc_exit ?_
        | (apply ow_move; (· rfl); (· ((conv => lhs; whnf) <;> rfl)))
        | (apply ow_assign; (· rfl); (· ((conv => lhs; whnf) <;> rfl)))
        | refine ow_extract rfl rfl rfl ?_
        | refine ow_nilCheck_ptr rfl rfl ?_
        | refine ow_nilCheck_ptr0 rfl ?_
        | refine ow_fieldAddr rfl (tyAt rfl) rfl rfl rfl (tyAt rfl) rfl rfl ?_
        | refine ow_guard_yes rfl rfl rfl rfl ?_
        | refine ow_guard_no rfl rfl rfl rfl rfl rfl rfl ?_
        | refine ow_guard_dec rfl rfl rfl (fun _ => ?_) (fun h => (h (by with_reducible rfl)).elim)
        | refine ow_guard_dec rfl rfl rfl (fun h => (h (by with_reducible rfl)).elim) (fun _ => ?_)
        | (apply ow_pick_t; (· rfl); (· rfl); (· ((conv => lhs; whnf) <;> rfl)))
        | (apply ow_pick_f; (· rfl); (· rfl); (· ((conv => lhs; whnf) <;> rfl)))
        | refine wc_cond_true rfl ?_
        | refine wc_cond_false rfl ?_
        | refine ow_add rfl rfl rfl (by simp only [InK]; omega) ?_
        | refine ow_sub rfl rfl rfl (by simp only [InK]; omega) ?_
        | refine ow_lss rfl rfl rfl ?_
        | refine ow_leq rfl rfl rfl ?_
        | refine ow_gtr rfl rfl rfl ?_
        | refine ow_geq rfl rfl rfl ?_
        | refine ow_eql rfl rfl rfl ?_
        | refine ow_neq rfl rfl rfl ?_
        | refine ow_mul rfl rfl rfl (by simp only [InK]; omega) ?_
        | refine ow_quo rfl rfl rfl (by omega) (by omega) (by simp only [InK]; omega) ?_
        | refine ow_rem rfl rfl rfl (by omega) (by omega) ?_
        | refine ow_conv_in rfl rfl (tyAt rfl) (tyAt rfl) rfl (by simp only [InK]; omega) ?_
        | refine ow_conv rfl rfl (tyAt rfl) (tyAt rfl) rfl ?_
        | refine ow_not_dec rfl rfl ?_
        | refine ow_not rfl rfl ?_
        | refine ow_len rfl rfl (tyAt rfl) rfl ?_
        | refine ow_lenStr rfl rfl (tyAt rfl) rfl ?_
        | refine ow_max rfl rfl rfl ?_
        | refine ow_min rfl rfl rfl ?_
        | refine ow_and rfl rfl rfl ?_
        | refine ow_or rfl rfl rfl ?_
        | refine ow_xor rfl rfl rfl ?_
        | refine ow_neg rfl rfl (by simp only [InK]; omega) ?_
        | refine ow_negw rfl rfl ?_
        | refine ow_addw rfl rfl rfl ?_
        | refine ow_subw rfl rfl rfl ?_
        | refine ow_mulw rfl rfl rfl ?_
        | refine ow_compl rfl rfl ?_
        | refine ow_shl rfl rfl rfl (by omega) ?_
        | refine ow_shr rfl rfl rfl (by omega) ?_
        | refine ow_makeFunc (fs := []) (cs := []) rfl rfl rfl ?_
        | refine ow_makeFunc (fs := []) (cs := [.pointer _]) rfl rfl rfl ?_
        | refine ow_makeFunc (fs := []) (cs := [.pointer _, .pointer _]) rfl rfl rfl ?_
        | refine ow_makeFunc (fs := []) (cs := [.pointer _, .pointer _, .pointer _]) rfl rfl rfl ?_)
      refine wc_ret ?_
      obtain ⟨w, hT, H⟩ := H.takes Try.prog
      refine ⟨.inr rfl, w, hT, _, .tmp .nil, ?_⟩
      refine ⟨?_, H.sub (List.nil_sublist _)⟩
      refine congrArg Value.bool (decide_eq_true ?_)
      omega
    · rw [decide_eq_false h57]
      repeat (first
        | refine wc_seq ?_
        | refine wc_block ?_
        | refine wc_region ?_
        | refine ow_nil ?_
        | refine wc_skip ?_
        | refine wc_exit ?_
        | (apply ow_move; (· rfl); (· ((conv => lhs; whnf) <;> rfl)))
        | (apply ow_assign; (· rfl); (· ((conv => lhs; whnf) <;> rfl)))
        | refine ow_extract rfl rfl rfl ?_
        | refine ow_nilCheck_ptr rfl rfl ?_
        | refine ow_nilCheck_ptr0 rfl ?_
        | refine ow_fieldAddr rfl (tyAt rfl) rfl rfl rfl (tyAt rfl) rfl rfl ?_
        | refine ow_guard_yes rfl rfl rfl rfl ?_
        | refine ow_guard_no rfl rfl rfl rfl rfl rfl rfl ?_
        | refine ow_guard_dec rfl rfl rfl (fun _ => ?_) (fun h => (h (by with_reducible rfl)).elim)
        | refine ow_guard_dec rfl rfl rfl (fun h => (h (by with_reducible rfl)).elim) (fun _ => ?_)
        | (apply ow_pick_t; (· rfl); (· rfl); (· ((conv => lhs; whnf) <;> rfl)))
        | (apply ow_pick_f; (· rfl); (· rfl); (· ((conv => lhs; whnf) <;> rfl)))
        | refine wc_cond_true rfl ?_
        | refine wc_cond_false rfl ?_
        | refine ow_add rfl rfl rfl (by simp only [InK]; omega) ?_
        | refine ow_sub rfl rfl rfl (by simp only [InK]; omega) ?_
        | refine ow_lss rfl rfl rfl ?_
        | refine ow_leq rfl rfl rfl ?_
        | refine ow_gtr rfl rfl rfl ?_
        | refine ow_geq rfl rfl rfl ?_
        | refine ow_eql rfl rfl rfl ?_
        | refine ow_neq rfl rfl rfl ?_
        | refine ow_mul rfl rfl rfl (by simp only [InK]; omega) ?_
        | refine ow_quo rfl rfl rfl (by omega) (by omega) (by simp only [InK]; omega) ?_
        | refine ow_rem rfl rfl rfl (by omega) (by omega) ?_
        | refine ow_conv_in rfl rfl (tyAt rfl) (tyAt rfl) rfl (by simp only [InK]; omega) ?_
        | refine ow_conv rfl rfl (tyAt rfl) (tyAt rfl) rfl ?_
        | refine ow_not_dec rfl rfl ?_
        | refine ow_not rfl rfl ?_
        | refine ow_len rfl rfl (tyAt rfl) rfl ?_
        | refine ow_lenStr rfl rfl (tyAt rfl) rfl ?_
        | refine ow_max rfl rfl rfl ?_
        | refine ow_min rfl rfl rfl ?_
        | refine ow_and rfl rfl rfl ?_
        | refine ow_or rfl rfl rfl ?_
        | refine ow_xor rfl rfl rfl ?_
        | refine ow_neg rfl rfl (by simp only [InK]; omega) ?_
        | refine ow_negw rfl rfl ?_
        | refine ow_addw rfl rfl rfl ?_
        | refine ow_subw rfl rfl rfl ?_
        | refine ow_mulw rfl rfl rfl ?_
        | refine ow_compl rfl rfl ?_
        | refine ow_shl rfl rfl rfl (by omega) ?_
        | refine ow_shr rfl rfl rfl (by omega) ?_
        | refine ow_makeFunc (fs := []) (cs := []) rfl rfl rfl ?_
        | refine ow_makeFunc (fs := []) (cs := [.pointer _]) rfl rfl rfl ?_
        | refine ow_makeFunc (fs := []) (cs := [.pointer _, .pointer _]) rfl rfl rfl ?_
        | refine ow_makeFunc (fs := []) (cs := [.pointer _, .pointer _, .pointer _]) rfl rfl rfl ?_)
      rw [es]
      repeat (first
        | refine wc_seq ?_
        | refine wc_block ?_
        | refine wc_region ?_
        | refine ow_nil ?_
        | refine wc_skip ?_
        | refine wc_exit ?_
        | (apply ow_move; (· rfl); (· ((conv => lhs; whnf) <;> rfl)))
        | (apply ow_assign; (· rfl); (· ((conv => lhs; whnf) <;> rfl)))
        | refine ow_extract rfl rfl rfl ?_
        | refine ow_nilCheck_ptr rfl rfl ?_
        | refine ow_nilCheck_ptr0 rfl ?_
        | refine ow_fieldAddr rfl (tyAt rfl) rfl rfl rfl (tyAt rfl) rfl rfl ?_
        | refine ow_guard_yes rfl rfl rfl rfl ?_
        | refine ow_guard_no rfl rfl rfl rfl rfl rfl rfl ?_
        | refine ow_guard_dec rfl rfl rfl (fun _ => ?_) (fun h => (h (by with_reducible rfl)).elim)
        | refine ow_guard_dec rfl rfl rfl (fun h => (h (by with_reducible rfl)).elim) (fun _ => ?_)
        | (apply ow_pick_t; (· rfl); (· rfl); (· ((conv => lhs; whnf) <;> rfl)))
        | (apply ow_pick_f; (· rfl); (· rfl); (· ((conv => lhs; whnf) <;> rfl)))
        | refine wc_cond_true rfl ?_
        | refine wc_cond_false rfl ?_
        | refine ow_add rfl rfl rfl (by simp only [InK]; omega) ?_
        | refine ow_sub rfl rfl rfl (by simp only [InK]; omega) ?_
        | refine ow_lss rfl rfl rfl ?_
        | refine ow_leq rfl rfl rfl ?_
        | refine ow_gtr rfl rfl rfl ?_
        | refine ow_geq rfl rfl rfl ?_
        | refine ow_eql rfl rfl rfl ?_
        | refine ow_neq rfl rfl rfl ?_
        | refine ow_mul rfl rfl rfl (by simp only [InK]; omega) ?_
        | refine ow_quo rfl rfl rfl (by omega) (by omega) (by simp only [InK]; omega) ?_
        | refine ow_rem rfl rfl rfl (by omega) (by omega) ?_
        | refine ow_conv_in rfl rfl (tyAt rfl) (tyAt rfl) rfl (by simp only [InK]; omega) ?_
        | refine ow_conv rfl rfl (tyAt rfl) (tyAt rfl) rfl ?_
        | refine ow_not_dec rfl rfl ?_
        | refine ow_not rfl rfl ?_
        | refine ow_len rfl rfl (tyAt rfl) rfl ?_
        | refine ow_lenStr rfl rfl (tyAt rfl) rfl ?_
        | refine ow_max rfl rfl rfl ?_
        | refine ow_min rfl rfl rfl ?_
        | refine ow_and rfl rfl rfl ?_
        | refine ow_or rfl rfl rfl ?_
        | refine ow_xor rfl rfl rfl ?_
        | refine ow_neg rfl rfl (by simp only [InK]; omega) ?_
        | refine ow_negw rfl rfl ?_
        | refine ow_addw rfl rfl rfl ?_
        | refine ow_subw rfl rfl rfl ?_
        | refine ow_mulw rfl rfl rfl ?_
        | refine ow_compl rfl rfl ?_
        | refine ow_shl rfl rfl rfl (by omega) ?_
        | refine ow_shr rfl rfl rfl (by omega) ?_
        | refine ow_makeFunc (fs := []) (cs := []) rfl rfl rfl ?_
        | refine ow_makeFunc (fs := []) (cs := [.pointer _]) rfl rfl rfl ?_
        | refine ow_makeFunc (fs := []) (cs := [.pointer _, .pointer _]) rfl rfl rfl ?_
        | refine ow_makeFunc (fs := []) (cs := [.pointer _, .pointer _, .pointer _]) rfl rfl rfl ?_)
      refine ow_call rfl rfl (ent (by kernel_rfl)) (CallsV.mono (fold_spec _ (by omega) (by omega) _) ?_) rfl
      rintro v w ⟨rfl, rfl⟩
      repeat (first
        | refine wc_seq ?_
        | refine wc_block ?_
        | refine wc_region ?_
        | refine ow_nil ?_
        | refine wc_skip ?_
        | refine wc_exit ?_
        | (apply ow_move; (· rfl); (· ((conv => lhs; whnf) <;> rfl)))
        | (apply ow_assign; (· rfl); (· ((conv => lhs; whnf) <;> rfl)))
        | refine ow_extract rfl rfl rfl ?_
        | refine ow_nilCheck_ptr rfl rfl ?_
        | refine ow_nilCheck_ptr0 rfl ?_
        | refine ow_fieldAddr rfl (tyAt rfl) rfl rfl rfl (tyAt rfl) rfl rfl ?_
        | refine ow_guard_yes rfl rfl rfl rfl ?_
        | refine ow_guard_no rfl rfl rfl rfl rfl rfl rfl ?_
        | refine ow_guard_dec rfl rfl rfl (fun _ => ?_) (fun h => (h (by with_reducible rfl)).elim)
        | refine ow_guard_dec rfl rfl rfl (fun h => (h (by with_reducible rfl)).elim) (fun _ => ?_)
        | (apply ow_pick_t; (· rfl); (· rfl); (· ((conv => lhs; whnf) <;> rfl)))
        | (apply ow_pick_f; (· rfl); (· rfl); (· ((conv => lhs; whnf) <;> rfl)))
        | refine wc_cond_true rfl ?_
        | refine wc_cond_false rfl ?_
        | refine ow_add rfl rfl rfl (by simp only [InK]; omega) ?_
        | refine ow_sub rfl rfl rfl (by simp only [InK]; omega) ?_
        | refine ow_lss rfl rfl rfl ?_
        | refine ow_leq rfl rfl rfl ?_
        | refine ow_gtr rfl rfl rfl ?_
        | refine ow_geq rfl rfl rfl ?_
        | refine ow_eql rfl rfl rfl ?_
        | refine ow_neq rfl rfl rfl ?_
        | refine ow_mul rfl rfl rfl (by simp only [InK]; omega) ?_
        | refine ow_quo rfl rfl rfl (by omega) (by omega) (by simp only [InK]; omega) ?_
        | refine ow_rem rfl rfl rfl (by omega) (by omega) ?_
        | refine ow_conv_in rfl rfl (tyAt rfl) (tyAt rfl) rfl (by simp only [InK]; omega) ?_
        | refine ow_conv rfl rfl (tyAt rfl) (tyAt rfl) rfl ?_
        | refine ow_not_dec rfl rfl ?_
        | refine ow_not rfl rfl ?_
        | refine ow_len rfl rfl (tyAt rfl) rfl ?_
        | refine ow_lenStr rfl rfl (tyAt rfl) rfl ?_
        | refine ow_max rfl rfl rfl ?_
        | refine ow_min rfl rfl rfl ?_
        | refine ow_and rfl rfl rfl ?_
        | refine ow_or rfl rfl rfl ?_
        | refine ow_xor rfl rfl rfl ?_
        | refine ow_neg rfl rfl (by simp only [InK]; omega) ?_
        | refine ow_negw rfl rfl ?_
        | refine ow_addw rfl rfl rfl ?_
        | refine ow_subw rfl rfl rfl ?_
        | refine ow_mulw rfl rfl rfl ?_
        | refine ow_compl rfl rfl ?_
        | refine ow_shl rfl rfl rfl (by omega) ?_
        | refine ow_shr rfl rfl rfl (by omega) ?_
        | refine ow_makeFunc (fs := []) (cs := []) rfl rfl rfl ?_
        | refine ow_makeFunc (fs := []) (cs := [.pointer _]) rfl rfl rfl ?_
        | refine ow_makeFunc (fs := []) (cs := [.pointer _, .pointer _]) rfl rfl rfl ?_
        | refine ow_makeFunc (fs := []) (cs := [.pointer _, .pointer _, .pointer _]) rfl rfl rfl ?_)
      refine ow_call rfl rfl (ent (by kernel_rfl)) (CallsV.mono (len_spec _ (foldN_lt (by omega) (by omega)) _) ?_) rfl
      rintro v w' ⟨rfl, rfl⟩
      repeat (first
        | refine wc_seq ?_
        | refine wc_block ?_
        | refine wc_region ?_
        | refine ow_nil ?_
        | refine wc_skip ?_
        | refine wc_exit ?_
        | (apply ow_move; (· rfl); (· ((conv => lhs; whnf) <;> rfl)))
        | (apply ow_assign; (· rfl); (· ((conv => lhs; whnf) <;> rfl)))
        | refine ow_extract rfl rfl rfl ?_
        | refine ow_nilCheck_ptr rfl rfl ?_
        | refine ow_nilCheck_ptr0 rfl ?_
        | refine ow_fieldAddr rfl (tyAt rfl) rfl rfl rfl (tyAt rfl) rfl rfl ?_
        | refine ow_guard_yes rfl rfl rfl rfl ?_
        | refine ow_guard_no rfl rfl rfl rfl rfl rfl rfl ?_
        | refine ow_guard_dec rfl rfl rfl (fun _ => ?_) (fun h => (h (by with_reducible rfl)).elim)
        | refine ow_guard_dec rfl rfl rfl (fun h => (h (by with_reducible rfl)).elim) (fun _ => ?_)
        | (apply ow_pick_t; (· rfl); (· rfl); (· ((conv => lhs; whnf) <;> rfl)))
        | (apply ow_pick_f; (· rfl); (· rfl); (· ((conv => lhs; whnf) <;> rfl)))
        | refine wc_cond_true rfl ?_
        | refine wc_cond_false rfl ?_
        | refine ow_add rfl rfl rfl (by simp only [InK]; omega) ?_
        | refine ow_sub rfl rfl rfl (by simp only [InK]; omega) ?_
        | refine ow_lss rfl rfl rfl ?_
        | refine ow_leq rfl rfl rfl ?_
        | refine ow_gtr rfl rfl rfl ?_
        | refine ow_geq rfl rfl rfl ?_
        | refine ow_eql rfl rfl rfl ?_
        | refine ow_neq rfl rfl rfl ?_
        | refine ow_mul rfl rfl rfl (by simp only [InK]; omega) ?_
        | refine ow_quo rfl rfl rfl (by omega) (by omega) (by simp only [InK]; omega) ?_
        | refine ow_rem rfl rfl rfl (by omega) (by omega) ?_
        | refine ow_conv_in rfl rfl (tyAt rfl) (tyAt rfl) rfl (by simp only [InK]; omega) ?_
        | refine ow_conv rfl rfl (tyAt rfl) (tyAt rfl) rfl ?_
        | refine ow_not_dec rfl rfl ?_
        | refine ow_not rfl rfl ?_
        | refine ow_len rfl rfl (tyAt rfl) rfl ?_
        | refine ow_lenStr rfl rfl (tyAt rfl) rfl ?_
        | refine ow_max rfl rfl rfl ?_
        | refine ow_min rfl rfl rfl ?_
        | refine ow_and rfl rfl rfl ?_
        | refine ow_or rfl rfl rfl ?_
        | refine ow_xor rfl rfl rfl ?_
        | refine ow_neg rfl rfl (by simp only [InK]; omega) ?_
        | refine ow_negw rfl rfl ?_
        | refine ow_addw rfl rfl rfl ?_
        | refine ow_subw rfl rfl rfl ?_
        | refine ow_mulw rfl rfl rfl ?_
        | refine ow_compl rfl rfl ?_
        | refine ow_shl rfl rfl rfl (by omega) ?_
        | refine ow_shr rfl rfl rfl (by omega) ?_
        | refine ow_makeFunc (fs := []) (cs := []) rfl rfl rfl ?_
        | refine ow_makeFunc (fs := []) (cs := [.pointer _]) rfl rfl rfl ?_
        | refine ow_makeFunc (fs := []) (cs := [.pointer _, .pointer _]) rfl rfl rfl ?_
        | refine ow_makeFunc (fs := []) (cs := [.pointer _, .pointer _, .pointer _]) rfl rfl rfl ?_)
      refine ow_call rfl rfl (ent (by kernel_rfl)) (CallsV.mono (fold_spec _ (by omega) (by omega) _) ?_) rfl
      rintro v w ⟨rfl, rfl⟩
      repeat (first
        | refine wc_seq ?_
        | refine wc_block ?_
        | refine wc_region ?_
        | refine ow_nil ?_
        | refine wc_skip ?_
        | refine wc_exit ?_
        | (apply ow_move; (· rfl); (· ((conv => lhs; whnf) <;> rfl)))
        | (apply ow_assign; (· rfl); (· ((conv => lhs; whnf) <;> rfl)))
        | refine ow_extract rfl rfl rfl ?_
        | refine ow_nilCheck_ptr rfl rfl ?_
        | refine ow_nilCheck_ptr0 rfl ?_
        | refine ow_fieldAddr rfl (tyAt rfl) rfl rfl rfl (tyAt rfl) rfl rfl ?_
        | refine ow_guard_yes rfl rfl rfl rfl ?_
        | refine ow_guard_no rfl rfl rfl rfl rfl rfl rfl ?_
        | refine ow_guard_dec rfl rfl rfl (fun _ => ?_) (fun h => (h (by with_reducible rfl)).elim)
        | refine ow_guard_dec rfl rfl rfl (fun h => (h (by with_reducible rfl)).elim) (fun _ => ?_)
        | (apply ow_pick_t; (· rfl); (· rfl); (· ((conv => lhs; whnf) <;> rfl)))
        | (apply ow_pick_f; (· rfl); (· rfl); (· ((conv => lhs; whnf) <;> rfl)))
        | refine wc_cond_true rfl ?_
        | refine wc_cond_false rfl ?_
        | refine ow_add rfl rfl rfl (by simp only [InK]; omega) ?_
        | refine ow_sub rfl rfl rfl (by simp only [InK]; omega) ?_
        | refine ow_lss rfl rfl rfl ?_
        | refine ow_leq rfl rfl rfl ?_
        | refine ow_gtr rfl rfl rfl ?_
        | refine ow_geq rfl rfl rfl ?_
        | refine ow_eql rfl rfl rfl ?_
        | refine ow_neq rfl rfl rfl ?_
        | refine ow_mul rfl rfl rfl (by simp only [InK]; omega) ?_
        | refine ow_quo rfl rfl rfl (by omega) (by omega) (by simp only [InK]; omega) ?_
        | refine ow_rem rfl rfl rfl (by omega) (by omega) ?_
        | refine ow_conv_in rfl rfl (tyAt rfl) (tyAt rfl) rfl (by simp only [InK]; omega) ?_
        | refine ow_conv rfl rfl (tyAt rfl) (tyAt rfl) rfl ?_
        | refine ow_not_dec rfl rfl ?_
        | refine ow_not rfl rfl ?_
        | refine ow_len rfl rfl (tyAt rfl) rfl ?_
        | refine ow_lenStr rfl rfl (tyAt rfl) rfl ?_
        | refine ow_max rfl rfl rfl ?_
        | refine ow_min rfl rfl rfl ?_
        | refine ow_and rfl rfl rfl ?_
        | refine ow_or rfl rfl rfl ?_
        | refine ow_xor rfl rfl rfl ?_
        | refine ow_neg rfl rfl (by simp only [InK]; omega) ?_
        | refine ow_negw rfl rfl ?_
        | refine ow_addw rfl rfl rfl ?_
        | refine ow_subw rfl rfl rfl ?_
        | refine ow_mulw rfl rfl rfl ?_
        | refine ow_compl rfl rfl ?_
        | refine ow_shl rfl rfl rfl (by omega) ?_
        | refine ow_shr rfl rfl rfl (by omega) ?_
        | refine ow_makeFunc (fs := []) (cs := []) rfl rfl rfl ?_
        | refine ow_makeFunc (fs := []) (cs := [.pointer _]) rfl rfl rfl ?_
        | refine ow_makeFunc (fs := []) (cs := [.pointer _, .pointer _]) rfl rfl rfl ?_
        | refine ow_makeFunc (fs := []) (cs := [.pointer _, .pointer _, .pointer _]) rfl rfl rfl ?_)
      refine ow_call rfl rfl (ent (by kernel_rfl)) (CallsV.mono (len_spec _ (foldN_lt (by omega) (by omega)) _) ?_) rfl
      rintro v w' ⟨rfl, rfl⟩
      rw [f1, f2, ← putN_near s]
      repeat (first
        | refine wc_seq ?_
        | refine wc_block ?_
        | refine wc_region ?_
        | refine ow_nil ?_
        | refine wc_skip ?_
        | refine wc_exit ?_
        | (apply ow_move; (· rfl); (· ((conv => lhs; whnf) <;> rfl)))
        | (apply ow_assign; (· rfl); (· ((conv => lhs; whnf) <;> rfl)))
        | refine ow_extract rfl rfl rfl ?_
        | refine ow_nilCheck_ptr rfl rfl ?_
        | refine ow_nilCheck_ptr0 rfl ?_
        | refine ow_fieldAddr rfl (tyAt rfl) rfl rfl rfl (tyAt rfl) rfl rfl ?_
        | refine ow_guard_yes rfl rfl rfl rfl ?_
        | refine ow_guard_no rfl rfl rfl rfl rfl rfl rfl ?_
        | refine ow_guard_dec rfl rfl rfl (fun _ => ?_) (fun h => (h (by with_reducible rfl)).elim)
        | refine ow_guard_dec rfl rfl rfl (fun h => (h (by with_reducible rfl)).elim) (fun _ => ?_)
        | (apply ow_pick_t; (· rfl); (· rfl); (· ((conv => lhs; whnf) <;> rfl)))
        | (apply ow_pick_f; (· rfl); (· rfl); (· ((conv => lhs; whnf) <;> rfl)))
        | refine wc_cond_true rfl ?_
        | refine wc_cond_false rfl ?_
        | refine ow_add rfl rfl rfl (by simp only [InK]; omega) ?_
        | refine ow_sub rfl rfl rfl (by simp only [InK]; omega) ?_
        | refine ow_lss rfl rfl rfl ?_
        | refine ow_leq rfl rfl rfl ?_
        | refine ow_gtr rfl rfl rfl ?_
        | refine ow_geq rfl rfl rfl ?_
        | refine ow_eql rfl rfl rfl ?_
        | refine ow_neq rfl rfl rfl ?_
        | refine ow_mul rfl rfl rfl (by simp only [InK]; omega) ?_
        | refine ow_quo rfl rfl rfl (by omega) (by omega) (by simp only [InK]; omega) ?_
        | refine ow_rem rfl rfl rfl (by omega) (by omega) ?_
        | refine ow_conv_in rfl rfl (tyAt rfl) (tyAt rfl) rfl (by simp only [InK]; omega) ?_
        | refine ow_conv rfl rfl (tyAt rfl) (tyAt rfl) rfl ?_
        | refine ow_not_dec rfl rfl ?_
        | refine ow_not rfl rfl ?_
        | refine ow_len rfl rfl (tyAt rfl) rfl ?_
        | refine ow_lenStr rfl rfl (tyAt rfl) rfl ?_
        | refine ow_max rfl rfl rfl ?_
        | refine ow_min rfl rfl rfl ?_
        | refine ow_and rfl rfl rfl ?_
        | refine ow_or rfl rfl rfl ?_
        | refine ow_xor rfl rfl rfl ?_
        | refine ow_neg rfl rfl (by simp only [InK]; omega) ?_
        | refine ow_negw rfl rfl ?_
        | refine ow_addw rfl rfl rfl ?_
        | refine ow_subw rfl rfl rfl ?_
        | refine ow_mulw rfl rfl rfl ?_
        | refine ow_compl rfl rfl ?_
        | refine ow_shl rfl rfl rfl (by omega) ?_
        | refine ow_shr rfl rfl rfl (by omega) ?_
        | refine ow_makeFunc (fs := []) (cs := []) rfl rfl rfl ?_
        | refine ow_makeFunc (fs := []) (cs := [.pointer _]) rfl rfl rfl ?_
        | refine ow_makeFunc (fs := []) (cs := [.pointer _, .pointer _]) rfl rfl rfl ?_
        | refine ow_makeFunc (fs := []) (cs := [.pointer _, .pointer _, .pointer _]) rfl rfl rfl ?_)
      refine ow_call rfl rfl (ent (by kernel_rfl)) (CallsV.mono (fold_spec _ (by omega) (by omega) _) ?_) rfl
      rintro v w ⟨rfl, rfl⟩
      rw [f1]
      repeat (first
        | refine wc_seq ?_
        | refine wc_block ?_
        | refine wc_region ?_
        | refine ow_nil ?_
        | refine wc_skip ?_
        | refine wc_exit ?_
        | (apply ow_move; (· rfl); (· ((conv => lhs; whnf) <;> rfl)))
        | (apply ow_assign; (· rfl); (· ((conv => lhs; whnf) <;> rfl)))
        | refine ow_extract rfl rfl rfl ?_
        | refine ow_nilCheck_ptr rfl rfl ?_
        | refine ow_nilCheck_ptr0 rfl ?_
        | refine ow_fieldAddr rfl (tyAt rfl) rfl rfl rfl (tyAt rfl) rfl rfl ?_
        | refine ow_guard_yes rfl rfl rfl rfl ?_
        | refine ow_guard_no rfl rfl rfl rfl rfl rfl rfl ?_
        | refine ow_guard_dec rfl rfl rfl (fun _ => ?_) (fun h => (h (by with_reducible rfl)).elim)
        | refine ow_guard_dec rfl rfl rfl (fun h => (h (by with_reducible rfl)).elim) (fun _ => ?_)
        | (apply ow_pick_t; (· rfl); (· rfl); (· ((conv => lhs; whnf) <;> rfl)))
        | (apply ow_pick_f; (· rfl); (· rfl); (· ((conv => lhs; whnf) <;> rfl)))
        | refine wc_cond_true rfl ?_
        | refine wc_cond_false rfl ?_
        | refine ow_add rfl rfl rfl (by simp only [InK]; omega) ?_
        | refine ow_sub rfl rfl rfl (by simp only [InK]; omega) ?_
        | refine ow_lss rfl rfl rfl ?_
        | refine ow_leq rfl rfl rfl ?_
        | refine ow_gtr rfl rfl rfl ?_
        | refine ow_geq rfl rfl rfl ?_
        | refine ow_eql rfl rfl rfl ?_
        | refine ow_neq rfl rfl rfl ?_
        | refine ow_mul rfl rfl rfl (by simp only [InK]; omega) ?_
        | refine ow_quo rfl rfl rfl (by omega) (by omega) (by simp only [InK]; omega) ?_
        | refine ow_rem rfl rfl rfl (by omega) (by omega) ?_
        | refine ow_conv_in rfl rfl (tyAt rfl) (tyAt rfl) rfl (by simp only [InK]; omega) ?_
        | refine ow_conv rfl rfl (tyAt rfl) (tyAt rfl) rfl ?_
        | refine ow_not_dec rfl rfl ?_
        | refine ow_not rfl rfl ?_
        | refine ow_len rfl rfl (tyAt rfl) rfl ?_
        | refine ow_lenStr rfl rfl (tyAt rfl) rfl ?_
        | refine ow_max rfl rfl rfl ?_
        | refine ow_min rfl rfl rfl ?_
        | refine ow_and rfl rfl rfl ?_
        | refine ow_or rfl rfl rfl ?_
        | refine ow_xor rfl rfl rfl ?_
        | refine ow_neg rfl rfl (by simp only [InK]; omega) ?_
        | refine ow_negw rfl rfl ?_
        | refine ow_addw rfl rfl rfl ?_
        | refine ow_subw rfl rfl rfl ?_
        | refine ow_mulw rfl rfl rfl ?_
        | refine ow_compl rfl rfl ?_
        | refine ow_shl rfl rfl rfl (by omega) ?_
        | refine ow_shr rfl rfl rfl (by omega) ?_
        | refine ow_makeFunc (fs := []) (cs := []) rfl rfl rfl ?_
        | refine ow_makeFunc (fs := []) (cs := [.pointer _]) rfl rfl rfl ?_
        | refine ow_makeFunc (fs := []) (cs := [.pointer _, .pointer _]) rfl rfl rfl ?_
        | refine ow_makeFunc (fs := []) (cs := [.pointer _, .pointer _, .pointer _]) rfl rfl rfl ?_)
      refine ow_call rfl rfl (ent (by kernel_rfl)) (CallsV.mono (fold_spec _ (by omega) (by omega) _) ?_) rfl
      rintro v w' ⟨rfl, rfl⟩
      rw [f2]
      repeat (first
        | refine wc_seq ?_
        | refine wc_block ?_
        | refine wc_region ?_
        | refine ow_nil ?_
        | refine wc_skip ?_
        | refine wc_exit ?_
        | (apply ow_move; (· rfl); (· ((conv => lhs; whnf) <;> rfl)))
        | (apply ow_assign; (· rfl); (· ((conv => lhs; whnf) <;> rfl)))
        | refine ow_extract rfl rfl rfl ?_
        | refine ow_nilCheck_ptr rfl rfl ?_
        | refine ow_nilCheck_ptr0 rfl ?_
        | refine ow_fieldAddr rfl (tyAt rfl) rfl rfl rfl (tyAt rfl) rfl rfl ?_
        | refine ow_guard_yes rfl rfl rfl rfl ?_
        | refine ow_guard_no rfl rfl rfl rfl rfl rfl rfl ?_
        | refine ow_guard_dec rfl rfl rfl (fun _ => ?_) (fun h => (h (by with_reducible rfl)).elim)
        | refine ow_guard_dec rfl rfl rfl (fun h => (h (by with_reducible rfl)).elim) (fun _ => ?_)
        | (apply ow_pick_t; (· rfl); (· rfl); (· ((conv => lhs; whnf) <;> rfl)))
        | (apply ow_pick_f; (· rfl); (· rfl); (· ((conv => lhs; whnf) <;> rfl)))
        | refine wc_cond_true rfl ?_
        | refine wc_cond_false rfl ?_
        | refine ow_add rfl rfl rfl (by simp only [InK]; omega) ?_
        | refine ow_sub rfl rfl rfl (by simp only [InK]; omega) ?_
        | refine ow_lss rfl rfl rfl ?_
        | refine ow_leq rfl rfl rfl ?_
        | refine ow_gtr rfl rfl rfl ?_
        | refine ow_geq rfl rfl rfl ?_
        | refine ow_eql rfl rfl rfl ?_
        | refine ow_neq rfl rfl rfl ?_
        | refine ow_mul rfl rfl rfl (by simp only [InK]; omega) ?_
        | refine ow_quo rfl rfl rfl (by omega) (by omega) (by simp only [InK]; omega) ?_
        | refine ow_rem rfl rfl rfl (by omega) (by omega) ?_
        | refine ow_conv_in rfl rfl (tyAt rfl) (tyAt rfl) rfl (by simp only [InK]; omega) ?_
        | refine ow_conv rfl rfl (tyAt rfl) (tyAt rfl) rfl ?_
        | refine ow_not_dec rfl rfl ?_
        | refine ow_not rfl rfl ?_
        | refine ow_len rfl rfl (tyAt rfl) rfl ?_
        | refine ow_lenStr rfl rfl (tyAt rfl) rfl ?_
        | refine ow_max rfl rfl rfl ?_
        | refine ow_min rfl rfl rfl ?_
        | refine ow_and rfl rfl rfl ?_
        | refine ow_or rfl rfl rfl ?_
        | refine ow_xor rfl rfl rfl ?_
        | refine ow_neg rfl rfl (by simp only [InK]; omega) ?_
        | refine ow_negw rfl rfl ?_
        | refine ow_addw rfl rfl rfl ?_
        | refine ow_subw rfl rfl rfl ?_
        | refine ow_mulw rfl rfl rfl ?_
        | refine ow_compl rfl rfl ?_
        | refine ow_shl rfl rfl rfl (by omega) ?_
        | refine ow_shr rfl rfl rfl (by omega) ?_
        | refine ow_makeFunc (fs := []) (cs := []) rfl rfl rfl ?_
        | refine ow_makeFunc (fs := []) (cs := [.pointer _]) rfl rfl rfl ?_
        | refine ow_makeFunc (fs := []) (cs := [.pointer _, .pointer _]) rfl rfl rfl ?_
        | refine ow_makeFunc (fs := []) (cs := [.pointer _, .pointer _, .pointer _]) rfl rfl rfl ?_)
      refine ow_guard_dec rfl rfl rfl (fun _ => ?_) (fun h => (h (by omega)).elim)
      repeat (first
        | refine wc_seq ?_
        | refine wc_block ?_
        | refine wc_region ?_
        | refine ow_nil ?_
        | refine wc_skip ?_
        | refine wc_exit ?_
        | (apply ow_move; (· rfl); (· ((conv => lhs; whnf) <;> rfl)))
        | (apply ow_assign; (· rfl); (· ((conv => lhs; whnf) <;> rfl)))
        | refine ow_extract rfl rfl rfl ?_
        | refine ow_nilCheck_ptr rfl rfl ?_
        | refine ow_nilCheck_ptr0 rfl ?_
        | refine ow_fieldAddr rfl (tyAt rfl) rfl rfl rfl (tyAt rfl) rfl rfl ?_
        | refine ow_guard_yes rfl rfl rfl rfl ?_
        | refine ow_guard_no rfl rfl rfl rfl rfl rfl rfl ?_
        | refine ow_guard_dec rfl rfl rfl (fun _ => ?_) (fun h => (h (by with_reducible rfl)).elim)
        | refine ow_guard_dec rfl rfl rfl (fun h => (h (by with_reducible rfl)).elim) (fun _ => ?_)
        | (apply ow_pick_t; (· rfl); (· rfl); (· ((conv => lhs; whnf) <;> rfl)))
        | (apply ow_pick_f; (· rfl); (· rfl); (· ((conv => lhs; whnf) <;> rfl)))
        | refine wc_cond_true rfl ?_
        | refine wc_cond_false rfl ?_
        | refine ow_add rfl rfl rfl (by simp only [InK]; omega) ?_
        | refine ow_sub rfl rfl rfl (by simp only [InK]; omega) ?_
        | refine ow_lss rfl rfl rfl ?_
        | refine ow_leq rfl rfl rfl ?_
        | refine ow_gtr rfl rfl rfl ?_
        | refine ow_geq rfl rfl rfl ?_
        | refine ow_eql rfl rfl rfl ?_
        | refine ow_neq rfl rfl rfl ?_
        | refine ow_mul rfl rfl rfl (by simp only [InK]; omega) ?_
        | refine ow_quo rfl rfl rfl (by omega) (by omega) (by simp only [InK]; omega) ?_
        | refine ow_rem rfl rfl rfl (by omega) (by omega) ?_
        | refine ow_conv_in rfl rfl (tyAt rfl) (tyAt rfl) rfl (by simp only [InK]; omega) ?_
        | refine ow_conv rfl rfl (tyAt rfl) (tyAt rfl) rfl ?_
        | refine ow_not_dec rfl rfl ?_
        | refine ow_not rfl rfl ?_
        | refine ow_len rfl rfl (tyAt rfl) rfl ?_
        | refine ow_lenStr rfl rfl (tyAt rfl) rfl ?_
        | refine ow_max rfl rfl rfl ?_
        | refine ow_min rfl rfl rfl ?_
        | refine ow_and rfl rfl rfl ?_
        | refine ow_or rfl rfl rfl ?_
        | refine ow_xor rfl rfl rfl ?_
        | refine ow_neg rfl rfl (by simp only [InK]; omega) ?_
        | refine ow_negw rfl rfl ?_
        | refine ow_addw rfl rfl rfl ?_
        | refine ow_subw rfl rfl rfl ?_
        | refine ow_mulw rfl rfl rfl ?_
        | refine ow_compl rfl rfl ?_
        | refine ow_shl rfl rfl rfl (by omega) ?_
        | refine ow_shr rfl rfl rfl (by omega) ?_
        | refine ow_makeFunc (fs := []) (cs := []) rfl rfl rfl ?_
        | refine ow_makeFunc (fs := []) (cs := [.pointer _]) rfl rfl rfl ?_
        | refine ow_makeFunc (fs := []) (cs := [.pointer _, .pointer _]) rfl rfl rfl ?_
        | refine ow_makeFunc (fs := []) (cs := [.pointer _, .pointer _, .pointer _]) rfl rfl rfl ?_)
      refine ow_call rfl rfl (ent (by kernel_rfl)) (CallsV.mono (put_spec x hx _) ?_) rfl
      rintro v w ⟨p7, c7, rfl, H'⟩
      replace H := H.call H'
      repeat (first
        | refine wc_seq ?_
        | refine wc_block ?_
        | refine wc_region ?_
        | refine ow_nil ?_
        | refine wc_skip ?_
        | refine wc_exit ?_
        | (apply ow_move; (· rfl); (· ((conv => lhs; whnf) <;> rfl)))
        | (apply ow_assign; (· rfl); (· ((conv => lhs; whnf) <;> rfl)))
        | refine ow_extract rfl rfl rfl ?_
        | refine ow_nilCheck_ptr rfl rfl ?_
        | refine ow_nilCheck_ptr0 rfl ?_
        | refine ow_fieldAddr rfl (tyAt rfl) rfl rfl rfl (tyAt rfl) rfl rfl ?_
        | refine ow_guard_yes rfl rfl rfl rfl ?_
        | refine ow_guard_no rfl rfl rfl rfl rfl rfl rfl ?_
        | refine ow_guard_dec rfl rfl rfl (fun _ => ?_) (fun h => (h (by with_reducible rfl)).elim)
        | refine ow_guard_dec rfl rfl rfl (fun h => (h (by with_reducible rfl)).elim) (fun _ => ?_)
        | (apply ow_pick_t; (· rfl); (· rfl); (· ((conv => lhs; whnf) <;> rfl)))
        | (apply ow_pick_f; (· rfl); (· rfl); (· ((conv => lhs; whnf) <;> rfl)))
        | refine wc_cond_true rfl ?_
        | refine wc_cond_false rfl ?_
        | refine ow_add rfl rfl rfl (by simp only [InK]; omega) ?_
        | refine ow_sub rfl rfl rfl (by simp only [InK]; omega) ?_
        | refine ow_lss rfl rfl rfl ?_
        | refine ow_leq rfl rfl rfl ?_
        | refine ow_gtr rfl rfl rfl ?_
        | refine ow_geq rfl rfl rfl ?_
        | refine ow_eql rfl rfl rfl ?_
        | refine ow_neq rfl rfl rfl ?_
        | refine ow_mul rfl rfl rfl (by simp only [InK]; omega) ?_
        | refine ow_quo rfl rfl rfl (by omega) (by omega) (by simp only [InK]; omega) ?_
        | refine ow_rem rfl rfl rfl (by omega) (by omega) ?_
        | refine ow_conv_in rfl rfl (tyAt rfl) (tyAt rfl) rfl (by simp only [InK]; omega) ?_
        | refine ow_conv rfl rfl (tyAt rfl) (tyAt rfl) rfl ?_
        | refine ow_not_dec rfl rfl ?_
        | refine ow_not rfl rfl ?_
        | refine ow_len rfl rfl (tyAt rfl) rfl ?_
        | refine ow_lenStr rfl rfl (tyAt rfl) rfl ?_
        | refine ow_max rfl rfl rfl ?_
        | refine ow_min rfl rfl rfl ?_
        | refine ow_and rfl rfl rfl ?_
        | refine ow_or rfl rfl rfl ?_
        | refine ow_xor rfl rfl rfl ?_
        | refine ow_neg rfl rfl (by simp only [InK]; omega) ?_
        | refine ow_negw rfl rfl ?_
        | refine ow_addw rfl rfl rfl ?_
        | refine ow_subw rfl rfl rfl ?_
        | refine ow_mulw rfl rfl rfl ?_
        | refine ow_compl rfl rfl ?_
        | refine ow_shl rfl rfl rfl (by omega) ?_
        | refine ow_shr rfl rfl rfl (by omega) ?_
        | refine ow_makeFunc (fs := []) (cs := []) rfl rfl rfl ?_
        | refine ow_makeFunc (fs := []) (cs := [.pointer _]) rfl rfl rfl ?_
        | refine ow_makeFunc (fs := []) (cs := [.pointer _, .pointer _]) rfl rfl rfl ?_
        | refine ow_makeFunc (fs := []) (cs := [.pointer _, .pointer _, .pointer _]) rfl rfl rfl ?_)
      refine wc_ret ?_
      obtain ⟨w, hT, H⟩ := H.takes Try.prog
      refine ⟨.inr rfl, w, hT, _, .tmp .nil, ?_⟩
      refine ⟨?_, H.sub (List.nil_sublist _)⟩
      refine congrArg Value.bool (decide_eq_true ?_)
      omega
  · repeat (first
      | refine wc_seq ?_
      | refine wc_block ?_
      | refine wc_region ?_
      | refine ow_nil ?_
      | refine wc_skip ?_
      | refine wc_exit ?_
      | (apply ow_move; (· rfl); (· ((conv => lhs; whnf) <;> rfl)))
      | (apply ow_assign; (· rfl); (· ((conv => lhs; whnf) <;> rfl)))
      | refine ow_extract rfl rfl rfl ?_
      | refine ow_nilCheck_ptr rfl rfl ?_
      | refine ow_nilCheck_ptr0 rfl ?_
      | refine ow_fieldAddr rfl (tyAt rfl) rfl rfl rfl (tyAt rfl) rfl rfl ?_
      | refine ow_guard_yes rfl rfl rfl rfl ?_
      | refine ow_guard_no rfl rfl rfl rfl rfl rfl rfl ?_
      | refine ow_guard_dec rfl rfl rfl (fun _ => ?_) (fun h => (h (by with_reducible rfl)).elim)
      | refine ow_guard_dec rfl rfl rfl (fun h => (h (by with_reducible rfl)).elim) (fun _ => ?_)
      | (apply ow_pick_t; (· rfl); (· rfl); (· ((conv => lhs; whnf) <;> rfl)))
      | (apply ow_pick_f; (· rfl); (· rfl); (· ((conv => lhs; whnf) <;> rfl)))
      | refine wc_cond_true rfl ?_
      | refine wc_cond_false rfl ?_
      | refine ow_add rfl rfl rfl (by simp only [InK]; omega) ?_
      | refine ow_sub rfl rfl rfl (by simp only [InK]; omega) ?_
      | refine ow_lss rfl rfl rfl ?_
      | refine ow_leq rfl rfl rfl ?_
      | refine ow_gtr rfl rfl rfl ?_
      | refine ow_geq rfl rfl rfl ?_
      | refine ow_eql rfl rfl rfl ?_
      | refine ow_neq rfl rfl rfl ?_
      | refine ow_mul rfl rfl rfl (by simp only [InK]; omega) ?_
      | refine ow_quo rfl rfl rfl (by omega) (by omega) (by simp only [InK]; omega) ?_
      | refine ow_rem rfl rfl rfl (by omega) (by omega) ?_
      | refine ow_conv_in rfl rfl (tyAt rfl) (tyAt rfl) rfl (by simp only [InK]; omega) ?_
      | refine ow_conv rfl rfl (tyAt rfl) (tyAt rfl) rfl ?_
      | refine ow_not_dec rfl rfl ?_
      | refine ow_not rfl rfl ?_
      | refine ow_len rfl rfl (tyAt rfl) rfl ?_
      | refine ow_lenStr rfl rfl (tyAt rfl) rfl ?_
      | refine ow_max rfl rfl rfl ?_
      | refine ow_min rfl rfl rfl ?_
      | refine ow_and rfl rfl rfl ?_
      | refine ow_or rfl rfl rfl ?_
      | refine ow_xor rfl rfl rfl ?_
      | refine ow_neg rfl rfl (by simp only [InK]; omega) ?_
      | refine ow_negw rfl rfl ?_
      | refine ow_addw rfl rfl rfl ?_
      | refine ow_subw rfl rfl rfl ?_
      | refine ow_mulw rfl rfl rfl ?_
      | refine ow_compl rfl rfl ?_
      | refine ow_shl rfl rfl rfl (by omega) ?_
      | refine ow_shr rfl rfl rfl (by omega) ?_
      | refine ow_makeFunc (fs := []) (cs := []) rfl rfl rfl ?_
      | refine ow_makeFunc (fs := []) (cs := [.pointer _]) rfl rfl rfl ?_
      | refine ow_makeFunc (fs := []) (cs := [.pointer _, .pointer _]) rfl rfl rfl ?_
      | refine ow_makeFunc (fs := []) (cs := [.pointer _, .pointer _, .pointer _]) rfl rfl rfl ?_)
    rw [es]
    repeat (first
      | refine wc_seq ?_
      | refine wc_block ?_
      | refine wc_region ?_
      | refine ow_nil ?_
      | refine wc_skip ?_
      | refine wc_exit ?_
      | (apply ow_move; (· rfl); (· ((conv => lhs; whnf) <;> rfl)))
      | (apply ow_assign; (· rfl); (· ((conv => lhs; whnf) <;> rfl)))
      | refine ow_extract rfl rfl rfl ?_
      | refine ow_nilCheck_ptr rfl rfl ?_
      | refine ow_nilCheck_ptr0 rfl ?_
      | refine ow_fieldAddr rfl (tyAt rfl) rfl rfl rfl (tyAt rfl) rfl rfl ?_
      | refine ow_guard_yes rfl rfl rfl rfl ?_
      | refine ow_guard_no rfl rfl rfl rfl rfl rfl rfl ?_
      | refine ow_guard_dec rfl rfl rfl (fun _ => ?_) (fun h => (h (by with_reducible rfl)).elim)
      | refine ow_guard_dec rfl rfl rfl (fun h => (h (by with_reducible rfl)).elim) (fun _ => ?_)
      | (apply ow_pick_t; (· rfl); (· rfl); (· ((conv => lhs; whnf) <;> rfl)))
      | (apply ow_pick_f; (· rfl); (· rfl); (· ((conv => lhs; whnf) <;> rfl)))
      | refine wc_cond_true rfl ?_
      | refine wc_cond_false rfl ?_
      | refine ow_add rfl rfl rfl (by simp only [InK]; omega) ?_
      | refine ow_sub rfl rfl rfl (by simp only [InK]; omega) ?_
      | refine ow_lss rfl rfl rfl ?_
      | refine ow_leq rfl rfl rfl ?_
      | refine ow_gtr rfl rfl rfl ?_
      | refine ow_geq rfl rfl rfl ?_
      | refine ow_eql rfl rfl rfl ?_
      | refine ow_neq rfl rfl rfl ?_
      | refine ow_mul rfl rfl rfl (by simp only [InK]; omega) ?_
      | refine ow_quo rfl rfl rfl (by omega) (by omega) (by simp only [InK]; omega) ?_
      | refine ow_rem rfl rfl rfl (by omega) (by omega) ?_
      | refine ow_conv_in rfl rfl (tyAt rfl) (tyAt rfl) rfl (by simp only [InK]; omega) ?_
      | refine ow_conv rfl rfl (tyAt rfl) (tyAt rfl) rfl ?_
      | refine ow_not_dec rfl rfl ?_
      | refine ow_not rfl rfl ?_
      | refine ow_len rfl rfl (tyAt rfl) rfl ?_
      | refine ow_lenStr rfl rfl (tyAt rfl) rfl ?_
      | refine ow_max rfl rfl rfl ?_
      | refine ow_min rfl rfl rfl ?_
      | refine ow_and rfl rfl rfl ?_
      | refine ow_or rfl rfl rfl ?_
      | refine ow_xor rfl rfl rfl ?_
      | refine ow_neg rfl rfl (by simp only [InK]; omega) ?_
      | refine ow_negw rfl rfl ?_
      | refine ow_addw rfl rfl rfl ?_
      | refine ow_subw rfl rfl rfl ?_
      | refine ow_mulw rfl rfl rfl ?_
      | refine ow_compl rfl rfl ?_
      | refine ow_shl rfl rfl rfl (by omega) ?_
      | refine ow_shr rfl rfl rfl (by omega) ?_
      | refine ow_makeFunc (fs := []) (cs := []) rfl rfl rfl ?_
      | refine ow_makeFunc (fs := []) (cs := [.pointer _]) rfl rfl rfl ?_
      | refine ow_makeFunc (fs := []) (cs := [.pointer _, .pointer _]) rfl rfl rfl ?_
      | refine ow_makeFunc (fs := []) (cs := [.pointer _, .pointer _, .pointer _]) rfl rfl rfl ?_)
    refine ow_call rfl rfl (ent (by kernel_rfl)) (CallsV.mono (fold_spec _ (by omega) (by omega) _) ?_) rfl
    rintro v w ⟨rfl, rfl⟩
    repeat (first
      | refine wc_seq ?_
      | refine wc_block ?_
      | refine wc_region ?_
      | refine ow_nil ?_
      | refine wc_skip ?_
      | refine wc_exit ?_
      | (apply ow_move; (· rfl); (· ((conv => lhs; whnf) <;> rfl)))
      | (apply ow_assign; (· rfl); (· ((conv => lhs; whnf) <;> rfl)))
      | refine ow_extract rfl rfl rfl ?_
      | refine ow_nilCheck_ptr rfl rfl ?_
      | refine ow_nilCheck_ptr0 rfl ?_
      | refine ow_fieldAddr rfl (tyAt rfl) rfl rfl rfl (tyAt rfl) rfl rfl ?_
      | refine ow_guard_yes rfl rfl rfl rfl ?_
      | refine ow_guard_no rfl rfl rfl rfl rfl rfl rfl ?_
      | refine ow_guard_dec rfl rfl rfl (fun _ => ?_) (fun h => (h (by with_reducible rfl)).elim)
      | refine ow_guard_dec rfl rfl rfl (fun h => (h (by with_reducible rfl)).elim) (fun _ => ?_)
      | (apply ow_pick_t; (· rfl); (· rfl); (· ((conv => lhs; whnf) <;> rfl)))
      | (apply ow_pick_f; (· rfl); (· rfl); (· ((conv => lhs; whnf) <;> rfl)))
      | refine wc_cond_true rfl ?_
      | refine wc_cond_false rfl ?_
      | refine ow_add rfl rfl rfl (by simp only [InK]; omega) ?_
      | refine ow_sub rfl rfl rfl (by simp only [InK]; omega) ?_
      | refine ow_lss rfl rfl rfl ?_
      | refine ow_leq rfl rfl rfl ?_
      | refine ow_gtr rfl rfl rfl ?_
      | refine ow_geq rfl rfl rfl ?_
      | refine ow_eql rfl rfl rfl ?_
      | refine ow_neq rfl rfl rfl ?_
      | refine ow_mul rfl rfl rfl (by simp only [InK]; omega) ?_
      | refine ow_quo rfl rfl rfl (by omega) (by omega) (by simp only [InK]; omega) ?_
      | refine ow_rem rfl rfl rfl (by omega) (by omega) ?_
      | refine ow_conv_in rfl rfl (tyAt rfl) (tyAt rfl) rfl (by simp only [InK]; omega) ?_
      | refine ow_conv rfl rfl (tyAt rfl) (tyAt rfl) rfl ?_
      | refine ow_not_dec rfl rfl ?_
      | refine ow_not rfl rfl ?_
      | refine ow_len rfl rfl (tyAt rfl) rfl ?_
      | refine ow_lenStr rfl rfl (tyAt rfl) rfl ?_
      | refine ow_max rfl rfl rfl ?_
      | refine ow_min rfl rfl rfl ?_
      | refine ow_and rfl rfl rfl ?_
      | refine ow_or rfl rfl rfl ?_
      | refine ow_xor rfl rfl rfl ?_
      | refine ow_neg rfl rfl (by simp only [InK]; omega) ?_
      | refine ow_negw rfl rfl ?_
      | refine ow_addw rfl rfl rfl ?_
      | refine ow_subw rfl rfl rfl ?_
      | refine ow_mulw rfl rfl rfl ?_
      | refine ow_compl rfl rfl ?_
      | refine ow_shl rfl rfl rfl (by omega) ?_
      | refine ow_shr rfl rfl rfl (by omega) ?_
      | refine ow_makeFunc (fs := []) (cs := []) rfl rfl rfl ?_
      | refine ow_makeFunc (fs := []) (cs := [.pointer _]) rfl rfl rfl ?_
      | refine ow_makeFunc (fs := []) (cs := [.pointer _, .pointer _]) rfl rfl rfl ?_
      | refine ow_makeFunc (fs := []) (cs := [.pointer _, .pointer _, .pointer _]) rfl rfl rfl ?_)
    refine ow_call rfl rfl (ent (by kernel_rfl)) (CallsV.mono (len_spec _ (foldN_lt (by omega) (by omega)) _) ?_) rfl
    rintro v w' ⟨rfl, rfl⟩
    repeat (first
      | refine wc_seq ?_
      | refine wc_block ?_
      | refine wc_region ?_
      | refine ow_nil ?_
      | refine wc_skip ?_
      | refine wc_exit ?_
      | (apply ow_move; (· rfl); (· ((conv => lhs; whnf) <;> rfl)))
      | (apply ow_assign; (· rfl); (· ((conv => lhs; whnf) <;> rfl)))
      | refine ow_extract rfl rfl rfl ?_
      | refine ow_nilCheck_ptr rfl rfl ?_
      | refine ow_nilCheck_ptr0 rfl ?_
      | refine ow_fieldAddr rfl (tyAt rfl) rfl rfl rfl (tyAt rfl) rfl rfl ?_
      | refine ow_guard_yes rfl rfl rfl rfl ?_
      | refine ow_guard_no rfl rfl rfl rfl rfl rfl rfl ?_
      | refine ow_guard_dec rfl rfl rfl (fun _ => ?_) (fun h => (h (by with_reducible rfl)).elim)
      | refine ow_guard_dec rfl rfl rfl (fun h => (h (by with_reducible rfl)).elim) (fun _ => ?_)
      | (apply ow_pick_t; (· rfl); (· rfl); (· ((conv => lhs; whnf) <;> rfl)))
      | (apply ow_pick_f; (· rfl); (· rfl); (· ((conv => lhs; whnf) <;> rfl)))
      | refine wc_cond_true rfl ?_
      | refine wc_cond_false rfl ?_
      | refine ow_add rfl rfl rfl (by simp only [InK]; omega) ?_
      | refine ow_sub rfl rfl rfl (by simp only [InK]; omega) ?_
      | refine ow_lss rfl rfl rfl ?_
      | refine ow_leq rfl rfl rfl ?_
      | refine ow_gtr rfl rfl rfl ?_
      | refine ow_geq rfl rfl rfl ?_
      | refine ow_eql rfl rfl rfl ?_
      | refine ow_neq rfl rfl rfl ?_
      | refine ow_mul rfl rfl rfl (by simp only [InK]; omega) ?_
      | refine ow_quo rfl rfl rfl (by omega) (by omega) (by simp only [InK]; omega) ?_
      | refine ow_rem rfl rfl rfl (by omega) (by omega) ?_
      | refine ow_conv_in rfl rfl (tyAt rfl) (tyAt rfl) rfl (by simp only [InK]; omega) ?_
      | refine ow_conv rfl rfl (tyAt rfl) (tyAt rfl) rfl ?_
      | refine ow_not_dec rfl rfl ?_
      | refine ow_not rfl rfl ?_
      | refine ow_len rfl rfl (tyAt rfl) rfl ?_
      | refine ow_lenStr rfl rfl (tyAt rfl) rfl ?_
      | refine ow_max rfl rfl rfl ?_
      | refine ow_min rfl rfl rfl ?_
      | refine ow_and rfl rfl rfl ?_
      | refine ow_or rfl rfl rfl ?_
      | refine ow_xor rfl rfl rfl ?_
      | refine ow_neg rfl rfl (by simp only [InK]; omega) ?_
      | refine ow_negw rfl rfl ?_
      | refine ow_addw rfl rfl rfl ?_
      | refine ow_subw rfl rfl rfl ?_
      | refine ow_mulw rfl rfl rfl ?_
      | refine ow_compl rfl rfl ?_
      | refine ow_shl rfl rfl rfl (by omega) ?_
      | refine ow_shr rfl rfl rfl (by omega) ?_
      | refine ow_makeFunc (fs := []) (cs := []) rfl rfl rfl ?_
      | refine ow_makeFunc (fs := []) (cs := [.pointer _]) rfl rfl rfl ?_
      | refine ow_makeFunc (fs := []) (cs := [.pointer _, .pointer _]) rfl rfl rfl ?_
      | refine ow_makeFunc (fs := []) (cs := [.pointer _, .pointer _, .pointer _]) rfl rfl rfl ?_)
    refine ow_call rfl rfl (ent (by kernel_rfl)) (CallsV.mono (fold_spec _ (by omega) (by omega) _) ?_) rfl
    rintro v w ⟨rfl, rfl⟩
    repeat (first
      | refine wc_seq ?_
      | refine wc_block ?_
      | refine wc_region ?_
      | refine ow_nil ?_
      | refine wc_skip ?_
      | refine wc_exit ?_
      | (apply ow_move; (· rfl); (· ((conv => lhs; whnf) <;> rfl)))
      | (apply ow_assign; (· rfl); (· ((conv => lhs; whnf) <;> rfl)))
      | refine ow_extract rfl rfl rfl ?_
      | refine ow_nilCheck_ptr rfl rfl ?_
      | refine ow_nilCheck_ptr0 rfl ?_
      | refine ow_fieldAddr rfl (tyAt rfl) rfl rfl rfl (tyAt rfl) rfl rfl ?_
      | refine ow_guard_yes rfl rfl rfl rfl ?_
      | refine ow_guard_no rfl rfl rfl rfl rfl rfl rfl ?_
      | refine ow_guard_dec rfl rfl rfl (fun _ => ?_) (fun h => (h (by with_reducible rfl)).elim)
      | refine ow_guard_dec rfl rfl rfl (fun h => (h (by with_reducible rfl)).elim) (fun _ => ?_)
      | (apply ow_pick_t; (· rfl); (· rfl); (· ((conv => lhs; whnf) <;> rfl)))
      | (apply ow_pick_f; (· rfl); (· rfl); (· ((conv => lhs; whnf) <;> rfl)))
      | refine wc_cond_true rfl ?_
      | refine wc_cond_false rfl ?_
      | refine ow_add rfl rfl rfl (by simp only [InK]; omega) ?_
      | refine ow_sub rfl rfl rfl (by simp only [InK]; omega) ?_
      | refine ow_lss rfl rfl rfl ?_
      | refine ow_leq rfl rfl rfl ?_
      | refine ow_gtr rfl rfl rfl ?_
      | refine ow_geq rfl rfl rfl ?_
      | refine ow_eql rfl rfl rfl ?_
      | refine ow_neq rfl rfl rfl ?_
      | refine ow_mul rfl rfl rfl (by simp only [InK]; omega) ?_
      | refine ow_quo rfl rfl rfl (by omega) (by omega) (by simp only [InK]; omega) ?_
      | refine ow_rem rfl rfl rfl (by omega) (by omega) ?_
      | refine ow_conv_in rfl rfl (tyAt rfl) (tyAt rfl) rfl (by simp only [InK]; omega) ?_
      | refine ow_conv rfl rfl (tyAt rfl) (tyAt rfl) rfl ?_
      | refine ow_not_dec rfl rfl ?_
      | refine ow_not rfl rfl ?_
      | refine ow_len rfl rfl (tyAt rfl) rfl ?_
      | refine ow_lenStr rfl rfl (tyAt rfl) rfl ?_
      | refine ow_max rfl rfl rfl ?_
      | refine ow_min rfl rfl rfl ?_
      | refine ow_and rfl rfl rfl ?_
      | refine ow_or rfl rfl rfl ?_
      | refine ow_xor rfl rfl rfl ?_
      | refine ow_neg rfl rfl (by simp only [InK]; omega) ?_
      | refine ow_negw rfl rfl ?_
      | refine ow_addw rfl rfl rfl ?_
      | refine ow_subw rfl rfl rfl ?_
      | refine ow_mulw rfl rfl rfl ?_
      | refine ow_compl rfl rfl ?_
      | refine ow_shl rfl rfl rfl (by omega) ?_
      | refine ow_shr rfl rfl rfl (by omega) ?_
      | refine ow_makeFunc (fs := []) (cs := []) rfl rfl rfl ?_
      | refine ow_makeFunc (fs := []) (cs := [.pointer _]) rfl rfl rfl ?_
      | refine ow_makeFunc (fs := []) (cs := [.pointer _, .pointer _]) rfl rfl rfl ?_
      | refine ow_makeFunc (fs := []) (cs := [.pointer _, .pointer _, .pointer _]) rfl rfl rfl ?_)
    refine ow_call rfl rfl (ent (by kernel_rfl)) (CallsV.mono (len_spec _ (foldN_lt (by omega) (by omega)) _) ?_) rfl
    rintro v w' ⟨rfl, rfl⟩
    rw [f1, f2, ← putN_near s]
    repeat (first
      | refine wc_seq ?_
      | refine wc_block ?_
      | refine wc_region ?_
      | refine ow_nil ?_
      | refine wc_skip ?_
      | refine wc_exit ?_
      | (apply ow_move; (· rfl); (· ((conv => lhs; whnf) <;> rfl)))
      | (apply ow_assign; (· rfl); (· ((conv => lhs; whnf) <;> rfl)))
      | refine ow_extract rfl rfl rfl ?_
      | refine ow_nilCheck_ptr rfl rfl ?_
      | refine ow_nilCheck_ptr0 rfl ?_
      | refine ow_fieldAddr rfl (tyAt rfl) rfl rfl rfl (tyAt rfl) rfl rfl ?_
      | refine ow_guard_yes rfl rfl rfl rfl ?_
      | refine ow_guard_no rfl rfl rfl rfl rfl rfl rfl ?_
      | refine ow_guard_dec rfl rfl rfl (fun _ => ?_) (fun h => (h (by with_reducible rfl)).elim)
      | refine ow_guard_dec rfl rfl rfl (fun h => (h (by with_reducible rfl)).elim) (fun _ => ?_)
      | (apply ow_pick_t; (· rfl); (· rfl); (· ((conv => lhs; whnf) <;> rfl)))
      | (apply ow_pick_f; (· rfl); (· rfl); (· ((conv => lhs; whnf) <;> rfl)))
      | refine wc_cond_true rfl ?_
      | refine wc_cond_false rfl ?_
      | refine ow_add rfl rfl rfl (by simp only [InK]; omega) ?_
      | refine ow_sub rfl rfl rfl (by simp only [InK]; omega) ?_
      | refine ow_lss rfl rfl rfl ?_
      | refine ow_leq rfl rfl rfl ?_
      | refine ow_gtr rfl rfl rfl ?_
      | refine ow_geq rfl rfl rfl ?_
      | refine ow_eql rfl rfl rfl ?_
      | refine ow_neq rfl rfl rfl ?_
      | refine ow_mul rfl rfl rfl (by simp only [InK]; omega) ?_
      | refine ow_quo rfl rfl rfl (by omega) (by omega) (by simp only [InK]; omega) ?_
      | refine ow_rem rfl rfl rfl (by omega) (by omega) ?_
      | refine ow_conv_in rfl rfl (tyAt rfl) (tyAt rfl) rfl (by simp only [InK]; omega) ?_
      | refine ow_conv rfl rfl (tyAt rfl) (tyAt rfl) rfl ?_
      | refine ow_not_dec rfl rfl ?_
      | refine ow_not rfl rfl ?_
      | refine ow_len rfl rfl (tyAt rfl) rfl ?_
      | refine ow_lenStr rfl rfl (tyAt rfl) rfl ?_
      | refine ow_max rfl rfl rfl ?_
      | refine ow_min rfl rfl rfl ?_
      | refine ow_and rfl rfl rfl ?_
      | refine ow_or rfl rfl rfl ?_
      | refine ow_xor rfl rfl rfl ?_
      | refine ow_neg rfl rfl (by simp only [InK]; omega) ?_
      | refine ow_negw rfl rfl ?_
      | refine ow_addw rfl rfl rfl ?_
      | refine ow_subw rfl rfl rfl ?_
      | refine ow_mulw rfl rfl rfl ?_
      | refine ow_compl rfl rfl ?_
      | refine ow_shl rfl rfl rfl (by omega) ?_
      | refine ow_shr rfl rfl rfl (by omega) ?_
      | refine ow_makeFunc (fs := []) (cs := []) rfl rfl rfl ?_
      | refine ow_makeFunc (fs := []) (cs := [.pointer _]) rfl rfl rfl ?_
      | refine ow_makeFunc (fs := []) (cs := [.pointer _, .pointer _]) rfl rfl rfl ?_
      | refine ow_makeFunc (fs := []) (cs := [.pointer _, .pointer _, .pointer _]) rfl rfl rfl ?_)
    refine ow_call rfl rfl (ent (by kernel_rfl)) (CallsV.mono (fold_spec _ (by omega) (by omega) _) ?_) rfl
    rintro v w ⟨rfl, rfl⟩
    rw [f1]
    repeat (first
      | refine wc_seq ?_
      | refine wc_block ?_
      | refine wc_region ?_
      | refine ow_nil ?_
      | refine wc_skip ?_
      | refine wc_exit ?_
      | (apply ow_move; (· rfl); (· ((conv => lhs; whnf) <;> rfl)))
      | (apply ow_assign; (· rfl); (· ((conv => lhs; whnf) <;> rfl)))
      | refine ow_extract rfl rfl rfl ?_
      | refine ow_nilCheck_ptr rfl rfl ?_
      | refine ow_nilCheck_ptr0 rfl ?_
      | refine ow_fieldAddr rfl (tyAt rfl) rfl rfl rfl (tyAt rfl) rfl rfl ?_
      | refine ow_guard_yes rfl rfl rfl rfl ?_
      | refine ow_guard_no rfl rfl rfl rfl rfl rfl rfl ?_
      | refine ow_guard_dec rfl rfl rfl (fun _ => ?_) (fun h => (h (by with_reducible rfl)).elim)
      | refine ow_guard_dec rfl rfl rfl (fun h => (h (by with_reducible rfl)).elim) (fun _ => ?_)
      | (apply ow_pick_t; (· rfl); (· rfl); (· ((conv => lhs; whnf) <;> rfl)))
      | (apply ow_pick_f; (· rfl); (· rfl); (· ((conv => lhs; whnf) <;> rfl)))
      | refine wc_cond_true rfl ?_
      | refine wc_cond_false rfl ?_
      | refine ow_add rfl rfl rfl (by simp only [InK]; omega) ?_
      | refine ow_sub rfl rfl rfl (by simp only [InK]; omega) ?_
      | refine ow_lss rfl rfl rfl ?_
      | refine ow_leq rfl rfl rfl ?_
      | refine ow_gtr rfl rfl rfl ?_
      | refine ow_geq rfl rfl rfl ?_
      | refine ow_eql rfl rfl rfl ?_
      | refine ow_neq rfl rfl rfl ?_
      | refine ow_mul rfl rfl rfl (by simp only [InK]; omega) ?_
      | refine ow_quo rfl rfl rfl (by omega) (by omega) (by simp only [InK]; omega) ?_
      | refine ow_rem rfl rfl rfl (by omega) (by omega) ?_
      | refine ow_conv_in rfl rfl (tyAt rfl) (tyAt rfl) rfl (by simp only [InK]; omega) ?_
      | refine ow_conv rfl rfl (tyAt rfl) (tyAt rfl) rfl ?_
      | refine ow_not_dec rfl rfl ?_
      | refine ow_not rfl rfl ?_
      | refine ow_len rfl rfl (tyAt rfl) rfl ?_
      | refine ow_lenStr rfl rfl (tyAt rfl) rfl ?_
      | refine ow_max rfl rfl rfl ?_
      | refine ow_min rfl rfl rfl ?_
      | refine ow_and rfl rfl rfl ?_
      | refine ow_or rfl rfl rfl ?_
      | refine ow_xor rfl rfl rfl ?_
      | refine ow_neg rfl rfl (by simp only [InK]; omega) ?_
      | refine ow_negw rfl rfl ?_
      | refine ow_addw rfl rfl rfl ?_
      | refine ow_subw rfl rfl rfl ?_
      | refine ow_mulw rfl rfl rfl ?_
      | refine ow_compl rfl rfl ?_
      | refine ow_shl rfl rfl rfl (by omega) ?_
      | refine ow_shr rfl rfl rfl (by omega) ?_
      | refine ow_makeFunc (fs := []) (cs := []) rfl rfl rfl ?_
      | refine ow_makeFunc (fs := []) (cs := [.pointer _]) rfl rfl rfl ?_
      | refine ow_makeFunc (fs := []) (cs := [.pointer _, .pointer _]) rfl rfl rfl ?_
      | refine ow_makeFunc (fs := []) (cs := [.pointer _, .pointer _, .pointer _]) rfl rfl rfl ?_)
    refine ow_call rfl rfl (ent (by kernel_rfl)) (CallsV.mono (fold_spec _ (by omega) (by omega) _) ?_) rfl
    rintro v w' ⟨rfl, rfl⟩
    rw [f2]
    repeat (first
      | refine wc_seq ?_
      | refine wc_block ?_
      | refine wc_region ?_
      | refine ow_nil ?_
      | refine wc_skip ?_
      | refine wc_exit ?_
      | (apply ow_move; (· rfl); (· ((conv => lhs; whnf) <;> rfl)))
      | (apply ow_assign; (· rfl); (· ((conv => lhs; whnf) <;> rfl)))
      | refine ow_extract rfl rfl rfl ?_
      | refine ow_nilCheck_ptr rfl rfl ?_
      | refine ow_nilCheck_ptr0 rfl ?_
      | refine ow_fieldAddr rfl (tyAt rfl) rfl rfl rfl (tyAt rfl) rfl rfl ?_
      | refine ow_guard_yes rfl rfl rfl rfl ?_
      | refine ow_guard_no rfl rfl rfl rfl rfl rfl rfl ?_
      | refine ow_guard_dec rfl rfl rfl (fun _ => ?_) (fun h => (h (by with_reducible rfl)).elim)
      | refine ow_guard_dec rfl rfl rfl (fun h => (h (by with_reducible rfl)).elim) (fun _ => ?_)
      | (apply ow_pick_t; (· rfl); (· rfl); (· ((conv => lhs; whnf) <;> rfl)))
      | (apply ow_pick_f; (· rfl); (· rfl); (· ((conv => lhs; whnf) <;> rfl)))
      | refine wc_cond_true rfl ?_
      | refine wc_cond_false rfl ?_
      | refine ow_add rfl rfl rfl (by simp only [InK]; omega) ?_
      | refine ow_sub rfl rfl rfl (by simp only [InK]; omega) ?_
      | refine ow_lss rfl rfl rfl ?_
      | refine ow_leq rfl rfl rfl ?_
      | refine ow_gtr rfl rfl rfl ?_
      | refine ow_geq rfl rfl rfl ?_
      | refine ow_eql rfl rfl rfl ?_
      | refine ow_neq rfl rfl rfl ?_
      | refine ow_mul rfl rfl rfl (by simp only [InK]; omega) ?_
      | refine ow_quo rfl rfl rfl (by omega) (by omega) (by simp only [InK]; omega) ?_
      | refine ow_rem rfl rfl rfl (by omega) (by omega) ?_
      | refine ow_conv_in rfl rfl (tyAt rfl) (tyAt rfl) rfl (by simp only [InK]; omega) ?_
      | refine ow_conv rfl rfl (tyAt rfl) (tyAt rfl) rfl ?_
      | refine ow_not_dec rfl rfl ?_
      | refine ow_not rfl rfl ?_
      | refine ow_len rfl rfl (tyAt rfl) rfl ?_
      | refine ow_lenStr rfl rfl (tyAt rfl) rfl ?_
      | refine ow_max rfl rfl rfl ?_
      | refine ow_min rfl rfl rfl ?_
      | refine ow_and rfl rfl rfl ?_
      | refine ow_or rfl rfl rfl ?_
      | refine ow_xor rfl rfl rfl ?_
      | refine ow_neg rfl rfl (by simp only [InK]; omega) ?_
      | refine ow_negw rfl rfl ?_
      | refine ow_addw rfl rfl rfl ?_
      | refine ow_subw rfl rfl rfl ?_
      | refine ow_mulw rfl rfl rfl ?_
      | refine ow_compl rfl rfl ?_
      | refine ow_shl rfl rfl rfl (by omega) ?_
      | refine ow_shr rfl rfl rfl (by omega) ?_
      | refine ow_makeFunc (fs := []) (cs := []) rfl rfl rfl ?_
      | refine ow_makeFunc (fs := []) (cs := [.pointer _]) rfl rfl rfl ?_
      | refine ow_makeFunc (fs := []) (cs := [.pointer _, .pointer _]) rfl rfl rfl ?_
      | refine ow_makeFunc (fs := []) (cs := [.pointer _, .pointer _, .pointer _]) rfl rfl rfl ?_)
    refine ow_guard_dec rfl rfl rfl (fun _ => ?_) (fun h => (h (by omega)).elim)
    repeat (first
      | refine wc_seq ?_
      | refine wc_block ?_
      | refine wc_region ?_
      | refine ow_nil ?_
      | refine wc_skip ?_
      | refine wc_exit ?_
      | (apply ow_move; (· rfl); (· ((conv => lhs; whnf) <;> rfl)))
      | (apply ow_assign; (· rfl); (· ((conv => lhs; whnf) <;> rfl)))
      | refine ow_extract rfl rfl rfl ?_
      | refine ow_nilCheck_ptr rfl rfl ?_
      | refine ow_nilCheck_ptr0 rfl ?_
      | refine ow_fieldAddr rfl (tyAt rfl) rfl rfl rfl (tyAt rfl) rfl rfl ?_
      | refine ow_guard_yes rfl rfl rfl rfl ?_
      | refine ow_guard_no rfl rfl rfl rfl rfl rfl rfl ?_
      | refine ow_guard_dec rfl rfl rfl (fun _ => ?_) (fun h => (h (by with_reducible rfl)).elim)
      | refine ow_guard_dec rfl rfl rfl (fun h => (h (by with_reducible rfl)).elim) (fun _ => ?_)
      | (apply ow_pick_t; (· rfl); (· rfl); (· ((conv => lhs; whnf) <;> rfl)))
      | (apply ow_pick_f; (· rfl); (· rfl); (· ((conv => lhs; whnf) <;> rfl)))
      | refine wc_cond_true rfl ?_
      | refine wc_cond_false rfl ?_
      | refine ow_add rfl rfl rfl (by simp only [InK]; omega) ?_
      | refine ow_sub rfl rfl rfl (by simp only [InK]; omega) ?_
      | refine ow_lss rfl rfl rfl ?_
      | refine ow_leq rfl rfl rfl ?_
      | refine ow_gtr rfl rfl rfl ?_
      | refine ow_geq rfl rfl rfl ?_
      | refine ow_eql rfl rfl rfl ?_
      | refine ow_neq rfl rfl rfl ?_
      | refine ow_mul rfl rfl rfl (by simp only [InK]; omega) ?_
      | refine ow_quo rfl rfl rfl (by omega) (by omega) (by simp only [InK]; omega) ?_
      | refine ow_rem rfl rfl rfl (by omega) (by omega) ?_
      | refine ow_conv_in rfl rfl (tyAt rfl) (tyAt rfl) rfl (by simp only [InK]; omega) ?_
      | refine ow_conv rfl rfl (tyAt rfl) (tyAt rfl) rfl ?_
      | refine ow_not_dec rfl rfl ?_
      | refine ow_not rfl rfl ?_
      | refine ow_len rfl rfl (tyAt rfl) rfl ?_
      | refine ow_lenStr rfl rfl (tyAt rfl) rfl ?_
      | refine ow_max rfl rfl rfl ?_
      | refine ow_min rfl rfl rfl ?_
      | refine ow_and rfl rfl rfl ?_
      | refine ow_or rfl rfl rfl ?_
      | refine ow_xor rfl rfl rfl ?_
      | refine ow_neg rfl rfl (by simp only [InK]; omega) ?_
      | refine ow_negw rfl rfl ?_
      | refine ow_addw rfl rfl rfl ?_
      | refine ow_subw rfl rfl rfl ?_
      | refine ow_mulw rfl rfl rfl ?_
      | refine ow_compl rfl rfl ?_
      | refine ow_shl rfl rfl rfl (by omega) ?_
      | refine ow_shr rfl rfl rfl (by omega) ?_
      | refine ow_makeFunc (fs := []) (cs := []) rfl rfl rfl ?_
      | refine ow_makeFunc (fs := []) (cs := [.pointer _]) rfl rfl rfl ?_
      | refine ow_makeFunc (fs := []) (cs := [.pointer _, .pointer _]) rfl rfl rfl ?_
      | refine ow_makeFunc (fs := []) (cs := [.pointer _, .pointer _, .pointer _]) rfl rfl rfl ?_)
    refine ow_call rfl rfl (ent (by kernel_rfl)) (CallsV.mono (put_spec x hx _) ?_) rfl
    rintro v w ⟨p7, c7, rfl, H'⟩
    replace H := H.call H'
    repeat (first
      | refine wc_seq ?_
      | refine wc_block ?_
      | refine wc_region ?_
      | refine ow_nil ?_
      | refine wc_skip ?_
      | refine wc_exit ?_
      | (apply ow_move; (· rfl); (· ((conv => lhs; whnf) <;> rfl)))
      | (apply ow_assign; (· rfl); (· ((conv => lhs; whnf) <;> rfl)))
      | refine ow_extract rfl rfl rfl ?_
      | refine ow_nilCheck_ptr rfl rfl ?_
      | refine ow_nilCheck_ptr0 rfl ?_
      | refine ow_fieldAddr rfl (tyAt rfl) rfl rfl rfl (tyAt rfl) rfl rfl ?_
      | refine ow_guard_yes rfl rfl rfl rfl ?_
      | refine ow_guard_no rfl rfl rfl rfl rfl rfl rfl ?_
      | refine ow_guard_dec rfl rfl rfl (fun _ => ?_) (fun h => (h (by with_reducible rfl)).elim)
      | refine ow_guard_dec rfl rfl rfl (fun h => (h (by with_reducible rfl)).elim) (fun _ => ?_)
      | (apply ow_pick_t; (· rfl); (· rfl); (· ((conv => lhs; whnf) <;> rfl)))
      | (apply ow_pick_f; (· rfl); (· rfl); (· ((conv => lhs; whnf) <;> rfl)))
      | refine wc_cond_true rfl ?_
      | refine wc_cond_false rfl ?_
      | refine ow_add rfl rfl rfl (by simp only [InK]; omega) ?_
      | refine ow_sub rfl rfl rfl (by simp only [InK]; omega) ?_
      | refine ow_lss rfl rfl rfl ?_
      | refine ow_leq rfl rfl rfl ?_
      | refine ow_gtr rfl rfl rfl ?_
      | refine ow_geq rfl rfl rfl ?_
      | refine ow_eql rfl rfl rfl ?_
      | refine ow_neq rfl rfl rfl ?_
      | refine ow_mul rfl rfl rfl (by simp only [InK]; omega) ?_
      | refine ow_quo rfl rfl rfl (by omega) (by omega) (by simp only [InK]; omega) ?_
      | refine ow_rem rfl rfl rfl (by omega) (by omega) ?_
      | refine ow_conv_in rfl rfl (tyAt rfl) (tyAt rfl) rfl (by simp only [InK]; omega) ?_
      | refine ow_conv rfl rfl (tyAt rfl) (tyAt rfl) rfl ?_
      | refine ow_not_dec rfl rfl ?_
      | refine ow_not rfl rfl ?_
      | refine ow_len rfl rfl (tyAt rfl) rfl ?_
      | refine ow_lenStr rfl rfl (tyAt rfl) rfl ?_
      | refine ow_max rfl rfl rfl ?_
      | refine ow_min rfl rfl rfl ?_
      | refine ow_and rfl rfl rfl ?_
      | refine ow_or rfl rfl rfl ?_
      | refine ow_xor rfl rfl rfl ?_
      | refine ow_neg rfl rfl (by simp only [InK]; omega) ?_
      | refine ow_negw rfl rfl ?_
      | refine ow_addw rfl rfl rfl ?_
      | refine ow_subw rfl rfl rfl ?_
      | refine ow_mulw rfl rfl rfl ?_
      | refine ow_compl rfl rfl ?_
      | refine ow_shl rfl rfl rfl (by omega) ?_
      | refine ow_shr rfl rfl rfl (by omega) ?_
      | refine ow_makeFunc (fs := []) (cs := []) rfl rfl rfl ?_
      | refine ow_makeFunc (fs := []) (cs := [.pointer _]) rfl rfl rfl ?_
      | refine ow_makeFunc (fs := []) (cs := [.pointer _, .pointer _]) rfl rfl rfl ?_
      | refine ow_makeFunc (fs := []) (cs := [.pointer _, .pointer _, .pointer _]) rfl rfl rfl ?_)
    refine wc_ret ?_
    obtain ⟨w, hT, H⟩ := H.takes Try.prog
    refine ⟨.inr rfl, w, hT, _, .tmp .nil, ?_⟩
    refine ⟨?_, H.sub (List.nil_sublist _)⟩
    refine congrArg Value.bool (decide_eq_true ?_)
    omega
end Go.Proofs.Ytphmjdbdhhbdoaa
