/- The statement's function 'sandtablelaw02.VarintRows' returns true at every row of numbers, and changes nothing that was there. -/
import Derived.Test.YtphmjdbdhhbdoaaV13
import Derived.Test.YtphmjdbdhhbdoaaV12
import Derived.Test.YtphmjdbdhhbdoaaV10
import Derived.Test.YtphmjdbdhhbdoaaK2
namespace Go.Proofs.Ytphmjdbdhhbdoaa
set_option linter.all false
open Go Go.Sx Go.Proofs
set_option maxRecDepth 100000
set_option maxHeartbeats 2000000
theorem rowsB_snoc (ns : List Nat) (n : Nat) : rowsB (ns ++ [n]) = rowsB ns ++ putN n := by simp [rowsB]
theorem rowsAt_snoc : ∀ (ns : List Nat) (a n : Nat), rowsAt a (ns ++ [n]) = rowsAt a ns ++ [a + (rowsB ns).length]
  | [], a, n => by simp [rowsAt, rowsB]
  | m :: ns, a, n => by
    rw [List.cons_append, rowsAt, rowsAt_snoc ns, rowsAt]
    simp [rowsB, Nat.add_assoc]
theorem law02Rows (p : Option Addr) (cap : Nat) (ns : List Nat) (hn : ∀ n ∈ ns, n < 18446744073709551616) (w0 : World) (hs : SlH (hp w0) p (nats .u64 ns)) :
    CallsV Try.prog 8 #[.slice p ns.length cap] w0 fun v w => v = .bool true ∧ St Pu w0 w [] [] := by
  refine callsV_of Try.func8 rfl rfl ?_
  repeat (first
    | refine wc_seq ?_
    | refine wc_region ?_
    | refine ow_nil ?_
    | refine wc_skip ?_
    | refine wc_exit ?_
    | (apply ow_move; (· rfl); (· ((conv => lhs; whnf) <;> rfl)))
    | (apply ow_assign; (· rfl); (· ((conv => lhs; whnf) <;> rfl)))
    | refine ow_extract rfl rfl rfl ?_
    | refine ow_nilCheck_ptr rfl rfl ?_
    | refine ow_nilCheck_ptr0 rfl ?_
    | refine ow_fieldAddr rfl (tyAt rfl) rfl rfl rfl (tyAt rfl) rfl rfl ?_
    | refine ow_guard_yes rfl rfl rfl rfl ?_
    | refine ow_guard_no rfl rfl rfl rfl rfl rfl rfl ?_
    | refine ow_guard_dec rfl rfl rfl (fun _ => ?_) (fun h => (h (by with_reducible rfl)).elim)
    | refine ow_guard_dec rfl rfl rfl (fun h => (h (by with_reducible rfl)).elim) (fun _ => ?_)
    | (apply ow_pick_t; (· rfl); (· rfl); (· ((conv => lhs; whnf) <;> rfl)))
    | (apply ow_pick_f; (· rfl); (· rfl); (· ((conv => lhs; whnf) <;> rfl)))
    | refine wc_cond_true rfl ?_
    | refine wc_cond_false rfl ?_
    | refine ow_add rfl rfl rfl (by simp only [InK]; omega) ?_
    | refine ow_sub rfl rfl rfl (by simp only [InK]; omega) ?_
    | refine ow_lss rfl rfl rfl ?_
    | refine ow_leq rfl rfl rfl ?_
    | refine ow_gtr rfl rfl rfl ?_
    | refine ow_geq rfl rfl rfl ?_
    | refine ow_eql rfl rfl rfl ?_
    | refine ow_neq rfl rfl rfl ?_
    | refine ow_mul rfl rfl rfl (by simp only [InK]; omega) ?_
    | refine ow_quo rfl rfl rfl (by omega) (by omega) (by simp only [InK]; omega) ?_
    | refine ow_rem rfl rfl rfl (by omega) (by omega) ?_
    | refine ow_conv_in rfl rfl (tyAt rfl) (tyAt rfl) rfl (by simp only [InK]; omega) ?_
    | refine ow_conv rfl rfl (tyAt rfl) (tyAt rfl) rfl ?_
    | refine ow_not_dec rfl rfl ?_
    | refine ow_not rfl rfl ?_
    | refine ow_len rfl rfl (tyAt rfl) rfl ?_
    | refine ow_lenStr rfl rfl (tyAt rfl) rfl ?_
    | refine ow_max rfl rfl rfl ?_
    | refine ow_min rfl rfl rfl ?_
    | refine ow_and rfl rfl rfl ?_
    | refine ow_or rfl rfl rfl ?_
    | refine ow_xor rfl rfl rfl ?_
    | refine ow_neg rfl rfl (by simp only [InK]; omega) ?_
    | refine ow_negw rfl rfl ?_
    | refine ow_addw rfl rfl rfl ?_
    | refine ow_subw rfl rfl rfl ?_
    | refine ow_mulw rfl rfl rfl ?_
    | refine ow_compl rfl rfl ?_
    | refine ow_shl rfl rfl rfl (by omega) ?_
    | refine ow_shr rfl rfl rfl (by omega) ?_
    | refine ow_makeFunc (fs := []) (cs := []) rfl rfl rfl ?_
    | refine ow_makeFunc (fs := []) (cs := [.pointer _]) rfl rfl rfl ?_
    | refine ow_makeFunc (fs := []) (cs := [.pointer _, .pointer _]) rfl rfl rfl ?_
    | refine ow_makeFunc (fs := []) (cs := [.pointer _, .pointer _, .pointer _]) rfl rfl rfl ?_)
  refine ow_call rfl rfl (ent (by kernel_rfl)) (CallsV.mono (alive02 w0) ?_) rfl
  rintro v w ⟨rfl, H⟩
  repeat (first
    | refine wc_seq ?_
    | refine wc_region ?_
    | refine ow_nil ?_
    | refine wc_skip ?_
    | refine wc_exit ?_
    | (apply ow_move; (· rfl); (· ((conv => lhs; whnf) <;> rfl)))
    | (apply ow_assign; (· rfl); (· ((conv => lhs; whnf) <;> rfl)))
    | refine ow_extract rfl rfl rfl ?_
    | refine ow_nilCheck_ptr rfl rfl ?_
    | refine ow_nilCheck_ptr0 rfl ?_
    | refine ow_fieldAddr rfl (tyAt rfl) rfl rfl rfl (tyAt rfl) rfl rfl ?_
    | refine ow_guard_yes rfl rfl rfl rfl ?_
    | refine ow_guard_no rfl rfl rfl rfl rfl rfl rfl ?_
    | refine ow_guard_dec rfl rfl rfl (fun _ => ?_) (fun h => (h (by with_reducible rfl)).elim)
    | refine ow_guard_dec rfl rfl rfl (fun h => (h (by with_reducible rfl)).elim) (fun _ => ?_)
    | (apply ow_pick_t; (· rfl); (· rfl); (· ((conv => lhs; whnf) <;> rfl)))
    | (apply ow_pick_f; (· rfl); (· rfl); (· ((conv => lhs; whnf) <;> rfl)))
    | refine wc_cond_true rfl ?_
    | refine wc_cond_false rfl ?_
    | refine ow_add rfl rfl rfl (by simp only [InK]; omega) ?_
    | refine ow_sub rfl rfl rfl (by simp only [InK]; omega) ?_
    | refine ow_lss rfl rfl rfl ?_
    | refine ow_leq rfl rfl rfl ?_
    | refine ow_gtr rfl rfl rfl ?_
    | refine ow_geq rfl rfl rfl ?_
    | refine ow_eql rfl rfl rfl ?_
    | refine ow_neq rfl rfl rfl ?_
    | refine ow_mul rfl rfl rfl (by simp only [InK]; omega) ?_
    | refine ow_quo rfl rfl rfl (by omega) (by omega) (by simp only [InK]; omega) ?_
    | refine ow_rem rfl rfl rfl (by omega) (by omega) ?_
    | refine ow_conv_in rfl rfl (tyAt rfl) (tyAt rfl) rfl (by simp only [InK]; omega) ?_
    | refine ow_conv rfl rfl (tyAt rfl) (tyAt rfl) rfl ?_
    | refine ow_not_dec rfl rfl ?_
    | refine ow_not rfl rfl ?_
    | refine ow_len rfl rfl (tyAt rfl) rfl ?_
    | refine ow_lenStr rfl rfl (tyAt rfl) rfl ?_
    | refine ow_max rfl rfl rfl ?_
    | refine ow_min rfl rfl rfl ?_
    | refine ow_and rfl rfl rfl ?_
    | refine ow_or rfl rfl rfl ?_
    | refine ow_xor rfl rfl rfl ?_
    | refine ow_neg rfl rfl (by simp only [InK]; omega) ?_
    | refine ow_negw rfl rfl ?_
    | refine ow_addw rfl rfl rfl ?_
    | refine ow_subw rfl rfl rfl ?_
    | refine ow_mulw rfl rfl rfl ?_
    | refine ow_compl rfl rfl ?_
    | refine ow_shl rfl rfl rfl (by omega) ?_
    | refine ow_shr rfl rfl rfl (by omega) ?_
    | refine ow_makeFunc (fs := []) (cs := []) rfl rfl rfl ?_
    | refine ow_makeFunc (fs := []) (cs := [.pointer _]) rfl rfl rfl ?_
    | refine ow_makeFunc (fs := []) (cs := [.pointer _, .pointer _]) rfl rfl rfl ?_
    | refine ow_makeFunc (fs := []) (cs := [.pointer _, .pointer _, .pointer _]) rfl rfl rfl ?_)
  refine wc_cond_dec rfl (fun h => ?_) (fun h => ?_) <;> try dsimp only at h
  · repeat (first
      | refine wc_seq ?_
      | refine wc_block ?_
      | refine wc_region ?_
      | refine ow_nil ?_
      | refine wc_skip ?_
      | refine wc_exit ?_
      | (apply ow_move; (· rfl); (· ((conv => lhs; whnf) <;> rfl)))
      | (apply ow_assign; (· rfl); (· ((conv => lhs; whnf) <;> rfl)))
      | refine ow_extract rfl rfl rfl ?_
      | refine ow_nilCheck_ptr rfl rfl ?_
      | refine ow_nilCheck_ptr0 rfl ?_
      | refine ow_fieldAddr rfl (tyAt rfl) rfl rfl rfl (tyAt rfl) rfl rfl ?_
      | refine ow_guard_yes rfl rfl rfl rfl ?_
      | refine ow_guard_no rfl rfl rfl rfl rfl rfl rfl ?_
      | refine ow_guard_dec rfl rfl rfl (fun _ => ?_) (fun h => (h (by with_reducible rfl)).elim)
      | refine ow_guard_dec rfl rfl rfl (fun h => (h (by with_reducible rfl)).elim) (fun _ => ?_)
      | (apply ow_pick_t; (· rfl); (· rfl); (· ((conv => lhs; whnf) <;> rfl)))
      | (apply ow_pick_f; (· rfl); (· rfl); (· ((conv => lhs; whnf) <;> rfl)))
      | refine wc_cond_true rfl ?_
      | refine wc_cond_false rfl ?_
      | refine ow_add rfl rfl rfl (by simp only [InK]; omega) ?_
      | refine ow_sub rfl rfl rfl (by simp only [InK]; omega) ?_
      | refine ow_lss rfl rfl rfl ?_
      | refine ow_leq rfl rfl rfl ?_
      | refine ow_gtr rfl rfl rfl ?_
      | refine ow_geq rfl rfl rfl ?_
      | refine ow_eql rfl rfl rfl ?_
      | refine ow_neq rfl rfl rfl ?_
      | refine ow_mul rfl rfl rfl (by simp only [InK]; omega) ?_
      | refine ow_quo rfl rfl rfl (by omega) (by omega) (by simp only [InK]; omega) ?_
      | refine ow_rem rfl rfl rfl (by omega) (by omega) ?_
      | refine ow_conv_in rfl rfl (tyAt rfl) (tyAt rfl) rfl (by simp only [InK]; omega) ?_
      | refine ow_conv rfl rfl (tyAt rfl) (tyAt rfl) rfl ?_
      | refine ow_not_dec rfl rfl ?_
      | refine ow_not rfl rfl ?_
      | refine ow_len rfl rfl (tyAt rfl) rfl ?_
      | refine ow_lenStr rfl rfl (tyAt rfl) rfl ?_
      | refine ow_max rfl rfl rfl ?_
      | refine ow_min rfl rfl rfl ?_
      | refine ow_and rfl rfl rfl ?_
      | refine ow_or rfl rfl rfl ?_
      | refine ow_xor rfl rfl rfl ?_
      | refine ow_neg rfl rfl (by simp only [InK]; omega) ?_
      | refine ow_negw rfl rfl ?_
      | refine ow_addw rfl rfl rfl ?_
      | refine ow_subw rfl rfl rfl ?_
      | refine ow_mulw rfl rfl rfl ?_
      | refine ow_compl rfl rfl ?_
      | refine ow_shl rfl rfl rfl (by omega) ?_
      | refine ow_shr rfl rfl rfl (by omega) ?_
      | refine ow_makeFunc (fs := []) (cs := []) rfl rfl rfl ?_
      | refine ow_makeFunc (fs := []) (cs := [.pointer _]) rfl rfl rfl ?_
      | refine ow_makeFunc (fs := []) (cs := [.pointer _, .pointer _]) rfl rfl rfl ?_
      | refine ow_makeFunc (fs := []) (cs := [.pointer _, .pointer _, .pointer _]) rfl rfl rfl ?_)
    refine wc_ret ?_
    obtain ⟨w, hT, H⟩ := H.takes Try.prog
    refine ⟨.inr rfl, w, hT, _, .tmp .nil, ?_⟩
    exact ⟨rfl, H⟩
  have hl60 : ns.length ≤ 60 := by omega
  clear h
  repeat (first
    | refine wc_seq ?_
    | refine wc_region ?_
    | refine ow_nil ?_
    | refine wc_skip ?_
    | refine wc_exit ?_
    | (apply ow_move; (· rfl); (· ((conv => lhs; whnf) <;> rfl)))
    | (apply ow_assign; (· rfl); (· ((conv => lhs; whnf) <;> rfl)))
    | refine ow_extract rfl rfl rfl ?_
    | refine ow_nilCheck_ptr rfl rfl ?_
    | refine ow_nilCheck_ptr0 rfl ?_
    | refine ow_fieldAddr rfl (tyAt rfl) rfl rfl rfl (tyAt rfl) rfl rfl ?_
    | refine ow_guard_yes rfl rfl rfl rfl ?_
    | refine ow_guard_no rfl rfl rfl rfl rfl rfl rfl ?_
    | refine ow_guard_dec rfl rfl rfl (fun _ => ?_) (fun h => (h (by with_reducible rfl)).elim)
    | refine ow_guard_dec rfl rfl rfl (fun h => (h (by with_reducible rfl)).elim) (fun _ => ?_)
    | (apply ow_pick_t; (· rfl); (· rfl); (· ((conv => lhs; whnf) <;> rfl)))
    | (apply ow_pick_f; (· rfl); (· rfl); (· ((conv => lhs; whnf) <;> rfl)))
    | refine wc_cond_true rfl ?_
    | refine wc_cond_false rfl ?_
    | refine ow_add rfl rfl rfl (by simp only [InK]; omega) ?_
    | refine ow_sub rfl rfl rfl (by simp only [InK]; omega) ?_
    | refine ow_lss rfl rfl rfl ?_
    | refine ow_leq rfl rfl rfl ?_
    | refine ow_gtr rfl rfl rfl ?_
    | refine ow_geq rfl rfl rfl ?_
    | refine ow_eql rfl rfl rfl ?_
    | refine ow_neq rfl rfl rfl ?_
    | refine ow_mul rfl rfl rfl (by simp only [InK]; omega) ?_
    | refine ow_quo rfl rfl rfl (by omega) (by omega) (by simp only [InK]; omega) ?_
    | refine ow_rem rfl rfl rfl (by omega) (by omega) ?_
    | refine ow_conv_in rfl rfl (tyAt rfl) (tyAt rfl) rfl (by simp only [InK]; omega) ?_
    | refine ow_conv rfl rfl (tyAt rfl) (tyAt rfl) rfl ?_
    | refine ow_not_dec rfl rfl ?_
    | refine ow_not rfl rfl ?_
    | refine ow_len rfl rfl (tyAt rfl) rfl ?_
    | refine ow_lenStr rfl rfl (tyAt rfl) rfl ?_
    | refine ow_max rfl rfl rfl ?_
    | refine ow_min rfl rfl rfl ?_
    | refine ow_and rfl rfl rfl ?_
    | refine ow_or rfl rfl rfl ?_
    | refine ow_xor rfl rfl rfl ?_
    | refine ow_neg rfl rfl (by simp only [InK]; omega) ?_
    | refine ow_negw rfl rfl ?_
    | refine ow_addw rfl rfl rfl ?_
    | refine ow_subw rfl rfl rfl ?_
    | refine ow_mulw rfl rfl rfl ?_
    | refine ow_compl rfl rfl ?_
    | refine ow_shl rfl rfl rfl (by omega) ?_
    | refine ow_shr rfl rfl rfl (by omega) ?_
    | refine ow_makeFunc (fs := []) (cs := []) rfl rfl rfl ?_
    | refine ow_makeFunc (fs := []) (cs := [.pointer _]) rfl rfl rfl ?_
    | refine ow_makeFunc (fs := []) (cs := [.pointer _, .pointer _]) rfl rfl rfl ?_
    | refine ow_makeFunc (fs := []) (cs := [.pointer _, .pointer _, .pointer _]) rfl rfl rfl ?_)
  refine ow_buildSlice1 (vs := []) H rfl (tyAt rfl) rfl (tyAt rfl) rfl rfl rfl rfl rfl (by simp [Value.one]) (fun b w H => ?_)
  repeat (first
    | refine wc_seq ?_
    | refine wc_region ?_
    | refine ow_nil ?_
    | refine wc_skip ?_
    | refine wc_exit ?_
    | (apply ow_move; (· rfl); (· ((conv => lhs; whnf) <;> rfl)))
    | (apply ow_assign; (· rfl); (· ((conv => lhs; whnf) <;> rfl)))
    | refine ow_extract rfl rfl rfl ?_
    | refine ow_nilCheck_ptr rfl rfl ?_
    | refine ow_nilCheck_ptr0 rfl ?_
    | refine ow_fieldAddr rfl (tyAt rfl) rfl rfl rfl (tyAt rfl) rfl rfl ?_
    | refine ow_guard_yes rfl rfl rfl rfl ?_
    | refine ow_guard_no rfl rfl rfl rfl rfl rfl rfl ?_
    | refine ow_guard_dec rfl rfl rfl (fun _ => ?_) (fun h => (h (by with_reducible rfl)).elim)
    | refine ow_guard_dec rfl rfl rfl (fun h => (h (by with_reducible rfl)).elim) (fun _ => ?_)
    | (apply ow_pick_t; (· rfl); (· rfl); (· ((conv => lhs; whnf) <;> rfl)))
    | (apply ow_pick_f; (· rfl); (· rfl); (· ((conv => lhs; whnf) <;> rfl)))
    | refine wc_cond_true rfl ?_
    | refine wc_cond_false rfl ?_
    | refine ow_add rfl rfl rfl (by simp only [InK]; omega) ?_
    | refine ow_sub rfl rfl rfl (by simp only [InK]; omega) ?_
    | refine ow_lss rfl rfl rfl ?_
    | refine ow_leq rfl rfl rfl ?_
    | refine ow_gtr rfl rfl rfl ?_
    | refine ow_geq rfl rfl rfl ?_
    | refine ow_eql rfl rfl rfl ?_
    | refine ow_neq rfl rfl rfl ?_
    | refine ow_mul rfl rfl rfl (by simp only [InK]; omega) ?_
    | refine ow_quo rfl rfl rfl (by omega) (by omega) (by simp only [InK]; omega) ?_
    | refine ow_rem rfl rfl rfl (by omega) (by omega) ?_
    | refine ow_conv_in rfl rfl (tyAt rfl) (tyAt rfl) rfl (by simp only [InK]; omega) ?_
    | refine ow_conv rfl rfl (tyAt rfl) (tyAt rfl) rfl ?_
    | refine ow_not_dec rfl rfl ?_
    | refine ow_not rfl rfl ?_
    | refine ow_len rfl rfl (tyAt rfl) rfl ?_
    | refine ow_lenStr rfl rfl (tyAt rfl) rfl ?_
    | refine ow_max rfl rfl rfl ?_
    | refine ow_min rfl rfl rfl ?_
    | refine ow_and rfl rfl rfl ?_
    | refine ow_or rfl rfl rfl ?_
    | refine ow_xor rfl rfl rfl ?_
    | refine ow_neg rfl rfl (by simp only [InK]; omega) ?_
    | refine ow_negw rfl rfl ?_
    | refine ow_addw rfl rfl rfl ?_
    | refine ow_subw rfl rfl rfl ?_
    | refine ow_mulw rfl rfl rfl ?_
    | refine ow_compl rfl rfl ?_
    | refine ow_shl rfl rfl rfl (by omega) ?_
    | refine ow_shr rfl rfl rfl (by omega) ?_
    | refine ow_makeFunc (fs := []) (cs := []) rfl rfl rfl ?_
    | refine ow_makeFunc (fs := []) (cs := [.pointer _]) rfl rfl rfl ?_
    | refine ow_makeFunc (fs := []) (cs := [.pointer _, .pointer _]) rfl rfl rfl ?_
    | refine ow_makeFunc (fs := []) (cs := [.pointer _, .pointer _, .pointer _]) rfl rfl rfl ?_)
  refine ow_buildSlice1 (vs := []) H rfl (tyAt rfl) rfl (tyAt rfl) rfl rfl rfl rfl rfl (by simp [Value.one]) (fun b w H => ?_)
  repeat (first
    | refine wc_seq ?_
    | refine wc_region ?_
    | refine ow_nil ?_
    | refine wc_skip ?_
    | refine wc_exit ?_
    | (apply ow_move; (· rfl); (· ((conv => lhs; whnf) <;> rfl)))
    | (apply ow_assign; (· rfl); (· ((conv => lhs; whnf) <;> rfl)))
    | refine ow_extract rfl rfl rfl ?_
    | refine ow_nilCheck_ptr rfl rfl ?_
    | refine ow_nilCheck_ptr0 rfl ?_
    | refine ow_fieldAddr rfl (tyAt rfl) rfl rfl rfl (tyAt rfl) rfl rfl ?_
    | refine ow_guard_yes rfl rfl rfl rfl ?_
    | refine ow_guard_no rfl rfl rfl rfl rfl rfl rfl ?_
    | refine ow_guard_dec rfl rfl rfl (fun _ => ?_) (fun h => (h (by with_reducible rfl)).elim)
    | refine ow_guard_dec rfl rfl rfl (fun h => (h (by with_reducible rfl)).elim) (fun _ => ?_)
    | (apply ow_pick_t; (· rfl); (· rfl); (· ((conv => lhs; whnf) <;> rfl)))
    | (apply ow_pick_f; (· rfl); (· rfl); (· ((conv => lhs; whnf) <;> rfl)))
    | refine wc_cond_true rfl ?_
    | refine wc_cond_false rfl ?_
    | refine ow_add rfl rfl rfl (by simp only [InK]; omega) ?_
    | refine ow_sub rfl rfl rfl (by simp only [InK]; omega) ?_
    | refine ow_lss rfl rfl rfl ?_
    | refine ow_leq rfl rfl rfl ?_
    | refine ow_gtr rfl rfl rfl ?_
    | refine ow_geq rfl rfl rfl ?_
    | refine ow_eql rfl rfl rfl ?_
    | refine ow_neq rfl rfl rfl ?_
    | refine ow_mul rfl rfl rfl (by simp only [InK]; omega) ?_
    | refine ow_quo rfl rfl rfl (by omega) (by omega) (by simp only [InK]; omega) ?_
    | refine ow_rem rfl rfl rfl (by omega) (by omega) ?_
    | refine ow_conv_in rfl rfl (tyAt rfl) (tyAt rfl) rfl (by simp only [InK]; omega) ?_
    | refine ow_conv rfl rfl (tyAt rfl) (tyAt rfl) rfl ?_
    | refine ow_not_dec rfl rfl ?_
    | refine ow_not rfl rfl ?_
    | refine ow_len rfl rfl (tyAt rfl) rfl ?_
    | refine ow_lenStr rfl rfl (tyAt rfl) rfl ?_
    | refine ow_max rfl rfl rfl ?_
    | refine ow_min rfl rfl rfl ?_
    | refine ow_and rfl rfl rfl ?_
    | refine ow_or rfl rfl rfl ?_
    | refine ow_xor rfl rfl rfl ?_
    | refine ow_neg rfl rfl (by simp only [InK]; omega) ?_
    | refine ow_negw rfl rfl ?_
    | refine ow_addw rfl rfl rfl ?_
    | refine ow_subw rfl rfl rfl ?_
    | refine ow_mulw rfl rfl rfl ?_
    | refine ow_compl rfl rfl ?_
    | refine ow_shl rfl rfl rfl (by omega) ?_
    | refine ow_shr rfl rfl rfl (by omega) ?_
    | refine ow_makeFunc (fs := []) (cs := []) rfl rfl rfl ?_
    | refine ow_makeFunc (fs := []) (cs := [.pointer _]) rfl rfl rfl ?_
    | refine ow_makeFunc (fs := []) (cs := [.pointer _, .pointer _]) rfl rfl rfl ?_
    | refine ow_makeFunc (fs := []) (cs := [.pointer _, .pointer _, .pointer _]) rfl rfl rfl ?_)
  replace H := H.rowApp (i := 0) (len := 0) (sz := 1) rfl rfl (by omega)
  replace H := H.rowApp (i := 1) (len := 0) (sz := 1) rfl rfl (by omega)
  dsimp only [List.set] at H
  have hz := allL_rows ns hn
  have hmx := rowsB_max ns hn
  refine wc_blockJ [3, 4, 6, 19, 20, 21, 22, 23, 24, 25, 26, 27, 28, 29, 30, 31, 32]
    (fun (s : Option Addr × Nat × Option Addr × Nat) e => upd (upd e 3 (.slice s.1 (rowsB ns).length s.2.1)) 4 (.slice s.2.2.1 ns.length s.2.2.2))
    (fun s D w => D = [] ∧ St Pu w0 w [.app s.2.2.1 ns.length s.2.2.2 3 1 (nats .i64 (rowsAt 0 ns)), .app s.1 (rowsB ns).length s.2.1 5 1 (nats .u8 (rowsB ns))] []) ?_ ?_
  · refine wc_loopS [3, 4, 6, 19, 20, 21, 22, 23, 24, 25, 26, 27, 28, 29, 30, 31, 32]
      (fun (s : Nat × Option Addr × Nat × Option Addr × Nat) e => upd (upd (upd e 3 (.slice s.2.1 (rowsB (ns.take s.1)).length s.2.2.1)) 4 (.slice s.2.2.2.1 s.1 s.2.2.2.2)) 19 (.int .i64 s.1))
      (fun s D w => D = [] ∧ s.1 ≤ ns.length ∧ St Pu w0 w [.app s.2.2.2.1 s.1 s.2.2.2.2 3 1 (nats .i64 (rowsAt 0 (ns.take s.1))), .app s.2.1 (rowsB (ns.take s.1)).length s.2.2.1 5 1 (nats .u8 (rowsB (ns.take s.1)))] [])
      (fun s _ => ns.length - s.1) (0, _, _, _, _) (by first | exact rfl | exact upd_self' rfl rfl | exact upd_self' rfl (upd_self' rfl rfl) | exact upd_self' rfl (upd_self' rfl (upd_self' rfl rfl)) | exact upd_self' rfl (upd_self' rfl (upd_self' rfl (upd_self' rfl rfl)))) ⟨rfl, Nat.zero_le _, H⟩ ?_
    clear H w
    rintro ⟨k, p3, c3, p4, c4⟩ j D w ⟨rfl, hk, H⟩
    dsimp only at hk H ⊢
    repeat (first
      | refine wc_seq ?_
      | refine wc_block ?_
      | refine wc_region ?_
      | refine ow_nil ?_
      | refine wc_skip ?_
      | refine wc_exit ?_
      | (apply ow_move; (· rfl); (· ((conv => lhs; whnf) <;> rfl)))
      | (apply ow_assign; (· rfl); (· ((conv => lhs; whnf) <;> rfl)))
      | refine ow_extract rfl rfl rfl ?_
      | refine ow_nilCheck_ptr rfl rfl ?_
      | refine ow_nilCheck_ptr0 rfl ?_
      | refine ow_fieldAddr rfl (tyAt rfl) rfl rfl rfl (tyAt rfl) rfl rfl ?_
      | refine ow_guard_yes rfl rfl rfl rfl ?_
      | refine ow_guard_no rfl rfl rfl rfl rfl rfl rfl ?_
      | refine ow_guard_dec rfl rfl rfl (fun _ => ?_) (fun h => (h (by with_reducible rfl)).elim)
      | refine ow_guard_dec rfl rfl rfl (fun h => (h (by with_reducible rfl)).elim) (fun _ => ?_)
      | (apply ow_pick_t; (· rfl); (· rfl); (· ((conv => lhs; whnf) <;> rfl)))
      | (apply ow_pick_f; (· rfl); (· rfl); (· ((conv => lhs; whnf) <;> rfl)))
      | refine wc_cond_true rfl ?_
      | refine wc_cond_false rfl ?_
      | refine ow_add rfl rfl rfl (by simp only [InK]; omega) ?_
      | refine ow_sub rfl rfl rfl (by simp only [InK]; omega) ?_
      | refine ow_lss rfl rfl rfl ?_
      | refine ow_leq rfl rfl rfl ?_
      | refine ow_gtr rfl rfl rfl ?_
      | refine ow_geq rfl rfl rfl ?_
      | refine ow_eql rfl rfl rfl ?_
      | refine ow_neq rfl rfl rfl ?_
      | refine ow_mul rfl rfl rfl (by simp only [InK]; omega) ?_
      | refine ow_quo rfl rfl rfl (by omega) (by omega) (by simp only [InK]; omega) ?_
      | refine ow_rem rfl rfl rfl (by omega) (by omega) ?_
      | refine ow_conv_in rfl rfl (tyAt rfl) (tyAt rfl) rfl (by simp only [InK]; omega) ?_
      | refine ow_conv rfl rfl (tyAt rfl) (tyAt rfl) rfl ?_
      | refine ow_not_dec rfl rfl ?_
      | refine ow_not rfl rfl ?_
      | refine ow_len rfl rfl (tyAt rfl) rfl ?_
      | refine ow_lenStr rfl rfl (tyAt rfl) rfl ?_
      | refine ow_max rfl rfl rfl ?_
      | refine ow_min rfl rfl rfl ?_
      | refine ow_and rfl rfl rfl ?_
      | refine ow_or rfl rfl rfl ?_
      | refine ow_xor rfl rfl rfl ?_
      | refine ow_neg rfl rfl (by simp only [InK]; omega) ?_
      | refine ow_negw rfl rfl ?_
      | refine ow_addw rfl rfl rfl ?_
      | refine ow_subw rfl rfl rfl ?_
      | refine ow_mulw rfl rfl rfl ?_
      | refine ow_compl rfl rfl ?_
      | refine ow_shl rfl rfl rfl (by omega) ?_
      | refine ow_shr rfl rfl rfl (by omega) ?_
      | refine ow_makeFunc (fs := []) (cs := []) rfl rfl rfl ?_
      | refine ow_makeFunc (fs := []) (cs := [.pointer _]) rfl rfl rfl ?_
      | refine ow_makeFunc (fs := []) (cs := [.pointer _, .pointer _]) rfl rfl rfl ?_
      | refine ow_makeFunc (fs := []) (cs := [.pointer _, .pointer _, .pointer _]) rfl rfl rfl ?_)
    refine wc_cond_dec rfl (fun h => ?_) (fun h => ?_) <;> try dsimp only at h
    · have hlt : k < ns.length := by omega
      have hs' := H.oldSl hs
      have hload := fun b o (h : p = some ⟨b, o, none⟩) => SlH.nat (w := w) (h ▸ hs') hlt
      obtain ⟨b, o, rfl⟩ := hs'.some_of (by simp; omega)
      replace hload := hload b o rfl
      have hat : ns[k]? = some (ns.getD k 0) := by rw [List.getD, List.getElem?_eq_getElem hlt]; rfl
      obtain ⟨nk, hnk⟩ : ∃ x, ns.getD k 0 = x := ⟨_, rfl⟩
      rw [hnk] at hload hat
      have hlk := hn _ (List.mem_of_getElem? hat)
      have htk : ns.take (k + 1) = ns.take k ++ [nk] := take_snoc hat
      have hm2 := rowsB_max (ns.take k) (fun x hx => hn x (List.mem_of_mem_take hx))
      rw [List.length_take, Nat.min_eq_left hk] at hm2
      have hp10 := putN_len10 hlk
      obtain ⟨lk, hlk1⟩ : ∃ x, rowsB (ns.take k) = x := ⟨_, rfl⟩
      rw [hlk1] at H hm2 ⊢
      repeat (first
        | refine wc_seq ?_
        | refine wc_block ?_
        | refine wc_region ?_
        | refine ow_nil ?_
        | refine wc_skip ?_
        | refine wc_exit ?_
        | (apply ow_move; (· rfl); (· ((conv => lhs; whnf) <;> rfl)))
        | (apply ow_assign; (· rfl); (· ((conv => lhs; whnf) <;> rfl)))
        | refine ow_extract rfl rfl rfl ?_
        | refine ow_nilCheck_ptr rfl rfl ?_
        | refine ow_nilCheck_ptr0 rfl ?_
        | refine ow_fieldAddr rfl (tyAt rfl) rfl rfl rfl (tyAt rfl) rfl rfl ?_
        | refine ow_guard_yes rfl rfl rfl rfl ?_
        | refine ow_guard_no rfl rfl rfl rfl rfl rfl rfl ?_
        | refine ow_guard_dec rfl rfl rfl (fun _ => ?_) (fun h => (h (by with_reducible rfl)).elim)
        | refine ow_guard_dec rfl rfl rfl (fun h => (h (by with_reducible rfl)).elim) (fun _ => ?_)
        | (apply ow_pick_t; (· rfl); (· rfl); (· ((conv => lhs; whnf) <;> rfl)))
        | (apply ow_pick_f; (· rfl); (· rfl); (· ((conv => lhs; whnf) <;> rfl)))
        | refine wc_cond_true rfl ?_
        | refine wc_cond_false rfl ?_
        | refine ow_add rfl rfl rfl (by simp only [InK]; omega) ?_
        | refine ow_sub rfl rfl rfl (by simp only [InK]; omega) ?_
        | refine ow_lss rfl rfl rfl ?_
        | refine ow_leq rfl rfl rfl ?_
        | refine ow_gtr rfl rfl rfl ?_
        | refine ow_geq rfl rfl rfl ?_
        | refine ow_eql rfl rfl rfl ?_
        | refine ow_neq rfl rfl rfl ?_
        | refine ow_mul rfl rfl rfl (by simp only [InK]; omega) ?_
        | refine ow_quo rfl rfl rfl (by omega) (by omega) (by simp only [InK]; omega) ?_
        | refine ow_rem rfl rfl rfl (by omega) (by omega) ?_
        | refine ow_conv_in rfl rfl (tyAt rfl) (tyAt rfl) rfl (by simp only [InK]; omega) ?_
        | refine ow_conv rfl rfl (tyAt rfl) (tyAt rfl) rfl ?_
        | refine ow_not_dec rfl rfl ?_
        | refine ow_not rfl rfl ?_
        | refine ow_len rfl rfl (tyAt rfl) rfl ?_
        | refine ow_lenStr rfl rfl (tyAt rfl) rfl ?_
        | refine ow_max rfl rfl rfl ?_
        | refine ow_min rfl rfl rfl ?_
        | refine ow_and rfl rfl rfl ?_
        | refine ow_or rfl rfl rfl ?_
        | refine ow_xor rfl rfl rfl ?_
        | refine ow_neg rfl rfl (by simp only [InK]; omega) ?_
        | refine ow_negw rfl rfl ?_
        | refine ow_addw rfl rfl rfl ?_
        | refine ow_subw rfl rfl rfl ?_
        | refine ow_mulw rfl rfl rfl ?_
        | refine ow_compl rfl rfl ?_
        | refine ow_shl rfl rfl rfl (by omega) ?_
        | refine ow_shr rfl rfl rfl (by omega) ?_
        | refine ow_makeFunc (fs := []) (cs := []) rfl rfl rfl ?_
        | refine ow_makeFunc (fs := []) (cs := [.pointer _]) rfl rfl rfl ?_
        | refine ow_makeFunc (fs := []) (cs := [.pointer _, .pointer _]) rfl rfl rfl ?_
        | refine ow_makeFunc (fs := []) (cs := [.pointer _, .pointer _, .pointer _]) rfl rfl rfl ?_)
      refine ow_idx1 (j := k) rfl (tyAt rfl) rfl (tyAt rfl) rfl rfl (by first | rfl | omega) (by omega) rfl ?_
      refine ow_load rfl (tyAt rfl) rfl rfl (hload) ?_
      repeat (first
        | refine wc_seq ?_
        | refine wc_block ?_
        | refine wc_region ?_
        | refine ow_nil ?_
        | refine wc_skip ?_
        | refine wc_exit ?_
        | (apply ow_move; (· rfl); (· ((conv => lhs; whnf) <;> rfl)))
        | (apply ow_assign; (· rfl); (· ((conv => lhs; whnf) <;> rfl)))
        | refine ow_extract rfl rfl rfl ?_
        | refine ow_nilCheck_ptr rfl rfl ?_
        | refine ow_nilCheck_ptr0 rfl ?_
        | refine ow_fieldAddr rfl (tyAt rfl) rfl rfl rfl (tyAt rfl) rfl rfl ?_
        | refine ow_guard_yes rfl rfl rfl rfl ?_
        | refine ow_guard_no rfl rfl rfl rfl rfl rfl rfl ?_
        | refine ow_guard_dec rfl rfl rfl (fun _ => ?_) (fun h => (h (by with_reducible rfl)).elim)
        | refine ow_guard_dec rfl rfl rfl (fun h => (h (by with_reducible rfl)).elim) (fun _ => ?_)
        | (apply ow_pick_t; (· rfl); (· rfl); (· ((conv => lhs; whnf) <;> rfl)))
        | (apply ow_pick_f; (· rfl); (· rfl); (· ((conv => lhs; whnf) <;> rfl)))
        | refine wc_cond_true rfl ?_
        | refine wc_cond_false rfl ?_
        | refine ow_add rfl rfl rfl (by simp only [InK]; omega) ?_
        | refine ow_sub rfl rfl rfl (by simp only [InK]; omega) ?_
        | refine ow_lss rfl rfl rfl ?_
        | refine ow_leq rfl rfl rfl ?_
        | refine ow_gtr rfl rfl rfl ?_
        | refine ow_geq rfl rfl rfl ?_
        | refine ow_eql rfl rfl rfl ?_
        | refine ow_neq rfl rfl rfl ?_
        | refine ow_mul rfl rfl rfl (by simp only [InK]; omega) ?_
        | refine ow_quo rfl rfl rfl (by omega) (by omega) (by simp only [InK]; omega) ?_
        | refine ow_rem rfl rfl rfl (by omega) (by omega) ?_
        | refine ow_conv_in rfl rfl (tyAt rfl) (tyAt rfl) rfl (by simp only [InK]; omega) ?_
        | refine ow_conv rfl rfl (tyAt rfl) (tyAt rfl) rfl ?_
        | refine ow_not_dec rfl rfl ?_
        | refine ow_not rfl rfl ?_
        | refine ow_len rfl rfl (tyAt rfl) rfl ?_
        | refine ow_lenStr rfl rfl (tyAt rfl) rfl ?_
        | refine ow_max rfl rfl rfl ?_
        | refine ow_min rfl rfl rfl ?_
        | refine ow_and rfl rfl rfl ?_
        | refine ow_or rfl rfl rfl ?_
        | refine ow_xor rfl rfl rfl ?_
        | refine ow_neg rfl rfl (by simp only [InK]; omega) ?_
        | refine ow_negw rfl rfl ?_
        | refine ow_addw rfl rfl rfl ?_
        | refine ow_subw rfl rfl rfl ?_
        | refine ow_mulw rfl rfl rfl ?_
        | refine ow_compl rfl rfl ?_
        | refine ow_shl rfl rfl rfl (by omega) ?_
        | refine ow_shr rfl rfl rfl (by omega) ?_
        | refine ow_makeFunc (fs := []) (cs := []) rfl rfl rfl ?_
        | refine ow_makeFunc (fs := []) (cs := [.pointer _]) rfl rfl rfl ?_
        | refine ow_makeFunc (fs := []) (cs := [.pointer _, .pointer _]) rfl rfl rfl ?_
        | refine ow_makeFunc (fs := []) (cs := [.pointer _, .pointer _, .pointer _]) rfl rfl rfl ?_)
      refine ow_buildSlice1 (vs := [.int _ _]) H rfl (tyAt rfl) rfl (tyAt rfl) rfl rfl rfl rfl rfl (by simp [Value.one]) (fun b w H => ?_)
      repeat (first
        | refine wc_seq ?_
        | refine wc_block ?_
        | refine wc_region ?_
        | refine ow_nil ?_
        | refine wc_skip ?_
        | refine wc_exit ?_
        | (apply ow_move; (· rfl); (· ((conv => lhs; whnf) <;> rfl)))
        | (apply ow_assign; (· rfl); (· ((conv => lhs; whnf) <;> rfl)))
        | refine ow_extract rfl rfl rfl ?_
        | refine ow_nilCheck_ptr rfl rfl ?_
        | refine ow_nilCheck_ptr0 rfl ?_
        | refine ow_fieldAddr rfl (tyAt rfl) rfl rfl rfl (tyAt rfl) rfl rfl ?_
        | refine ow_guard_yes rfl rfl rfl rfl ?_
        | refine ow_guard_no rfl rfl rfl rfl rfl rfl rfl ?_
        | refine ow_guard_dec rfl rfl rfl (fun _ => ?_) (fun h => (h (by with_reducible rfl)).elim)
        | refine ow_guard_dec rfl rfl rfl (fun h => (h (by with_reducible rfl)).elim) (fun _ => ?_)
        | (apply ow_pick_t; (· rfl); (· rfl); (· ((conv => lhs; whnf) <;> rfl)))
        | (apply ow_pick_f; (· rfl); (· rfl); (· ((conv => lhs; whnf) <;> rfl)))
        | refine wc_cond_true rfl ?_
        | refine wc_cond_false rfl ?_
        | refine ow_add rfl rfl rfl (by simp only [InK]; omega) ?_
        | refine ow_sub rfl rfl rfl (by simp only [InK]; omega) ?_
        | refine ow_lss rfl rfl rfl ?_
        | refine ow_leq rfl rfl rfl ?_
        | refine ow_gtr rfl rfl rfl ?_
        | refine ow_geq rfl rfl rfl ?_
        | refine ow_eql rfl rfl rfl ?_
        | refine ow_neq rfl rfl rfl ?_
        | refine ow_mul rfl rfl rfl (by simp only [InK]; omega) ?_
        | refine ow_quo rfl rfl rfl (by omega) (by omega) (by simp only [InK]; omega) ?_
        | refine ow_rem rfl rfl rfl (by omega) (by omega) ?_
        | refine ow_conv_in rfl rfl (tyAt rfl) (tyAt rfl) rfl (by simp only [InK]; omega) ?_
        | refine ow_conv rfl rfl (tyAt rfl) (tyAt rfl) rfl ?_
        | refine ow_not_dec rfl rfl ?_
        | refine ow_not rfl rfl ?_
        | refine ow_len rfl rfl (tyAt rfl) rfl ?_
        | refine ow_lenStr rfl rfl (tyAt rfl) rfl ?_
        | refine ow_max rfl rfl rfl ?_
        | refine ow_min rfl rfl rfl ?_
        | refine ow_and rfl rfl rfl ?_
        | refine ow_or rfl rfl rfl ?_
        | refine ow_xor rfl rfl rfl ?_
        | refine ow_neg rfl rfl (by simp only [InK]; omega) ?_
        | refine ow_negw rfl rfl ?_
        | refine ow_addw rfl rfl rfl ?_
        | refine ow_subw rfl rfl rfl ?_
        | refine ow_mulw rfl rfl rfl ?_
        | refine ow_compl rfl rfl ?_
        | refine ow_shl rfl rfl rfl (by omega) ?_
        | refine ow_shr rfl rfl rfl (by omega) ?_
        | refine ow_makeFunc (fs := []) (cs := []) rfl rfl rfl ?_
        | refine ow_makeFunc (fs := []) (cs := [.pointer _]) rfl rfl rfl ?_
        | refine ow_makeFunc (fs := []) (cs := [.pointer _, .pointer _]) rfl rfl rfl ?_
        | refine ow_makeFunc (fs := []) (cs := [.pointer _, .pointer _, .pointer _]) rfl rfl rfl ?_)
      refine ow_append (i := 1) H rfl rfl (tyAt rfl) rfl (tyAt rfl) rfl (by decide) rfl rfl (H.rowSl (i := 0) rfl) rfl (by simp [Value.oneCell']) (by first | omega | (dsimp only; omega) | (simp; omega)) (by first | omega | (dsimp only; omega) | (simp; omega)) (fun p5 c5 w H => ?_)
      dsimp only [List.set] at H
      replace H := H.drop
      repeat (first
        | refine wc_seq ?_
        | refine wc_block ?_
        | refine wc_region ?_
        | refine ow_nil ?_
        | refine wc_skip ?_
        | refine wc_exit ?_
        | (apply ow_move; (· rfl); (· ((conv => lhs; whnf) <;> rfl)))
        | (apply ow_assign; (· rfl); (· ((conv => lhs; whnf) <;> rfl)))
        | refine ow_extract rfl rfl rfl ?_
        | refine ow_nilCheck_ptr rfl rfl ?_
        | refine ow_nilCheck_ptr0 rfl ?_
        | refine ow_fieldAddr rfl (tyAt rfl) rfl rfl rfl (tyAt rfl) rfl rfl ?_
        | refine ow_guard_yes rfl rfl rfl rfl ?_
        | refine ow_guard_no rfl rfl rfl rfl rfl rfl rfl ?_
        | refine ow_guard_dec rfl rfl rfl (fun _ => ?_) (fun h => (h (by with_reducible rfl)).elim)
        | refine ow_guard_dec rfl rfl rfl (fun h => (h (by with_reducible rfl)).elim) (fun _ => ?_)
        | (apply ow_pick_t; (· rfl); (· rfl); (· ((conv => lhs; whnf) <;> rfl)))
        | (apply ow_pick_f; (· rfl); (· rfl); (· ((conv => lhs; whnf) <;> rfl)))
        | refine wc_cond_true rfl ?_
        | refine wc_cond_false rfl ?_
        | refine ow_add rfl rfl rfl (by simp only [InK]; omega) ?_
        | refine ow_sub rfl rfl rfl (by simp only [InK]; omega) ?_
        | refine ow_lss rfl rfl rfl ?_
        | refine ow_leq rfl rfl rfl ?_
        | refine ow_gtr rfl rfl rfl ?_
        | refine ow_geq rfl rfl rfl ?_
        | refine ow_eql rfl rfl rfl ?_
        | refine ow_neq rfl rfl rfl ?_
        | refine ow_mul rfl rfl rfl (by simp only [InK]; omega) ?_
        | refine ow_quo rfl rfl rfl (by omega) (by omega) (by simp only [InK]; omega) ?_
        | refine ow_rem rfl rfl rfl (by omega) (by omega) ?_
        | refine ow_conv_in rfl rfl (tyAt rfl) (tyAt rfl) rfl (by simp only [InK]; omega) ?_
        | refine ow_conv rfl rfl (tyAt rfl) (tyAt rfl) rfl ?_
        | refine ow_not_dec rfl rfl ?_
        | refine ow_not rfl rfl ?_
        | refine ow_len rfl rfl (tyAt rfl) rfl ?_
        | refine ow_lenStr rfl rfl (tyAt rfl) rfl ?_
        | refine ow_max rfl rfl rfl ?_
        | refine ow_min rfl rfl rfl ?_
        | refine ow_and rfl rfl rfl ?_
        | refine ow_or rfl rfl rfl ?_
        | refine ow_xor rfl rfl rfl ?_
        | refine ow_neg rfl rfl (by simp only [InK]; omega) ?_
        | refine ow_negw rfl rfl ?_
        | refine ow_addw rfl rfl rfl ?_
        | refine ow_subw rfl rfl rfl ?_
        | refine ow_mulw rfl rfl rfl ?_
        | refine ow_compl rfl rfl ?_
        | refine ow_shl rfl rfl rfl (by omega) ?_
        | refine ow_shr rfl rfl rfl (by omega) ?_
        | refine ow_makeFunc (fs := []) (cs := []) rfl rfl rfl ?_
        | refine ow_makeFunc (fs := []) (cs := [.pointer _]) rfl rfl rfl ?_
        | refine ow_makeFunc (fs := []) (cs := [.pointer _, .pointer _]) rfl rfl rfl ?_
        | refine ow_makeFunc (fs := []) (cs := [.pointer _, .pointer _, .pointer _]) rfl rfl rfl ?_)
      refine ow_call rfl rfl (ent (by kernel_rfl)) (CallsV.mono (put_spec _ hlk _) ?_) rfl
      rintro v w ⟨p7, c7, rfl, H'⟩
      replace H := H.call H'
      simp only [List.cons_append, List.nil_append] at H
      repeat (first
        | refine wc_seq ?_
        | refine wc_block ?_
        | refine wc_region ?_
        | refine ow_nil ?_
        | refine wc_skip ?_
        | refine wc_exit ?_
        | (apply ow_move; (· rfl); (· ((conv => lhs; whnf) <;> rfl)))
        | (apply ow_assign; (· rfl); (· ((conv => lhs; whnf) <;> rfl)))
        | refine ow_extract rfl rfl rfl ?_
        | refine ow_nilCheck_ptr rfl rfl ?_
        | refine ow_nilCheck_ptr0 rfl ?_
        | refine ow_fieldAddr rfl (tyAt rfl) rfl rfl rfl (tyAt rfl) rfl rfl ?_
        | refine ow_guard_yes rfl rfl rfl rfl ?_
        | refine ow_guard_no rfl rfl rfl rfl rfl rfl rfl ?_
        | refine ow_guard_dec rfl rfl rfl (fun _ => ?_) (fun h => (h (by with_reducible rfl)).elim)
        | refine ow_guard_dec rfl rfl rfl (fun h => (h (by with_reducible rfl)).elim) (fun _ => ?_)
        | (apply ow_pick_t; (· rfl); (· rfl); (· ((conv => lhs; whnf) <;> rfl)))
        | (apply ow_pick_f; (· rfl); (· rfl); (· ((conv => lhs; whnf) <;> rfl)))
        | refine wc_cond_true rfl ?_
        | refine wc_cond_false rfl ?_
        | refine ow_add rfl rfl rfl (by simp only [InK]; omega) ?_
        | refine ow_sub rfl rfl rfl (by simp only [InK]; omega) ?_
        | refine ow_lss rfl rfl rfl ?_
        | refine ow_leq rfl rfl rfl ?_
        | refine ow_gtr rfl rfl rfl ?_
        | refine ow_geq rfl rfl rfl ?_
        | refine ow_eql rfl rfl rfl ?_
        | refine ow_neq rfl rfl rfl ?_
        | refine ow_mul rfl rfl rfl (by simp only [InK]; omega) ?_
        | refine ow_quo rfl rfl rfl (by omega) (by omega) (by simp only [InK]; omega) ?_
        | refine ow_rem rfl rfl rfl (by omega) (by omega) ?_
        | refine ow_conv_in rfl rfl (tyAt rfl) (tyAt rfl) rfl (by simp only [InK]; omega) ?_
        | refine ow_conv rfl rfl (tyAt rfl) (tyAt rfl) rfl ?_
        | refine ow_not_dec rfl rfl ?_
        | refine ow_not rfl rfl ?_
        | refine ow_len rfl rfl (tyAt rfl) rfl ?_
        | refine ow_lenStr rfl rfl (tyAt rfl) rfl ?_
        | refine ow_max rfl rfl rfl ?_
        | refine ow_min rfl rfl rfl ?_
        | refine ow_and rfl rfl rfl ?_
        | refine ow_or rfl rfl rfl ?_
        | refine ow_xor rfl rfl rfl ?_
        | refine ow_neg rfl rfl (by simp only [InK]; omega) ?_
        | refine ow_negw rfl rfl ?_
        | refine ow_addw rfl rfl rfl ?_
        | refine ow_subw rfl rfl rfl ?_
        | refine ow_mulw rfl rfl rfl ?_
        | refine ow_compl rfl rfl ?_
        | refine ow_shl rfl rfl rfl (by omega) ?_
        | refine ow_shr rfl rfl rfl (by omega) ?_
        | refine ow_makeFunc (fs := []) (cs := []) rfl rfl rfl ?_
        | refine ow_makeFunc (fs := []) (cs := [.pointer _]) rfl rfl rfl ?_
        | refine ow_makeFunc (fs := []) (cs := [.pointer _, .pointer _]) rfl rfl rfl ?_
        | refine ow_makeFunc (fs := []) (cs := [.pointer _, .pointer _, .pointer _]) rfl rfl rfl ?_)
      refine ow_append (i := 2) H rfl rfl (tyAt rfl) rfl (tyAt rfl) rfl (by decide) rfl rfl (appOk.sl (H.cap (i := 0) rfl)) (by first | rfl | (simp; done) | (simp; omega)) (by simp [Value.oneCell']) (by first | omega | (dsimp only; omega) | (simp; omega)) (by first | omega | (dsimp only; omega) | (simp; omega)) (fun p6 c6 w H => ?_)
      dsimp only [List.set] at H
      replace H := H.drop
      repeat (first
        | refine wc_seq ?_
        | refine wc_block ?_
        | refine wc_region ?_
        | refine ow_nil ?_
        | refine wc_skip ?_
        | refine wc_exit ?_
        | (apply ow_move; (· rfl); (· ((conv => lhs; whnf) <;> rfl)))
        | (apply ow_assign; (· rfl); (· ((conv => lhs; whnf) <;> rfl)))
        | refine ow_extract rfl rfl rfl ?_
        | refine ow_nilCheck_ptr rfl rfl ?_
        | refine ow_nilCheck_ptr0 rfl ?_
        | refine ow_fieldAddr rfl (tyAt rfl) rfl rfl rfl (tyAt rfl) rfl rfl ?_
        | refine ow_guard_yes rfl rfl rfl rfl ?_
        | refine ow_guard_no rfl rfl rfl rfl rfl rfl rfl ?_
        | refine ow_guard_dec rfl rfl rfl (fun _ => ?_) (fun h => (h (by with_reducible rfl)).elim)
        | refine ow_guard_dec rfl rfl rfl (fun h => (h (by with_reducible rfl)).elim) (fun _ => ?_)
        | (apply ow_pick_t; (· rfl); (· rfl); (· ((conv => lhs; whnf) <;> rfl)))
        | (apply ow_pick_f; (· rfl); (· rfl); (· ((conv => lhs; whnf) <;> rfl)))
        | refine wc_cond_true rfl ?_
        | refine wc_cond_false rfl ?_
        | refine ow_add rfl rfl rfl (by simp only [InK]; omega) ?_
        | refine ow_sub rfl rfl rfl (by simp only [InK]; omega) ?_
        | refine ow_lss rfl rfl rfl ?_
        | refine ow_leq rfl rfl rfl ?_
        | refine ow_gtr rfl rfl rfl ?_
        | refine ow_geq rfl rfl rfl ?_
        | refine ow_eql rfl rfl rfl ?_
        | refine ow_neq rfl rfl rfl ?_
        | refine ow_mul rfl rfl rfl (by simp only [InK]; omega) ?_
        | refine ow_quo rfl rfl rfl (by omega) (by omega) (by simp only [InK]; omega) ?_
        | refine ow_rem rfl rfl rfl (by omega) (by omega) ?_
        | refine ow_conv_in rfl rfl (tyAt rfl) (tyAt rfl) rfl (by simp only [InK]; omega) ?_
        | refine ow_conv rfl rfl (tyAt rfl) (tyAt rfl) rfl ?_
        | refine ow_not_dec rfl rfl ?_
        | refine ow_not rfl rfl ?_
        | refine ow_len rfl rfl (tyAt rfl) rfl ?_
        | refine ow_lenStr rfl rfl (tyAt rfl) rfl ?_
        | refine ow_max rfl rfl rfl ?_
        | refine ow_min rfl rfl rfl ?_
        | refine ow_and rfl rfl rfl ?_
        | refine ow_or rfl rfl rfl ?_
        | refine ow_xor rfl rfl rfl ?_
        | refine ow_neg rfl rfl (by simp only [InK]; omega) ?_
        | refine ow_negw rfl rfl ?_
        | refine ow_addw rfl rfl rfl ?_
        | refine ow_subw rfl rfl rfl ?_
        | refine ow_mulw rfl rfl rfl ?_
        | refine ow_compl rfl rfl ?_
        | refine ow_shl rfl rfl rfl (by omega) ?_
        | refine ow_shr rfl rfl rfl (by omega) ?_
        | refine ow_makeFunc (fs := []) (cs := []) rfl rfl rfl ?_
        | refine ow_makeFunc (fs := []) (cs := [.pointer _]) rfl rfl rfl ?_
        | refine ow_makeFunc (fs := []) (cs := [.pointer _, .pointer _]) rfl rfl rfl ?_
        | refine ow_makeFunc (fs := []) (cs := [.pointer _, .pointer _, .pointer _]) rfl rfl rfl ?_)
      have eb : rowsB (ns.take (k + 1)) = lk ++ putN nk := by rw [htk, rowsB_snoc, hlk1]
      have ec : rowsAt 0 (ns.take (k + 1)) = rowsAt 0 (ns.take k) ++ [lk.length] := by rw [htk, rowsAt_snoc, hlk1, Nat.zero_add]
      refine ⟨(k + 1, p6, c6, p5, c5), ?_, by repeat (first | with_reducible exact Off.mix | with_reducible exact Off.refl | ((with_reducible refine Off.upd ?_ ?_); (· rfl))), ⟨rfl, hlt, ?_⟩, by dsimp only; omega⟩
      · dsimp only
        rw [eb, List.length_append]
        first | exact rfl | exact upd_self' rfl rfl | exact upd_self' rfl (upd_self' rfl rfl) | exact upd_self' rfl (upd_self' rfl (upd_self' rfl rfl)) | exact upd_self' rfl (upd_self' rfl (upd_self' rfl (upd_self' rfl rfl)))
      · dsimp only
        rw [eb, ec, List.length_append, ← nats_append, ← nats_append]
        exact H
    · repeat (first
        | refine wc_seq ?_
        | refine wc_block ?_
        | refine wc_region ?_
        | refine ow_nil ?_
        | refine wc_skip ?_
        | refine wc_exit ?_
        | (apply ow_move; (· rfl); (· ((conv => lhs; whnf) <;> rfl)))
        | (apply ow_assign; (· rfl); (· ((conv => lhs; whnf) <;> rfl)))
        | refine ow_extract rfl rfl rfl ?_
        | refine ow_nilCheck_ptr rfl rfl ?_
        | refine ow_nilCheck_ptr0 rfl ?_
        | refine ow_fieldAddr rfl (tyAt rfl) rfl rfl rfl (tyAt rfl) rfl rfl ?_
        | refine ow_guard_yes rfl rfl rfl rfl ?_
        | refine ow_guard_no rfl rfl rfl rfl rfl rfl rfl ?_
        | refine ow_guard_dec rfl rfl rfl (fun _ => ?_) (fun h => (h (by with_reducible rfl)).elim)
        | refine ow_guard_dec rfl rfl rfl (fun h => (h (by with_reducible rfl)).elim) (fun _ => ?_)
        | (apply ow_pick_t; (· rfl); (· rfl); (· ((conv => lhs; whnf) <;> rfl)))
        | (apply ow_pick_f; (· rfl); (· rfl); (· ((conv => lhs; whnf) <;> rfl)))
        | refine wc_cond_true rfl ?_
        | refine wc_cond_false rfl ?_
        | refine ow_add rfl rfl rfl (by simp only [InK]; omega) ?_
        | refine ow_sub rfl rfl rfl (by simp only [InK]; omega) ?_
        | refine ow_lss rfl rfl rfl ?_
        | refine ow_leq rfl rfl rfl ?_
        | refine ow_gtr rfl rfl rfl ?_
        | refine ow_geq rfl rfl rfl ?_
        | refine ow_eql rfl rfl rfl ?_
        | refine ow_neq rfl rfl rfl ?_
        | refine ow_mul rfl rfl rfl (by simp only [InK]; omega) ?_
        | refine ow_quo rfl rfl rfl (by omega) (by omega) (by simp only [InK]; omega) ?_
        | refine ow_rem rfl rfl rfl (by omega) (by omega) ?_
        | refine ow_conv_in rfl rfl (tyAt rfl) (tyAt rfl) rfl (by simp only [InK]; omega) ?_
        | refine ow_conv rfl rfl (tyAt rfl) (tyAt rfl) rfl ?_
        | refine ow_not_dec rfl rfl ?_
        | refine ow_not rfl rfl ?_
        | refine ow_len rfl rfl (tyAt rfl) rfl ?_
        | refine ow_lenStr rfl rfl (tyAt rfl) rfl ?_
        | refine ow_max rfl rfl rfl ?_
        | refine ow_min rfl rfl rfl ?_
        | refine ow_and rfl rfl rfl ?_
        | refine ow_or rfl rfl rfl ?_
        | refine ow_xor rfl rfl rfl ?_
        | refine ow_neg rfl rfl (by simp only [InK]; omega) ?_
        | refine ow_negw rfl rfl ?_
        | refine ow_addw rfl rfl rfl ?_
        | refine ow_subw rfl rfl rfl ?_
        | refine ow_mulw rfl rfl rfl ?_
        | refine ow_compl rfl rfl ?_
        | refine ow_shl rfl rfl rfl (by omega) ?_
        | refine ow_shr rfl rfl rfl (by omega) ?_
        | refine ow_makeFunc (fs := []) (cs := []) rfl rfl rfl ?_
        | refine ow_makeFunc (fs := []) (cs := [.pointer _]) rfl rfl rfl ?_
        | refine ow_makeFunc (fs := []) (cs := [.pointer _, .pointer _]) rfl rfl rfl ?_
        | refine ow_makeFunc (fs := []) (cs := [.pointer _, .pointer _, .pointer _]) rfl rfl rfl ?_)
      have hk' : k = ns.length := by omega
      subst hk'
      rw [List.take_length] at H ⊢
      exact ⟨(p3, c3, p4, c4), by first | exact rfl | exact upd_self' rfl rfl | exact upd_self' rfl (upd_self' rfl rfl) | exact upd_self' rfl (upd_self' rfl (upd_self' rfl rfl)) | exact upd_self' rfl (upd_self' rfl (upd_self' rfl (upd_self' rfl rfl))), by repeat (first | with_reducible exact Off.mix | with_reducible exact Off.refl | ((with_reducible refine Off.upd ?_ ?_); (· rfl))), rfl, H⟩
  clear H w
  rintro ⟨p3, c3, p4, c4⟩ j D w ⟨rfl, H⟩
  dsimp only at H ⊢
  have hrl := rowsAt_len 0 ns
  have hal : (allL (rowsB ns)).length = ns.length := by rw [hz, List.length_zip, hrl, Nat.min_self]
  have htk : takeZ 1000 (allL (rowsB ns)) = allL (rowsB ns) := by
    unfold takeZ; rw [if_neg (by decide)]; exact List.take_of_length_le (by simp; omega)
  have hsn : (allL (rowsB ns)).map sndV = nats .u64 ns := by
    rw [snd_nats, hz]; congr 1; exact List.map_snd_zip (by omega)
  have hfs : (allL (rowsB ns)).map fstV = nats .i64 (rowsAt 0 ns) := by
    rw [fst_ints, hz, ints, List.map_map, nats, ← List.map_fst_zip (l₁ := rowsAt 0 ns) (l₂ := ns) (by omega), List.map_map]
    rw [List.map_fst_zip (by omega)]; rfl
  obtain ⟨bs, hbs⟩ : ∃ x, rowsB ns = x := ⟨_, rfl⟩
  have hbb := rowsB_byte ns
  rw [hbs] at H hal htk hsn hfs hmx hbb ⊢
  repeat (first
    | refine wc_seq ?_
    | refine wc_region ?_
    | refine ow_nil ?_
    | refine wc_skip ?_
    | refine wc_exit ?_
    | (apply ow_move; (· rfl); (· ((conv => lhs; whnf) <;> rfl)))
    | (apply ow_assign; (· rfl); (· ((conv => lhs; whnf) <;> rfl)))
    | refine ow_extract rfl rfl rfl ?_
    | refine ow_nilCheck_ptr rfl rfl ?_
    | refine ow_nilCheck_ptr0 rfl ?_
    | refine ow_fieldAddr rfl (tyAt rfl) rfl rfl rfl (tyAt rfl) rfl rfl ?_
    | refine ow_guard_yes rfl rfl rfl rfl ?_
    | refine ow_guard_no rfl rfl rfl rfl rfl rfl rfl ?_
    | refine ow_guard_dec rfl rfl rfl (fun _ => ?_) (fun h => (h (by with_reducible rfl)).elim)
    | refine ow_guard_dec rfl rfl rfl (fun h => (h (by with_reducible rfl)).elim) (fun _ => ?_)
    | (apply ow_pick_t; (· rfl); (· rfl); (· ((conv => lhs; whnf) <;> rfl)))
    | (apply ow_pick_f; (· rfl); (· rfl); (· ((conv => lhs; whnf) <;> rfl)))
    | refine wc_cond_true rfl ?_
    | refine wc_cond_false rfl ?_
    | refine ow_add rfl rfl rfl (by simp only [InK]; omega) ?_
    | refine ow_sub rfl rfl rfl (by simp only [InK]; omega) ?_
    | refine ow_lss rfl rfl rfl ?_
    | refine ow_leq rfl rfl rfl ?_
    | refine ow_gtr rfl rfl rfl ?_
    | refine ow_geq rfl rfl rfl ?_
    | refine ow_eql rfl rfl rfl ?_
    | refine ow_neq rfl rfl rfl ?_
    | refine ow_mul rfl rfl rfl (by simp only [InK]; omega) ?_
    | refine ow_quo rfl rfl rfl (by omega) (by omega) (by simp only [InK]; omega) ?_
    | refine ow_rem rfl rfl rfl (by omega) (by omega) ?_
    | refine ow_conv_in rfl rfl (tyAt rfl) (tyAt rfl) rfl (by simp only [InK]; omega) ?_
    | refine ow_conv rfl rfl (tyAt rfl) (tyAt rfl) rfl ?_
    | refine ow_not_dec rfl rfl ?_
    | refine ow_not rfl rfl ?_
    | refine ow_len rfl rfl (tyAt rfl) rfl ?_
    | refine ow_lenStr rfl rfl (tyAt rfl) rfl ?_
    | refine ow_max rfl rfl rfl ?_
    | refine ow_min rfl rfl rfl ?_
    | refine ow_and rfl rfl rfl ?_
    | refine ow_or rfl rfl rfl ?_
    | refine ow_xor rfl rfl rfl ?_
    | refine ow_neg rfl rfl (by simp only [InK]; omega) ?_
    | refine ow_negw rfl rfl ?_
    | refine ow_addw rfl rfl rfl ?_
    | refine ow_subw rfl rfl rfl ?_
    | refine ow_mulw rfl rfl rfl ?_
    | refine ow_compl rfl rfl ?_
    | refine ow_shl rfl rfl rfl (by omega) ?_
    | refine ow_shr rfl rfl rfl (by omega) ?_
    | refine ow_makeFunc (fs := []) (cs := []) rfl rfl rfl ?_
    | refine ow_makeFunc (fs := []) (cs := [.pointer _]) rfl rfl rfl ?_
    | refine ow_makeFunc (fs := []) (cs := [.pointer _, .pointer _]) rfl rfl rfl ?_
    | refine ow_makeFunc (fs := []) (cs := [.pointer _, .pointer _, .pointer _]) rfl rfl rfl ?_)
  have hcap : bs.length ≤ c3 := appOk.le (H.cap (i := 1) rfl)
  refine ow_call rfl rfl (ent (by kernel_rfl)) (CallsV.mono (list_spec p3 c3 bs hbb (by omega) hcap 1000 w (appOk.sl (H.cap (i := 1) rfl))) ?_) rfl
  rintro v w ⟨q, c9, rfl, H'⟩
  replace H := H.call H'
  simp only [List.cons_append, List.nil_append] at H
  rw [htk, hal, hsn] at H
  rw [htk, hal]
  repeat (first
    | refine wc_seq ?_
    | refine wc_region ?_
    | refine ow_nil ?_
    | refine wc_skip ?_
    | refine wc_exit ?_
    | (apply ow_move; (· rfl); (· ((conv => lhs; whnf) <;> rfl)))
    | (apply ow_assign; (· rfl); (· ((conv => lhs; whnf) <;> rfl)))
    | refine ow_extract rfl rfl rfl ?_
    | refine ow_nilCheck_ptr rfl rfl ?_
    | refine ow_nilCheck_ptr0 rfl ?_
    | refine ow_fieldAddr rfl (tyAt rfl) rfl rfl rfl (tyAt rfl) rfl rfl ?_
    | refine ow_guard_yes rfl rfl rfl rfl ?_
    | refine ow_guard_no rfl rfl rfl rfl rfl rfl rfl ?_
    | refine ow_guard_dec rfl rfl rfl (fun _ => ?_) (fun h => (h (by with_reducible rfl)).elim)
    | refine ow_guard_dec rfl rfl rfl (fun h => (h (by with_reducible rfl)).elim) (fun _ => ?_)
    | (apply ow_pick_t; (· rfl); (· rfl); (· ((conv => lhs; whnf) <;> rfl)))
    | (apply ow_pick_f; (· rfl); (· rfl); (· ((conv => lhs; whnf) <;> rfl)))
    | refine wc_cond_true rfl ?_
    | refine wc_cond_false rfl ?_
    | refine ow_add rfl rfl rfl (by simp only [InK]; omega) ?_
    | refine ow_sub rfl rfl rfl (by simp only [InK]; omega) ?_
    | refine ow_lss rfl rfl rfl ?_
    | refine ow_leq rfl rfl rfl ?_
    | refine ow_gtr rfl rfl rfl ?_
    | refine ow_geq rfl rfl rfl ?_
    | refine ow_eql rfl rfl rfl ?_
    | refine ow_neq rfl rfl rfl ?_
    | refine ow_mul rfl rfl rfl (by simp only [InK]; omega) ?_
    | refine ow_quo rfl rfl rfl (by omega) (by omega) (by simp only [InK]; omega) ?_
    | refine ow_rem rfl rfl rfl (by omega) (by omega) ?_
    | refine ow_conv_in rfl rfl (tyAt rfl) (tyAt rfl) rfl (by simp only [InK]; omega) ?_
    | refine ow_conv rfl rfl (tyAt rfl) (tyAt rfl) rfl ?_
    | refine ow_not_dec rfl rfl ?_
    | refine ow_not rfl rfl ?_
    | refine ow_len rfl rfl (tyAt rfl) rfl ?_
    | refine ow_lenStr rfl rfl (tyAt rfl) rfl ?_
    | refine ow_max rfl rfl rfl ?_
    | refine ow_min rfl rfl rfl ?_
    | refine ow_and rfl rfl rfl ?_
    | refine ow_or rfl rfl rfl ?_
    | refine ow_xor rfl rfl rfl ?_
    | refine ow_neg rfl rfl (by simp only [InK]; omega) ?_
    | refine ow_negw rfl rfl ?_
    | refine ow_addw rfl rfl rfl ?_
    | refine ow_subw rfl rfl rfl ?_
    | refine ow_mulw rfl rfl rfl ?_
    | refine ow_compl rfl rfl ?_
    | refine ow_shl rfl rfl rfl (by omega) ?_
    | refine ow_shr rfl rfl rfl (by omega) ?_
    | refine ow_makeFunc (fs := []) (cs := []) rfl rfl rfl ?_
    | refine ow_makeFunc (fs := []) (cs := [.pointer _]) rfl rfl rfl ?_
    | refine ow_makeFunc (fs := []) (cs := [.pointer _, .pointer _]) rfl rfl rfl ?_
    | refine ow_makeFunc (fs := []) (cs := [.pointer _, .pointer _, .pointer _]) rfl rfl rfl ?_)
  refine ow_call rfl rfl (ent (by kernel_rfl)) (CallsV.mono (places_spec p3 c3 bs hbb (by omega) hcap 1000 w (appOk.sl (H.cap (i := 2) rfl))) ?_) rfl
  rintro v w ⟨q2, c2, rfl, H'⟩
  replace H := H.call H'
  simp only [List.cons_append, List.nil_append] at H
  clear H'
  rw [htk, hal, hfs] at H
  rw [htk, hal]
  repeat (first
    | refine wc_seq ?_
    | refine wc_region ?_
    | refine ow_nil ?_
    | refine wc_skip ?_
    | refine wc_exit ?_
    | (apply ow_move; (· rfl); (· ((conv => lhs; whnf) <;> rfl)))
    | (apply ow_assign; (· rfl); (· ((conv => lhs; whnf) <;> rfl)))
    | refine ow_extract rfl rfl rfl ?_
    | refine ow_nilCheck_ptr rfl rfl ?_
    | refine ow_nilCheck_ptr0 rfl ?_
    | refine ow_fieldAddr rfl (tyAt rfl) rfl rfl rfl (tyAt rfl) rfl rfl ?_
    | refine ow_guard_yes rfl rfl rfl rfl ?_
    | refine ow_guard_no rfl rfl rfl rfl rfl rfl rfl ?_
    | refine ow_guard_dec rfl rfl rfl (fun _ => ?_) (fun h => (h (by with_reducible rfl)).elim)
    | refine ow_guard_dec rfl rfl rfl (fun h => (h (by with_reducible rfl)).elim) (fun _ => ?_)
    | (apply ow_pick_t; (· rfl); (· rfl); (· ((conv => lhs; whnf) <;> rfl)))
    | (apply ow_pick_f; (· rfl); (· rfl); (· ((conv => lhs; whnf) <;> rfl)))
    | refine wc_cond_true rfl ?_
    | refine wc_cond_false rfl ?_
    | refine ow_add rfl rfl rfl (by simp only [InK]; omega) ?_
    | refine ow_sub rfl rfl rfl (by simp only [InK]; omega) ?_
    | refine ow_lss rfl rfl rfl ?_
    | refine ow_leq rfl rfl rfl ?_
    | refine ow_gtr rfl rfl rfl ?_
    | refine ow_geq rfl rfl rfl ?_
    | refine ow_eql rfl rfl rfl ?_
    | refine ow_neq rfl rfl rfl ?_
    | refine ow_mul rfl rfl rfl (by simp only [InK]; omega) ?_
    | refine ow_quo rfl rfl rfl (by omega) (by omega) (by simp only [InK]; omega) ?_
    | refine ow_rem rfl rfl rfl (by omega) (by omega) ?_
    | refine ow_conv_in rfl rfl (tyAt rfl) (tyAt rfl) rfl (by simp only [InK]; omega) ?_
    | refine ow_conv rfl rfl (tyAt rfl) (tyAt rfl) rfl ?_
    | refine ow_not_dec rfl rfl ?_
    | refine ow_not rfl rfl ?_
    | refine ow_len rfl rfl (tyAt rfl) rfl ?_
    | refine ow_lenStr rfl rfl (tyAt rfl) rfl ?_
    | refine ow_max rfl rfl rfl ?_
    | refine ow_min rfl rfl rfl ?_
    | refine ow_and rfl rfl rfl ?_
    | refine ow_or rfl rfl rfl ?_
    | refine ow_xor rfl rfl rfl ?_
    | refine ow_neg rfl rfl (by simp only [InK]; omega) ?_
    | refine ow_negw rfl rfl ?_
    | refine ow_addw rfl rfl rfl ?_
    | refine ow_subw rfl rfl rfl ?_
    | refine ow_mulw rfl rfl rfl ?_
    | refine ow_compl rfl rfl ?_
    | refine ow_shl rfl rfl rfl (by omega) ?_
    | refine ow_shr rfl rfl rfl (by omega) ?_
    | refine ow_makeFunc (fs := []) (cs := []) rfl rfl rfl ?_
    | refine ow_makeFunc (fs := []) (cs := [.pointer _]) rfl rfl rfl ?_
    | refine ow_makeFunc (fs := []) (cs := [.pointer _, .pointer _]) rfl rfl rfl ?_
    | refine ow_makeFunc (fs := []) (cs := [.pointer _, .pointer _, .pointer _]) rfl rfl rfl ?_)
  have hni : nats .i64 (rowsAt 0 ns) = ints .i64 ((rowsAt 0 ns).map fun (x : Nat) => (x : Int)) := by simp [nats, ints]
  rw [hni] at H
  refine ow_call rfl rfl (ent (by kernel_rfl)) (CallsV.mono (sameInts_spec' q2 p4 c2 c4 _ _ ((rowsAt 0 ns).map fun (x : Nat) => (x : Int)) ((rowsAt 0 ns).map fun (x : Nat) => (x : Int)) (by simp [hrl]) (by simp [hrl]) (by simp; omega) w (appOk.sl (H.cap (i := 0) rfl)) (appOk.sl (H.cap (i := 2) rfl))) ?_) rfl
  rintro v w ⟨rfl, H'⟩
  replace H := H.call H'
  simp only [List.cons_append, List.nil_append] at H
  clear H'
  rw [decide_eq_true (rfl : (rowsAt 0 ns).map (fun (x : Nat) => (x : Int)) = (rowsAt 0 ns).map (fun (x : Nat) => (x : Int)))]
  repeat (first
    | refine wc_seq ?_
    | refine wc_region ?_
    | refine ow_nil ?_
    | refine wc_skip ?_
    | refine wc_exit ?_
    | (apply ow_move; (· rfl); (· ((conv => lhs; whnf) <;> rfl)))
    | (apply ow_assign; (· rfl); (· ((conv => lhs; whnf) <;> rfl)))
    | refine ow_extract rfl rfl rfl ?_
    | refine ow_nilCheck_ptr rfl rfl ?_
    | refine ow_nilCheck_ptr0 rfl ?_
    | refine ow_fieldAddr rfl (tyAt rfl) rfl rfl rfl (tyAt rfl) rfl rfl ?_
    | refine ow_guard_yes rfl rfl rfl rfl ?_
    | refine ow_guard_no rfl rfl rfl rfl rfl rfl rfl ?_
    | refine ow_guard_dec rfl rfl rfl (fun _ => ?_) (fun h => (h (by with_reducible rfl)).elim)
    | refine ow_guard_dec rfl rfl rfl (fun h => (h (by with_reducible rfl)).elim) (fun _ => ?_)
    | (apply ow_pick_t; (· rfl); (· rfl); (· ((conv => lhs; whnf) <;> rfl)))
    | (apply ow_pick_f; (· rfl); (· rfl); (· ((conv => lhs; whnf) <;> rfl)))
    | refine wc_cond_true rfl ?_
    | refine wc_cond_false rfl ?_
    | refine ow_add rfl rfl rfl (by simp only [InK]; omega) ?_
    | refine ow_sub rfl rfl rfl (by simp only [InK]; omega) ?_
    | refine ow_lss rfl rfl rfl ?_
    | refine ow_leq rfl rfl rfl ?_
    | refine ow_gtr rfl rfl rfl ?_
    | refine ow_geq rfl rfl rfl ?_
    | refine ow_eql rfl rfl rfl ?_
    | refine ow_neq rfl rfl rfl ?_
    | refine ow_mul rfl rfl rfl (by simp only [InK]; omega) ?_
    | refine ow_quo rfl rfl rfl (by omega) (by omega) (by simp only [InK]; omega) ?_
    | refine ow_rem rfl rfl rfl (by omega) (by omega) ?_
    | refine ow_conv_in rfl rfl (tyAt rfl) (tyAt rfl) rfl (by simp only [InK]; omega) ?_
    | refine ow_conv rfl rfl (tyAt rfl) (tyAt rfl) rfl ?_
    | refine ow_not_dec rfl rfl ?_
    | refine ow_not rfl rfl ?_
    | refine ow_len rfl rfl (tyAt rfl) rfl ?_
    | refine ow_lenStr rfl rfl (tyAt rfl) rfl ?_
    | refine ow_max rfl rfl rfl ?_
    | refine ow_min rfl rfl rfl ?_
    | refine ow_and rfl rfl rfl ?_
    | refine ow_or rfl rfl rfl ?_
    | refine ow_xor rfl rfl rfl ?_
    | refine ow_neg rfl rfl (by simp only [InK]; omega) ?_
    | refine ow_negw rfl rfl ?_
    | refine ow_addw rfl rfl rfl ?_
    | refine ow_subw rfl rfl rfl ?_
    | refine ow_mulw rfl rfl rfl ?_
    | refine ow_compl rfl rfl ?_
    | refine ow_shl rfl rfl rfl (by omega) ?_
    | refine ow_shr rfl rfl rfl (by omega) ?_
    | refine ow_makeFunc (fs := []) (cs := []) rfl rfl rfl ?_
    | refine ow_makeFunc (fs := []) (cs := [.pointer _]) rfl rfl rfl ?_
    | refine ow_makeFunc (fs := []) (cs := [.pointer _, .pointer _]) rfl rfl rfl ?_
    | refine ow_makeFunc (fs := []) (cs := [.pointer _, .pointer _, .pointer _]) rfl rfl rfl ?_)
  replace H := H.sub (L' := [.app q ns.length c9 24 1 (nats .u64 ns)]) (List.Sublist.cons _ ((List.nil_sublist _).cons_cons _))
  refine wc_block ?_
  refine wc_loopS [8, 9, 49, 50, 51, 52, 53, 54, 55, 56, 57, 58, 59, 60] (fun (s : Nat) e => upd e 49 (.int .i64 s))
    (fun s D w => D = [] ∧ s ≤ ns.length ∧ St Pu w0 w [.app q ns.length c9 24 1 (nats .u64 ns)] [])
    (fun s _ => ns.length - s) 0 (by first | exact rfl | exact upd_self' rfl rfl | exact upd_self' rfl (upd_self' rfl rfl) | exact upd_self' rfl (upd_self' rfl (upd_self' rfl rfl)) | exact upd_self' rfl (upd_self' rfl (upd_self' rfl (upd_self' rfl rfl)))) ⟨rfl, Nat.zero_le _, H⟩ ?_
  clear H w
  rintro i j D w ⟨rfl, hi, H⟩
  repeat (first
    | refine wc_seq ?_
    | refine wc_block ?_
    | refine wc_region ?_
    | refine ow_nil ?_
    | refine wc_skip ?_
    | refine wc_exit ?_
    | (apply ow_move; (· rfl); (· ((conv => lhs; whnf) <;> rfl)))
    | (apply ow_assign; (· rfl); (· ((conv => lhs; whnf) <;> rfl)))
    | refine ow_extract rfl rfl rfl ?_
    | refine ow_nilCheck_ptr rfl rfl ?_
    | refine ow_nilCheck_ptr0 rfl ?_
    | refine ow_fieldAddr rfl (tyAt rfl) rfl rfl rfl (tyAt rfl) rfl rfl ?_
    | refine ow_guard_yes rfl rfl rfl rfl ?_
    | refine ow_guard_no rfl rfl rfl rfl rfl rfl rfl ?_
    | refine ow_guard_dec rfl rfl rfl (fun _ => ?_) (fun h => (h (by with_reducible rfl)).elim)
    | refine ow_guard_dec rfl rfl rfl (fun h => (h (by with_reducible rfl)).elim) (fun _ => ?_)
    | (apply ow_pick_t; (· rfl); (· rfl); (· ((conv => lhs; whnf) <;> rfl)))
    | (apply ow_pick_f; (· rfl); (· rfl); (· ((conv => lhs; whnf) <;> rfl)))
    | refine wc_cond_true rfl ?_
    | refine wc_cond_false rfl ?_
    | refine ow_add rfl rfl rfl (by simp only [InK]; omega) ?_
    | refine ow_sub rfl rfl rfl (by simp only [InK]; omega) ?_
    | refine ow_lss rfl rfl rfl ?_
    | refine ow_leq rfl rfl rfl ?_
    | refine ow_gtr rfl rfl rfl ?_
    | refine ow_geq rfl rfl rfl ?_
    | refine ow_eql rfl rfl rfl ?_
    | refine ow_neq rfl rfl rfl ?_
    | refine ow_mul rfl rfl rfl (by simp only [InK]; omega) ?_
    | refine ow_quo rfl rfl rfl (by omega) (by omega) (by simp only [InK]; omega) ?_
    | refine ow_rem rfl rfl rfl (by omega) (by omega) ?_
    | refine ow_conv_in rfl rfl (tyAt rfl) (tyAt rfl) rfl (by simp only [InK]; omega) ?_
    | refine ow_conv rfl rfl (tyAt rfl) (tyAt rfl) rfl ?_
    | refine ow_not_dec rfl rfl ?_
    | refine ow_not rfl rfl ?_
    | refine ow_len rfl rfl (tyAt rfl) rfl ?_
    | refine ow_lenStr rfl rfl (tyAt rfl) rfl ?_
    | refine ow_max rfl rfl rfl ?_
    | refine ow_min rfl rfl rfl ?_
    | refine ow_and rfl rfl rfl ?_
    | refine ow_or rfl rfl rfl ?_
    | refine ow_xor rfl rfl rfl ?_
    | refine ow_neg rfl rfl (by simp only [InK]; omega) ?_
    | refine ow_negw rfl rfl ?_
    | refine ow_addw rfl rfl rfl ?_
    | refine ow_subw rfl rfl rfl ?_
    | refine ow_mulw rfl rfl rfl ?_
    | refine ow_compl rfl rfl ?_
    | refine ow_shl rfl rfl rfl (by omega) ?_
    | refine ow_shr rfl rfl rfl (by omega) ?_
    | refine ow_makeFunc (fs := []) (cs := []) rfl rfl rfl ?_
    | refine ow_makeFunc (fs := []) (cs := [.pointer _]) rfl rfl rfl ?_
    | refine ow_makeFunc (fs := []) (cs := [.pointer _, .pointer _]) rfl rfl rfl ?_
    | refine ow_makeFunc (fs := []) (cs := [.pointer _, .pointer _, .pointer _]) rfl rfl rfl ?_)
  refine wc_cond_dec rfl (fun h => ?_) (fun h => ?_) <;> try dsimp only at h
  · have hlt : i < ns.length := by omega
    have s1 : SlH (hp w) q (nats .u64 ns) := appOk.sl (H.cap (i := 0) rfl)
    have s3 := H.oldSl hs
    obtain ⟨b1, o1, rfl⟩ := s1.some_of (by simp; omega)
    obtain ⟨b3, o3, rfl⟩ := s3.some_of (by simp; omega)
    repeat (first
      | refine wc_seq ?_
      | refine wc_block ?_
      | refine wc_region ?_
      | refine ow_nil ?_
      | refine wc_skip ?_
      | refine wc_exit ?_
      | (apply ow_move; (· rfl); (· ((conv => lhs; whnf) <;> rfl)))
      | (apply ow_assign; (· rfl); (· ((conv => lhs; whnf) <;> rfl)))
      | refine ow_extract rfl rfl rfl ?_
      | refine ow_nilCheck_ptr rfl rfl ?_
      | refine ow_nilCheck_ptr0 rfl ?_
      | refine ow_fieldAddr rfl (tyAt rfl) rfl rfl rfl (tyAt rfl) rfl rfl ?_
      | refine ow_guard_yes rfl rfl rfl rfl ?_
      | refine ow_guard_no rfl rfl rfl rfl rfl rfl rfl ?_
      | refine ow_guard_dec rfl rfl rfl (fun _ => ?_) (fun h => (h (by with_reducible rfl)).elim)
      | refine ow_guard_dec rfl rfl rfl (fun h => (h (by with_reducible rfl)).elim) (fun _ => ?_)
      | (apply ow_pick_t; (· rfl); (· rfl); (· ((conv => lhs; whnf) <;> rfl)))
      | (apply ow_pick_f; (· rfl); (· rfl); (· ((conv => lhs; whnf) <;> rfl)))
      | refine wc_cond_true rfl ?_
      | refine wc_cond_false rfl ?_
      | refine ow_add rfl rfl rfl (by simp only [InK]; omega) ?_
      | refine ow_sub rfl rfl rfl (by simp only [InK]; omega) ?_
      | refine ow_lss rfl rfl rfl ?_
      | refine ow_leq rfl rfl rfl ?_
      | refine ow_gtr rfl rfl rfl ?_
      | refine ow_geq rfl rfl rfl ?_
      | refine ow_eql rfl rfl rfl ?_
      | refine ow_neq rfl rfl rfl ?_
      | refine ow_mul rfl rfl rfl (by simp only [InK]; omega) ?_
      | refine ow_quo rfl rfl rfl (by omega) (by omega) (by simp only [InK]; omega) ?_
      | refine ow_rem rfl rfl rfl (by omega) (by omega) ?_
      | refine ow_conv_in rfl rfl (tyAt rfl) (tyAt rfl) rfl (by simp only [InK]; omega) ?_
      | refine ow_conv rfl rfl (tyAt rfl) (tyAt rfl) rfl ?_
      | refine ow_not_dec rfl rfl ?_
      | refine ow_not rfl rfl ?_
      | refine ow_len rfl rfl (tyAt rfl) rfl ?_
      | refine ow_lenStr rfl rfl (tyAt rfl) rfl ?_
      | refine ow_max rfl rfl rfl ?_
      | refine ow_min rfl rfl rfl ?_
      | refine ow_and rfl rfl rfl ?_
      | refine ow_or rfl rfl rfl ?_
      | refine ow_xor rfl rfl rfl ?_
      | refine ow_neg rfl rfl (by simp only [InK]; omega) ?_
      | refine ow_negw rfl rfl ?_
      | refine ow_addw rfl rfl rfl ?_
      | refine ow_subw rfl rfl rfl ?_
      | refine ow_mulw rfl rfl rfl ?_
      | refine ow_compl rfl rfl ?_
      | refine ow_shl rfl rfl rfl (by omega) ?_
      | refine ow_shr rfl rfl rfl (by omega) ?_
      | refine ow_makeFunc (fs := []) (cs := []) rfl rfl rfl ?_
      | refine ow_makeFunc (fs := []) (cs := [.pointer _]) rfl rfl rfl ?_
      | refine ow_makeFunc (fs := []) (cs := [.pointer _, .pointer _]) rfl rfl rfl ?_
      | refine ow_makeFunc (fs := []) (cs := [.pointer _, .pointer _, .pointer _]) rfl rfl rfl ?_)
    refine ow_idx1 (j := i) rfl (tyAt rfl) rfl (tyAt rfl) rfl rfl (by first | rfl | omega) (by omega) rfl ?_
    refine ow_load rfl (tyAt rfl) rfl rfl (s3.nat hlt) ?_
    repeat (first
      | refine wc_seq ?_
      | refine wc_block ?_
      | refine wc_region ?_
      | refine ow_nil ?_
      | refine wc_skip ?_
      | refine wc_exit ?_
      | (apply ow_move; (· rfl); (· ((conv => lhs; whnf) <;> rfl)))
      | (apply ow_assign; (· rfl); (· ((conv => lhs; whnf) <;> rfl)))
      | refine ow_extract rfl rfl rfl ?_
      | refine ow_nilCheck_ptr rfl rfl ?_
      | refine ow_nilCheck_ptr0 rfl ?_
      | refine ow_fieldAddr rfl (tyAt rfl) rfl rfl rfl (tyAt rfl) rfl rfl ?_
      | refine ow_guard_yes rfl rfl rfl rfl ?_
      | refine ow_guard_no rfl rfl rfl rfl rfl rfl rfl ?_
      | refine ow_guard_dec rfl rfl rfl (fun _ => ?_) (fun h => (h (by with_reducible rfl)).elim)
      | refine ow_guard_dec rfl rfl rfl (fun h => (h (by with_reducible rfl)).elim) (fun _ => ?_)
      | (apply ow_pick_t; (· rfl); (· rfl); (· ((conv => lhs; whnf) <;> rfl)))
      | (apply ow_pick_f; (· rfl); (· rfl); (· ((conv => lhs; whnf) <;> rfl)))
      | refine wc_cond_true rfl ?_
      | refine wc_cond_false rfl ?_
      | refine ow_add rfl rfl rfl (by simp only [InK]; omega) ?_
      | refine ow_sub rfl rfl rfl (by simp only [InK]; omega) ?_
      | refine ow_lss rfl rfl rfl ?_
      | refine ow_leq rfl rfl rfl ?_
      | refine ow_gtr rfl rfl rfl ?_
      | refine ow_geq rfl rfl rfl ?_
      | refine ow_eql rfl rfl rfl ?_
      | refine ow_neq rfl rfl rfl ?_
      | refine ow_mul rfl rfl rfl (by simp only [InK]; omega) ?_
      | refine ow_quo rfl rfl rfl (by omega) (by omega) (by simp only [InK]; omega) ?_
      | refine ow_rem rfl rfl rfl (by omega) (by omega) ?_
      | refine ow_conv_in rfl rfl (tyAt rfl) (tyAt rfl) rfl (by simp only [InK]; omega) ?_
      | refine ow_conv rfl rfl (tyAt rfl) (tyAt rfl) rfl ?_
      | refine ow_not_dec rfl rfl ?_
      | refine ow_not rfl rfl ?_
      | refine ow_len rfl rfl (tyAt rfl) rfl ?_
      | refine ow_lenStr rfl rfl (tyAt rfl) rfl ?_
      | refine ow_max rfl rfl rfl ?_
      | refine ow_min rfl rfl rfl ?_
      | refine ow_and rfl rfl rfl ?_
      | refine ow_or rfl rfl rfl ?_
      | refine ow_xor rfl rfl rfl ?_
      | refine ow_neg rfl rfl (by simp only [InK]; omega) ?_
      | refine ow_negw rfl rfl ?_
      | refine ow_addw rfl rfl rfl ?_
      | refine ow_subw rfl rfl rfl ?_
      | refine ow_mulw rfl rfl rfl ?_
      | refine ow_compl rfl rfl ?_
      | refine ow_shl rfl rfl rfl (by omega) ?_
      | refine ow_shr rfl rfl rfl (by omega) ?_
      | refine ow_makeFunc (fs := []) (cs := []) rfl rfl rfl ?_
      | refine ow_makeFunc (fs := []) (cs := [.pointer _]) rfl rfl rfl ?_
      | refine ow_makeFunc (fs := []) (cs := [.pointer _, .pointer _]) rfl rfl rfl ?_
      | refine ow_makeFunc (fs := []) (cs := [.pointer _, .pointer _, .pointer _]) rfl rfl rfl ?_)
    refine ow_idx1 (j := i) rfl (tyAt rfl) rfl (tyAt rfl) rfl rfl (by first | rfl | omega) (by omega) rfl ?_
    refine ow_load rfl (tyAt rfl) rfl rfl (s1.nat hlt) ?_
    repeat (first
      | refine wc_seq ?_
      | refine wc_block ?_
      | refine wc_region ?_
      | refine ow_nil ?_
      | refine wc_skip ?_
      | refine wc_exit ?_
      | (apply ow_move; (· rfl); (· ((conv => lhs; whnf) <;> rfl)))
      | (apply ow_assign; (· rfl); (· ((conv => lhs; whnf) <;> rfl)))
      | refine ow_extract rfl rfl rfl ?_
      | refine ow_nilCheck_ptr rfl rfl ?_
      | refine ow_nilCheck_ptr0 rfl ?_
      | refine ow_fieldAddr rfl (tyAt rfl) rfl rfl rfl (tyAt rfl) rfl rfl ?_
      | refine ow_guard_yes rfl rfl rfl rfl ?_
      | refine ow_guard_no rfl rfl rfl rfl rfl rfl rfl ?_
      | refine ow_guard_dec rfl rfl rfl (fun _ => ?_) (fun h => (h (by with_reducible rfl)).elim)
      | refine ow_guard_dec rfl rfl rfl (fun h => (h (by with_reducible rfl)).elim) (fun _ => ?_)
      | (apply ow_pick_t; (· rfl); (· rfl); (· ((conv => lhs; whnf) <;> rfl)))
      | (apply ow_pick_f; (· rfl); (· rfl); (· ((conv => lhs; whnf) <;> rfl)))
      | refine wc_cond_true rfl ?_
      | refine wc_cond_false rfl ?_
      | refine ow_add rfl rfl rfl (by simp only [InK]; omega) ?_
      | refine ow_sub rfl rfl rfl (by simp only [InK]; omega) ?_
      | refine ow_lss rfl rfl rfl ?_
      | refine ow_leq rfl rfl rfl ?_
      | refine ow_gtr rfl rfl rfl ?_
      | refine ow_geq rfl rfl rfl ?_
      | refine ow_eql rfl rfl rfl ?_
      | refine ow_neq rfl rfl rfl ?_
      | refine ow_mul rfl rfl rfl (by simp only [InK]; omega) ?_
      | refine ow_quo rfl rfl rfl (by omega) (by omega) (by simp only [InK]; omega) ?_
      | refine ow_rem rfl rfl rfl (by omega) (by omega) ?_
      | refine ow_conv_in rfl rfl (tyAt rfl) (tyAt rfl) rfl (by simp only [InK]; omega) ?_
      | refine ow_conv rfl rfl (tyAt rfl) (tyAt rfl) rfl ?_
      | refine ow_not_dec rfl rfl ?_
      | refine ow_not rfl rfl ?_
      | refine ow_len rfl rfl (tyAt rfl) rfl ?_
      | refine ow_lenStr rfl rfl (tyAt rfl) rfl ?_
      | refine ow_max rfl rfl rfl ?_
      | refine ow_min rfl rfl rfl ?_
      | refine ow_and rfl rfl rfl ?_
      | refine ow_or rfl rfl rfl ?_
      | refine ow_xor rfl rfl rfl ?_
      | refine ow_neg rfl rfl (by simp only [InK]; omega) ?_
      | refine ow_negw rfl rfl ?_
      | refine ow_addw rfl rfl rfl ?_
      | refine ow_subw rfl rfl rfl ?_
      | refine ow_mulw rfl rfl rfl ?_
      | refine ow_compl rfl rfl ?_
      | refine ow_shl rfl rfl rfl (by omega) ?_
      | refine ow_shr rfl rfl rfl (by omega) ?_
      | refine ow_makeFunc (fs := []) (cs := []) rfl rfl rfl ?_
      | refine ow_makeFunc (fs := []) (cs := [.pointer _]) rfl rfl rfl ?_
      | refine ow_makeFunc (fs := []) (cs := [.pointer _, .pointer _]) rfl rfl rfl ?_
      | refine ow_makeFunc (fs := []) (cs := [.pointer _, .pointer _, .pointer _]) rfl rfl rfl ?_)
    refine wc_cond_dec rfl (fun h => ?_) (fun h => ?_) <;> try dsimp only at h
    · exact absurd rfl h
    · repeat (first
        | refine wc_seq ?_
        | refine wc_block ?_
        | refine wc_region ?_
        | refine ow_nil ?_
        | refine wc_skip ?_
        | refine wc_exit ?_
        | (apply ow_move; (· rfl); (· ((conv => lhs; whnf) <;> rfl)))
        | (apply ow_assign; (· rfl); (· ((conv => lhs; whnf) <;> rfl)))
        | refine ow_extract rfl rfl rfl ?_
        | refine ow_nilCheck_ptr rfl rfl ?_
        | refine ow_nilCheck_ptr0 rfl ?_
        | refine ow_fieldAddr rfl (tyAt rfl) rfl rfl rfl (tyAt rfl) rfl rfl ?_
        | refine ow_guard_yes rfl rfl rfl rfl ?_
        | refine ow_guard_no rfl rfl rfl rfl rfl rfl rfl ?_
        | refine ow_guard_dec rfl rfl rfl (fun _ => ?_) (fun h => (h (by with_reducible rfl)).elim)
        | refine ow_guard_dec rfl rfl rfl (fun h => (h (by with_reducible rfl)).elim) (fun _ => ?_)
        | (apply ow_pick_t; (· rfl); (· rfl); (· ((conv => lhs; whnf) <;> rfl)))
        | (apply ow_pick_f; (· rfl); (· rfl); (· ((conv => lhs; whnf) <;> rfl)))
        | refine wc_cond_true rfl ?_
        | refine wc_cond_false rfl ?_
        | refine ow_add rfl rfl rfl (by simp only [InK]; omega) ?_
        | refine ow_sub rfl rfl rfl (by simp only [InK]; omega) ?_
        | refine ow_lss rfl rfl rfl ?_
        | refine ow_leq rfl rfl rfl ?_
        | refine ow_gtr rfl rfl rfl ?_
        | refine ow_geq rfl rfl rfl ?_
        | refine ow_eql rfl rfl rfl ?_
        | refine ow_neq rfl rfl rfl ?_
        | refine ow_mul rfl rfl rfl (by simp only [InK]; omega) ?_
        | refine ow_quo rfl rfl rfl (by omega) (by omega) (by simp only [InK]; omega) ?_
        | refine ow_rem rfl rfl rfl (by omega) (by omega) ?_
        | refine ow_conv_in rfl rfl (tyAt rfl) (tyAt rfl) rfl (by simp only [InK]; omega) ?_
        | refine ow_conv rfl rfl (tyAt rfl) (tyAt rfl) rfl ?_
        | refine ow_not_dec rfl rfl ?_
        | refine ow_not rfl rfl ?_
        | refine ow_len rfl rfl (tyAt rfl) rfl ?_
        | refine ow_lenStr rfl rfl (tyAt rfl) rfl ?_
        | refine ow_max rfl rfl rfl ?_
        | refine ow_min rfl rfl rfl ?_
        | refine ow_and rfl rfl rfl ?_
        | refine ow_or rfl rfl rfl ?_
        | refine ow_xor rfl rfl rfl ?_
        | refine ow_neg rfl rfl (by simp only [InK]; omega) ?_
        | refine ow_negw rfl rfl ?_
        | refine ow_addw rfl rfl rfl ?_
        | refine ow_subw rfl rfl rfl ?_
        | refine ow_mulw rfl rfl rfl ?_
        | refine ow_compl rfl rfl ?_
        | refine ow_shl rfl rfl rfl (by omega) ?_
        | refine ow_shr rfl rfl rfl (by omega) ?_
        | refine ow_makeFunc (fs := []) (cs := []) rfl rfl rfl ?_
        | refine ow_makeFunc (fs := []) (cs := [.pointer _]) rfl rfl rfl ?_
        | refine ow_makeFunc (fs := []) (cs := [.pointer _, .pointer _]) rfl rfl rfl ?_
        | refine ow_makeFunc (fs := []) (cs := [.pointer _, .pointer _, .pointer _]) rfl rfl rfl ?_)
      exact ⟨i + 1, by first | exact rfl | exact upd_self' rfl rfl | exact upd_self' rfl (upd_self' rfl rfl) | exact upd_self' rfl (upd_self' rfl (upd_self' rfl rfl)) | exact upd_self' rfl (upd_self' rfl (upd_self' rfl (upd_self' rfl rfl))), by repeat (first | with_reducible exact Off.mix | with_reducible exact Off.refl | ((with_reducible refine Off.upd ?_ ?_); (· rfl))), ⟨rfl, by omega, H⟩, by omega⟩
  · repeat (first
      | refine wc_seq ?_
      | refine wc_block ?_
      | refine wc_region ?_
      | refine ow_nil ?_
      | refine wc_skip ?_
      | refine wc_exit ?_
      | (apply ow_move; (· rfl); (· ((conv => lhs; whnf) <;> rfl)))
      | (apply ow_assign; (· rfl); (· ((conv => lhs; whnf) <;> rfl)))
      | refine ow_extract rfl rfl rfl ?_
      | refine ow_nilCheck_ptr rfl rfl ?_
      | refine ow_nilCheck_ptr0 rfl ?_
      | refine ow_fieldAddr rfl (tyAt rfl) rfl rfl rfl (tyAt rfl) rfl rfl ?_
      | refine ow_guard_yes rfl rfl rfl rfl ?_
      | refine ow_guard_no rfl rfl rfl rfl rfl rfl rfl ?_
      | refine ow_guard_dec rfl rfl rfl (fun _ => ?_) (fun h => (h (by with_reducible rfl)).elim)
      | refine ow_guard_dec rfl rfl rfl (fun h => (h (by with_reducible rfl)).elim) (fun _ => ?_)
      | (apply ow_pick_t; (· rfl); (· rfl); (· ((conv => lhs; whnf) <;> rfl)))
      | (apply ow_pick_f; (· rfl); (· rfl); (· ((conv => lhs; whnf) <;> rfl)))
      | refine wc_cond_true rfl ?_
      | refine wc_cond_false rfl ?_
      | refine ow_add rfl rfl rfl (by simp only [InK]; omega) ?_
      | refine ow_sub rfl rfl rfl (by simp only [InK]; omega) ?_
      | refine ow_lss rfl rfl rfl ?_
      | refine ow_leq rfl rfl rfl ?_
      | refine ow_gtr rfl rfl rfl ?_
      | refine ow_geq rfl rfl rfl ?_
      | refine ow_eql rfl rfl rfl ?_
      | refine ow_neq rfl rfl rfl ?_
      | refine ow_mul rfl rfl rfl (by simp only [InK]; omega) ?_
      | refine ow_quo rfl rfl rfl (by omega) (by omega) (by simp only [InK]; omega) ?_
      | refine ow_rem rfl rfl rfl (by omega) (by omega) ?_
      | refine ow_conv_in rfl rfl (tyAt rfl) (tyAt rfl) rfl (by simp only [InK]; omega) ?_
      | refine ow_conv rfl rfl (tyAt rfl) (tyAt rfl) rfl ?_
      | refine ow_not_dec rfl rfl ?_
      | refine ow_not rfl rfl ?_
      | refine ow_len rfl rfl (tyAt rfl) rfl ?_
      | refine ow_lenStr rfl rfl (tyAt rfl) rfl ?_
      | refine ow_max rfl rfl rfl ?_
      | refine ow_min rfl rfl rfl ?_
      | refine ow_and rfl rfl rfl ?_
      | refine ow_or rfl rfl rfl ?_
      | refine ow_xor rfl rfl rfl ?_
      | refine ow_neg rfl rfl (by simp only [InK]; omega) ?_
      | refine ow_negw rfl rfl ?_
      | refine ow_addw rfl rfl rfl ?_
      | refine ow_subw rfl rfl rfl ?_
      | refine ow_mulw rfl rfl rfl ?_
      | refine ow_compl rfl rfl ?_
      | refine ow_shl rfl rfl rfl (by omega) ?_
      | refine ow_shr rfl rfl rfl (by omega) ?_
      | refine ow_makeFunc (fs := []) (cs := []) rfl rfl rfl ?_
      | refine ow_makeFunc (fs := []) (cs := [.pointer _]) rfl rfl rfl ?_
      | refine ow_makeFunc (fs := []) (cs := [.pointer _, .pointer _]) rfl rfl rfl ?_
      | refine ow_makeFunc (fs := []) (cs := [.pointer _, .pointer _, .pointer _]) rfl rfl rfl ?_)
    refine wc_ret ?_
    obtain ⟨w, hT, H⟩ := H.takes Try.prog
    refine ⟨.inr rfl, w, hT, _, .tmp .nil, ?_⟩
    exact ⟨rfl, H.sub (List.nil_sublist _)⟩
end Go.Proofs.Ytphmjdbdhhbdoaa
