/- The statement's function 'sandtablelaw02.VarintLists' returns true at every slice of bytes and every number, and changes nothing that was there. -/
import Derived.Test.YtphmjdbdhhbdoaaV9
import Derived.Test.YtphmjdbdhhbdoaaV7
import Derived.Test.YtphmjdbdhhbdoaaK1
import Derived.Test.YtphmjdbdhhbdoaaV4
namespace Go.Proofs.Ytphmjdbdhhbdoaa
set_option linter.all false
open Go Go.Sx Go.Proofs
set_option maxRecDepth 100000
set_option maxHeartbeats 2000000
theorem sameInts_spec' (p q : Option Addr) (c c' lx ly : Nat) (xs ys : List Int) (hlx : lx = xs.length) (hly : ly = ys.length) (hx : xs.length ≤ 1000000) (w0 : World) (h1 : SlH (hp w0) p (ints .i64 xs)) (h2 : SlH (hp w0) q (ints .i64 ys)) :
    CallsV Try.prog 40 #[.slice p lx c, .slice q ly c'] w0 fun v w => v = .bool (decide (xs = ys)) ∧ St Pu w0 w [] [] := by
  subst hlx hly; exact sameInts_spec p q c c' xs ys hx w0 h1 h2
theorem fst_ints (l : List (Nat × Nat)) : l.map fstV = ints .i64 (l.map fun x => (x.1 : Int)) := by simp [ints, fstV, List.map_map, Function.comp_def]
theorem snd_nats (l : List (Nat × Nat)) : l.map sndV = nats .u64 (l.map fun x => x.2) := by simp [nats, sndV, List.map_map, Function.comp_def]
theorem law02Lists (p : Option Addr) (cap : Nat) (bs : List Nat) (most : Int) (hcap : bs.length ≤ cap) (hb : ∀ c ∈ bs, c < 256) (w0 : World) (hs : SlH (hp w0) p (nats .u8 bs)) :
    CallsV Try.prog 5 #[.slice p bs.length cap, .int .i64 most] w0 fun v w => v = .bool true ∧ St Pu w0 w [] [] := by
  refine callsV_of Try.func5 rfl rfl ?_
  repeat (first
    | refine wc_seq ?_
    | refine wc_region ?_
    | refine ow_nil ?_
    | refine wc_skip ?_
    | refine wc_exit ?_
    | (apply ow_move; (· rfl); (· ((conv => lhs; whnf) <;> rfl)))
    | (apply ow_assign; (· rfl); (· ((conv => lhs; whnf) <;> rfl)))
    | refine ow_extract rfl rfl rfl ?_
    | refine ow_nilCheck_ptr rfl rfl ?_
    | refine ow_nilCheck_ptr0 rfl ?_
    | refine ow_fieldAddr rfl (tyAt rfl) rfl rfl rfl (tyAt rfl) rfl rfl ?_
    | refine ow_guard_yes rfl rfl rfl rfl ?_
    | refine ow_guard_no rfl rfl rfl rfl rfl rfl rfl ?_
    | refine ow_guard_dec rfl rfl rfl (fun _ => ?_) (fun h => (h (by with_reducible rfl)).elim)
    | refine ow_guard_dec rfl rfl rfl (fun h => (h (by with_reducible rfl)).elim) (fun _ => ?_)
    | (apply ow_pick_t; (· rfl); (· rfl); (· ((conv => lhs; whnf) <;> rfl)))
    | (apply ow_pick_f; (· rfl); (· rfl); (· ((conv => lhs; whnf) <;> rfl)))
    | refine wc_cond_true rfl ?_
    | refine wc_cond_false rfl ?_
    | refine ow_add rfl rfl rfl (by simp only [InK]; omega) ?_
    | refine ow_sub rfl rfl rfl (by simp only [InK]; omega) ?_
    | refine ow_lss rfl rfl rfl ?_
    | refine ow_leq rfl rfl rfl ?_
    | refine ow_gtr rfl rfl rfl ?_
    | refine ow_geq rfl rfl rfl ?_
    | refine ow_eql rfl rfl rfl ?_
    | refine ow_neq rfl rfl rfl ?_
    | refine ow_mul rfl rfl rfl (by simp only [InK]; omega) ?_
    | refine ow_quo rfl rfl rfl (by omega) (by omega) (by simp only [InK]; omega) ?_
    | refine ow_rem rfl rfl rfl (by omega) (by omega) ?_
    | refine ow_conv_in rfl rfl (tyAt rfl) (tyAt rfl) rfl (by simp only [InK]; omega) ?_
    | refine ow_conv rfl rfl (tyAt rfl) (tyAt rfl) rfl ?_
    | refine ow_not_dec rfl rfl ?_
    | refine ow_not rfl rfl ?_
    | refine ow_len rfl rfl (tyAt rfl) rfl ?_
    | refine ow_lenStr rfl rfl (tyAt rfl) rfl ?_
    | refine ow_max rfl rfl rfl ?_
    | refine ow_min rfl rfl rfl ?_
    | refine ow_and rfl rfl rfl ?_
    | refine ow_or rfl rfl rfl ?_
    | refine ow_xor rfl rfl rfl ?_
    | refine ow_neg rfl rfl (by simp only [InK]; omega) ?_
    | refine ow_negw rfl rfl ?_
    | refine ow_addw rfl rfl rfl ?_
    | refine ow_subw rfl rfl rfl ?_
    | refine ow_mulw rfl rfl rfl ?_
    | refine ow_compl rfl rfl ?_
    | refine ow_shl rfl rfl rfl (by omega) ?_
    | refine ow_shr rfl rfl rfl (by omega) ?_
    | refine ow_makeFunc (fs := []) (cs := []) rfl rfl rfl ?_
    | refine ow_makeFunc (fs := []) (cs := [.pointer _]) rfl rfl rfl ?_
    | refine ow_makeFunc (fs := []) (cs := [.pointer _, .pointer _]) rfl rfl rfl ?_
    | refine ow_makeFunc (fs := []) (cs := [.pointer _, .pointer _, .pointer _]) rfl rfl rfl ?_)
  refine ow_call rfl rfl (ent (by kernel_rfl)) (CallsV.mono (alive02 w0) ?_) rfl
  rintro v w ⟨rfl, H⟩
  repeat (first
    | refine wc_seq ?_
    | refine wc_region ?_
    | refine ow_nil ?_
    | refine wc_skip ?_
    | refine wc_exit ?_
    | (apply ow_move; (· rfl); (· ((conv => lhs; whnf) <;> rfl)))
    | (apply ow_assign; (· rfl); (· ((conv => lhs; whnf) <;> rfl)))
    | refine ow_extract rfl rfl rfl ?_
    | refine ow_nilCheck_ptr rfl rfl ?_
    | refine ow_nilCheck_ptr0 rfl ?_
    | refine ow_fieldAddr rfl (tyAt rfl) rfl rfl rfl (tyAt rfl) rfl rfl ?_
    | refine ow_guard_yes rfl rfl rfl rfl ?_
    | refine ow_guard_no rfl rfl rfl rfl rfl rfl rfl ?_
    | refine ow_guard_dec rfl rfl rfl (fun _ => ?_) (fun h => (h (by with_reducible rfl)).elim)
    | refine ow_guard_dec rfl rfl rfl (fun h => (h (by with_reducible rfl)).elim) (fun _ => ?_)
    | (apply ow_pick_t; (· rfl); (· rfl); (· ((conv => lhs; whnf) <;> rfl)))
    | (apply ow_pick_f; (· rfl); (· rfl); (· ((conv => lhs; whnf) <;> rfl)))
    | refine wc_cond_true rfl ?_
    | refine wc_cond_false rfl ?_
    | refine ow_add rfl rfl rfl (by simp only [InK]; omega) ?_
    | refine ow_sub rfl rfl rfl (by simp only [InK]; omega) ?_
    | refine ow_lss rfl rfl rfl ?_
    | refine ow_leq rfl rfl rfl ?_
    | refine ow_gtr rfl rfl rfl ?_
    | refine ow_geq rfl rfl rfl ?_
    | refine ow_eql rfl rfl rfl ?_
    | refine ow_neq rfl rfl rfl ?_
    | refine ow_mul rfl rfl rfl (by simp only [InK]; omega) ?_
    | refine ow_quo rfl rfl rfl (by omega) (by omega) (by simp only [InK]; omega) ?_
    | refine ow_rem rfl rfl rfl (by omega) (by omega) ?_
    | refine ow_conv_in rfl rfl (tyAt rfl) (tyAt rfl) rfl (by simp only [InK]; omega) ?_
    | refine ow_conv rfl rfl (tyAt rfl) (tyAt rfl) rfl ?_
    | refine ow_not_dec rfl rfl ?_
    | refine ow_not rfl rfl ?_
    | refine ow_len rfl rfl (tyAt rfl) rfl ?_
    | refine ow_lenStr rfl rfl (tyAt rfl) rfl ?_
    | refine ow_max rfl rfl rfl ?_
    | refine ow_min rfl rfl rfl ?_
    | refine ow_and rfl rfl rfl ?_
    | refine ow_or rfl rfl rfl ?_
    | refine ow_xor rfl rfl rfl ?_
    | refine ow_neg rfl rfl (by simp only [InK]; omega) ?_
    | refine ow_negw rfl rfl ?_
    | refine ow_addw rfl rfl rfl ?_
    | refine ow_subw rfl rfl rfl ?_
    | refine ow_mulw rfl rfl rfl ?_
    | refine ow_compl rfl rfl ?_
    | refine ow_shl rfl rfl rfl (by omega) ?_
    | refine ow_shr rfl rfl rfl (by omega) ?_
    | refine ow_makeFunc (fs := []) (cs := []) rfl rfl rfl ?_
    | refine ow_makeFunc (fs := []) (cs := [.pointer _]) rfl rfl rfl ?_
    | refine ow_makeFunc (fs := []) (cs := [.pointer _, .pointer _]) rfl rfl rfl ?_
    | refine ow_makeFunc (fs := []) (cs := [.pointer _, .pointer _, .pointer _]) rfl rfl rfl ?_)
  refine wc_cond_dec rfl (fun h => ?_) (fun h => ?_) <;> try dsimp only at h
  · repeat (first
      | refine wc_seq ?_
      | refine wc_block ?_
      | refine wc_region ?_
      | refine ow_nil ?_
      | refine wc_skip ?_
      | refine wc_exit ?_
      | (apply ow_move; (· rfl); (· ((conv => lhs; whnf) <;> rfl)))
      | (apply ow_assign; (· rfl); (· ((conv => lhs; whnf) <;> rfl)))
      | refine ow_extract rfl rfl rfl ?_
      | refine ow_nilCheck_ptr rfl rfl ?_
      | refine ow_nilCheck_ptr0 rfl ?_
      | refine ow_fieldAddr rfl (tyAt rfl) rfl rfl rfl (tyAt rfl) rfl rfl ?_
      | refine ow_guard_yes rfl rfl rfl rfl ?_
      | refine ow_guard_no rfl rfl rfl rfl rfl rfl rfl ?_
      | refine ow_guard_dec rfl rfl rfl (fun _ => ?_) (fun h => (h (by with_reducible rfl)).elim)
      | refine ow_guard_dec rfl rfl rfl (fun h => (h (by with_reducible rfl)).elim) (fun _ => ?_)
      | (apply ow_pick_t; (· rfl); (· rfl); (· ((conv => lhs; whnf) <;> rfl)))
      | (apply ow_pick_f; (· rfl); (· rfl); (· ((conv => lhs; whnf) <;> rfl)))
      | refine wc_cond_true rfl ?_
      | refine wc_cond_false rfl ?_
      | refine ow_add rfl rfl rfl (by simp only [InK]; omega) ?_
      | refine ow_sub rfl rfl rfl (by simp only [InK]; omega) ?_
      | refine ow_lss rfl rfl rfl ?_
      | refine ow_leq rfl rfl rfl ?_
      | refine ow_gtr rfl rfl rfl ?_
      | refine ow_geq rfl rfl rfl ?_
      | refine ow_eql rfl rfl rfl ?_
      | refine ow_neq rfl rfl rfl ?_
      | refine ow_mul rfl rfl rfl (by simp only [InK]; omega) ?_
      | refine ow_quo rfl rfl rfl (by omega) (by omega) (by simp only [InK]; omega) ?_
      | refine ow_rem rfl rfl rfl (by omega) (by omega) ?_
      | refine ow_conv_in rfl rfl (tyAt rfl) (tyAt rfl) rfl (by simp only [InK]; omega) ?_
      | refine ow_conv rfl rfl (tyAt rfl) (tyAt rfl) rfl ?_
      | refine ow_not_dec rfl rfl ?_
      | refine ow_not rfl rfl ?_
      | refine ow_len rfl rfl (tyAt rfl) rfl ?_
      | refine ow_lenStr rfl rfl (tyAt rfl) rfl ?_
      | refine ow_max rfl rfl rfl ?_
      | refine ow_min rfl rfl rfl ?_
      | refine ow_and rfl rfl rfl ?_
      | refine ow_or rfl rfl rfl ?_
      | refine ow_xor rfl rfl rfl ?_
      | refine ow_neg rfl rfl (by simp only [InK]; omega) ?_
      | refine ow_negw rfl rfl ?_
      | refine ow_addw rfl rfl rfl ?_
      | refine ow_subw rfl rfl rfl ?_
      | refine ow_mulw rfl rfl rfl ?_
      | refine ow_compl rfl rfl ?_
      | refine ow_shl rfl rfl rfl (by omega) ?_
      | refine ow_shr rfl rfl rfl (by omega) ?_
      | refine ow_makeFunc (fs := []) (cs := []) rfl rfl rfl ?_
      | refine ow_makeFunc (fs := []) (cs := [.pointer _]) rfl rfl rfl ?_
      | refine ow_makeFunc (fs := []) (cs := [.pointer _, .pointer _]) rfl rfl rfl ?_
      | refine ow_makeFunc (fs := []) (cs := [.pointer _, .pointer _, .pointer _]) rfl rfl rfl ?_)
    refine wc_ret ?_
    obtain ⟨w, hT, H⟩ := H.takes Try.prog
    refine ⟨.inr rfl, w, hT, _, .tmp .nil, ?_⟩
    exact ⟨rfl, H⟩
  repeat (first
    | refine wc_seq ?_
    | refine wc_region ?_
    | refine ow_nil ?_
    | refine wc_skip ?_
    | refine wc_exit ?_
    | (apply ow_move; (· rfl); (· ((conv => lhs; whnf) <;> rfl)))
    | (apply ow_assign; (· rfl); (· ((conv => lhs; whnf) <;> rfl)))
    | refine ow_extract rfl rfl rfl ?_
    | refine ow_nilCheck_ptr rfl rfl ?_
    | refine ow_nilCheck_ptr0 rfl ?_
    | refine ow_fieldAddr rfl (tyAt rfl) rfl rfl rfl (tyAt rfl) rfl rfl ?_
    | refine ow_guard_yes rfl rfl rfl rfl ?_
    | refine ow_guard_no rfl rfl rfl rfl rfl rfl rfl ?_
    | refine ow_guard_dec rfl rfl rfl (fun _ => ?_) (fun h => (h (by with_reducible rfl)).elim)
    | refine ow_guard_dec rfl rfl rfl (fun h => (h (by with_reducible rfl)).elim) (fun _ => ?_)
    | (apply ow_pick_t; (· rfl); (· rfl); (· ((conv => lhs; whnf) <;> rfl)))
    | (apply ow_pick_f; (· rfl); (· rfl); (· ((conv => lhs; whnf) <;> rfl)))
    | refine wc_cond_true rfl ?_
    | refine wc_cond_false rfl ?_
    | refine ow_add rfl rfl rfl (by simp only [InK]; omega) ?_
    | refine ow_sub rfl rfl rfl (by simp only [InK]; omega) ?_
    | refine ow_lss rfl rfl rfl ?_
    | refine ow_leq rfl rfl rfl ?_
    | refine ow_gtr rfl rfl rfl ?_
    | refine ow_geq rfl rfl rfl ?_
    | refine ow_eql rfl rfl rfl ?_
    | refine ow_neq rfl rfl rfl ?_
    | refine ow_mul rfl rfl rfl (by simp only [InK]; omega) ?_
    | refine ow_quo rfl rfl rfl (by omega) (by omega) (by simp only [InK]; omega) ?_
    | refine ow_rem rfl rfl rfl (by omega) (by omega) ?_
    | refine ow_conv_in rfl rfl (tyAt rfl) (tyAt rfl) rfl (by simp only [InK]; omega) ?_
    | refine ow_conv rfl rfl (tyAt rfl) (tyAt rfl) rfl ?_
    | refine ow_not_dec rfl rfl ?_
    | refine ow_not rfl rfl ?_
    | refine ow_len rfl rfl (tyAt rfl) rfl ?_
    | refine ow_lenStr rfl rfl (tyAt rfl) rfl ?_
    | refine ow_max rfl rfl rfl ?_
    | refine ow_min rfl rfl rfl ?_
    | refine ow_and rfl rfl rfl ?_
    | refine ow_or rfl rfl rfl ?_
    | refine ow_xor rfl rfl rfl ?_
    | refine ow_neg rfl rfl (by simp only [InK]; omega) ?_
    | refine ow_negw rfl rfl ?_
    | refine ow_addw rfl rfl rfl ?_
    | refine ow_subw rfl rfl rfl ?_
    | refine ow_mulw rfl rfl rfl ?_
    | refine ow_compl rfl rfl ?_
    | refine ow_shl rfl rfl rfl (by omega) ?_
    | refine ow_shr rfl rfl rfl (by omega) ?_
    | refine ow_makeFunc (fs := []) (cs := []) rfl rfl rfl ?_
    | refine ow_makeFunc (fs := []) (cs := [.pointer _]) rfl rfl rfl ?_
    | refine ow_makeFunc (fs := []) (cs := [.pointer _, .pointer _]) rfl rfl rfl ?_
    | refine ow_makeFunc (fs := []) (cs := [.pointer _, .pointer _, .pointer _]) rfl rfl rfl ?_)
  refine ow_buildSlice1 (vs := []) H rfl (tyAt rfl) rfl (tyAt rfl) rfl rfl rfl rfl rfl (by simp [Value.one]) (fun b w H => ?_)
  repeat (first
    | refine wc_seq ?_
    | refine wc_region ?_
    | refine ow_nil ?_
    | refine wc_skip ?_
    | refine wc_exit ?_
    | (apply ow_move; (· rfl); (· ((conv => lhs; whnf) <;> rfl)))
    | (apply ow_assign; (· rfl); (· ((conv => lhs; whnf) <;> rfl)))
    | refine ow_extract rfl rfl rfl ?_
    | refine ow_nilCheck_ptr rfl rfl ?_
    | refine ow_nilCheck_ptr0 rfl ?_
    | refine ow_fieldAddr rfl (tyAt rfl) rfl rfl rfl (tyAt rfl) rfl rfl ?_
    | refine ow_guard_yes rfl rfl rfl rfl ?_
    | refine ow_guard_no rfl rfl rfl rfl rfl rfl rfl ?_
    | refine ow_guard_dec rfl rfl rfl (fun _ => ?_) (fun h => (h (by with_reducible rfl)).elim)
    | refine ow_guard_dec rfl rfl rfl (fun h => (h (by with_reducible rfl)).elim) (fun _ => ?_)
    | (apply ow_pick_t; (· rfl); (· rfl); (· ((conv => lhs; whnf) <;> rfl)))
    | (apply ow_pick_f; (· rfl); (· rfl); (· ((conv => lhs; whnf) <;> rfl)))
    | refine wc_cond_true rfl ?_
    | refine wc_cond_false rfl ?_
    | refine ow_add rfl rfl rfl (by simp only [InK]; omega) ?_
    | refine ow_sub rfl rfl rfl (by simp only [InK]; omega) ?_
    | refine ow_lss rfl rfl rfl ?_
    | refine ow_leq rfl rfl rfl ?_
    | refine ow_gtr rfl rfl rfl ?_
    | refine ow_geq rfl rfl rfl ?_
    | refine ow_eql rfl rfl rfl ?_
    | refine ow_neq rfl rfl rfl ?_
    | refine ow_mul rfl rfl rfl (by simp only [InK]; omega) ?_
    | refine ow_quo rfl rfl rfl (by omega) (by omega) (by simp only [InK]; omega) ?_
    | refine ow_rem rfl rfl rfl (by omega) (by omega) ?_
    | refine ow_conv_in rfl rfl (tyAt rfl) (tyAt rfl) rfl (by simp only [InK]; omega) ?_
    | refine ow_conv rfl rfl (tyAt rfl) (tyAt rfl) rfl ?_
    | refine ow_not_dec rfl rfl ?_
    | refine ow_not rfl rfl ?_
    | refine ow_len rfl rfl (tyAt rfl) rfl ?_
    | refine ow_lenStr rfl rfl (tyAt rfl) rfl ?_
    | refine ow_max rfl rfl rfl ?_
    | refine ow_min rfl rfl rfl ?_
    | refine ow_and rfl rfl rfl ?_
    | refine ow_or rfl rfl rfl ?_
    | refine ow_xor rfl rfl rfl ?_
    | refine ow_neg rfl rfl (by simp only [InK]; omega) ?_
    | refine ow_negw rfl rfl ?_
    | refine ow_addw rfl rfl rfl ?_
    | refine ow_subw rfl rfl rfl ?_
    | refine ow_mulw rfl rfl rfl ?_
    | refine ow_compl rfl rfl ?_
    | refine ow_shl rfl rfl rfl (by omega) ?_
    | refine ow_shr rfl rfl rfl (by omega) ?_
    | refine ow_makeFunc (fs := []) (cs := []) rfl rfl rfl ?_
    | refine ow_makeFunc (fs := []) (cs := [.pointer _]) rfl rfl rfl ?_
    | refine ow_makeFunc (fs := []) (cs := [.pointer _, .pointer _]) rfl rfl rfl ?_
    | refine ow_makeFunc (fs := []) (cs := [.pointer _, .pointer _, .pointer _]) rfl rfl rfl ?_)
  refine ow_buildSlice1 (vs := []) H rfl (tyAt rfl) rfl (tyAt rfl) rfl rfl rfl rfl rfl (by simp [Value.one]) (fun b w H => ?_)
  repeat (first
    | refine wc_seq ?_
    | refine wc_region ?_
    | refine ow_nil ?_
    | refine wc_skip ?_
    | refine wc_exit ?_
    | (apply ow_move; (· rfl); (· ((conv => lhs; whnf) <;> rfl)))
    | (apply ow_assign; (· rfl); (· ((conv => lhs; whnf) <;> rfl)))
    | refine ow_extract rfl rfl rfl ?_
    | refine ow_nilCheck_ptr rfl rfl ?_
    | refine ow_nilCheck_ptr0 rfl ?_
    | refine ow_fieldAddr rfl (tyAt rfl) rfl rfl rfl (tyAt rfl) rfl rfl ?_
    | refine ow_guard_yes rfl rfl rfl rfl ?_
    | refine ow_guard_no rfl rfl rfl rfl rfl rfl rfl ?_
    | refine ow_guard_dec rfl rfl rfl (fun _ => ?_) (fun h => (h (by with_reducible rfl)).elim)
    | refine ow_guard_dec rfl rfl rfl (fun h => (h (by with_reducible rfl)).elim) (fun _ => ?_)
    | (apply ow_pick_t; (· rfl); (· rfl); (· ((conv => lhs; whnf) <;> rfl)))
    | (apply ow_pick_f; (· rfl); (· rfl); (· ((conv => lhs; whnf) <;> rfl)))
    | refine wc_cond_true rfl ?_
    | refine wc_cond_false rfl ?_
    | refine ow_add rfl rfl rfl (by simp only [InK]; omega) ?_
    | refine ow_sub rfl rfl rfl (by simp only [InK]; omega) ?_
    | refine ow_lss rfl rfl rfl ?_
    | refine ow_leq rfl rfl rfl ?_
    | refine ow_gtr rfl rfl rfl ?_
    | refine ow_geq rfl rfl rfl ?_
    | refine ow_eql rfl rfl rfl ?_
    | refine ow_neq rfl rfl rfl ?_
    | refine ow_mul rfl rfl rfl (by simp only [InK]; omega) ?_
    | refine ow_quo rfl rfl rfl (by omega) (by omega) (by simp only [InK]; omega) ?_
    | refine ow_rem rfl rfl rfl (by omega) (by omega) ?_
    | refine ow_conv_in rfl rfl (tyAt rfl) (tyAt rfl) rfl (by simp only [InK]; omega) ?_
    | refine ow_conv rfl rfl (tyAt rfl) (tyAt rfl) rfl ?_
    | refine ow_not_dec rfl rfl ?_
    | refine ow_not rfl rfl ?_
    | refine ow_len rfl rfl (tyAt rfl) rfl ?_
    | refine ow_lenStr rfl rfl (tyAt rfl) rfl ?_
    | refine ow_max rfl rfl rfl ?_
    | refine ow_min rfl rfl rfl ?_
    | refine ow_and rfl rfl rfl ?_
    | refine ow_or rfl rfl rfl ?_
    | refine ow_xor rfl rfl rfl ?_
    | refine ow_neg rfl rfl (by simp only [InK]; omega) ?_
    | refine ow_negw rfl rfl ?_
    | refine ow_addw rfl rfl rfl ?_
    | refine ow_subw rfl rfl rfl ?_
    | refine ow_mulw rfl rfl rfl ?_
    | refine ow_compl rfl rfl ?_
    | refine ow_shl rfl rfl rfl (by omega) ?_
    | refine ow_shr rfl rfl rfl (by omega) ?_
    | refine ow_makeFunc (fs := []) (cs := []) rfl rfl rfl ?_
    | refine ow_makeFunc (fs := []) (cs := [.pointer _]) rfl rfl rfl ?_
    | refine ow_makeFunc (fs := []) (cs := [.pointer _, .pointer _]) rfl rfl rfl ?_
    | refine ow_makeFunc (fs := []) (cs := [.pointer _, .pointer _, .pointer _]) rfl rfl rfl ?_)
  replace H := H.rowApp (i := 0) (len := 0) (sz := 1) rfl rfl (by omega)
  replace H := H.rowApp (i := 1) (len := 0) (sz := 1) rfl rfl (by omega)
  dsimp only [List.set] at H
  refine wc_blockJ [5, 6, 7, 8, 9, 10, 20, 21, 22, 23, 24, 25, 26, 27, 28, 29, 30, 31, 32, 33, 34, 35, 36, 37, 38, 39, 40, 41, 42, 43, 44]
    (fun (s : Option Addr × Nat × Option Addr × Nat) e => upd (upd e 5 (.slice s.1 (allL bs).length s.2.1)) 6 (.slice s.2.2.1 (allL bs).length s.2.2.2))
    (fun s D w => D = [] ∧ St Pu w0 w [.app s.2.2.1 (allL bs).length s.2.2.2 3 1 ((allL bs).map fstV), .app s.1 (allL bs).length s.2.1 24 1 ((allL bs).map sndV)] []) ?_ ?_
  · refine wc_loopS [5, 6, 7, 8, 9, 10, 20, 21, 22, 23, 24, 25, 26, 27, 28, 29, 30, 31, 32, 33, 34, 35, 36, 37, 38, 39, 40, 41, 42, 43, 44]
      (fun (s : Nat × Nat × Option Addr × Nat × Option Addr × Nat) e => upd (upd (upd e 5 (.slice s.2.2.1 s.1 s.2.2.2.1)) 6 (.slice s.2.2.2.2.1 s.1 s.2.2.2.2.2)) 7 (.int .i64 s.2.1))
      (fun s D w => D = [] ∧ s.1 ≤ (allL bs).length ∧ s.2.1 ≤ bs.length ∧ (∃ f, bs.length - s.2.1 ≤ f ∧ allR f s.2.1 (bs.drop s.2.1) = (allL bs).drop s.1) ∧
        St Pu w0 w [.app s.2.2.2.2.1 s.1 s.2.2.2.2.2 3 1 (((allL bs).take s.1).map fstV), .app s.2.2.1 s.1 s.2.2.2.1 24 1 (((allL bs).take s.1).map sndV)] [])
      (fun s _ => bs.length - s.2.1) (0, 0, _, _, _, _) (by first | exact rfl | exact upd_self' rfl rfl | exact upd_self' rfl (upd_self' rfl rfl) | exact upd_self' rfl (upd_self' rfl (upd_self' rfl rfl)) | exact upd_self' rfl (upd_self' rfl (upd_self' rfl (upd_self' rfl rfl)))) ⟨rfl, Nat.zero_le _, Nat.zero_le _, ⟨bs.length, Nat.sub_le _ _, rfl⟩, H⟩ ?_
    clear H w
    rintro ⟨k, i, p5, c5, p6, c6⟩ j D w ⟨rfl, hk, hi, ⟨f, hf, hall⟩, H⟩
    dsimp only at hk hi hf hall H ⊢
    have hal := allR_len bs.length 0 bs
    have hal' : (allL bs).length ≤ bs.length := hal
    repeat (first
      | refine wc_seq ?_
      | refine wc_block ?_
      | refine wc_region ?_
      | refine ow_nil ?_
      | refine wc_skip ?_
      | refine wc_exit ?_
      | (apply ow_move; (· rfl); (· ((conv => lhs; whnf) <;> rfl)))
      | (apply ow_assign; (· rfl); (· ((conv => lhs; whnf) <;> rfl)))
      | refine ow_extract rfl rfl rfl ?_
      | refine ow_nilCheck_ptr rfl rfl ?_
      | refine ow_nilCheck_ptr0 rfl ?_
      | refine ow_fieldAddr rfl (tyAt rfl) rfl rfl rfl (tyAt rfl) rfl rfl ?_
      | refine ow_guard_yes rfl rfl rfl rfl ?_
      | refine ow_guard_no rfl rfl rfl rfl rfl rfl rfl ?_
      | refine ow_guard_dec rfl rfl rfl (fun _ => ?_) (fun h => (h (by with_reducible rfl)).elim)
      | refine ow_guard_dec rfl rfl rfl (fun h => (h (by with_reducible rfl)).elim) (fun _ => ?_)
      | (apply ow_pick_t; (· rfl); (· rfl); (· ((conv => lhs; whnf) <;> rfl)))
      | (apply ow_pick_f; (· rfl); (· rfl); (· ((conv => lhs; whnf) <;> rfl)))
      | refine wc_cond_true rfl ?_
      | refine wc_cond_false rfl ?_
      | refine ow_add rfl rfl rfl (by simp only [InK]; omega) ?_
      | refine ow_sub rfl rfl rfl (by simp only [InK]; omega) ?_
      | refine ow_lss rfl rfl rfl ?_
      | refine ow_leq rfl rfl rfl ?_
      | refine ow_gtr rfl rfl rfl ?_
      | refine ow_geq rfl rfl rfl ?_
      | refine ow_eql rfl rfl rfl ?_
      | refine ow_neq rfl rfl rfl ?_
      | refine ow_mul rfl rfl rfl (by simp only [InK]; omega) ?_
      | refine ow_quo rfl rfl rfl (by omega) (by omega) (by simp only [InK]; omega) ?_
      | refine ow_rem rfl rfl rfl (by omega) (by omega) ?_
      | refine ow_conv_in rfl rfl (tyAt rfl) (tyAt rfl) rfl (by simp only [InK]; omega) ?_
      | refine ow_conv rfl rfl (tyAt rfl) (tyAt rfl) rfl ?_
      | refine ow_not_dec rfl rfl ?_
      | refine ow_not rfl rfl ?_
      | refine ow_len rfl rfl (tyAt rfl) rfl ?_
      | refine ow_lenStr rfl rfl (tyAt rfl) rfl ?_
      | refine ow_max rfl rfl rfl ?_
      | refine ow_min rfl rfl rfl ?_
      | refine ow_and rfl rfl rfl ?_
      | refine ow_or rfl rfl rfl ?_
      | refine ow_xor rfl rfl rfl ?_
      | refine ow_neg rfl rfl (by simp only [InK]; omega) ?_
      | refine ow_negw rfl rfl ?_
      | refine ow_addw rfl rfl rfl ?_
      | refine ow_subw rfl rfl rfl ?_
      | refine ow_mulw rfl rfl rfl ?_
      | refine ow_compl rfl rfl ?_
      | refine ow_shl rfl rfl rfl (by omega) ?_
      | refine ow_shr rfl rfl rfl (by omega) ?_
      | refine ow_makeFunc (fs := []) (cs := []) rfl rfl rfl ?_
      | refine ow_makeFunc (fs := []) (cs := [.pointer _]) rfl rfl rfl ?_
      | refine ow_makeFunc (fs := []) (cs := [.pointer _, .pointer _]) rfl rfl rfl ?_
      | refine ow_makeFunc (fs := []) (cs := [.pointer _, .pointer _, .pointer _]) rfl rfl rfl ?_)
    refine wc_cond_dec rfl (fun h => ?_) (fun h => ?_) <;> try dsimp only at h
    · have hlt : i < bs.length := by omega
      obtain ⟨f, rfl⟩ : ∃ g, f = g + 1 := ⟨f - 1, by omega⟩
      have hne : bs.drop i ≠ [] := by simp; omega
      simp only [allR, if_neg hne] at hall
      repeat (first
        | refine wc_seq ?_
        | refine wc_block ?_
        | refine wc_region ?_
        | refine ow_nil ?_
        | refine wc_skip ?_
        | refine wc_exit ?_
        | (apply ow_move; (· rfl); (· ((conv => lhs; whnf) <;> rfl)))
        | (apply ow_assign; (· rfl); (· ((conv => lhs; whnf) <;> rfl)))
        | refine ow_extract rfl rfl rfl ?_
        | refine ow_nilCheck_ptr rfl rfl ?_
        | refine ow_nilCheck_ptr0 rfl ?_
        | refine ow_fieldAddr rfl (tyAt rfl) rfl rfl rfl (tyAt rfl) rfl rfl ?_
        | refine ow_guard_yes rfl rfl rfl rfl ?_
        | refine ow_guard_no rfl rfl rfl rfl rfl rfl rfl ?_
        | refine ow_guard_dec rfl rfl rfl (fun _ => ?_) (fun h => (h (by with_reducible rfl)).elim)
        | refine ow_guard_dec rfl rfl rfl (fun h => (h (by with_reducible rfl)).elim) (fun _ => ?_)
        | (apply ow_pick_t; (· rfl); (· rfl); (· ((conv => lhs; whnf) <;> rfl)))
        | (apply ow_pick_f; (· rfl); (· rfl); (· ((conv => lhs; whnf) <;> rfl)))
        | refine wc_cond_true rfl ?_
        | refine wc_cond_false rfl ?_
        | refine ow_add rfl rfl rfl (by simp only [InK]; omega) ?_
        | refine ow_sub rfl rfl rfl (by simp only [InK]; omega) ?_
        | refine ow_lss rfl rfl rfl ?_
        | refine ow_leq rfl rfl rfl ?_
        | refine ow_gtr rfl rfl rfl ?_
        | refine ow_geq rfl rfl rfl ?_
        | refine ow_eql rfl rfl rfl ?_
        | refine ow_neq rfl rfl rfl ?_
        | refine ow_mul rfl rfl rfl (by simp only [InK]; omega) ?_
        | refine ow_quo rfl rfl rfl (by omega) (by omega) (by simp only [InK]; omega) ?_
        | refine ow_rem rfl rfl rfl (by omega) (by omega) ?_
        | refine ow_conv_in rfl rfl (tyAt rfl) (tyAt rfl) rfl (by simp only [InK]; omega) ?_
        | refine ow_conv rfl rfl (tyAt rfl) (tyAt rfl) rfl ?_
        | refine ow_not_dec rfl rfl ?_
        | refine ow_not rfl rfl ?_
        | refine ow_len rfl rfl (tyAt rfl) rfl ?_
        | refine ow_lenStr rfl rfl (tyAt rfl) rfl ?_
        | refine ow_max rfl rfl rfl ?_
        | refine ow_min rfl rfl rfl ?_
        | refine ow_and rfl rfl rfl ?_
        | refine ow_or rfl rfl rfl ?_
        | refine ow_xor rfl rfl rfl ?_
        | refine ow_neg rfl rfl (by simp only [InK]; omega) ?_
        | refine ow_negw rfl rfl ?_
        | refine ow_addw rfl rfl rfl ?_
        | refine ow_subw rfl rfl rfl ?_
        | refine ow_mulw rfl rfl rfl ?_
        | refine ow_compl rfl rfl ?_
        | refine ow_shl rfl rfl rfl (by omega) ?_
        | refine ow_shr rfl rfl rfl (by omega) ?_
        | refine ow_makeFunc (fs := []) (cs := []) rfl rfl rfl ?_
        | refine ow_makeFunc (fs := []) (cs := [.pointer _]) rfl rfl rfl ?_
        | refine ow_makeFunc (fs := []) (cs := [.pointer _, .pointer _]) rfl rfl rfl ?_
        | refine ow_makeFunc (fs := []) (cs := [.pointer _, .pointer _, .pointer _]) rfl rfl rfl ?_)
      refine ow_sliceLo rfl (tyAt rfl) rfl (tyAt rfl) rfl rfl (by omega) (by omega) ?_
      dsimp only
      have hb' : ∀ x ∈ bs.drop i, x < 256 := fun x hx => hb x (List.mem_of_mem_drop hx)
      have hs' : SlH (hp w) (subP p cap (i : Int).toNat 1) (nats .u8 (bs.drop i)) := by
        have := (H.oldSl hs).sub i (subP p cap (i : Int).toNat 1) (fun hh => by simp only [subP]; rw [if_neg (by simp at hh; omega)]; simp)
        simpa [nats, List.map_drop] using this
      refine ow_call rfl rfl (ent (by kernel_rfl)) (CallsV.mono (refGet_spec' _ _ _ (bs.drop i) (by simp) hb' w hs' (by simp; omega)) ?_) rfl
      rintro v w' ⟨rfl, rfl⟩
      unfold getV
      have hsz := getN_size hb'
      obtain ⟨⟨g, sz, er⟩, hg⟩ : ∃ g, getN (bs.drop i) = g := ⟨_, rfl⟩
      rw [hg] at hall hsz ⊢
      dsimp only at hall hsz
      simp only [List.length_drop] at hsz
      repeat (first
        | refine wc_seq ?_
        | refine wc_block ?_
        | refine wc_region ?_
        | refine ow_nil ?_
        | refine wc_skip ?_
        | refine wc_exit ?_
        | (apply ow_move; (· rfl); (· ((conv => lhs; whnf) <;> rfl)))
        | (apply ow_assign; (· rfl); (· ((conv => lhs; whnf) <;> rfl)))
        | refine ow_extract rfl rfl rfl ?_
        | refine ow_nilCheck_ptr rfl rfl ?_
        | refine ow_nilCheck_ptr0 rfl ?_
        | refine ow_fieldAddr rfl (tyAt rfl) rfl rfl rfl (tyAt rfl) rfl rfl ?_
        | refine ow_guard_yes rfl rfl rfl rfl ?_
        | refine ow_guard_no rfl rfl rfl rfl rfl rfl rfl ?_
        | refine ow_guard_dec rfl rfl rfl (fun _ => ?_) (fun h => (h (by with_reducible rfl)).elim)
        | refine ow_guard_dec rfl rfl rfl (fun h => (h (by with_reducible rfl)).elim) (fun _ => ?_)
        | (apply ow_pick_t; (· rfl); (· rfl); (· ((conv => lhs; whnf) <;> rfl)))
        | (apply ow_pick_f; (· rfl); (· rfl); (· ((conv => lhs; whnf) <;> rfl)))
        | refine wc_cond_true rfl ?_
        | refine wc_cond_false rfl ?_
        | refine ow_add rfl rfl rfl (by simp only [InK]; omega) ?_
        | refine ow_sub rfl rfl rfl (by simp only [InK]; omega) ?_
        | refine ow_lss rfl rfl rfl ?_
        | refine ow_leq rfl rfl rfl ?_
        | refine ow_gtr rfl rfl rfl ?_
        | refine ow_geq rfl rfl rfl ?_
        | refine ow_eql rfl rfl rfl ?_
        | refine ow_neq rfl rfl rfl ?_
        | refine ow_mul rfl rfl rfl (by simp only [InK]; omega) ?_
        | refine ow_quo rfl rfl rfl (by omega) (by omega) (by simp only [InK]; omega) ?_
        | refine ow_rem rfl rfl rfl (by omega) (by omega) ?_
        | refine ow_conv_in rfl rfl (tyAt rfl) (tyAt rfl) rfl (by simp only [InK]; omega) ?_
        | refine ow_conv rfl rfl (tyAt rfl) (tyAt rfl) rfl ?_
        | refine ow_not_dec rfl rfl ?_
        | refine ow_not rfl rfl ?_
        | refine ow_len rfl rfl (tyAt rfl) rfl ?_
        | refine ow_lenStr rfl rfl (tyAt rfl) rfl ?_
        | refine ow_max rfl rfl rfl ?_
        | refine ow_min rfl rfl rfl ?_
        | refine ow_and rfl rfl rfl ?_
        | refine ow_or rfl rfl rfl ?_
        | refine ow_xor rfl rfl rfl ?_
        | refine ow_neg rfl rfl (by simp only [InK]; omega) ?_
        | refine ow_negw rfl rfl ?_
        | refine ow_addw rfl rfl rfl ?_
        | refine ow_subw rfl rfl rfl ?_
        | refine ow_mulw rfl rfl rfl ?_
        | refine ow_compl rfl rfl ?_
        | refine ow_shl rfl rfl rfl (by omega) ?_
        | refine ow_shr rfl rfl rfl (by omega) ?_
        | refine ow_makeFunc (fs := []) (cs := []) rfl rfl rfl ?_
        | refine ow_makeFunc (fs := []) (cs := [.pointer _]) rfl rfl rfl ?_
        | refine ow_makeFunc (fs := []) (cs := [.pointer _, .pointer _]) rfl rfl rfl ?_
        | refine ow_makeFunc (fs := []) (cs := [.pointer _, .pointer _, .pointer _]) rfl rfl rfl ?_)
      refine wc_cond_dec rfl (fun h => ?_) (fun h => ?_) <;> try dsimp only at h
      · repeat (first
          | refine wc_seq ?_
          | refine wc_block ?_
          | refine wc_region ?_
          | refine ow_nil ?_
          | refine wc_skip ?_
          | refine wc_exit ?_
          | (apply ow_move; (· rfl); (· ((conv => lhs; whnf) <;> rfl)))
          | (apply ow_assign; (· rfl); (· ((conv => lhs; whnf) <;> rfl)))
          | refine ow_extract rfl rfl rfl ?_
          | refine ow_nilCheck_ptr rfl rfl ?_
          | refine ow_nilCheck_ptr0 rfl ?_
          | refine ow_fieldAddr rfl (tyAt rfl) rfl rfl rfl (tyAt rfl) rfl rfl ?_
          | refine ow_guard_yes rfl rfl rfl rfl ?_
          | refine ow_guard_no rfl rfl rfl rfl rfl rfl rfl ?_
          | refine ow_guard_dec rfl rfl rfl (fun _ => ?_) (fun h => (h (by with_reducible rfl)).elim)
          | refine ow_guard_dec rfl rfl rfl (fun h => (h (by with_reducible rfl)).elim) (fun _ => ?_)
          | (apply ow_pick_t; (· rfl); (· rfl); (· ((conv => lhs; whnf) <;> rfl)))
          | (apply ow_pick_f; (· rfl); (· rfl); (· ((conv => lhs; whnf) <;> rfl)))
          | refine wc_cond_true rfl ?_
          | refine wc_cond_false rfl ?_
          | refine ow_add rfl rfl rfl (by simp only [InK]; omega) ?_
          | refine ow_sub rfl rfl rfl (by simp only [InK]; omega) ?_
          | refine ow_lss rfl rfl rfl ?_
          | refine ow_leq rfl rfl rfl ?_
          | refine ow_gtr rfl rfl rfl ?_
          | refine ow_geq rfl rfl rfl ?_
          | refine ow_eql rfl rfl rfl ?_
          | refine ow_neq rfl rfl rfl ?_
          | refine ow_mul rfl rfl rfl (by simp only [InK]; omega) ?_
          | refine ow_quo rfl rfl rfl (by omega) (by omega) (by simp only [InK]; omega) ?_
          | refine ow_rem rfl rfl rfl (by omega) (by omega) ?_
          | refine ow_conv_in rfl rfl (tyAt rfl) (tyAt rfl) rfl (by simp only [InK]; omega) ?_
          | refine ow_conv rfl rfl (tyAt rfl) (tyAt rfl) rfl ?_
          | refine ow_not_dec rfl rfl ?_
          | refine ow_not rfl rfl ?_
          | refine ow_len rfl rfl (tyAt rfl) rfl ?_
          | refine ow_lenStr rfl rfl (tyAt rfl) rfl ?_
          | refine ow_max rfl rfl rfl ?_
          | refine ow_min rfl rfl rfl ?_
          | refine ow_and rfl rfl rfl ?_
          | refine ow_or rfl rfl rfl ?_
          | refine ow_xor rfl rfl rfl ?_
          | refine ow_neg rfl rfl (by simp only [InK]; omega) ?_
          | refine ow_negw rfl rfl ?_
          | refine ow_addw rfl rfl rfl ?_
          | refine ow_subw rfl rfl rfl ?_
          | refine ow_mulw rfl rfl rfl ?_
          | refine ow_compl rfl rfl ?_
          | refine ow_shl rfl rfl rfl (by omega) ?_
          | refine ow_shr rfl rfl rfl (by omega) ?_
          | refine ow_makeFunc (fs := []) (cs := []) rfl rfl rfl ?_
          | refine ow_makeFunc (fs := []) (cs := [.pointer _]) rfl rfl rfl ?_
          | refine ow_makeFunc (fs := []) (cs := [.pointer _, .pointer _]) rfl rfl rfl ?_
          | refine ow_makeFunc (fs := []) (cs := [.pointer _, .pointer _, .pointer _]) rfl rfl rfl ?_)
        rw [if_neg (by omega)] at hall
        have hk' : k = (allL bs).length := by
          have := congrArg List.length hall; simp at this; omega
        subst hk'
        rw [List.take_length] at H
        exact ⟨(p5, c5, p6, c6), by first | exact rfl | exact upd_self' rfl rfl | exact upd_self' rfl (upd_self' rfl rfl) | exact upd_self' rfl (upd_self' rfl (upd_self' rfl rfl)) | exact upd_self' rfl (upd_self' rfl (upd_self' rfl (upd_self' rfl rfl))), by repeat (first | with_reducible exact Off.mix | with_reducible exact Off.refl | ((with_reducible refine Off.upd ?_ ?_); (· rfl))), rfl, H⟩
      · have her : er = 0 := by omega
        subst her
        rw [if_pos rfl] at hall
        have hat : (allL bs)[k]? = some (i, g) := by
          have := congrArg (fun l => l[0]?) hall
          simp only [List.getElem?_cons_zero, List.getElem?_drop, Nat.add_zero] at this
          exact this.symm
        have hklt : k < (allL bs).length := (List.getElem?_eq_some_iff.1 hat).1
        repeat (first
          | refine wc_seq ?_
          | refine wc_block ?_
          | refine wc_region ?_
          | refine ow_nil ?_
          | refine wc_skip ?_
          | refine wc_exit ?_
          | (apply ow_move; (· rfl); (· ((conv => lhs; whnf) <;> rfl)))
          | (apply ow_assign; (· rfl); (· ((conv => lhs; whnf) <;> rfl)))
          | refine ow_extract rfl rfl rfl ?_
          | refine ow_nilCheck_ptr rfl rfl ?_
          | refine ow_nilCheck_ptr0 rfl ?_
          | refine ow_fieldAddr rfl (tyAt rfl) rfl rfl rfl (tyAt rfl) rfl rfl ?_
          | refine ow_guard_yes rfl rfl rfl rfl ?_
          | refine ow_guard_no rfl rfl rfl rfl rfl rfl rfl ?_
          | refine ow_guard_dec rfl rfl rfl (fun _ => ?_) (fun h => (h (by with_reducible rfl)).elim)
          | refine ow_guard_dec rfl rfl rfl (fun h => (h (by with_reducible rfl)).elim) (fun _ => ?_)
          | (apply ow_pick_t; (· rfl); (· rfl); (· ((conv => lhs; whnf) <;> rfl)))
          | (apply ow_pick_f; (· rfl); (· rfl); (· ((conv => lhs; whnf) <;> rfl)))
          | refine wc_cond_true rfl ?_
          | refine wc_cond_false rfl ?_
          | refine ow_add rfl rfl rfl (by simp only [InK]; omega) ?_
          | refine ow_sub rfl rfl rfl (by simp only [InK]; omega) ?_
          | refine ow_lss rfl rfl rfl ?_
          | refine ow_leq rfl rfl rfl ?_
          | refine ow_gtr rfl rfl rfl ?_
          | refine ow_geq rfl rfl rfl ?_
          | refine ow_eql rfl rfl rfl ?_
          | refine ow_neq rfl rfl rfl ?_
          | refine ow_mul rfl rfl rfl (by simp only [InK]; omega) ?_
          | refine ow_quo rfl rfl rfl (by omega) (by omega) (by simp only [InK]; omega) ?_
          | refine ow_rem rfl rfl rfl (by omega) (by omega) ?_
          | refine ow_conv_in rfl rfl (tyAt rfl) (tyAt rfl) rfl (by simp only [InK]; omega) ?_
          | refine ow_conv rfl rfl (tyAt rfl) (tyAt rfl) rfl ?_
          | refine ow_not_dec rfl rfl ?_
          | refine ow_not rfl rfl ?_
          | refine ow_len rfl rfl (tyAt rfl) rfl ?_
          | refine ow_lenStr rfl rfl (tyAt rfl) rfl ?_
          | refine ow_max rfl rfl rfl ?_
          | refine ow_min rfl rfl rfl ?_
          | refine ow_and rfl rfl rfl ?_
          | refine ow_or rfl rfl rfl ?_
          | refine ow_xor rfl rfl rfl ?_
          | refine ow_neg rfl rfl (by simp only [InK]; omega) ?_
          | refine ow_negw rfl rfl ?_
          | refine ow_addw rfl rfl rfl ?_
          | refine ow_subw rfl rfl rfl ?_
          | refine ow_mulw rfl rfl rfl ?_
          | refine ow_compl rfl rfl ?_
          | refine ow_shl rfl rfl rfl (by omega) ?_
          | refine ow_shr rfl rfl rfl (by omega) ?_
          | refine ow_makeFunc (fs := []) (cs := []) rfl rfl rfl ?_
          | refine ow_makeFunc (fs := []) (cs := [.pointer _]) rfl rfl rfl ?_
          | refine ow_makeFunc (fs := []) (cs := [.pointer _, .pointer _]) rfl rfl rfl ?_
          | refine ow_makeFunc (fs := []) (cs := [.pointer _, .pointer _, .pointer _]) rfl rfl rfl ?_)
        refine ow_buildSlice1 (vs := [.int _ _]) H rfl (tyAt rfl) rfl (tyAt rfl) rfl rfl rfl rfl rfl (by simp [Value.one]) (fun b w H => ?_)
        repeat (first
          | refine wc_seq ?_
          | refine wc_block ?_
          | refine wc_region ?_
          | refine ow_nil ?_
          | refine wc_skip ?_
          | refine wc_exit ?_
          | (apply ow_move; (· rfl); (· ((conv => lhs; whnf) <;> rfl)))
          | (apply ow_assign; (· rfl); (· ((conv => lhs; whnf) <;> rfl)))
          | refine ow_extract rfl rfl rfl ?_
          | refine ow_nilCheck_ptr rfl rfl ?_
          | refine ow_nilCheck_ptr0 rfl ?_
          | refine ow_fieldAddr rfl (tyAt rfl) rfl rfl rfl (tyAt rfl) rfl rfl ?_
          | refine ow_guard_yes rfl rfl rfl rfl ?_
          | refine ow_guard_no rfl rfl rfl rfl rfl rfl rfl ?_
          | refine ow_guard_dec rfl rfl rfl (fun _ => ?_) (fun h => (h (by with_reducible rfl)).elim)
          | refine ow_guard_dec rfl rfl rfl (fun h => (h (by with_reducible rfl)).elim) (fun _ => ?_)
          | (apply ow_pick_t; (· rfl); (· rfl); (· ((conv => lhs; whnf) <;> rfl)))
          | (apply ow_pick_f; (· rfl); (· rfl); (· ((conv => lhs; whnf) <;> rfl)))
          | refine wc_cond_true rfl ?_
          | refine wc_cond_false rfl ?_
          | refine ow_add rfl rfl rfl (by simp only [InK]; omega) ?_
          | refine ow_sub rfl rfl rfl (by simp only [InK]; omega) ?_
          | refine ow_lss rfl rfl rfl ?_
          | refine ow_leq rfl rfl rfl ?_
          | refine ow_gtr rfl rfl rfl ?_
          | refine ow_geq rfl rfl rfl ?_
          | refine ow_eql rfl rfl rfl ?_
          | refine ow_neq rfl rfl rfl ?_
          | refine ow_mul rfl rfl rfl (by simp only [InK]; omega) ?_
          | refine ow_quo rfl rfl rfl (by omega) (by omega) (by simp only [InK]; omega) ?_
          | refine ow_rem rfl rfl rfl (by omega) (by omega) ?_
          | refine ow_conv_in rfl rfl (tyAt rfl) (tyAt rfl) rfl (by simp only [InK]; omega) ?_
          | refine ow_conv rfl rfl (tyAt rfl) (tyAt rfl) rfl ?_
          | refine ow_not_dec rfl rfl ?_
          | refine ow_not rfl rfl ?_
          | refine ow_len rfl rfl (tyAt rfl) rfl ?_
          | refine ow_lenStr rfl rfl (tyAt rfl) rfl ?_
          | refine ow_max rfl rfl rfl ?_
          | refine ow_min rfl rfl rfl ?_
          | refine ow_and rfl rfl rfl ?_
          | refine ow_or rfl rfl rfl ?_
          | refine ow_xor rfl rfl rfl ?_
          | refine ow_neg rfl rfl (by simp only [InK]; omega) ?_
          | refine ow_negw rfl rfl ?_
          | refine ow_addw rfl rfl rfl ?_
          | refine ow_subw rfl rfl rfl ?_
          | refine ow_mulw rfl rfl rfl ?_
          | refine ow_compl rfl rfl ?_
          | refine ow_shl rfl rfl rfl (by omega) ?_
          | refine ow_shr rfl rfl rfl (by omega) ?_
          | refine ow_makeFunc (fs := []) (cs := []) rfl rfl rfl ?_
          | refine ow_makeFunc (fs := []) (cs := [.pointer _]) rfl rfl rfl ?_
          | refine ow_makeFunc (fs := []) (cs := [.pointer _, .pointer _]) rfl rfl rfl ?_
          | refine ow_makeFunc (fs := []) (cs := [.pointer _, .pointer _, .pointer _]) rfl rfl rfl ?_)
        refine ow_append (i := 2) H rfl rfl (tyAt rfl) rfl (tyAt rfl) rfl (by decide) rfl rfl (H.rowSl (i := 0) rfl) rfl (by simp [Value.oneCell']) (by simp; omega) (by simp; omega) (fun p c w H => ?_)
        dsimp only [List.set] at H
        replace H := H.drop
        repeat (first
          | refine wc_seq ?_
          | refine wc_block ?_
          | refine wc_region ?_
          | refine ow_nil ?_
          | refine wc_skip ?_
          | refine wc_exit ?_
          | (apply ow_move; (· rfl); (· ((conv => lhs; whnf) <;> rfl)))
          | (apply ow_assign; (· rfl); (· ((conv => lhs; whnf) <;> rfl)))
          | refine ow_extract rfl rfl rfl ?_
          | refine ow_nilCheck_ptr rfl rfl ?_
          | refine ow_nilCheck_ptr0 rfl ?_
          | refine ow_fieldAddr rfl (tyAt rfl) rfl rfl rfl (tyAt rfl) rfl rfl ?_
          | refine ow_guard_yes rfl rfl rfl rfl ?_
          | refine ow_guard_no rfl rfl rfl rfl rfl rfl rfl ?_
          | refine ow_guard_dec rfl rfl rfl (fun _ => ?_) (fun h => (h (by with_reducible rfl)).elim)
          | refine ow_guard_dec rfl rfl rfl (fun h => (h (by with_reducible rfl)).elim) (fun _ => ?_)
          | (apply ow_pick_t; (· rfl); (· rfl); (· ((conv => lhs; whnf) <;> rfl)))
          | (apply ow_pick_f; (· rfl); (· rfl); (· ((conv => lhs; whnf) <;> rfl)))
          | refine wc_cond_true rfl ?_
          | refine wc_cond_false rfl ?_
          | refine ow_add rfl rfl rfl (by simp only [InK]; omega) ?_
          | refine ow_sub rfl rfl rfl (by simp only [InK]; omega) ?_
          | refine ow_lss rfl rfl rfl ?_
          | refine ow_leq rfl rfl rfl ?_
          | refine ow_gtr rfl rfl rfl ?_
          | refine ow_geq rfl rfl rfl ?_
          | refine ow_eql rfl rfl rfl ?_
          | refine ow_neq rfl rfl rfl ?_
          | refine ow_mul rfl rfl rfl (by simp only [InK]; omega) ?_
          | refine ow_quo rfl rfl rfl (by omega) (by omega) (by simp only [InK]; omega) ?_
          | refine ow_rem rfl rfl rfl (by omega) (by omega) ?_
          | refine ow_conv_in rfl rfl (tyAt rfl) (tyAt rfl) rfl (by simp only [InK]; omega) ?_
          | refine ow_conv rfl rfl (tyAt rfl) (tyAt rfl) rfl ?_
          | refine ow_not_dec rfl rfl ?_
          | refine ow_not rfl rfl ?_
          | refine ow_len rfl rfl (tyAt rfl) rfl ?_
          | refine ow_lenStr rfl rfl (tyAt rfl) rfl ?_
          | refine ow_max rfl rfl rfl ?_
          | refine ow_min rfl rfl rfl ?_
          | refine ow_and rfl rfl rfl ?_
          | refine ow_or rfl rfl rfl ?_
          | refine ow_xor rfl rfl rfl ?_
          | refine ow_neg rfl rfl (by simp only [InK]; omega) ?_
          | refine ow_negw rfl rfl ?_
          | refine ow_addw rfl rfl rfl ?_
          | refine ow_subw rfl rfl rfl ?_
          | refine ow_mulw rfl rfl rfl ?_
          | refine ow_compl rfl rfl ?_
          | refine ow_shl rfl rfl rfl (by omega) ?_
          | refine ow_shr rfl rfl rfl (by omega) ?_
          | refine ow_makeFunc (fs := []) (cs := []) rfl rfl rfl ?_
          | refine ow_makeFunc (fs := []) (cs := [.pointer _]) rfl rfl rfl ?_
          | refine ow_makeFunc (fs := []) (cs := [.pointer _, .pointer _]) rfl rfl rfl ?_
          | refine ow_makeFunc (fs := []) (cs := [.pointer _, .pointer _, .pointer _]) rfl rfl rfl ?_)
        refine ow_buildSlice1 (vs := [.int _ _]) H rfl (tyAt rfl) rfl (tyAt rfl) rfl rfl rfl rfl rfl (by simp [Value.one]) (fun b w H => ?_)
        repeat (first
          | refine wc_seq ?_
          | refine wc_block ?_
          | refine wc_region ?_
          | refine ow_nil ?_
          | refine wc_skip ?_
          | refine wc_exit ?_
          | (apply ow_move; (· rfl); (· ((conv => lhs; whnf) <;> rfl)))
          | (apply ow_assign; (· rfl); (· ((conv => lhs; whnf) <;> rfl)))
          | refine ow_extract rfl rfl rfl ?_
          | refine ow_nilCheck_ptr rfl rfl ?_
          | refine ow_nilCheck_ptr0 rfl ?_
          | refine ow_fieldAddr rfl (tyAt rfl) rfl rfl rfl (tyAt rfl) rfl rfl ?_
          | refine ow_guard_yes rfl rfl rfl rfl ?_
          | refine ow_guard_no rfl rfl rfl rfl rfl rfl rfl ?_
          | refine ow_guard_dec rfl rfl rfl (fun _ => ?_) (fun h => (h (by with_reducible rfl)).elim)
          | refine ow_guard_dec rfl rfl rfl (fun h => (h (by with_reducible rfl)).elim) (fun _ => ?_)
          | (apply ow_pick_t; (· rfl); (· rfl); (· ((conv => lhs; whnf) <;> rfl)))
          | (apply ow_pick_f; (· rfl); (· rfl); (· ((conv => lhs; whnf) <;> rfl)))
          | refine wc_cond_true rfl ?_
          | refine wc_cond_false rfl ?_
          | refine ow_add rfl rfl rfl (by simp only [InK]; omega) ?_
          | refine ow_sub rfl rfl rfl (by simp only [InK]; omega) ?_
          | refine ow_lss rfl rfl rfl ?_
          | refine ow_leq rfl rfl rfl ?_
          | refine ow_gtr rfl rfl rfl ?_
          | refine ow_geq rfl rfl rfl ?_
          | refine ow_eql rfl rfl rfl ?_
          | refine ow_neq rfl rfl rfl ?_
          | refine ow_mul rfl rfl rfl (by simp only [InK]; omega) ?_
          | refine ow_quo rfl rfl rfl (by omega) (by omega) (by simp only [InK]; omega) ?_
          | refine ow_rem rfl rfl rfl (by omega) (by omega) ?_
          | refine ow_conv_in rfl rfl (tyAt rfl) (tyAt rfl) rfl (by simp only [InK]; omega) ?_
          | refine ow_conv rfl rfl (tyAt rfl) (tyAt rfl) rfl ?_
          | refine ow_not_dec rfl rfl ?_
          | refine ow_not rfl rfl ?_
          | refine ow_len rfl rfl (tyAt rfl) rfl ?_
          | refine ow_lenStr rfl rfl (tyAt rfl) rfl ?_
          | refine ow_max rfl rfl rfl ?_
          | refine ow_min rfl rfl rfl ?_
          | refine ow_and rfl rfl rfl ?_
          | refine ow_or rfl rfl rfl ?_
          | refine ow_xor rfl rfl rfl ?_
          | refine ow_neg rfl rfl (by simp only [InK]; omega) ?_
          | refine ow_negw rfl rfl ?_
          | refine ow_addw rfl rfl rfl ?_
          | refine ow_subw rfl rfl rfl ?_
          | refine ow_mulw rfl rfl rfl ?_
          | refine ow_compl rfl rfl ?_
          | refine ow_shl rfl rfl rfl (by omega) ?_
          | refine ow_shr rfl rfl rfl (by omega) ?_
          | refine ow_makeFunc (fs := []) (cs := []) rfl rfl rfl ?_
          | refine ow_makeFunc (fs := []) (cs := [.pointer _]) rfl rfl rfl ?_
          | refine ow_makeFunc (fs := []) (cs := [.pointer _, .pointer _]) rfl rfl rfl ?_
          | refine ow_makeFunc (fs := []) (cs := [.pointer _, .pointer _, .pointer _]) rfl rfl rfl ?_)
        refine ow_append (i := 1) H rfl rfl (tyAt rfl) rfl (tyAt rfl) rfl (by decide) rfl rfl (H.rowSl (i := 0) rfl) rfl (by simp [Value.oneCell']) (by simp; omega) (by simp; omega) (fun p c w H => ?_)
        dsimp only [List.set] at H
        replace H := H.drop
        repeat (first
          | refine wc_seq ?_
          | refine wc_block ?_
          | refine wc_region ?_
          | refine ow_nil ?_
          | refine wc_skip ?_
          | refine wc_exit ?_
          | (apply ow_move; (· rfl); (· ((conv => lhs; whnf) <;> rfl)))
          | (apply ow_assign; (· rfl); (· ((conv => lhs; whnf) <;> rfl)))
          | refine ow_extract rfl rfl rfl ?_
          | refine ow_nilCheck_ptr rfl rfl ?_
          | refine ow_nilCheck_ptr0 rfl ?_
          | refine ow_fieldAddr rfl (tyAt rfl) rfl rfl rfl (tyAt rfl) rfl rfl ?_
          | refine ow_guard_yes rfl rfl rfl rfl ?_
          | refine ow_guard_no rfl rfl rfl rfl rfl rfl rfl ?_
          | refine ow_guard_dec rfl rfl rfl (fun _ => ?_) (fun h => (h (by with_reducible rfl)).elim)
          | refine ow_guard_dec rfl rfl rfl (fun h => (h (by with_reducible rfl)).elim) (fun _ => ?_)
          | (apply ow_pick_t; (· rfl); (· rfl); (· ((conv => lhs; whnf) <;> rfl)))
          | (apply ow_pick_f; (· rfl); (· rfl); (· ((conv => lhs; whnf) <;> rfl)))
          | refine wc_cond_true rfl ?_
          | refine wc_cond_false rfl ?_
          | refine ow_add rfl rfl rfl (by simp only [InK]; omega) ?_
          | refine ow_sub rfl rfl rfl (by simp only [InK]; omega) ?_
          | refine ow_lss rfl rfl rfl ?_
          | refine ow_leq rfl rfl rfl ?_
          | refine ow_gtr rfl rfl rfl ?_
          | refine ow_geq rfl rfl rfl ?_
          | refine ow_eql rfl rfl rfl ?_
          | refine ow_neq rfl rfl rfl ?_
          | refine ow_mul rfl rfl rfl (by simp only [InK]; omega) ?_
          | refine ow_quo rfl rfl rfl (by omega) (by omega) (by simp only [InK]; omega) ?_
          | refine ow_rem rfl rfl rfl (by omega) (by omega) ?_
          | refine ow_conv_in rfl rfl (tyAt rfl) (tyAt rfl) rfl (by simp only [InK]; omega) ?_
          | refine ow_conv rfl rfl (tyAt rfl) (tyAt rfl) rfl ?_
          | refine ow_not_dec rfl rfl ?_
          | refine ow_not rfl rfl ?_
          | refine ow_len rfl rfl (tyAt rfl) rfl ?_
          | refine ow_lenStr rfl rfl (tyAt rfl) rfl ?_
          | refine ow_max rfl rfl rfl ?_
          | refine ow_min rfl rfl rfl ?_
          | refine ow_and rfl rfl rfl ?_
          | refine ow_or rfl rfl rfl ?_
          | refine ow_xor rfl rfl rfl ?_
          | refine ow_neg rfl rfl (by simp only [InK]; omega) ?_
          | refine ow_negw rfl rfl ?_
          | refine ow_addw rfl rfl rfl ?_
          | refine ow_subw rfl rfl rfl ?_
          | refine ow_mulw rfl rfl rfl ?_
          | refine ow_compl rfl rfl ?_
          | refine ow_shl rfl rfl rfl (by omega) ?_
          | refine ow_shr rfl rfl rfl (by omega) ?_
          | refine ow_makeFunc (fs := []) (cs := []) rfl rfl rfl ?_
          | refine ow_makeFunc (fs := []) (cs := [.pointer _]) rfl rfl rfl ?_
          | refine ow_makeFunc (fs := []) (cs := [.pointer _, .pointer _]) rfl rfl rfl ?_
          | refine ow_makeFunc (fs := []) (cs := [.pointer _, .pointer _, .pointer _]) rfl rfl rfl ?_)
        refine ⟨(k + 1, i + sz, _, _, p, c), upd_self' (congrArg (Value.int .i64) (Int.natCast_add i sz).symm) (by first | exact rfl | exact upd_self' rfl rfl | exact upd_self' rfl (upd_self' rfl rfl) | exact upd_self' rfl (upd_self' rfl (upd_self' rfl rfl)) | exact upd_self' rfl (upd_self' rfl (upd_self' rfl (upd_self' rfl rfl)))), by repeat (first | with_reducible exact Off.mix | with_reducible exact Off.refl | ((with_reducible refine Off.upd ?_ ?_); (· rfl))), ⟨rfl, hklt, by dsimp only; omega, ⟨f, by dsimp only; omega, ?_⟩, ?_⟩, by dsimp only; omega⟩
        · have := congrArg List.tail hall
          simp only [List.tail_cons, List.tail_drop, List.drop_drop] at this
          exact this
        · dsimp only
          rw [take_snoc hat, List.map_append, List.map_append]
          exact H
    · repeat (first
        | refine wc_seq ?_
        | refine wc_block ?_
        | refine wc_region ?_
        | refine ow_nil ?_
        | refine wc_skip ?_
        | refine wc_exit ?_
        | (apply ow_move; (· rfl); (· ((conv => lhs; whnf) <;> rfl)))
        | (apply ow_assign; (· rfl); (· ((conv => lhs; whnf) <;> rfl)))
        | refine ow_extract rfl rfl rfl ?_
        | refine ow_nilCheck_ptr rfl rfl ?_
        | refine ow_nilCheck_ptr0 rfl ?_
        | refine ow_fieldAddr rfl (tyAt rfl) rfl rfl rfl (tyAt rfl) rfl rfl ?_
        | refine ow_guard_yes rfl rfl rfl rfl ?_
        | refine ow_guard_no rfl rfl rfl rfl rfl rfl rfl ?_
        | refine ow_guard_dec rfl rfl rfl (fun _ => ?_) (fun h => (h (by with_reducible rfl)).elim)
        | refine ow_guard_dec rfl rfl rfl (fun h => (h (by with_reducible rfl)).elim) (fun _ => ?_)
        | (apply ow_pick_t; (· rfl); (· rfl); (· ((conv => lhs; whnf) <;> rfl)))
        | (apply ow_pick_f; (· rfl); (· rfl); (· ((conv => lhs; whnf) <;> rfl)))
        | refine wc_cond_true rfl ?_
        | refine wc_cond_false rfl ?_
        | refine ow_add rfl rfl rfl (by simp only [InK]; omega) ?_
        | refine ow_sub rfl rfl rfl (by simp only [InK]; omega) ?_
        | refine ow_lss rfl rfl rfl ?_
        | refine ow_leq rfl rfl rfl ?_
        | refine ow_gtr rfl rfl rfl ?_
        | refine ow_geq rfl rfl rfl ?_
        | refine ow_eql rfl rfl rfl ?_
        | refine ow_neq rfl rfl rfl ?_
        | refine ow_mul rfl rfl rfl (by simp only [InK]; omega) ?_
        | refine ow_quo rfl rfl rfl (by omega) (by omega) (by simp only [InK]; omega) ?_
        | refine ow_rem rfl rfl rfl (by omega) (by omega) ?_
        | refine ow_conv_in rfl rfl (tyAt rfl) (tyAt rfl) rfl (by simp only [InK]; omega) ?_
        | refine ow_conv rfl rfl (tyAt rfl) (tyAt rfl) rfl ?_
        | refine ow_not_dec rfl rfl ?_
        | refine ow_not rfl rfl ?_
        | refine ow_len rfl rfl (tyAt rfl) rfl ?_
        | refine ow_lenStr rfl rfl (tyAt rfl) rfl ?_
        | refine ow_max rfl rfl rfl ?_
        | refine ow_min rfl rfl rfl ?_
        | refine ow_and rfl rfl rfl ?_
        | refine ow_or rfl rfl rfl ?_
        | refine ow_xor rfl rfl rfl ?_
        | refine ow_neg rfl rfl (by simp only [InK]; omega) ?_
        | refine ow_negw rfl rfl ?_
        | refine ow_addw rfl rfl rfl ?_
        | refine ow_subw rfl rfl rfl ?_
        | refine ow_mulw rfl rfl rfl ?_
        | refine ow_compl rfl rfl ?_
        | refine ow_shl rfl rfl rfl (by omega) ?_
        | refine ow_shr rfl rfl rfl (by omega) ?_
        | refine ow_makeFunc (fs := []) (cs := []) rfl rfl rfl ?_
        | refine ow_makeFunc (fs := []) (cs := [.pointer _]) rfl rfl rfl ?_
        | refine ow_makeFunc (fs := []) (cs := [.pointer _, .pointer _]) rfl rfl rfl ?_
        | refine ow_makeFunc (fs := []) (cs := [.pointer _, .pointer _, .pointer _]) rfl rfl rfl ?_)
      have hk' : k = (allL bs).length := by
        have hd : bs.drop i = [] := by simp; omega
        rw [hd] at hall
        have h0 : (allL bs).drop k = [] := by rw [← hall]; cases f <;> simp [allR]
        have := congrArg List.length h0; simp at this; omega
      subst hk'
      rw [List.take_length] at H
      exact ⟨(p5, c5, p6, c6), by first | exact rfl | exact upd_self' rfl rfl | exact upd_self' rfl (upd_self' rfl rfl) | exact upd_self' rfl (upd_self' rfl (upd_self' rfl rfl)) | exact upd_self' rfl (upd_self' rfl (upd_self' rfl (upd_self' rfl rfl))), by repeat (first | with_reducible exact Off.mix | with_reducible exact Off.refl | ((with_reducible refine Off.upd ?_ ?_); (· rfl))), rfl, H⟩
  clear H w
  rintro ⟨p5, c5, p6, c6⟩ j D w ⟨rfl, H⟩
  dsimp only at H ⊢
  have hal : (allL bs).length ≤ bs.length := allR_len bs.length 0 bs
  have htk : takeZ 1000 (allL bs) = allL bs := by
    unfold takeZ; rw [if_neg (by decide)]; exact List.take_of_length_le (by simp; omega)
  repeat (first
    | refine wc_seq ?_
    | refine wc_region ?_
    | refine ow_nil ?_
    | refine wc_skip ?_
    | refine wc_exit ?_
    | (apply ow_move; (· rfl); (· ((conv => lhs; whnf) <;> rfl)))
    | (apply ow_assign; (· rfl); (· ((conv => lhs; whnf) <;> rfl)))
    | refine ow_extract rfl rfl rfl ?_
    | refine ow_nilCheck_ptr rfl rfl ?_
    | refine ow_nilCheck_ptr0 rfl ?_
    | refine ow_fieldAddr rfl (tyAt rfl) rfl rfl rfl (tyAt rfl) rfl rfl ?_
    | refine ow_guard_yes rfl rfl rfl rfl ?_
    | refine ow_guard_no rfl rfl rfl rfl rfl rfl rfl ?_
    | refine ow_guard_dec rfl rfl rfl (fun _ => ?_) (fun h => (h (by with_reducible rfl)).elim)
    | refine ow_guard_dec rfl rfl rfl (fun h => (h (by with_reducible rfl)).elim) (fun _ => ?_)
    | (apply ow_pick_t; (· rfl); (· rfl); (· ((conv => lhs; whnf) <;> rfl)))
    | (apply ow_pick_f; (· rfl); (· rfl); (· ((conv => lhs; whnf) <;> rfl)))
    | refine wc_cond_true rfl ?_
    | refine wc_cond_false rfl ?_
    | refine ow_add rfl rfl rfl (by simp only [InK]; omega) ?_
    | refine ow_sub rfl rfl rfl (by simp only [InK]; omega) ?_
    | refine ow_lss rfl rfl rfl ?_
    | refine ow_leq rfl rfl rfl ?_
    | refine ow_gtr rfl rfl rfl ?_
    | refine ow_geq rfl rfl rfl ?_
    | refine ow_eql rfl rfl rfl ?_
    | refine ow_neq rfl rfl rfl ?_
    | refine ow_mul rfl rfl rfl (by simp only [InK]; omega) ?_
    | refine ow_quo rfl rfl rfl (by omega) (by omega) (by simp only [InK]; omega) ?_
    | refine ow_rem rfl rfl rfl (by omega) (by omega) ?_
    | refine ow_conv_in rfl rfl (tyAt rfl) (tyAt rfl) rfl (by simp only [InK]; omega) ?_
    | refine ow_conv rfl rfl (tyAt rfl) (tyAt rfl) rfl ?_
    | refine ow_not_dec rfl rfl ?_
    | refine ow_not rfl rfl ?_
    | refine ow_len rfl rfl (tyAt rfl) rfl ?_
    | refine ow_lenStr rfl rfl (tyAt rfl) rfl ?_
    | refine ow_max rfl rfl rfl ?_
    | refine ow_min rfl rfl rfl ?_
    | refine ow_and rfl rfl rfl ?_
    | refine ow_or rfl rfl rfl ?_
    | refine ow_xor rfl rfl rfl ?_
    | refine ow_neg rfl rfl (by simp only [InK]; omega) ?_
    | refine ow_negw rfl rfl ?_
    | refine ow_addw rfl rfl rfl ?_
    | refine ow_subw rfl rfl rfl ?_
    | refine ow_mulw rfl rfl rfl ?_
    | refine ow_compl rfl rfl ?_
    | refine ow_shl rfl rfl rfl (by omega) ?_
    | refine ow_shr rfl rfl rfl (by omega) ?_
    | refine ow_makeFunc (fs := []) (cs := []) rfl rfl rfl ?_
    | refine ow_makeFunc (fs := []) (cs := [.pointer _]) rfl rfl rfl ?_
    | refine ow_makeFunc (fs := []) (cs := [.pointer _, .pointer _]) rfl rfl rfl ?_
    | refine ow_makeFunc (fs := []) (cs := [.pointer _, .pointer _, .pointer _]) rfl rfl rfl ?_)
  refine ow_call rfl rfl (ent (by kernel_rfl)) (CallsV.mono (list_spec p cap bs hb (by omega) hcap 1000 w (H.oldSl hs)) ?_) rfl
  rintro v w ⟨q, c9, rfl, H'⟩
  replace H := H.call H'
  simp only [List.cons_append, List.nil_append] at H
  rw [htk] at H ⊢
  repeat (first
    | refine wc_seq ?_
    | refine wc_region ?_
    | refine ow_nil ?_
    | refine wc_skip ?_
    | refine wc_exit ?_
    | (apply ow_move; (· rfl); (· ((conv => lhs; whnf) <;> rfl)))
    | (apply ow_assign; (· rfl); (· ((conv => lhs; whnf) <;> rfl)))
    | refine ow_extract rfl rfl rfl ?_
    | refine ow_nilCheck_ptr rfl rfl ?_
    | refine ow_nilCheck_ptr0 rfl ?_
    | refine ow_fieldAddr rfl (tyAt rfl) rfl rfl rfl (tyAt rfl) rfl rfl ?_
    | refine ow_guard_yes rfl rfl rfl rfl ?_
    | refine ow_guard_no rfl rfl rfl rfl rfl rfl rfl ?_
    | refine ow_guard_dec rfl rfl rfl (fun _ => ?_) (fun h => (h (by with_reducible rfl)).elim)
    | refine ow_guard_dec rfl rfl rfl (fun h => (h (by with_reducible rfl)).elim) (fun _ => ?_)
    | (apply ow_pick_t; (· rfl); (· rfl); (· ((conv => lhs; whnf) <;> rfl)))
    | (apply ow_pick_f; (· rfl); (· rfl); (· ((conv => lhs; whnf) <;> rfl)))
    | refine wc_cond_true rfl ?_
    | refine wc_cond_false rfl ?_
    | refine ow_add rfl rfl rfl (by simp only [InK]; omega) ?_
    | refine ow_sub rfl rfl rfl (by simp only [InK]; omega) ?_
    | refine ow_lss rfl rfl rfl ?_
    | refine ow_leq rfl rfl rfl ?_
    | refine ow_gtr rfl rfl rfl ?_
    | refine ow_geq rfl rfl rfl ?_
    | refine ow_eql rfl rfl rfl ?_
    | refine ow_neq rfl rfl rfl ?_
    | refine ow_mul rfl rfl rfl (by simp only [InK]; omega) ?_
    | refine ow_quo rfl rfl rfl (by omega) (by omega) (by simp only [InK]; omega) ?_
    | refine ow_rem rfl rfl rfl (by omega) (by omega) ?_
    | refine ow_conv_in rfl rfl (tyAt rfl) (tyAt rfl) rfl (by simp only [InK]; omega) ?_
    | refine ow_conv rfl rfl (tyAt rfl) (tyAt rfl) rfl ?_
    | refine ow_not_dec rfl rfl ?_
    | refine ow_not rfl rfl ?_
    | refine ow_len rfl rfl (tyAt rfl) rfl ?_
    | refine ow_lenStr rfl rfl (tyAt rfl) rfl ?_
    | refine ow_max rfl rfl rfl ?_
    | refine ow_min rfl rfl rfl ?_
    | refine ow_and rfl rfl rfl ?_
    | refine ow_or rfl rfl rfl ?_
    | refine ow_xor rfl rfl rfl ?_
    | refine ow_neg rfl rfl (by simp only [InK]; omega) ?_
    | refine ow_negw rfl rfl ?_
    | refine ow_addw rfl rfl rfl ?_
    | refine ow_subw rfl rfl rfl ?_
    | refine ow_mulw rfl rfl rfl ?_
    | refine ow_compl rfl rfl ?_
    | refine ow_shl rfl rfl rfl (by omega) ?_
    | refine ow_shr rfl rfl rfl (by omega) ?_
    | refine ow_makeFunc (fs := []) (cs := []) rfl rfl rfl ?_
    | refine ow_makeFunc (fs := []) (cs := [.pointer _]) rfl rfl rfl ?_
    | refine ow_makeFunc (fs := []) (cs := [.pointer _, .pointer _]) rfl rfl rfl ?_
    | refine ow_makeFunc (fs := []) (cs := [.pointer _, .pointer _, .pointer _]) rfl rfl rfl ?_)
  refine ow_call rfl rfl (ent (by kernel_rfl)) (CallsV.mono (places_spec p cap bs hb (by omega) hcap 1000 w (H.oldSl hs)) ?_) rfl
  rintro v w ⟨q2, c2, rfl, H'⟩
  replace H := H.call H'
  simp only [List.cons_append, List.nil_append] at H
  rw [htk] at H ⊢
  repeat (first
    | refine wc_seq ?_
    | refine wc_region ?_
    | refine ow_nil ?_
    | refine wc_skip ?_
    | refine wc_exit ?_
    | (apply ow_move; (· rfl); (· ((conv => lhs; whnf) <;> rfl)))
    | (apply ow_assign; (· rfl); (· ((conv => lhs; whnf) <;> rfl)))
    | refine ow_extract rfl rfl rfl ?_
    | refine ow_nilCheck_ptr rfl rfl ?_
    | refine ow_nilCheck_ptr0 rfl ?_
    | refine ow_fieldAddr rfl (tyAt rfl) rfl rfl rfl (tyAt rfl) rfl rfl ?_
    | refine ow_guard_yes rfl rfl rfl rfl ?_
    | refine ow_guard_no rfl rfl rfl rfl rfl rfl rfl ?_
    | refine ow_guard_dec rfl rfl rfl (fun _ => ?_) (fun h => (h (by with_reducible rfl)).elim)
    | refine ow_guard_dec rfl rfl rfl (fun h => (h (by with_reducible rfl)).elim) (fun _ => ?_)
    | (apply ow_pick_t; (· rfl); (· rfl); (· ((conv => lhs; whnf) <;> rfl)))
    | (apply ow_pick_f; (· rfl); (· rfl); (· ((conv => lhs; whnf) <;> rfl)))
    | refine wc_cond_true rfl ?_
    | refine wc_cond_false rfl ?_
    | refine ow_add rfl rfl rfl (by simp only [InK]; omega) ?_
    | refine ow_sub rfl rfl rfl (by simp only [InK]; omega) ?_
    | refine ow_lss rfl rfl rfl ?_
    | refine ow_leq rfl rfl rfl ?_
    | refine ow_gtr rfl rfl rfl ?_
    | refine ow_geq rfl rfl rfl ?_
    | refine ow_eql rfl rfl rfl ?_
    | refine ow_neq rfl rfl rfl ?_
    | refine ow_mul rfl rfl rfl (by simp only [InK]; omega) ?_
    | refine ow_quo rfl rfl rfl (by omega) (by omega) (by simp only [InK]; omega) ?_
    | refine ow_rem rfl rfl rfl (by omega) (by omega) ?_
    | refine ow_conv_in rfl rfl (tyAt rfl) (tyAt rfl) rfl (by simp only [InK]; omega) ?_
    | refine ow_conv rfl rfl (tyAt rfl) (tyAt rfl) rfl ?_
    | refine ow_not_dec rfl rfl ?_
    | refine ow_not rfl rfl ?_
    | refine ow_len rfl rfl (tyAt rfl) rfl ?_
    | refine ow_lenStr rfl rfl (tyAt rfl) rfl ?_
    | refine ow_max rfl rfl rfl ?_
    | refine ow_min rfl rfl rfl ?_
    | refine ow_and rfl rfl rfl ?_
    | refine ow_or rfl rfl rfl ?_
    | refine ow_xor rfl rfl rfl ?_
    | refine ow_neg rfl rfl (by simp only [InK]; omega) ?_
    | refine ow_negw rfl rfl ?_
    | refine ow_addw rfl rfl rfl ?_
    | refine ow_subw rfl rfl rfl ?_
    | refine ow_mulw rfl rfl rfl ?_
    | refine ow_compl rfl rfl ?_
    | refine ow_shl rfl rfl rfl (by omega) ?_
    | refine ow_shr rfl rfl rfl (by omega) ?_
    | refine ow_makeFunc (fs := []) (cs := []) rfl rfl rfl ?_
    | refine ow_makeFunc (fs := []) (cs := [.pointer _]) rfl rfl rfl ?_
    | refine ow_makeFunc (fs := []) (cs := [.pointer _, .pointer _]) rfl rfl rfl ?_
    | refine ow_makeFunc (fs := []) (cs := [.pointer _, .pointer _, .pointer _]) rfl rfl rfl ?_)
  refine ow_call rfl rfl (ent (by kernel_rfl)) (CallsV.mono (sameInts_spec' q2 p6 c2 c6 _ _ ((allL bs).map fun x => (x.1 : Int)) ((allL bs).map fun x => (x.1 : Int)) (by simp) (by simp) (by simp; omega) w
    (by rw [← fst_ints]; exact appOk.sl (H.cap (i := 0) rfl)) (by rw [← fst_ints]; exact appOk.sl (H.cap (i := 2) rfl))) ?_) rfl
  rintro v w ⟨rfl, H'⟩
  replace H := H.call H'
  rw [List.nil_append] at H
  rw [decide_eq_true (rfl : (allL bs).map (fun x => (x.1 : Int)) = (allL bs).map (fun x => (x.1 : Int)))]
  repeat (first
    | refine wc_seq ?_
    | refine wc_region ?_
    | refine ow_nil ?_
    | refine wc_skip ?_
    | refine wc_exit ?_
    | (apply ow_move; (· rfl); (· ((conv => lhs; whnf) <;> rfl)))
    | (apply ow_assign; (· rfl); (· ((conv => lhs; whnf) <;> rfl)))
    | refine ow_extract rfl rfl rfl ?_
    | refine ow_nilCheck_ptr rfl rfl ?_
    | refine ow_nilCheck_ptr0 rfl ?_
    | refine ow_fieldAddr rfl (tyAt rfl) rfl rfl rfl (tyAt rfl) rfl rfl ?_
    | refine ow_guard_yes rfl rfl rfl rfl ?_
    | refine ow_guard_no rfl rfl rfl rfl rfl rfl rfl ?_
    | refine ow_guard_dec rfl rfl rfl (fun _ => ?_) (fun h => (h (by with_reducible rfl)).elim)
    | refine ow_guard_dec rfl rfl rfl (fun h => (h (by with_reducible rfl)).elim) (fun _ => ?_)
    | (apply ow_pick_t; (· rfl); (· rfl); (· ((conv => lhs; whnf) <;> rfl)))
    | (apply ow_pick_f; (· rfl); (· rfl); (· ((conv => lhs; whnf) <;> rfl)))
    | refine wc_cond_true rfl ?_
    | refine wc_cond_false rfl ?_
    | refine ow_add rfl rfl rfl (by simp only [InK]; omega) ?_
    | refine ow_sub rfl rfl rfl (by simp only [InK]; omega) ?_
    | refine ow_lss rfl rfl rfl ?_
    | refine ow_leq rfl rfl rfl ?_
    | refine ow_gtr rfl rfl rfl ?_
    | refine ow_geq rfl rfl rfl ?_
    | refine ow_eql rfl rfl rfl ?_
    | refine ow_neq rfl rfl rfl ?_
    | refine ow_mul rfl rfl rfl (by simp only [InK]; omega) ?_
    | refine ow_quo rfl rfl rfl (by omega) (by omega) (by simp only [InK]; omega) ?_
    | refine ow_rem rfl rfl rfl (by omega) (by omega) ?_
    | refine ow_conv_in rfl rfl (tyAt rfl) (tyAt rfl) rfl (by simp only [InK]; omega) ?_
    | refine ow_conv rfl rfl (tyAt rfl) (tyAt rfl) rfl ?_
    | refine ow_not_dec rfl rfl ?_
    | refine ow_not rfl rfl ?_
    | refine ow_len rfl rfl (tyAt rfl) rfl ?_
    | refine ow_lenStr rfl rfl (tyAt rfl) rfl ?_
    | refine ow_max rfl rfl rfl ?_
    | refine ow_min rfl rfl rfl ?_
    | refine ow_and rfl rfl rfl ?_
    | refine ow_or rfl rfl rfl ?_
    | refine ow_xor rfl rfl rfl ?_
    | refine ow_neg rfl rfl (by simp only [InK]; omega) ?_
    | refine ow_negw rfl rfl ?_
    | refine ow_addw rfl rfl rfl ?_
    | refine ow_subw rfl rfl rfl ?_
    | refine ow_mulw rfl rfl rfl ?_
    | refine ow_compl rfl rfl ?_
    | refine ow_shl rfl rfl rfl (by omega) ?_
    | refine ow_shr rfl rfl rfl (by omega) ?_
    | refine ow_makeFunc (fs := []) (cs := []) rfl rfl rfl ?_
    | refine ow_makeFunc (fs := []) (cs := [.pointer _]) rfl rfl rfl ?_
    | refine ow_makeFunc (fs := []) (cs := [.pointer _, .pointer _]) rfl rfl rfl ?_
    | refine ow_makeFunc (fs := []) (cs := [.pointer _, .pointer _, .pointer _]) rfl rfl rfl ?_)
  rw [snd_nats] at H
  obtain ⟨ns, hns⟩ : ∃ l, (allL bs).map (fun x => x.2) = l := ⟨_, rfl⟩
  have hnl : (allL bs).length = ns.length := by rw [← hns, List.length_map]
  rw [hns, hnl] at H
  rw [hnl]
  refine wc_block ?_
  refine wc_loopS [12, 61, 62, 63, 64, 65, 66, 67, 68, 69, 70, 71, 72, 73] (fun (s : Nat) e => upd e 61 (.int .i64 s))
    (fun s D w => D = [] ∧ s ≤ ns.length ∧ St Pu w0 w [.app q2 ns.length c2 3 1 ((allL bs).map fstV), .app q ns.length c9 24 1 (nats .u64 ns), .app p6 ns.length c6 3 1 ((allL bs).map fstV), .app p5 ns.length c5 24 1 (nats .u64 ns)] [])
    (fun s _ => ns.length - s) 0 (by first | exact rfl | exact upd_self' rfl rfl | exact upd_self' rfl (upd_self' rfl rfl) | exact upd_self' rfl (upd_self' rfl (upd_self' rfl rfl)) | exact upd_self' rfl (upd_self' rfl (upd_self' rfl (upd_self' rfl rfl)))) ⟨rfl, Nat.zero_le _, H⟩ ?_
  clear H H' w
  rintro i j D w ⟨rfl, hi, H⟩
  repeat (first
    | refine wc_seq ?_
    | refine wc_block ?_
    | refine wc_region ?_
    | refine ow_nil ?_
    | refine wc_skip ?_
    | refine wc_exit ?_
    | (apply ow_move; (· rfl); (· ((conv => lhs; whnf) <;> rfl)))
    | (apply ow_assign; (· rfl); (· ((conv => lhs; whnf) <;> rfl)))
    | refine ow_extract rfl rfl rfl ?_
    | refine ow_nilCheck_ptr rfl rfl ?_
    | refine ow_nilCheck_ptr0 rfl ?_
    | refine ow_fieldAddr rfl (tyAt rfl) rfl rfl rfl (tyAt rfl) rfl rfl ?_
    | refine ow_guard_yes rfl rfl rfl rfl ?_
    | refine ow_guard_no rfl rfl rfl rfl rfl rfl rfl ?_
    | refine ow_guard_dec rfl rfl rfl (fun _ => ?_) (fun h => (h (by with_reducible rfl)).elim)
    | refine ow_guard_dec rfl rfl rfl (fun h => (h (by with_reducible rfl)).elim) (fun _ => ?_)
    | (apply ow_pick_t; (· rfl); (· rfl); (· ((conv => lhs; whnf) <;> rfl)))
    | (apply ow_pick_f; (· rfl); (· rfl); (· ((conv => lhs; whnf) <;> rfl)))
    | refine wc_cond_true rfl ?_
    | refine wc_cond_false rfl ?_
    | refine ow_add rfl rfl rfl (by simp only [InK]; omega) ?_
    | refine ow_sub rfl rfl rfl (by simp only [InK]; omega) ?_
    | refine ow_lss rfl rfl rfl ?_
    | refine ow_leq rfl rfl rfl ?_
    | refine ow_gtr rfl rfl rfl ?_
    | refine ow_geq rfl rfl rfl ?_
    | refine ow_eql rfl rfl rfl ?_
    | refine ow_neq rfl rfl rfl ?_
    | refine ow_mul rfl rfl rfl (by simp only [InK]; omega) ?_
    | refine ow_quo rfl rfl rfl (by omega) (by omega) (by simp only [InK]; omega) ?_
    | refine ow_rem rfl rfl rfl (by omega) (by omega) ?_
    | refine ow_conv_in rfl rfl (tyAt rfl) (tyAt rfl) rfl (by simp only [InK]; omega) ?_
    | refine ow_conv rfl rfl (tyAt rfl) (tyAt rfl) rfl ?_
    | refine ow_not_dec rfl rfl ?_
    | refine ow_not rfl rfl ?_
    | refine ow_len rfl rfl (tyAt rfl) rfl ?_
    | refine ow_lenStr rfl rfl (tyAt rfl) rfl ?_
    | refine ow_max rfl rfl rfl ?_
    | refine ow_min rfl rfl rfl ?_
    | refine ow_and rfl rfl rfl ?_
    | refine ow_or rfl rfl rfl ?_
    | refine ow_xor rfl rfl rfl ?_
    | refine ow_neg rfl rfl (by simp only [InK]; omega) ?_
    | refine ow_negw rfl rfl ?_
    | refine ow_addw rfl rfl rfl ?_
    | refine ow_subw rfl rfl rfl ?_
    | refine ow_mulw rfl rfl rfl ?_
    | refine ow_compl rfl rfl ?_
    | refine ow_shl rfl rfl rfl (by omega) ?_
    | refine ow_shr rfl rfl rfl (by omega) ?_
    | refine ow_makeFunc (fs := []) (cs := []) rfl rfl rfl ?_
    | refine ow_makeFunc (fs := []) (cs := [.pointer _]) rfl rfl rfl ?_
    | refine ow_makeFunc (fs := []) (cs := [.pointer _, .pointer _]) rfl rfl rfl ?_
    | refine ow_makeFunc (fs := []) (cs := [.pointer _, .pointer _, .pointer _]) rfl rfl rfl ?_)
  refine wc_cond_dec rfl (fun h => ?_) (fun h => ?_) <;> try dsimp only at h
  · have hlt : i < ns.length := by omega
    have s1 : SlH (hp w) q (nats .u64 ns) := appOk.sl (H.cap (i := 1) rfl)
    have s3 : SlH (hp w) p5 (nats .u64 ns) := appOk.sl (H.cap (i := 3) rfl)
    obtain ⟨b1, o1, rfl⟩ := s1.some_of (by simp; omega)
    obtain ⟨b3, o3, rfl⟩ := s3.some_of (by simp; omega)
    repeat (first
      | refine wc_seq ?_
      | refine wc_block ?_
      | refine wc_region ?_
      | refine ow_nil ?_
      | refine wc_skip ?_
      | refine wc_exit ?_
      | (apply ow_move; (· rfl); (· ((conv => lhs; whnf) <;> rfl)))
      | (apply ow_assign; (· rfl); (· ((conv => lhs; whnf) <;> rfl)))
      | refine ow_extract rfl rfl rfl ?_
      | refine ow_nilCheck_ptr rfl rfl ?_
      | refine ow_nilCheck_ptr0 rfl ?_
      | refine ow_fieldAddr rfl (tyAt rfl) rfl rfl rfl (tyAt rfl) rfl rfl ?_
      | refine ow_guard_yes rfl rfl rfl rfl ?_
      | refine ow_guard_no rfl rfl rfl rfl rfl rfl rfl ?_
      | refine ow_guard_dec rfl rfl rfl (fun _ => ?_) (fun h => (h (by with_reducible rfl)).elim)
      | refine ow_guard_dec rfl rfl rfl (fun h => (h (by with_reducible rfl)).elim) (fun _ => ?_)
      | (apply ow_pick_t; (· rfl); (· rfl); (· ((conv => lhs; whnf) <;> rfl)))
      | (apply ow_pick_f; (· rfl); (· rfl); (· ((conv => lhs; whnf) <;> rfl)))
      | refine wc_cond_true rfl ?_
      | refine wc_cond_false rfl ?_
      | refine ow_add rfl rfl rfl (by simp only [InK]; omega) ?_
      | refine ow_sub rfl rfl rfl (by simp only [InK]; omega) ?_
      | refine ow_lss rfl rfl rfl ?_
      | refine ow_leq rfl rfl rfl ?_
      | refine ow_gtr rfl rfl rfl ?_
      | refine ow_geq rfl rfl rfl ?_
      | refine ow_eql rfl rfl rfl ?_
      | refine ow_neq rfl rfl rfl ?_
      | refine ow_mul rfl rfl rfl (by simp only [InK]; omega) ?_
      | refine ow_quo rfl rfl rfl (by omega) (by omega) (by simp only [InK]; omega) ?_
      | refine ow_rem rfl rfl rfl (by omega) (by omega) ?_
      | refine ow_conv_in rfl rfl (tyAt rfl) (tyAt rfl) rfl (by simp only [InK]; omega) ?_
      | refine ow_conv rfl rfl (tyAt rfl) (tyAt rfl) rfl ?_
      | refine ow_not_dec rfl rfl ?_
      | refine ow_not rfl rfl ?_
      | refine ow_len rfl rfl (tyAt rfl) rfl ?_
      | refine ow_lenStr rfl rfl (tyAt rfl) rfl ?_
      | refine ow_max rfl rfl rfl ?_
      | refine ow_min rfl rfl rfl ?_
      | refine ow_and rfl rfl rfl ?_
      | refine ow_or rfl rfl rfl ?_
      | refine ow_xor rfl rfl rfl ?_
      | refine ow_neg rfl rfl (by simp only [InK]; omega) ?_
      | refine ow_negw rfl rfl ?_
      | refine ow_addw rfl rfl rfl ?_
      | refine ow_subw rfl rfl rfl ?_
      | refine ow_mulw rfl rfl rfl ?_
      | refine ow_compl rfl rfl ?_
      | refine ow_shl rfl rfl rfl (by omega) ?_
      | refine ow_shr rfl rfl rfl (by omega) ?_
      | refine ow_makeFunc (fs := []) (cs := []) rfl rfl rfl ?_
      | refine ow_makeFunc (fs := []) (cs := [.pointer _]) rfl rfl rfl ?_
      | refine ow_makeFunc (fs := []) (cs := [.pointer _, .pointer _]) rfl rfl rfl ?_
      | refine ow_makeFunc (fs := []) (cs := [.pointer _, .pointer _, .pointer _]) rfl rfl rfl ?_)
    refine wc_draw (S := fun w => St Pu w0 w [.app q2 ns.length c2 3 1 ((allL bs).map fstV), .app (some ⟨b1, o1, none⟩) ns.length c9 24 1 (nats .u64 ns), .app p6 ns.length c6 3 1 ((allL bs).map fstV), .app (some ⟨b3, o3, none⟩) ns.length c5 24 1 (nats .u64 ns)] []) (by kernel_rfl) (by kernel_rfl) ?_
    replace H := H.drew
    apply ao_take (i := 0)
    · rfl
    · rfl
    · rfl
    · rfl
    · kernel_rfl
    · kernel_rfl
    · kernel_rfl
    · exact H
    · intro c e D w h; first | exact h.elim | (rcases h with ⟨h | h, _⟩ <;> cases h)
    · intro w Q' H h
      first | (apply ow_move; (· rfl); (· ((conv => lhs; whnf) <;> rfl))) | (apply ow_assign; (· rfl); (· ((conv => lhs; whnf) <;> rfl)))
      exact ow_nil h
    apply ao_take (i := 1)
    · rfl
    · rfl
    · rfl
    · rfl
    · kernel_rfl
    · kernel_rfl
    · kernel_rfl
    · exact H
    · intro c e D w h; first | exact h.elim | (rcases h with ⟨h | h, _⟩ <;> cases h)
    · intro w Q' H h
      first | (apply ow_move; (· rfl); (· ((conv => lhs; whnf) <;> rfl))) | (apply ow_assign; (· rfl); (· ((conv => lhs; whnf) <;> rfl)))
      exact ow_nil h
    apply ao_take (i := 2)
    · rfl
    · rfl
    · rfl
    · rfl
    · kernel_rfl
    · kernel_rfl
    · kernel_rfl
    · exact H
    · intro c e D w h; first | exact h.elim | (rcases h with ⟨h | h, _⟩ <;> cases h)
    · intro w Q' H h
      refine ow_idx1 (j := i) rfl (tyAt rfl) rfl (tyAt rfl) rfl rfl rfl hlt rfl ?_
      exact ow_nil h
    apply ao_take (i := 3)
    · rfl
    · rfl
    · rfl
    · rfl
    · kernel_rfl
    · kernel_rfl
    · kernel_rfl
    · exact H
    · intro c e D w h; first | exact h.elim | (rcases h with ⟨h | h, _⟩ <;> cases h)
    · intro w Q' H h
      refine ow_load rfl (tyAt rfl) rfl rfl ((appOk.sl (H.cap (i := 1) rfl)).nat hlt) ?_
      exact ow_nil h
    apply ao_take (i := 4)
    · rfl
    · rfl
    · rfl
    · rfl
    · kernel_rfl
    · kernel_rfl
    · kernel_rfl
    · exact H
    · intro c e D w h; first | exact h.elim | (rcases h with ⟨h | h, _⟩ <;> cases h)
    · intro w Q' H h
      first | (apply ow_move; (· rfl); (· ((conv => lhs; whnf) <;> rfl))) | (apply ow_assign; (· rfl); (· ((conv => lhs; whnf) <;> rfl)))
      exact ow_nil h
    apply ao_take (i := 5)
    · rfl
    · rfl
    · rfl
    · rfl
    · kernel_rfl
    · kernel_rfl
    · kernel_rfl
    · exact H
    · intro c e D w h; first | exact h.elim | (rcases h with ⟨h | h, _⟩ <;> cases h)
    · intro w Q' H h
      first | (apply ow_move; (· rfl); (· ((conv => lhs; whnf) <;> rfl))) | (apply ow_assign; (· rfl); (· ((conv => lhs; whnf) <;> rfl)))
      exact ow_nil h
    apply ao_take (i := 6)
    · rfl
    · rfl
    · rfl
    · rfl
    · kernel_rfl
    · kernel_rfl
    · kernel_rfl
    · exact H
    · intro c e D w h; first | exact h.elim | (rcases h with ⟨h | h, _⟩ <;> cases h)
    · intro w Q' H h
      refine ow_idx1 (j := i) rfl (tyAt rfl) rfl (tyAt rfl) rfl rfl rfl (by omega) rfl ?_
      exact ow_nil h
    apply ao_take (i := 7)
    · rfl
    · rfl
    · rfl
    · rfl
    · kernel_rfl
    · kernel_rfl
    · kernel_rfl
    · exact H
    · intro c e D w h; first | exact h.elim | (rcases h with ⟨h | h, _⟩ <;> cases h)
    · intro w Q' H h
      refine ow_load rfl (tyAt rfl) rfl rfl ((appOk.sl (H.cap (i := 3) rfl)).nat (by omega)) ?_
      exact ow_nil h
    apply ao_take (i := 8)
    · rfl
    · rfl
    · rfl
    · rfl
    · kernel_rfl
    · kernel_rfl
    · kernel_rfl
    · exact H
    · intro c e D w h; first | exact h.elim | (rcases h with ⟨h | h, _⟩ <;> cases h)
    · intro w Q' H h
      refine ow_neq rfl rfl rfl ?_
      exact ow_nil h
    refine ao_done (by kernel_rfl) ?_
    repeat (first
      | refine wc_seq ?_
      | refine wc_block ?_
      | refine wc_region ?_
      | refine ow_nil ?_
      | refine wc_skip ?_
      | refine wc_exit ?_
      | (apply ow_move; (· rfl); (· ((conv => lhs; whnf) <;> rfl)))
      | (apply ow_assign; (· rfl); (· ((conv => lhs; whnf) <;> rfl)))
      | refine ow_extract rfl rfl rfl ?_
      | refine ow_nilCheck_ptr rfl rfl ?_
      | refine ow_nilCheck_ptr0 rfl ?_
      | refine ow_fieldAddr rfl (tyAt rfl) rfl rfl rfl (tyAt rfl) rfl rfl ?_
      | refine ow_guard_yes rfl rfl rfl rfl ?_
      | refine ow_guard_no rfl rfl rfl rfl rfl rfl rfl ?_
      | refine ow_guard_dec rfl rfl rfl (fun _ => ?_) (fun h => (h (by with_reducible rfl)).elim)
      | refine ow_guard_dec rfl rfl rfl (fun h => (h (by with_reducible rfl)).elim) (fun _ => ?_)
      | (apply ow_pick_t; (· rfl); (· rfl); (· ((conv => lhs; whnf) <;> rfl)))
      | (apply ow_pick_f; (· rfl); (· rfl); (· ((conv => lhs; whnf) <;> rfl)))
      | refine wc_cond_true rfl ?_
      | refine wc_cond_false rfl ?_
      | refine ow_add rfl rfl rfl (by simp only [InK]; omega) ?_
      | refine ow_sub rfl rfl rfl (by simp only [InK]; omega) ?_
      | refine ow_lss rfl rfl rfl ?_
      | refine ow_leq rfl rfl rfl ?_
      | refine ow_gtr rfl rfl rfl ?_
      | refine ow_geq rfl rfl rfl ?_
      | refine ow_eql rfl rfl rfl ?_
      | refine ow_neq rfl rfl rfl ?_
      | refine ow_mul rfl rfl rfl (by simp only [InK]; omega) ?_
      | refine ow_quo rfl rfl rfl (by omega) (by omega) (by simp only [InK]; omega) ?_
      | refine ow_rem rfl rfl rfl (by omega) (by omega) ?_
      | refine ow_conv_in rfl rfl (tyAt rfl) (tyAt rfl) rfl (by simp only [InK]; omega) ?_
      | refine ow_conv rfl rfl (tyAt rfl) (tyAt rfl) rfl ?_
      | refine ow_not_dec rfl rfl ?_
      | refine ow_not rfl rfl ?_
      | refine ow_len rfl rfl (tyAt rfl) rfl ?_
      | refine ow_lenStr rfl rfl (tyAt rfl) rfl ?_
      | refine ow_max rfl rfl rfl ?_
      | refine ow_min rfl rfl rfl ?_
      | refine ow_and rfl rfl rfl ?_
      | refine ow_or rfl rfl rfl ?_
      | refine ow_xor rfl rfl rfl ?_
      | refine ow_neg rfl rfl (by simp only [InK]; omega) ?_
      | refine ow_negw rfl rfl ?_
      | refine ow_addw rfl rfl rfl ?_
      | refine ow_subw rfl rfl rfl ?_
      | refine ow_mulw rfl rfl rfl ?_
      | refine ow_compl rfl rfl ?_
      | refine ow_shl rfl rfl rfl (by omega) ?_
      | refine ow_shr rfl rfl rfl (by omega) ?_
      | refine ow_makeFunc (fs := []) (cs := []) rfl rfl rfl ?_
      | refine ow_makeFunc (fs := []) (cs := [.pointer _]) rfl rfl rfl ?_
      | refine ow_makeFunc (fs := []) (cs := [.pointer _, .pointer _]) rfl rfl rfl ?_
      | refine ow_makeFunc (fs := []) (cs := [.pointer _, .pointer _, .pointer _]) rfl rfl rfl ?_)
    refine wc_cond_dec rfl (fun h => ?_) (fun h => ?_) <;> try dsimp only at h
    · exact absurd rfl h
    · repeat (first
        | refine wc_seq ?_
        | refine wc_block ?_
        | refine wc_region ?_
        | refine ow_nil ?_
        | refine wc_skip ?_
        | refine wc_exit ?_
        | (apply ow_move; (· rfl); (· ((conv => lhs; whnf) <;> rfl)))
        | (apply ow_assign; (· rfl); (· ((conv => lhs; whnf) <;> rfl)))
        | refine ow_extract rfl rfl rfl ?_
        | refine ow_nilCheck_ptr rfl rfl ?_
        | refine ow_nilCheck_ptr0 rfl ?_
        | refine ow_fieldAddr rfl (tyAt rfl) rfl rfl rfl (tyAt rfl) rfl rfl ?_
        | refine ow_guard_yes rfl rfl rfl rfl ?_
        | refine ow_guard_no rfl rfl rfl rfl rfl rfl rfl ?_
        | refine ow_guard_dec rfl rfl rfl (fun _ => ?_) (fun h => (h (by with_reducible rfl)).elim)
        | refine ow_guard_dec rfl rfl rfl (fun h => (h (by with_reducible rfl)).elim) (fun _ => ?_)
        | (apply ow_pick_t; (· rfl); (· rfl); (· ((conv => lhs; whnf) <;> rfl)))
        | (apply ow_pick_f; (· rfl); (· rfl); (· ((conv => lhs; whnf) <;> rfl)))
        | refine wc_cond_true rfl ?_
        | refine wc_cond_false rfl ?_
        | refine ow_add rfl rfl rfl (by simp only [InK]; omega) ?_
        | refine ow_sub rfl rfl rfl (by simp only [InK]; omega) ?_
        | refine ow_lss rfl rfl rfl ?_
        | refine ow_leq rfl rfl rfl ?_
        | refine ow_gtr rfl rfl rfl ?_
        | refine ow_geq rfl rfl rfl ?_
        | refine ow_eql rfl rfl rfl ?_
        | refine ow_neq rfl rfl rfl ?_
        | refine ow_mul rfl rfl rfl (by simp only [InK]; omega) ?_
        | refine ow_quo rfl rfl rfl (by omega) (by omega) (by simp only [InK]; omega) ?_
        | refine ow_rem rfl rfl rfl (by omega) (by omega) ?_
        | refine ow_conv_in rfl rfl (tyAt rfl) (tyAt rfl) rfl (by simp only [InK]; omega) ?_
        | refine ow_conv rfl rfl (tyAt rfl) (tyAt rfl) rfl ?_
        | refine ow_not_dec rfl rfl ?_
        | refine ow_not rfl rfl ?_
        | refine ow_len rfl rfl (tyAt rfl) rfl ?_
        | refine ow_lenStr rfl rfl (tyAt rfl) rfl ?_
        | refine ow_max rfl rfl rfl ?_
        | refine ow_min rfl rfl rfl ?_
        | refine ow_and rfl rfl rfl ?_
        | refine ow_or rfl rfl rfl ?_
        | refine ow_xor rfl rfl rfl ?_
        | refine ow_neg rfl rfl (by simp only [InK]; omega) ?_
        | refine ow_negw rfl rfl ?_
        | refine ow_addw rfl rfl rfl ?_
        | refine ow_subw rfl rfl rfl ?_
        | refine ow_mulw rfl rfl rfl ?_
        | refine ow_compl rfl rfl ?_
        | refine ow_shl rfl rfl rfl (by omega) ?_
        | refine ow_shr rfl rfl rfl (by omega) ?_
        | refine ow_makeFunc (fs := []) (cs := []) rfl rfl rfl ?_
        | refine ow_makeFunc (fs := []) (cs := [.pointer _]) rfl rfl rfl ?_
        | refine ow_makeFunc (fs := []) (cs := [.pointer _, .pointer _]) rfl rfl rfl ?_
        | refine ow_makeFunc (fs := []) (cs := [.pointer _, .pointer _, .pointer _]) rfl rfl rfl ?_)
      exact ⟨i + 1, by first | exact rfl | exact upd_self' rfl rfl | exact upd_self' rfl (upd_self' rfl rfl) | exact upd_self' rfl (upd_self' rfl (upd_self' rfl rfl)) | exact upd_self' rfl (upd_self' rfl (upd_self' rfl (upd_self' rfl rfl))), by repeat (first | with_reducible exact Off.mix | with_reducible exact Off.refl | ((with_reducible refine Off.upd ?_ ?_); (· rfl))), ⟨rfl, by omega, H⟩, by omega⟩
  · repeat (first
      | refine wc_seq ?_
      | refine wc_block ?_
      | refine wc_region ?_
      | refine ow_nil ?_
      | refine wc_skip ?_
      | refine wc_exit ?_
      | (apply ow_move; (· rfl); (· ((conv => lhs; whnf) <;> rfl)))
      | (apply ow_assign; (· rfl); (· ((conv => lhs; whnf) <;> rfl)))
      | refine ow_extract rfl rfl rfl ?_
      | refine ow_nilCheck_ptr rfl rfl ?_
      | refine ow_nilCheck_ptr0 rfl ?_
      | refine ow_fieldAddr rfl (tyAt rfl) rfl rfl rfl (tyAt rfl) rfl rfl ?_
      | refine ow_guard_yes rfl rfl rfl rfl ?_
      | refine ow_guard_no rfl rfl rfl rfl rfl rfl rfl ?_
      | refine ow_guard_dec rfl rfl rfl (fun _ => ?_) (fun h => (h (by with_reducible rfl)).elim)
      | refine ow_guard_dec rfl rfl rfl (fun h => (h (by with_reducible rfl)).elim) (fun _ => ?_)
      | (apply ow_pick_t; (· rfl); (· rfl); (· ((conv => lhs; whnf) <;> rfl)))
      | (apply ow_pick_f; (· rfl); (· rfl); (· ((conv => lhs; whnf) <;> rfl)))
      | refine wc_cond_true rfl ?_
      | refine wc_cond_false rfl ?_
      | refine ow_add rfl rfl rfl (by simp only [InK]; omega) ?_
      | refine ow_sub rfl rfl rfl (by simp only [InK]; omega) ?_
      | refine ow_lss rfl rfl rfl ?_
      | refine ow_leq rfl rfl rfl ?_
      | refine ow_gtr rfl rfl rfl ?_
      | refine ow_geq rfl rfl rfl ?_
      | refine ow_eql rfl rfl rfl ?_
      | refine ow_neq rfl rfl rfl ?_
      | refine ow_mul rfl rfl rfl (by simp only [InK]; omega) ?_
      | refine ow_quo rfl rfl rfl (by omega) (by omega) (by simp only [InK]; omega) ?_
      | refine ow_rem rfl rfl rfl (by omega) (by omega) ?_
      | refine ow_conv_in rfl rfl (tyAt rfl) (tyAt rfl) rfl (by simp only [InK]; omega) ?_
      | refine ow_conv rfl rfl (tyAt rfl) (tyAt rfl) rfl ?_
      | refine ow_not_dec rfl rfl ?_
      | refine ow_not rfl rfl ?_
      | refine ow_len rfl rfl (tyAt rfl) rfl ?_
      | refine ow_lenStr rfl rfl (tyAt rfl) rfl ?_
      | refine ow_max rfl rfl rfl ?_
      | refine ow_min rfl rfl rfl ?_
      | refine ow_and rfl rfl rfl ?_
      | refine ow_or rfl rfl rfl ?_
      | refine ow_xor rfl rfl rfl ?_
      | refine ow_neg rfl rfl (by simp only [InK]; omega) ?_
      | refine ow_negw rfl rfl ?_
      | refine ow_addw rfl rfl rfl ?_
      | refine ow_subw rfl rfl rfl ?_
      | refine ow_mulw rfl rfl rfl ?_
      | refine ow_compl rfl rfl ?_
      | refine ow_shl rfl rfl rfl (by omega) ?_
      | refine ow_shr rfl rfl rfl (by omega) ?_
      | refine ow_makeFunc (fs := []) (cs := []) rfl rfl rfl ?_
      | refine ow_makeFunc (fs := []) (cs := [.pointer _]) rfl rfl rfl ?_
      | refine ow_makeFunc (fs := []) (cs := [.pointer _, .pointer _]) rfl rfl rfl ?_
      | refine ow_makeFunc (fs := []) (cs := [.pointer _, .pointer _, .pointer _]) rfl rfl rfl ?_)
    refine ow_call rfl rfl (ent (by kernel_rfl)) (CallsV.mono (held_spec most 0 ns.length w) ?_) rfl
    rintro v w' ⟨rfl, rfl⟩
    repeat (first
      | refine wc_seq ?_
      | refine wc_block ?_
      | refine wc_region ?_
      | refine ow_nil ?_
      | refine wc_skip ?_
      | refine wc_exit ?_
      | (apply ow_move; (· rfl); (· ((conv => lhs; whnf) <;> rfl)))
      | (apply ow_assign; (· rfl); (· ((conv => lhs; whnf) <;> rfl)))
      | refine ow_extract rfl rfl rfl ?_
      | refine ow_nilCheck_ptr rfl rfl ?_
      | refine ow_nilCheck_ptr0 rfl ?_
      | refine ow_fieldAddr rfl (tyAt rfl) rfl rfl rfl (tyAt rfl) rfl rfl ?_
      | refine ow_guard_yes rfl rfl rfl rfl ?_
      | refine ow_guard_no rfl rfl rfl rfl rfl rfl rfl ?_
      | refine ow_guard_dec rfl rfl rfl (fun _ => ?_) (fun h => (h (by with_reducible rfl)).elim)
      | refine ow_guard_dec rfl rfl rfl (fun h => (h (by with_reducible rfl)).elim) (fun _ => ?_)
      | (apply ow_pick_t; (· rfl); (· rfl); (· ((conv => lhs; whnf) <;> rfl)))
      | (apply ow_pick_f; (· rfl); (· rfl); (· ((conv => lhs; whnf) <;> rfl)))
      | refine wc_cond_true rfl ?_
      | refine wc_cond_false rfl ?_
      | refine ow_add rfl rfl rfl (by simp only [InK]; omega) ?_
      | refine ow_sub rfl rfl rfl (by simp only [InK]; omega) ?_
      | refine ow_lss rfl rfl rfl ?_
      | refine ow_leq rfl rfl rfl ?_
      | refine ow_gtr rfl rfl rfl ?_
      | refine ow_geq rfl rfl rfl ?_
      | refine ow_eql rfl rfl rfl ?_
      | refine ow_neq rfl rfl rfl ?_
      | refine ow_mul rfl rfl rfl (by simp only [InK]; omega) ?_
      | refine ow_quo rfl rfl rfl (by omega) (by omega) (by simp only [InK]; omega) ?_
      | refine ow_rem rfl rfl rfl (by omega) (by omega) ?_
      | refine ow_conv_in rfl rfl (tyAt rfl) (tyAt rfl) rfl (by simp only [InK]; omega) ?_
      | refine ow_conv rfl rfl (tyAt rfl) (tyAt rfl) rfl ?_
      | refine ow_not_dec rfl rfl ?_
      | refine ow_not rfl rfl ?_
      | refine ow_len rfl rfl (tyAt rfl) rfl ?_
      | refine ow_lenStr rfl rfl (tyAt rfl) rfl ?_
      | refine ow_max rfl rfl rfl ?_
      | refine ow_min rfl rfl rfl ?_
      | refine ow_and rfl rfl rfl ?_
      | refine ow_or rfl rfl rfl ?_
      | refine ow_xor rfl rfl rfl ?_
      | refine ow_neg rfl rfl (by simp only [InK]; omega) ?_
      | refine ow_negw rfl rfl ?_
      | refine ow_addw rfl rfl rfl ?_
      | refine ow_subw rfl rfl rfl ?_
      | refine ow_mulw rfl rfl rfl ?_
      | refine ow_compl rfl rfl ?_
      | refine ow_shl rfl rfl rfl (by omega) ?_
      | refine ow_shr rfl rfl rfl (by omega) ?_
      | refine ow_makeFunc (fs := []) (cs := []) rfl rfl rfl ?_
      | refine ow_makeFunc (fs := []) (cs := [.pointer _]) rfl rfl rfl ?_
      | refine ow_makeFunc (fs := []) (cs := [.pointer _, .pointer _]) rfl rfl rfl ?_
      | refine ow_makeFunc (fs := []) (cs := [.pointer _, .pointer _, .pointer _]) rfl rfl rfl ?_)
    obtain ⟨mm, hm1, hm2, hm⟩ : ∃ mm : Nat, mm ≤ ns.length ∧ mm ≤ (allL bs).length ∧ (if (if most > (ns.length : Int) then (ns.length : Int) else most) < 0 then 0 else if most > (ns.length : Int) then (ns.length : Int) else most) = (mm : Int) := by
      refine ⟨(if (if most > (ns.length : Int) then (ns.length : Int) else most) < 0 then 0 else if most > (ns.length : Int) then (ns.length : Int) else most).toNat, ?_, ?_, ?_⟩ <;> split <;> split <;> omega
    rw [hm]
    refine ow_call rfl rfl (ent (by kernel_rfl)) (CallsV.mono (list_spec p cap bs hb (by omega) hcap mm w' (H.oldSl hs)) ?_) rfl
    rintro v w ⟨q9, c8, rfl, H'⟩
    replace H := H.call H'
    have hlen : (takeZ (mm : Int) (allL bs)).length = mm := by
      unfold takeZ; rw [if_neg (by omega)]; simp; omega
    rw [hlen]
    repeat (first
      | refine wc_seq ?_
      | refine wc_block ?_
      | refine wc_region ?_
      | refine ow_nil ?_
      | refine wc_skip ?_
      | refine wc_exit ?_
      | (apply ow_move; (· rfl); (· ((conv => lhs; whnf) <;> rfl)))
      | (apply ow_assign; (· rfl); (· ((conv => lhs; whnf) <;> rfl)))
      | refine ow_extract rfl rfl rfl ?_
      | refine ow_nilCheck_ptr rfl rfl ?_
      | refine ow_nilCheck_ptr0 rfl ?_
      | refine ow_fieldAddr rfl (tyAt rfl) rfl rfl rfl (tyAt rfl) rfl rfl ?_
      | refine ow_guard_yes rfl rfl rfl rfl ?_
      | refine ow_guard_no rfl rfl rfl rfl rfl rfl rfl ?_
      | refine ow_guard_dec rfl rfl rfl (fun _ => ?_) (fun h => (h (by with_reducible rfl)).elim)
      | refine ow_guard_dec rfl rfl rfl (fun h => (h (by with_reducible rfl)).elim) (fun _ => ?_)
      | (apply ow_pick_t; (· rfl); (· rfl); (· ((conv => lhs; whnf) <;> rfl)))
      | (apply ow_pick_f; (· rfl); (· rfl); (· ((conv => lhs; whnf) <;> rfl)))
      | refine wc_cond_true rfl ?_
      | refine wc_cond_false rfl ?_
      | refine ow_add rfl rfl rfl (by simp only [InK]; omega) ?_
      | refine ow_sub rfl rfl rfl (by simp only [InK]; omega) ?_
      | refine ow_lss rfl rfl rfl ?_
      | refine ow_leq rfl rfl rfl ?_
      | refine ow_gtr rfl rfl rfl ?_
      | refine ow_geq rfl rfl rfl ?_
      | refine ow_eql rfl rfl rfl ?_
      | refine ow_neq rfl rfl rfl ?_
      | refine ow_mul rfl rfl rfl (by simp only [InK]; omega) ?_
      | refine ow_quo rfl rfl rfl (by omega) (by omega) (by simp only [InK]; omega) ?_
      | refine ow_rem rfl rfl rfl (by omega) (by omega) ?_
      | refine ow_conv_in rfl rfl (tyAt rfl) (tyAt rfl) rfl (by simp only [InK]; omega) ?_
      | refine ow_conv rfl rfl (tyAt rfl) (tyAt rfl) rfl ?_
      | refine ow_not_dec rfl rfl ?_
      | refine ow_not rfl rfl ?_
      | refine ow_len rfl rfl (tyAt rfl) rfl ?_
      | refine ow_lenStr rfl rfl (tyAt rfl) rfl ?_
      | refine ow_max rfl rfl rfl ?_
      | refine ow_min rfl rfl rfl ?_
      | refine ow_and rfl rfl rfl ?_
      | refine ow_or rfl rfl rfl ?_
      | refine ow_xor rfl rfl rfl ?_
      | refine ow_neg rfl rfl (by simp only [InK]; omega) ?_
      | refine ow_negw rfl rfl ?_
      | refine ow_addw rfl rfl rfl ?_
      | refine ow_subw rfl rfl rfl ?_
      | refine ow_mulw rfl rfl rfl ?_
      | refine ow_compl rfl rfl ?_
      | refine ow_shl rfl rfl rfl (by omega) ?_
      | refine ow_shr rfl rfl rfl (by omega) ?_
      | refine ow_makeFunc (fs := []) (cs := []) rfl rfl rfl ?_
      | refine ow_makeFunc (fs := []) (cs := [.pointer _]) rfl rfl rfl ?_
      | refine ow_makeFunc (fs := []) (cs := [.pointer _, .pointer _]) rfl rfl rfl ?_
      | refine ow_makeFunc (fs := []) (cs := [.pointer _, .pointer _, .pointer _]) rfl rfl rfl ?_)
    refine wc_ret ?_
    obtain ⟨w, hT, H⟩ := H.takes Try.prog
    refine ⟨.inr rfl, w, hT, _, .tmp .nil, ?_⟩
    exact ⟨congrArg Value.bool (decide_eq_true rfl), H.sub (List.nil_sublist _)⟩
end Go.Proofs.Ytphmjdbdhhbdoaa
