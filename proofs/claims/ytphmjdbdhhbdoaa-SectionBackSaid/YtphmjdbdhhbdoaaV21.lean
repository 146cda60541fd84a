/- What digest.Make lays down, and what sums it yields: functions 44 to 49. -/
import Derived.Test.YtphmjdbdhhbdoaaV20
import Derived.Test.YtphmjdbdhhbdoaaV2
import Derived.Test.YtphmjdbdhhbdoaaK3
namespace Go.Proofs.Ytphmjdbdhhbdoaa
set_option linter.all false
open Go Go.Sx Go.Proofs
set_option maxRecDepth 100000
set_option maxHeartbeats 2000000
theorem compl_u32 {s : Nat} (hs : s < 4294967296) : bw .xor .u32 (if IntKind.u32.signed = true then -1 else IntKind.u32.max) (s : Int) = ((ones32 ^^^ s : Nat) : Int) := by
  have : (if IntKind.u32.signed = true then (-1 : Int) else IntKind.u32.max) = ((ones32 : Nat) : Int) := by decide
  rw [this]; exact xor_u32 (by decide) hs
theorem stps_left (p i x : Nat) (h : i < 8) : stps (8 - i) p x = stps (8 - (i + 1)) p (stp p x) := by
  obtain ⟨k, hk⟩ : ∃ k, 8 - i = k + 1 := ⟨7 - i, by omega⟩
  rw [hk, show 8 - (i + 1) = k by omega]; rfl
theorem steps_spec (x p : Nat) (hx : x < 4294967296) (hpl : p < 4294967296) (w0 : World) : CallsV Try.prog 49 #[.int .u32 x, .int .u32 p] w0 fun v w => v = .int .u32 (tabN p x) ∧ w = w0 := by
  refine callsV_of Try.func49 rfl rfl ?_
  refine wc_seq ?_
  refine wc_region ?_
  (apply ow_assign; (· rfl); (· ((conv => lhs; whnf) <;> rfl)))
  refine ow_nil ?_
  refine wc_seq ?_
  refine wc_seq ?_
  refine wc_region ?_
  (apply ow_assign; (· rfl); (· ((conv => lhs; whnf) <;> rfl)))
  refine ow_nil ?_
  refine wc_block ?_
  refine wc_loopS [0, 5, 6, 7, 8, 9, 10, 11, 12, 13, 14, 15, 16, 17, 18] (fun (s : Nat × Nat) e => upd (upd e 0 (.int .u32 s.1)) 5 (.int .i64 s.2))
    (fun s D w => D = [] ∧ w = w0 ∧ s.1 < 4294967296 ∧ s.2 ≤ 8 ∧ stps (8 - s.2) p s.1 = tabN p x) (fun s _ => 8 - s.2) (x, 0) (by first | exact rfl | exact upd_self' rfl rfl | exact upd_self' rfl (upd_self' rfl rfl) | exact upd_self' rfl (upd_self' rfl (upd_self' rfl rfl)) | exact upd_self' rfl (upd_self' rfl (upd_self' rfl (upd_self' rfl rfl)))) ⟨rfl, rfl, hx, Nat.zero_le _, rfl⟩ ?_
  rintro ⟨m, i⟩ j D w ⟨rfl, rfl, hm, hi, hst⟩
  dsimp only at hm hi hst ⊢
  have e1 : bw .xor .u32 ((m : Int) / 2) (p : Int) = ((m / 2 ^^^ p : Nat) : Int) := by
    rw [show (m : Int) / 2 = ((m / 2 : Nat) : Int) by omega]; exact xor_u32 (by omega) hpl
  refine wc_seq ?_
  refine wc_seq ?_
  refine wc_region ?_
  (apply ow_move; (· rfl); (· ((conv => lhs; whnf) <;> rfl)))
  refine ow_lss rfl rfl rfl ?_
  refine ow_nil ?_
  refine wc_cond_dec rfl (fun h => ?_) (fun h => ?_) <;> try dsimp only at h
  · rw [stps_left _ _ _ (by omega)] at hst
    have hlt := stp_lt (p := p) (x := m) (by omega) (by omega)
    refine wc_skip ?_
    refine wc_seq ?_
    refine wc_block ?_
    refine wc_seq ?_
    refine wc_region ?_
    (apply ow_move; (· rfl); (· ((conv => lhs; whnf) <;> rfl)))
    refine ow_rem rfl rfl rfl (by omega) (by omega) ?_
    refine ow_eql rfl rfl rfl ?_
    refine ow_nil ?_
    refine wc_cond_dec rfl (fun h => ?_) (fun h => ?_) <;> try dsimp only at h
    · have hs : stp p m = m / 2 ^^^ p := by unfold stp; rw [if_pos (by omega)]
      rw [hs] at hst hlt
      refine wc_region ?_
      (apply ow_move; (· rfl); (· ((conv => lhs; whnf) <;> rfl)))
      refine ow_quo rfl rfl rfl (by omega) (by omega) (by simp only [InK]; omega) ?_
      (apply ow_move; (· rfl); (· ((conv => lhs; whnf) <;> rfl)))
      refine ow_xor rfl rfl rfl ?_
      (apply ow_assign; (· rfl); (· ((conv => lhs; whnf) <;> rfl)))
      refine ow_nil ?_
      refine wc_region ?_
      (apply ow_move; (· rfl); (· ((conv => lhs; whnf) <;> rfl)))
      refine ow_add rfl rfl rfl (by simp only [InK]; omega) ?_
      (apply ow_assign; (· rfl); (· ((conv => lhs; whnf) <;> rfl)))
      refine ow_nil ?_
      exact ⟨(m / 2 ^^^ p, i + 1), by repeat (first | exact rfl | (refine upd_self' ?_ ?_; (· first | exact rfl | (exact congrArg (Value.int .u32) e1)))), by repeat (first | with_reducible exact Off.mix | with_reducible exact Off.refl | ((with_reducible refine Off.upd ?_ ?_); (· rfl))), ⟨rfl, rfl, by dsimp only; omega, by dsimp only; omega, hst⟩, by dsimp only; omega⟩
    · have hs : stp p m = m / 2 := by unfold stp; rw [if_neg (by omega)]
      rw [hs] at hst hlt
      refine wc_region ?_
      (apply ow_move; (· rfl); (· ((conv => lhs; whnf) <;> rfl)))
      refine ow_quo rfl rfl rfl (by omega) (by omega) (by simp only [InK]; omega) ?_
      (apply ow_assign; (· rfl); (· ((conv => lhs; whnf) <;> rfl)))
      refine ow_nil ?_
      refine wc_region ?_
      (apply ow_move; (· rfl); (· ((conv => lhs; whnf) <;> rfl)))
      refine ow_add rfl rfl rfl (by simp only [InK]; omega) ?_
      (apply ow_assign; (· rfl); (· ((conv => lhs; whnf) <;> rfl)))
      refine ow_nil ?_
      exact ⟨(m / 2, i + 1), by repeat (first | exact rfl | (refine upd_self' ?_ ?_; (· first | exact rfl | (exact congrArg (Value.int .u32) (show (m : Int) / 2 = ((m / 2 : Nat) : Int) by omega))))), by repeat (first | with_reducible exact Off.mix | with_reducible exact Off.refl | ((with_reducible refine Off.upd ?_ ?_); (· rfl))), ⟨rfl, rfl, by dsimp only; omega, by dsimp only; omega, hst⟩, by dsimp only; omega⟩
  · have : i = 8 := by omega
    subst this
    refine wc_exit ?_
    refine wc_seq ?_
    refine wc_region ?_
    (apply ow_move; (· rfl); (· ((conv => lhs; whnf) <;> rfl)))
    (apply ow_assign; (· rfl); (· ((conv => lhs; whnf) <;> rfl)))
    refine ow_nil ?_
    refine wc_ret ⟨.inr rfl, _, rfl, _, .tmp .nil, ?_⟩
    rw [← hst]; exact ⟨rfl, rfl⟩

theorem tabN_lt' {p x : Nat} (hpl : p < 4294967296) (hx : x < 4294967296) : tabN p x < 4294967296 := stps_lt (p := p) (by omega) 8 (by omega)
theorem refMore_spec (p s : Nat) (hpl : p < 4294967296) (hs : s < 4294967296) (q : Option Addr) (cap : Nat) (bs : List Nat) (hb : ∀ c ∈ bs, c < 256) (hl : bs.length ≤ 1000000) (w0 : World) (hq : SlH (hp w0) q (nats .u8 bs)) :
    CallsV Try.prog 46 #[.int .u32 p, .int .u32 s, .slice q bs.length cap] w0 fun v w => v = .int .u32 (sumN p s bs) ∧ w = w0 := by
  refine callsV_of Try.func46 rfl rfl ?_
  have hF : ones32 ^^^ s < 4294967296 := Nat.xor_lt_two_pow (n := 32) (by decide) hs
  refine wc_seq ?_
  refine wc_region ?_
  (apply ow_assign; (· rfl); (· ((conv => lhs; whnf) <;> rfl)))
  refine ow_nil ?_
  refine wc_seq ?_
  refine wc_region ?_
  (apply ow_move; (· rfl); (· ((conv => lhs; whnf) <;> rfl)))
  refine ow_compl rfl rfl ?_
  (apply ow_assign; (· rfl); (· ((conv => lhs; whnf) <;> rfl)))
  refine ow_nil ?_
  refine wc_seq ?_
  refine wc_seq ?_
  refine wc_region ?_
  (apply ow_assign; (· rfl); (· ((conv => lhs; whnf) <;> rfl)))
  refine ow_nil ?_
  refine wc_block ?_
  rw [compl_u32 hs]
  refine wc_loopS [7, 8, 9, 12, 13, 14, 15, 16, 17, 18, 19, 20, 21, 22, 23, 24, 25, 26, 27, 28, 29, 30, 31] (fun (st : Nat × Nat) e => upd (upd e 7 (.int .u32 st.1)) 8 (.int .i64 st.2)) (fun st D w => D = [] ∧ w = w0 ∧ st.1 < 4294967296 ∧ st.2 ≤ bs.length ∧ regN p st.1 (bs.drop st.2) = regN p (ones32 ^^^ s) bs) (fun st _ => bs.length - st.2) (ones32 ^^^ s, 0) (by first | exact rfl | exact upd_self' rfl rfl | exact upd_self' rfl (upd_self' rfl rfl) | exact upd_self' rfl (upd_self' rfl (upd_self' rfl rfl)) | exact upd_self' rfl (upd_self' rfl (upd_self' rfl (upd_self' rfl rfl)))) ⟨rfl, rfl, hF, Nat.zero_le _, rfl⟩ ?_
  rintro ⟨m, i⟩ j D w ⟨rfl, rfl, hm, hi, hst⟩
  dsimp only at hm hi hst ⊢
  refine wc_seq ?_
  refine wc_seq ?_
  refine wc_region ?_
  (apply ow_move; (· rfl); (· ((conv => lhs; whnf) <;> rfl)))
  (apply ow_move; (· rfl); (· ((conv => lhs; whnf) <;> rfl)))
  refine ow_len rfl rfl (tyAt rfl) rfl ?_
  refine ow_lss rfl rfl rfl ?_
  refine ow_nil ?_
  refine wc_cond_dec rfl (fun h => ?_) (fun h => ?_) <;> try dsimp only at h
  · have hlt : i < bs.length := by omega
    have hc := getD_lt hb hlt
    obtain ⟨b, o, rfl⟩ := hq.some_of (by simp; omega)
    have hload := hq.nat hlt
    rw [drop_at hlt] at hst
    obtain ⟨c, hcd⟩ : ∃ c, bs.getD i 0 = c := ⟨_, rfl⟩
    rw [hcd] at hst hc hload
    rw [regN] at hst
    have hx : m % 256 ^^^ c < 4294967296 := Nat.lt_trans (Nat.xor_lt_two_pow (n := 8) (by omega) hc) (by decide)
    have htl := tabN_lt' hpl hx
    have e2 : bw .xor .u32 ((m : Int) % 256) (c : Int) = ((m % 256 ^^^ c : Nat) : Int) := by
      rw [show (m : Int) % 256 = ((m % 256 : Nat) : Int) by omega]; exact xor_u32 (by omega) (by omega)
    have e3 : bw .xor .u32 (tabN p (m % 256 ^^^ c) : Int) ((m : Int) / 256) = ((tabN p (m % 256 ^^^ c) ^^^ m / 256 : Nat) : Int) := by
      rw [show (m : Int) / 256 = ((m / 256 : Nat) : Int) by omega]; exact xor_u32 htl (by omega)
    refine wc_skip ?_
    refine wc_seq ?_
    refine wc_block ?_
    refine wc_seq ?_
    refine wc_region ?_
    (apply ow_move; (· rfl); (· ((conv => lhs; whnf) <;> rfl)))
    refine ow_rem rfl rfl rfl (by omega) (by omega) ?_
    (apply ow_move; (· rfl); (· ((conv => lhs; whnf) <;> rfl)))
    (apply ow_move; (· rfl); (· ((conv => lhs; whnf) <;> rfl)))
    refine ow_idx1 (j := i) rfl (tyAt rfl) rfl (tyAt rfl) rfl rfl (by first | rfl | omega) (by omega) rfl ?_
    refine ow_load rfl (tyAt rfl) rfl rfl (hload) ?_
    refine ow_conv_in rfl rfl (tyAt rfl) (tyAt rfl) rfl (by simp only [InK]; omega) ?_
    refine ow_xor rfl rfl rfl ?_
    (apply ow_assign; (· rfl); (· ((conv => lhs; whnf) <;> rfl)))
    refine ow_nil ?_
    refine wc_region ?_
    (apply ow_move; (· rfl); (· ((conv => lhs; whnf) <;> rfl)))
    (apply ow_move; (· rfl); (· ((conv => lhs; whnf) <;> rfl)))
    rw [e2]
    skip
    refine ow_call rfl rfl (ent (by kernel_rfl)) (CallsV.mono (steps_spec _ p hx hpl _) ?_) rfl
    rintro v w ⟨rfl, rfl⟩
    (apply ow_move; (· rfl); (· ((conv => lhs; whnf) <;> rfl)))
    refine ow_quo rfl rfl rfl (by omega) (by omega) (by simp only [InK]; omega) ?_
    refine ow_xor rfl rfl rfl ?_
    (apply ow_assign; (· rfl); (· ((conv => lhs; whnf) <;> rfl)))
    refine ow_nil ?_
    refine wc_region ?_
    (apply ow_move; (· rfl); (· ((conv => lhs; whnf) <;> rfl)))
    refine ow_add rfl rfl rfl (by simp only [InK]; omega) ?_
    (apply ow_assign; (· rfl); (· ((conv => lhs; whnf) <;> rfl)))
    refine ow_nil ?_
    exact ⟨(tabN p (m % 256 ^^^ c) ^^^ m / 256, i + 1), by repeat (first | exact rfl | (refine upd_self' ?_ ?_; (· first | exact rfl | (exact congrArg (Value.int .u32) e3)))), by repeat (first | with_reducible exact Off.mix | with_reducible exact Off.refl | ((with_reducible refine Off.upd ?_ ?_); (· rfl))), ⟨rfl, rfl, Nat.xor_lt_two_pow (n := 32) htl (by omega), hlt, hst⟩, by dsimp only; omega⟩
  · have : i = bs.length := by omega
    subst this
    rw [List.drop_length, regN] at hst
    refine wc_exit ?_
    refine wc_seq ?_
    refine wc_region ?_
    (apply ow_move; (· rfl); (· ((conv => lhs; whnf) <;> rfl)))
    refine ow_compl rfl rfl ?_
    (apply ow_assign; (· rfl); (· ((conv => lhs; whnf) <;> rfl)))
    refine ow_nil ?_
    rw [compl_u32 hm]
    skip
    refine wc_ret ⟨.inr rfl, _, rfl, _, .tmp .nil, ?_⟩
    rw [hst]; exact ⟨rfl, rfl⟩

/-! ### the table -/
def tabP (p i : Nat) : List Nat := (List.range 256).map fun j => if j < i then tabN p j else 0
def tabL (p : Nat) : List Nat := (List.range 256).map (tabN p)
theorem tabP_len (p i : Nat) : (tabP p i).length = 256 := by simp [tabP]
theorem tabL_len (p : Nat) : (tabL p).length = 256 := by simp [tabL]
theorem tabP_zero (p : Nat) : List.replicate 256 (Value.int .u32 0) = nats .u32 (tabP p 0) := by
  apply List.ext_getElem
  · simp [nats, tabP]
  · intro i h1 h2
    rw [List.getElem_replicate]
    simp only [nats, tabP, List.getElem_map, List.getElem_range, if_neg (Nat.not_lt_zero i)]; rfl
theorem tabP_full (p : Nat) : tabP p 256 = tabL p := by
  unfold tabP tabL
  refine List.map_congr_left fun j hj => ?_
  rw [if_pos (List.mem_range.1 hj)]
theorem tabP_set (p i : Nat) (hi : i < 256) : (nats .u32 (tabP p i)).set i (.int .u32 (tabN p i)) = nats .u32 (tabP p (i + 1)) := by
  apply List.ext_getElem
  · simp [nats, tabP]
  · intro j h1 h2
    rw [List.getElem_set]
    simp only [nats, tabP, List.getElem_map, List.getElem_range]
    by_cases h : i = j
    · subst h; simp
    · rw [if_neg h]
      by_cases h3 : j < i
      · rw [if_pos h3, if_pos (by omega)]
      · rw [if_neg h3, if_neg (by omega)]
theorem tabL_at (p : Nat) {i : Nat} (hi : i < 256) : (tabL p).getD i 0 = tabN p i := by simp [tabL, List.getD, hi]
theorem and1_u32 {x : Nat} (hx : x < 4294967296) : bw .and .u32 (x : Int) 1 = ((x % 2 : Nat) : Int) := by
  have := and_u32 (y := 1) hx (by decide)
  rw [Nat.and_one_is_mod] at this
  exact this
theorem make_spec (p : Nat) (hpl : p < 4294967296) (w0 : World) :
    CallsV Try.prog 44 #[.int .u32 p] w0 fun v w => ∃ b, v = .pointer (some ⟨b, 0, none⟩) ∧ St Pu w0 w [.row b 146 (nats .u32 (tabL p))] [] := by
  refine callsV_of Try.func44 rfl rfl ?_
  have H := St.init w0
  refine wc_seq ?_
  refine wc_region ?_
  (apply ow_assign; (· rfl); (· ((conv => lhs; whnf) <;> rfl)))
  refine ow_nil ?_
  refine wc_seq ?_
  refine wc_region ?_
  refine ow_alloc (l := List.replicate 256 (.int .u32 0)) H rfl (tyAt rfl) (by kernel_rfl) (fun b w H => ?_)
  rw [tabP_zero p] at H
  refine ow_nil ?_
  refine wc_seq ?_
  refine wc_seq ?_
  refine wc_region ?_
  (apply ow_move; (· rfl); (· ((conv => lhs; whnf) <;> rfl)))
  refine ow_nil ?_
  refine wc_block ?_
  refine wc_loopS [4, 5, 6, 7, 8, 9, 10, 11, 12, 13, 14, 15, 16, 17, 18, 19, 20, 21, 22, 23, 24, 25, 26, 27, 28] (fun (s : Nat) e => upd e 7 (.int .i64 s)) (fun s D w => D = [] ∧ s ≤ 256 ∧ St Pu w0 w [.row b 146 (nats .u32 (tabP p s))] []) (fun s _ => 256 - s) 0 (by first | exact rfl | exact upd_self' rfl rfl | exact upd_self' rfl (upd_self' rfl rfl) | exact upd_self' rfl (upd_self' rfl (upd_self' rfl rfl)) | exact upd_self' rfl (upd_self' rfl (upd_self' rfl (upd_self' rfl rfl)))) ⟨rfl, by decide, H⟩ ?_
  clear H w
  rintro i j D w ⟨rfl, hi, H⟩
  refine wc_seq ?_
  refine wc_region ?_
  refine ow_lss rfl rfl rfl ?_
  refine ow_nil ?_
  refine wc_seq ?_
  refine wc_cond_dec rfl (fun h => ?_) (fun h => ?_) <;> try dsimp only at h
  · have hi' : i < 256 := by omega
    refine wc_skip ?_
    refine wc_seq ?_
    refine wc_block ?_
    refine wc_seq ?_
    refine wc_region ?_
    (apply ow_move; (· rfl); (· ((conv => lhs; whnf) <;> rfl)))
    (apply ow_assign; (· rfl); (· ((conv => lhs; whnf) <;> rfl)))
    refine ow_nil ?_
    refine wc_seq ?_
    refine wc_region ?_
    (apply ow_move; (· rfl); (· ((conv => lhs; whnf) <;> rfl)))
    refine ow_conv_in rfl rfl (tyAt rfl) (tyAt rfl) rfl (by simp only [InK]; omega) ?_
    (apply ow_assign; (· rfl); (· ((conv => lhs; whnf) <;> rfl)))
    refine ow_nil ?_
    refine wc_seq ?_
    refine wc_seq ?_
    refine wc_region ?_
    (apply ow_move; (· rfl); (· ((conv => lhs; whnf) <;> rfl)))
    refine ow_nil ?_
    refine wc_block ?_
    refine wc_loopS [5, 6, 12, 13, 14, 15, 16, 17, 18, 19, 20, 21, 22, 23] (fun (s : Nat × Nat) e => upd (upd e 5 (.int .u32 s.1)) 12 (.int .i64 s.2)) (fun s D w' => D = [] ∧ w' = w ∧ s.1 < 4294967296 ∧ s.2 ≤ 8 ∧ stps (8 - s.2) p s.1 = tabN p i) (fun s _ => 8 - s.2) (i, 0) (by first | exact rfl | exact upd_self' rfl rfl | exact upd_self' rfl (upd_self' rfl rfl) | exact upd_self' rfl (upd_self' rfl (upd_self' rfl rfl)) | exact upd_self' rfl (upd_self' rfl (upd_self' rfl (upd_self' rfl rfl)))) ⟨rfl, rfl, by dsimp only; omega, Nat.zero_le _, rfl⟩ ?_
    rintro ⟨m, k⟩ j D w' ⟨rfl, rfl, hm, hk, hst⟩
    dsimp only at hm hk hst ⊢
    have e0 := shr_nat m 1 32 (by decide)
    have ea := and1_u32 hm
    have e1 : bw .xor .u32 ((m : Int).fdiv (2 ^ min (Int.toNat 1) IntKind.u32.bits)) (p : Int) = ((m / 2 ^^^ p : Nat) : Int) := by
      rw [show (m : Int).fdiv (2 ^ min (Int.toNat 1) IntKind.u32.bits) = ((m / 2 : Nat) : Int) from e0]; exact xor_u32 (by omega) hpl
    refine wc_seq ?_
    refine wc_region ?_
    refine ow_lss rfl rfl rfl ?_
    refine ow_nil ?_
    refine wc_seq ?_
    refine wc_cond_dec rfl (fun h => ?_) (fun h => ?_) <;> try dsimp only at h
    · rw [stps_left _ _ _ (by omega)] at hst
      have hlt := stp_lt (p := p) (x := m) (by omega) (by omega)
      refine wc_skip ?_
      refine wc_seq ?_
      refine wc_block ?_
      refine wc_seq ?_
      refine wc_region ?_
      (apply ow_move; (· rfl); (· ((conv => lhs; whnf) <;> rfl)))
      refine ow_and rfl rfl rfl ?_
      refine ow_eql rfl rfl rfl ?_
      (apply ow_assign; (· rfl); (· ((conv => lhs; whnf) <;> rfl)))
      refine ow_nil ?_
      refine wc_seq ?_
      refine wc_region ?_
      (apply ow_move; (· rfl); (· ((conv => lhs; whnf) <;> rfl)))
      refine ow_shr rfl rfl rfl (by omega) ?_
      (apply ow_assign; (· rfl); (· ((conv => lhs; whnf) <;> rfl)))
      refine ow_nil ?_
      refine wc_seq ?_
      refine wc_region ?_
      (apply ow_move; (· rfl); (· ((conv => lhs; whnf) <;> rfl)))
      refine ow_nil ?_
      refine wc_cond_dec rfl (fun h => ?_) (fun h => ?_) <;> try dsimp only at h
      · rw [ea] at h
        have hs : stp p m = m / 2 ^^^ p := by unfold stp; rw [if_pos (by omega)]
        rw [hs] at hst hlt
        refine wc_region ?_
        (apply ow_move; (· rfl); (· ((conv => lhs; whnf) <;> rfl)))
        (apply ow_move; (· rfl); (· ((conv => lhs; whnf) <;> rfl)))
        refine ow_xor rfl rfl rfl ?_
        (apply ow_assign; (· rfl); (· ((conv => lhs; whnf) <;> rfl)))
        refine ow_nil ?_
        refine wc_region ?_
        refine ow_add rfl rfl rfl (by simp only [InK]; omega) ?_
        (apply ow_move; (· rfl); (· ((conv => lhs; whnf) <;> rfl)))
        refine ow_nil ?_
        exact ⟨(m / 2 ^^^ p, k + 1), by repeat (first | exact rfl | (refine upd_self' ?_ ?_; (· first | exact rfl | (exact congrArg (Value.int .u32) e1)))), by repeat (first | with_reducible exact Off.mix | with_reducible exact Off.refl | ((with_reducible refine Off.upd ?_ ?_); (· rfl))), ⟨rfl, rfl, by dsimp only; omega, by dsimp only; omega, hst⟩, by dsimp only; omega⟩
      · rw [ea] at h
        have hs : stp p m = m / 2 := by unfold stp; rw [if_neg (by omega)]
        rw [hs] at hst hlt
        refine wc_skip ?_
        refine wc_region ?_
        refine ow_add rfl rfl rfl (by simp only [InK]; omega) ?_
        (apply ow_move; (· rfl); (· ((conv => lhs; whnf) <;> rfl)))
        refine ow_nil ?_
        exact ⟨(m / 2, k + 1), by repeat (first | exact rfl | (refine upd_self' ?_ ?_; (· first | exact rfl | (exact congrArg (Value.int .u32) e0)))), by repeat (first | with_reducible exact Off.mix | with_reducible exact Off.refl | ((with_reducible refine Off.upd ?_ ?_); (· rfl))), ⟨rfl, rfl, by dsimp only; omega, by dsimp only; omega, hst⟩, by dsimp only; omega⟩
    · have : k = 8 := by omega
      subst this
      rw [show 8 - 8 = 0 from rfl, stps] at hst
      subst hst
      refine wc_exit ?_
      refine wc_region ?_
      (apply ow_move; (· rfl); (· ((conv => lhs; whnf) <;> rfl)))
      (apply ow_move; (· rfl); (· ((conv => lhs; whnf) <;> rfl)))
      refine ow_fieldAddr rfl (tyAt rfl) rfl rfl rfl (tyAt rfl) rfl rfl ?_
      refine ow_idxArr1 (j := i) rfl (tyAt rfl) rfl (tyAt rfl) rfl rfl rfl hi' rfl ?_
      refine ow_store (i := 0) (o := 0 + i) (v := .int .u32 (tabN p i)) H (tyAt rfl) rfl rfl rfl rfl rfl (by simp [nats, tabP]; omega) (fun w H => ?_)
      rw [List.set_cons_zero, Nat.zero_add] at H
      rw [tabP_set p i hi'] at H
      refine ow_nil ?_
      refine wc_region ?_
      refine ow_add rfl rfl rfl (by simp only [InK]; omega) ?_
      (apply ow_move; (· rfl); (· ((conv => lhs; whnf) <;> rfl)))
      refine ow_nil ?_
      exact ⟨i + 1, by first | exact rfl | exact upd_self' rfl rfl | exact upd_self' rfl (upd_self' rfl rfl) | exact upd_self' rfl (upd_self' rfl (upd_self' rfl rfl)) | exact upd_self' rfl (upd_self' rfl (upd_self' rfl (upd_self' rfl rfl))), by repeat (first | with_reducible exact Off.mix | with_reducible exact Off.refl | ((with_reducible refine Off.upd ?_ ?_); (· rfl)) | ((with_reducible refine Off.mixN ?_ ?_); (· rfl))), ⟨rfl, hi', H⟩, by omega⟩
  · have : i = 256 := by omega
    subst this
    rw [tabP_full] at H
    refine wc_exit ?_
    refine wc_seq ?_
    refine wc_region ?_
    (apply ow_assign; (· rfl); (· ((conv => lhs; whnf) <;> rfl)))
    refine ow_nil ?_
    refine wc_ret ?_
    obtain ⟨w, hT, H⟩ := H.takes Try.prog
    refine ⟨.inr rfl, w, hT, _, .tmp .nil, ?_⟩
    exact ⟨b, rfl, H⟩

theorem at_spec (p i : Nat) (hi : i < 256) (b : Nat) (w0 : World) (ht : SlH (hp w0) (some ⟨b, 0, none⟩) (nats .u32 (tabL p))) :
    CallsV Try.prog 48 #[.pointer (some ⟨b, 0, none⟩), .int .u8 i] w0 fun v w => v = .int .u32 (tabN p i) ∧ w = w0 := by
  refine callsV_of Try.func48 rfl rfl ?_
  have hload := ht.nat (j := i) (by rw [tabL_len]; exact hi)
  rw [tabL_at p hi] at hload
  refine wc_seq ?_
  refine wc_region ?_
  (apply ow_assign; (· rfl); (· ((conv => lhs; whnf) <;> rfl)))
  refine ow_nil ?_
  refine wc_seq ?_
  refine wc_region ?_
  (apply ow_move; (· rfl); (· ((conv => lhs; whnf) <;> rfl)))
  (apply ow_move; (· rfl); (· ((conv => lhs; whnf) <;> rfl)))
  refine ow_nilCheck_ptr rfl rfl ?_
  refine ow_fieldAddr rfl (tyAt rfl) rfl rfl rfl (tyAt rfl) rfl rfl ?_
  refine ow_idxArr1 (j := i) rfl (tyAt rfl) rfl (tyAt rfl) rfl rfl rfl hi rfl ?_
  refine ow_load rfl (tyAt rfl) rfl rfl hload ?_
  (apply ow_assign; (· rfl); (· ((conv => lhs; whnf) <;> rfl)))
  refine ow_nil ?_
  refine wc_ret ⟨.inr rfl, _, rfl, _, .tmp .nil, ?_⟩
  exact ⟨rfl, rfl⟩

theorem more_spec (p s : Nat) (hpl : p < 4294967296) (hs : s < 4294967296) (b : Nat) (q : Option Addr) (cap : Nat) (bs : List Nat) (hb : ∀ c ∈ bs, c < 256) (hl : bs.length ≤ 1000000) (w0 : World) (ht : SlH (hp w0) (some ⟨b, 0, none⟩) (nats .u32 (tabL p))) (hq : SlH (hp w0) q (nats .u8 bs)) :
    CallsV Try.prog 47 #[.pointer (some ⟨b, 0, none⟩), .int .u32 s, .slice q bs.length cap] w0 fun v w => v = .int .u32 (sumN p s bs) ∧ w = w0 := by
  refine callsV_of Try.func47 rfl rfl ?_
  have hF : ones32 ^^^ s < 4294967296 := Nat.xor_lt_two_pow (n := 32) (by decide) hs
  refine wc_seq ?_
  refine wc_region ?_
  (apply ow_assign; (· rfl); (· ((conv => lhs; whnf) <;> rfl)))
  refine ow_nil ?_
  refine wc_seq ?_
  refine wc_region ?_
  (apply ow_move; (· rfl); (· ((conv => lhs; whnf) <;> rfl)))
  refine ow_compl rfl rfl ?_
  (apply ow_assign; (· rfl); (· ((conv => lhs; whnf) <;> rfl)))
  refine ow_nil ?_
  refine wc_seq ?_
  refine wc_seq ?_
  refine wc_region ?_
  (apply ow_move; (· rfl); (· ((conv => lhs; whnf) <;> rfl)))
  refine ow_len rfl rfl (tyAt rfl) rfl ?_
  (apply ow_move; (· rfl); (· ((conv => lhs; whnf) <;> rfl)))
  refine ow_nil ?_
  refine wc_block ?_
  rw [compl_u32 hs]
  refine wc_loopS [7, 9, 14, 15, 16, 17, 18, 19, 20, 21, 22, 23, 24, 25, 26, 27, 28, 29, 30] (fun (st : Nat × Nat) e => upd (upd e 7 (.int .u32 st.1)) 14 (.int .i64 st.2)) (fun st D w => D = [] ∧ w = w0 ∧ st.1 < 4294967296 ∧ st.2 ≤ bs.length ∧ regN p st.1 (bs.drop st.2) = regN p (ones32 ^^^ s) bs) (fun st _ => bs.length - st.2) (ones32 ^^^ s, 0) (by first | exact rfl | exact upd_self' rfl rfl | exact upd_self' rfl (upd_self' rfl rfl) | exact upd_self' rfl (upd_self' rfl (upd_self' rfl rfl)) | exact upd_self' rfl (upd_self' rfl (upd_self' rfl (upd_self' rfl rfl)))) ⟨rfl, rfl, hF, Nat.zero_le _, rfl⟩ ?_
  rintro ⟨m, i⟩ j D w ⟨rfl, rfl, hm, hi, hst⟩
  dsimp only at hm hi hst ⊢
  refine wc_seq ?_
  refine wc_region ?_
  refine ow_lss rfl rfl rfl ?_
  refine ow_nil ?_
  refine wc_seq ?_
  refine wc_cond_dec rfl (fun h => ?_) (fun h => ?_) <;> try dsimp only at h
  · have hlt : i < bs.length := by omega
    have hc := getD_lt hb hlt
    obtain ⟨b1, o, rfl⟩ := hq.some_of (by simp; omega)
    have hload := hq.nat hlt
    rw [drop_at hlt] at hst
    obtain ⟨c, hcd⟩ : ∃ c, bs.getD i 0 = c := ⟨_, rfl⟩
    rw [hcd] at hst hc hload
    rw [regN] at hst
    have hx8 : m % 256 ^^^ c < 256 := Nat.xor_lt_two_pow (n := 8) (by omega) hc
    have htl := tabN_lt hpl hx8
    have e2 : bw .xor .u8 (IntKind.u8.wrap (m : Int)) (c : Int) = ((m % 256 ^^^ c : Nat) : Int) := by
      rw [wrap_u8]; exact xor_u8 (by omega) hc
    have hload2 := ht.nat (j := m % 256 ^^^ c) (by rw [tabL_len]; exact hx8)
    rw [tabL_at p hx8] at hload2
    have e3 : bw .xor .u32 (tabN p (m % 256 ^^^ c) : Int) ((m : Int).fdiv (2 ^ min (Int.toNat 8) IntKind.u32.bits)) = ((tabN p (m % 256 ^^^ c) ^^^ m / 256 : Nat) : Int) := by
      rw [show (m : Int).fdiv (2 ^ min (Int.toNat 8) IntKind.u32.bits) = ((m / 256 : Nat) : Int) from shr_nat m 8 32 (by decide)]; exact xor_u32 htl (by omega)
    refine wc_skip ?_
    refine wc_seq ?_
    refine wc_block ?_
    refine wc_seq ?_
    refine wc_region ?_
    refine ow_idx1 (j := i) rfl (tyAt rfl) rfl (tyAt rfl) rfl rfl (by first | rfl | omega) (by omega) rfl ?_
    refine ow_load rfl (tyAt rfl) rfl rfl (hload) ?_
    (apply ow_assign; (· rfl); (· ((conv => lhs; whnf) <;> rfl)))
    refine ow_nil ?_
    refine wc_region ?_
    (apply ow_move; (· rfl); (· ((conv => lhs; whnf) <;> rfl)))
    (apply ow_move; (· rfl); (· ((conv => lhs; whnf) <;> rfl)))
    refine ow_conv rfl rfl (tyAt rfl) (tyAt rfl) rfl ?_
    (apply ow_move; (· rfl); (· ((conv => lhs; whnf) <;> rfl)))
    refine ow_xor rfl rfl rfl ?_
    refine ow_nilCheck_ptr rfl rfl ?_
    refine ow_fieldAddr rfl (tyAt rfl) rfl rfl rfl (tyAt rfl) rfl rfl ?_
    rw [e2]
    refine ow_idxArr1 (j := m % 256 ^^^ c) rfl (tyAt rfl) rfl (tyAt rfl) rfl rfl rfl hx8 rfl ?_
    refine ow_load rfl (tyAt rfl) rfl rfl hload2 ?_
    (apply ow_move; (· rfl); (· ((conv => lhs; whnf) <;> rfl)))
    refine ow_shr rfl rfl rfl (by omega) ?_
    refine ow_xor rfl rfl rfl ?_
    (apply ow_assign; (· rfl); (· ((conv => lhs; whnf) <;> rfl)))
    refine ow_nil ?_
    refine wc_region ?_
    refine ow_add rfl rfl rfl (by simp only [InK]; omega) ?_
    (apply ow_move; (· rfl); (· ((conv => lhs; whnf) <;> rfl)))
    refine ow_nil ?_
    exact ⟨(tabN p (m % 256 ^^^ c) ^^^ m / 256, i + 1), by repeat (first | exact rfl | (refine upd_self' ?_ ?_; (· first | exact rfl | (exact congrArg (Value.int .u32) e3)))), by repeat (first | with_reducible exact Off.mix | with_reducible exact Off.refl | ((with_reducible refine Off.upd ?_ ?_); (· rfl))), ⟨rfl, rfl, Nat.xor_lt_two_pow (n := 32) htl (by omega), hlt, hst⟩, by dsimp only; omega⟩
  · have : i = bs.length := by omega
    subst this
    rw [List.drop_length, regN] at hst
    refine wc_exit ?_
    refine wc_seq ?_
    refine wc_region ?_
    (apply ow_move; (· rfl); (· ((conv => lhs; whnf) <;> rfl)))
    refine ow_compl rfl rfl ?_
    (apply ow_assign; (· rfl); (· ((conv => lhs; whnf) <;> rfl)))
    refine ow_nil ?_
    rw [compl_u32 hm]
    skip
    refine wc_ret ⟨.inr rfl, _, rfl, _, .tmp .nil, ?_⟩
    rw [hst]; exact ⟨rfl, rfl⟩
theorem sum_spec (p : Nat) (hpl : p < 4294967296) (b : Nat) (q : Option Addr) (cap : Nat) (bs : List Nat) (hb : ∀ c ∈ bs, c < 256) (hl : bs.length ≤ 1000000) (w0 : World) (ht : SlH (hp w0) (some ⟨b, 0, none⟩) (nats .u32 (tabL p))) (hq : SlH (hp w0) q (nats .u8 bs)) :
    CallsV Try.prog 45 #[.pointer (some ⟨b, 0, none⟩), .slice q bs.length cap] w0 fun v w => v = .int .u32 (sumN p 0 bs) ∧ w = w0 := by
  refine callsV_of Try.func45 rfl rfl ?_
  refine wc_seq ?_
  refine wc_region ?_
  (apply ow_assign; (· rfl); (· ((conv => lhs; whnf) <;> rfl)))
  refine ow_nil ?_
  refine wc_seq ?_
  refine wc_region ?_
  (apply ow_move; (· rfl); (· ((conv => lhs; whnf) <;> rfl)))
  (apply ow_move; (· rfl); (· ((conv => lhs; whnf) <;> rfl)))
  refine ow_call rfl rfl (ent (by kernel_rfl)) (CallsV.mono (more_spec p 0 hpl (by decide) b q cap bs hb hl _ ht hq) ?_) rfl
  rintro v w ⟨rfl, rfl⟩
  (apply ow_assign; (· rfl); (· ((conv => lhs; whnf) <;> rfl)))
  refine ow_nil ?_
  refine wc_ret ⟨.inr rfl, _, rfl, _, .tmp .nil, ?_⟩
  exact ⟨rfl, rfl⟩
end Go.Proofs.Ytphmjdbdhhbdoaa
