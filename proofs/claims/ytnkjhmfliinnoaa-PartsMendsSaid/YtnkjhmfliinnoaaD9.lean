/- The document's cuts: Up, In, Right, Cut, Weights, Move, Bound, Empty. -/
import Derived.Test.YtnkjhmfliinnoaaCA
import Derived.Test.YtnkjhmfliinnoaaGA
namespace Go.Proofs.Ytnkjhmfliinnoaa
set_option linter.all false
open Go Go.Sx Go.Proofs
set_option maxRecDepth 100000
set_option maxHeartbeats 2000000
theorem refUp_spec (a b : Int) (ha : 0 ≤ a) (ha2 : a ≤ 9223372036854775807) (hb : 1 ≤ b) (hb2 : b ≤ 9223372036854775807) (w0 : World) : CallsV Try.prog 126 #[.int .i64 a, .int .i64 b] w0 fun v w => v = .int .i64 (upV a b) ∧ w = w0 := by
  refine callsV_of Try.func126 rfl rfl ?_
  refine wc_seq ?_
  refine wc_region ?_
  (apply ow_assign; (· rfl); (· ((conv => lhs; whnf) <;> rfl)))
  refine ow_nil ?_
  refine wc_seq ?_
  refine wc_seq ?_
  refine wc_region ?_
  (apply ow_move; (· rfl); (· ((conv => lhs; whnf) <;> rfl)))
  refine ow_lss rfl rfl rfl ?_
  (apply ow_move; (· rfl); (· ((conv => lhs; whnf) <;> rfl)))
  refine ow_guard_dec rfl rfl rfl (fun h => ?_) (fun h => ?_) <;> try dsimp only at h
  · have e : upV a b = 0 := if_pos (.inl h)
    rw [e]
    refine ow_guard_no rfl rfl rfl rfl rfl rfl rfl ?_
    refine ow_guard_no rfl rfl rfl rfl rfl rfl rfl ?_
    (apply ow_pick_t; (· rfl); (· rfl); (· ((conv => lhs; whnf) <;> rfl)))
    refine ow_nil ?_
    refine wc_cond_true rfl ?_
    refine wc_seq ?_
    refine wc_region ?_
    (apply ow_assign; (· rfl); (· ((conv => lhs; whnf) <;> rfl)))
    refine ow_nil ?_
    refine wc_ret ⟨.inr rfl, _, rfl, _, .tmp .nil, rfl, rfl⟩
  · have e := upV_ref (show 1 ≤ a by omega) hb
    have hu := upV_in ha hb
    have h2 := Int.ediv_nonneg ha (show 0 ≤ b by omega)
    have h3 := Int.ediv_le_self (a := a) b ha
    clear h
    refine ow_guard_yes rfl rfl rfl rfl ?_
    (apply ow_move; (· rfl); (· ((conv => lhs; whnf) <;> rfl)))
    refine ow_guard_yes rfl rfl rfl rfl ?_
    refine ow_lss rfl rfl rfl ?_
    (apply ow_pick_f; (· rfl); (· rfl); (· ((conv => lhs; whnf) <;> rfl)))
    refine ow_nil ?_
    rw [decide_eq_false (show ¬ b < 1 by omega)]
    refine wc_cond_false rfl ?_
    refine wc_skip ?_
    refine wc_seq ?_
    refine wc_region ?_
    (apply ow_move; (· rfl); (· ((conv => lhs; whnf) <;> rfl)))
    (apply ow_move; (· rfl); (· ((conv => lhs; whnf) <;> rfl)))
    refine ow_quo rfl rfl rfl (by omega) (by omega) (by simp only [InK]; omega) ?_
    (apply ow_assign; (· rfl); (· ((conv => lhs; whnf) <;> rfl)))
    refine ow_nil ?_
    refine wc_seq ?_
    refine wc_seq ?_
    refine wc_region ?_
    (apply ow_move; (· rfl); (· ((conv => lhs; whnf) <;> rfl)))
    (apply ow_move; (· rfl); (· ((conv => lhs; whnf) <;> rfl)))
    refine ow_rem rfl rfl rfl (by omega) (by omega) ?_
    refine ow_gtr rfl rfl rfl ?_
    refine ow_nil ?_
    refine wc_cond_dec rfl (fun h => ?_) (fun h => ?_) <;> try dsimp only at h
    · rw [if_pos h] at e
      refine wc_region ?_
      (apply ow_move; (· rfl); (· ((conv => lhs; whnf) <;> rfl)))
      refine ow_add rfl rfl rfl (by simp only [InK]; omega) ?_
      (apply ow_assign; (· rfl); (· ((conv => lhs; whnf) <;> rfl)))
      refine ow_nil ?_
      refine wc_seq ?_
      refine wc_region ?_
      (apply ow_move; (· rfl); (· ((conv => lhs; whnf) <;> rfl)))
      (apply ow_assign; (· rfl); (· ((conv => lhs; whnf) <;> rfl)))
      refine ow_nil ?_
      rw [e]
      refine wc_ret ⟨.inr rfl, _, rfl, _, .tmp .nil, rfl, rfl⟩
    · rw [if_neg h] at e
      refine wc_skip ?_
      refine wc_seq ?_
      refine wc_region ?_
      (apply ow_move; (· rfl); (· ((conv => lhs; whnf) <;> rfl)))
      (apply ow_assign; (· rfl); (· ((conv => lhs; whnf) <;> rfl)))
      refine ow_nil ?_
      rw [e]
      refine wc_ret ⟨.inr rfl, _, rfl, _, .tmp .nil, rfl, rfl⟩
theorem refIn_spec (p : List Int) (q : Option Addr) (c : Nat) (v : Int) (hm : p.length ≤ 9223372036854775806) (w0 : World) (hs : SlH (hp w0) q (ints .i64 p)) :
    CallsV Try.prog 128 #[.slice q p.length c, .int .i64 v] w0 fun r w => r = .bool (decide (hasP p v)) ∧ w = w0 := by
  refine callsV_of Try.func128 rfl rfl ?_
  refine wc_seq ?_
  refine wc_region ?_
  (apply ow_assign; (· rfl); (· ((conv => lhs; whnf) <;> rfl)))
  refine ow_nil ?_
  refine wc_seq ?_
  refine wc_seq ?_
  refine wc_region ?_
  (apply ow_assign; (· rfl); (· ((conv => lhs; whnf) <;> rfl)))
  refine ow_nil ?_
  refine wc_block ?_
  refine wc_loopS [4, 5, 6, 7, 8, 9, 10, 11, 12, 13, 14, 15, 16, 17] (fun (s : Nat) e => upd e 5 (.int .i64 s)) (fun s D w => D = [] ∧ w = w0 ∧ s ≤ p.length ∧ ∀ i, i < s → p.getD i 0 ≠ v) (fun s _ => p.length - s) 0 (by first | exact rfl | exact upd_self' rfl rfl | exact upd_self' rfl (upd_self' rfl rfl) | exact upd_self' rfl (upd_self' rfl (upd_self' rfl rfl)) | exact upd_self' rfl (upd_self' rfl (upd_self' rfl (upd_self' rfl rfl)))) ⟨rfl, rfl, Nat.zero_le _, fun k hk => absurd hk (Nat.not_lt_zero _)⟩ ?_
  rintro i j D w ⟨rfl, rfl, hi, hok⟩
  refine wc_seq ?_
  refine wc_seq ?_
  refine wc_region ?_
  (apply ow_move; (· rfl); (· ((conv => lhs; whnf) <;> rfl)))
  (apply ow_move; (· rfl); (· ((conv => lhs; whnf) <;> rfl)))
  refine ow_len rfl rfl (tyAt rfl) rfl ?_
  refine ow_lss rfl rfl rfl ?_
  refine ow_nil ?_
  refine wc_cond_dec rfl (fun h => ?_) (fun h => ?_) <;> try dsimp only at h
  · have hlt : i < p.length := by omega
    obtain ⟨bq, o, rfl⟩ := hs.some_of (by simp; omega)
    refine wc_skip ?_
    refine wc_seq ?_
    refine wc_block ?_
    refine wc_seq ?_
    refine wc_region ?_
    (apply ow_move; (· rfl); (· ((conv => lhs; whnf) <;> rfl)))
    (apply ow_move; (· rfl); (· ((conv => lhs; whnf) <;> rfl)))
    refine ow_idx1 (j := i) rfl (tyAt rfl) rfl (tyAt rfl) rfl rfl rfl hlt rfl ?_
    refine ow_load rfl (tyAt rfl) rfl rfl (hs.int hlt) ?_
    (apply ow_move; (· rfl); (· ((conv => lhs; whnf) <;> rfl)))
    refine ow_eql rfl rfl rfl ?_
    refine ow_nil ?_
    refine wc_cond_dec rfl (fun h => ?_) (fun h => ?_) <;> try dsimp only at h
    · have he := h
      refine wc_seq ?_
      refine wc_region ?_
      (apply ow_assign; (· rfl); (· ((conv => lhs; whnf) <;> rfl)))
      refine ow_nil ?_
      exact wc_ret ⟨.inr rfl, _, rfl, _, .tmp .nil, (congrArg Value.bool (decide_eq_true (show hasP p v from fun h' => h' i hlt he))).symm, rfl⟩
    · have he : p.getD i 0 ≠ v := h
      refine wc_skip ?_
      refine wc_region ?_
      (apply ow_move; (· rfl); (· ((conv => lhs; whnf) <;> rfl)))
      refine ow_add rfl rfl rfl (by simp only [InK]; omega) ?_
      (apply ow_assign; (· rfl); (· ((conv => lhs; whnf) <;> rfl)))
      refine ow_nil ?_
      refine ⟨i + 1, by first | exact rfl | exact upd_self' rfl rfl | exact upd_self' rfl (upd_self' rfl rfl) | exact upd_self' rfl (upd_self' rfl (upd_self' rfl rfl)) | exact upd_self' rfl (upd_self' rfl (upd_self' rfl (upd_self' rfl rfl))), by repeat (first | with_reducible exact Off.mix | with_reducible exact Off.refl | ((with_reducible refine Off.upd ?_ ?_); (· rfl))), ⟨rfl, rfl, hlt, fun k2 hk2 => ?_⟩, by omega⟩
      rcases Nat.lt_or_ge k2 i with h1 | h1
      · exact hok k2 h1
      · rw [show k2 = i by omega]; exact he
  · have hi' : i = p.length := by omega
    subst hi'
    refine wc_exit ?_
    refine wc_seq ?_
    refine wc_region ?_
    (apply ow_assign; (· rfl); (· ((conv => lhs; whnf) <;> rfl)))
    refine ow_nil ?_
    exact wc_ret ⟨.inr rfl, _, rfl, _, .tmp .nil, (congrArg Value.bool (decide_eq_false (show ¬ hasP p v from fun h => h hok))).symm, rfl⟩
theorem refEmpty_spec (p : List Int) (q : Option Addr) (c : Nat) (k : Int) (hm : p.length ≤ 1000000) (hk : k ≤ 1000000) (w0 : World) (hs : SlH (hp w0) q (ints .i64 p)) :
    CallsV Try.prog 88 #[.slice q p.length c, .int .i64 k] w0 fun v w => ∃ q1 c1, v = .slice q1 (emU p k.toNat).length c1 ∧ St Pu w0 w [.app q1 (emU p k.toNat).length c1 3 1 (ints .i64 (emU p k.toNat))] [] := by
  refine callsV_of Try.func88 rfl rfl ?_
  have H := St.init w0
  refine wc_seq ?_
  refine wc_region ?_
  (apply ow_assign; (· rfl); (· ((conv => lhs; whnf) <;> rfl)))
  refine ow_nil ?_
  refine wc_seq ?_
  refine wc_region ?_
  refine ow_buildSlice0 H rfl (tyAt rfl) rfl (tyAt rfl) (fun ba w H => ?_)
  replace H := H.rowApp (i := 0) (len := 0) (sz := 1) rfl rfl (by omega)
  replace H : St Pu w0 w [.app (some ⟨ba, 0, none⟩) (emU p 0).length 0 3 1 (ints .i64 (emU p 0))] [] := H
  (apply ow_assign; (· rfl); (· ((conv => lhs; whnf) <;> rfl)))
  refine ow_nil ?_
  refine wc_seq ?_
  refine wc_seq ?_
  refine wc_region ?_
  (apply ow_assign; (· rfl); (· ((conv => lhs; whnf) <;> rfl)))
  refine ow_nil ?_
  refine wc_block ?_
  refine wc_loopS [5, 6, 8, 9, 10, 11, 12, 13, 14, 15, 16, 17, 18, 19, 20] (fun (s : Nat × Option Addr × Nat) e => upd (upd e 5 (.slice s.2.1 (emU p s.1).length s.2.2)) 6 (.int .i64 s.1)) (fun s D w => D = [] ∧ s.1 ≤ k.toNat ∧ St Pu w0 w [.app s.2.1 (emU p s.1).length s.2.2 3 1 (ints .i64 (emU p s.1))] []) (fun s _ => k.toNat - s.1) (0, some ⟨ba, 0, none⟩, 0) (by first | exact rfl | exact upd_self' rfl rfl | exact upd_self' rfl (upd_self' rfl rfl) | exact upd_self' rfl (upd_self' rfl (upd_self' rfl rfl)) | exact upd_self' rfl (upd_self' rfl (upd_self' rfl (upd_self' rfl rfl)))) ⟨rfl, Nat.zero_le _, H⟩ ?_
  clear H
  rintro ⟨i, q1, c1⟩ j D w ⟨rfl, hi, H⟩
  dsimp only at hi H ⊢
  have hpl := emU_len p i
  refine wc_seq ?_
  refine wc_seq ?_
  refine wc_region ?_
  (apply ow_move; (· rfl); (· ((conv => lhs; whnf) <;> rfl)))
  (apply ow_move; (· rfl); (· ((conv => lhs; whnf) <;> rfl)))
  refine ow_lss rfl rfl rfl ?_
  refine ow_nil ?_
  refine wc_cond_dec rfl (fun h => ?_) (fun h => ?_) <;> try dsimp only at h
  · have hlt : i < k.toNat := by omega
    refine wc_skip ?_
    refine wc_seq ?_
    refine wc_block ?_
    refine wc_seq ?_
    refine wc_region ?_
    (apply ow_move; (· rfl); (· ((conv => lhs; whnf) <;> rfl)))
    (apply ow_move; (· rfl); (· ((conv => lhs; whnf) <;> rfl)))
    refine ow_call rfl rfl (ent (by kernel_rfl)) (CallsV.mono (refIn_spec p q c (i : Int) (by omega) w (H.oldSl hs)) ?_) rfl
    rintro v w' ⟨rfl, rfl⟩
    by_cases hh : hasP p (i : Int)
    · rw [decide_eq_true hh]
      have hno := emU_no hh
      rw [← hno] at H ⊢
      refine ow_not rfl rfl ?_
      refine ow_nil ?_
      refine wc_cond_false rfl ?_
      refine wc_skip ?_
      refine wc_region ?_
      (apply ow_move; (· rfl); (· ((conv => lhs; whnf) <;> rfl)))
      refine ow_add rfl rfl rfl (by simp only [InK]; omega) ?_
      (apply ow_assign; (· rfl); (· ((conv => lhs; whnf) <;> rfl)))
      refine ow_nil ?_
      exact ⟨(i + 1, q1, c1), by first | exact rfl | exact upd_self' rfl rfl | exact upd_self' rfl (upd_self' rfl rfl) | exact upd_self' rfl (upd_self' rfl (upd_self' rfl rfl)) | exact upd_self' rfl (upd_self' rfl (upd_self' rfl (upd_self' rfl rfl))), by repeat (first | with_reducible exact Off.mix | with_reducible exact Off.refl | ((with_reducible refine Off.upd ?_ ?_); (· rfl))), ⟨rfl, hlt, H⟩, by dsimp only; omega⟩
    · rw [decide_eq_false hh]
      have hsy := emU_yes hh
      have hl1 : (emU p (i + 1)).length = (emU p i).length + 1 := by rw [hsy, List.length_append]; rfl
      refine ow_not rfl rfl ?_
      refine ow_nil ?_
      refine wc_cond_true rfl ?_
      refine wc_region ?_
      (apply ow_move; (· rfl); (· ((conv => lhs; whnf) <;> rfl)))
      (apply ow_move; (· rfl); (· ((conv => lhs; whnf) <;> rfl)))
      refine ow_buildSlice1 (vs := [.int .i64 (i : Int)]) H rfl (tyAt rfl) rfl (tyAt rfl) rfl rfl rfl rfl rfl (by simp [Value.one]) (fun ea w H => ?_)
      refine ow_append (i := 1) H rfl rfl (tyAt rfl) rfl (tyAt rfl) rfl (by decide) rfl rfl (H.rowSl (i := 0) rfl) rfl (by simp [Value.oneCell']) (by dsimp only; omega) (by omega) (fun p1 d1 w H => ?_)
      dsimp only [List.set] at H
      replace H := H.drop
      rw [← ints_snoc1, ← hsy, ← hl1] at H
      rw [← hl1]
      (apply ow_assign; (· rfl); (· ((conv => lhs; whnf) <;> rfl)))
      refine ow_nil ?_
      refine wc_region ?_
      (apply ow_move; (· rfl); (· ((conv => lhs; whnf) <;> rfl)))
      refine ow_add rfl rfl rfl (by simp only [InK]; omega) ?_
      (apply ow_assign; (· rfl); (· ((conv => lhs; whnf) <;> rfl)))
      refine ow_nil ?_
      exact ⟨(i + 1, p1, d1), by first | exact rfl | exact upd_self' rfl rfl | exact upd_self' rfl (upd_self' rfl rfl) | exact upd_self' rfl (upd_self' rfl (upd_self' rfl rfl)) | exact upd_self' rfl (upd_self' rfl (upd_self' rfl (upd_self' rfl rfl))), by repeat (first | with_reducible exact Off.mix | with_reducible exact Off.refl | ((with_reducible refine Off.upd ?_ ?_); (· rfl))), ⟨rfl, hlt, H⟩, by dsimp only; omega⟩
  · have hi' : i = k.toNat := by omega
    subst hi'
    refine wc_exit ?_
    refine wc_seq ?_
    refine wc_region ?_
    (apply ow_move; (· rfl); (· ((conv => lhs; whnf) <;> rfl)))
    (apply ow_assign; (· rfl); (· ((conv => lhs; whnf) <;> rfl)))
    refine ow_nil ?_
    refine wc_ret ?_
    obtain ⟨w, hT, H⟩ := H.takes Try.prog
    refine ⟨.inr rfl, w, hT, _, .tmp .nil, ?_⟩
    exact ⟨_, _, rfl, H⟩
theorem refBound_spec (x : RX) (rows : List RowR) (k : Int) (h4 : x.ws.length ≤ 4096) (hmay : ∀ z ∈ x.ws, mayW z) (hk : mayK k) (w0 : World) (hR : Rf (hp w0) x rows) :
    CallsV Try.prog 86 #[.agg ⟨rfV x rows⟩, .int .i64 k] w0 fun v w => v = .int .i64 (boundV x.ws k) ∧ St Pu w0 w [] [] := by
  refine callsV_of Try.func86 rfl rfl ?_
  have H := St.init w0
  have hb : boundV x.ws k = upV x.ws.sum k + mxW x.ws x.ws.length := if_pos hk
  rw [hb]
  refine wc_seq ?_
  refine wc_region ?_
  refine ow_box (l := rfV x rows) H rfl rfl rfl (fun b2 w H => ?_)
  (apply ow_assign; (· rfl); (· ((conv => lhs; whnf) <;> rfl)))
  refine ow_nil ?_
  refine wc_seq ?_
  refine wc_region ?_
  (apply ow_assign; (· rfl); (· ((conv => lhs; whnf) <;> rfl)))
  refine ow_nil ?_
  refine wc_seq ?_
  refine wc_seq ?_
  refine wc_region ?_
  (apply ow_assign; (· rfl); (· ((conv => lhs; whnf) <;> rfl)))
  refine ow_nil ?_
  refine wc_blockJ [5, 6, 7, 8, 9, 10, 11, 12, 13, 14, 15, 16, 17, 18, 19, 20, 21, 22, 23, 24, 25] (fun (_ : Unit) e => upd e 5 (.int .i64 (mxW x.ws x.ws.length))) (fun _ D w => D = [] ∧ St Pu w0 w [.row b2 81 (rfV x rows)] []) ?_ ?_
  · refine wc_loopS [5, 6, 7, 8, 9, 10, 11, 12, 13, 14, 15, 16, 17, 18, 19, 20, 21, 22, 23, 24, 25] (fun (s : Nat) e => upd (upd e 5 (.int .i64 (mxW x.ws s))) 6 (.int .i64 s)) (fun s D w => D = [] ∧ s ≤ x.ws.length ∧ St Pu w0 w [.row b2 81 (rfV x rows)] []) (fun s _ => x.ws.length - s) 0 (by first | exact rfl | exact upd_self' rfl rfl | exact upd_self' rfl (upd_self' rfl rfl) | exact upd_self' rfl (upd_self' rfl (upd_self' rfl rfl)) | exact upd_self' rfl (upd_self' rfl (upd_self' rfl (upd_self' rfl rfl)))) ⟨rfl, Nat.zero_le _, H⟩ ?_
    clear H
    rintro i j D w ⟨rfl, hi, H⟩
    refine wc_seq ?_
    refine wc_seq ?_
    refine wc_region ?_
    (apply ow_move; (· rfl); (· ((conv => lhs; whnf) <;> rfl)))
    refine ow_fieldAddr rfl (tyAt rfl) rfl rfl rfl (tyAt rfl) rfl rfl ?_
    refine ow_load rfl (tyAt rfl) rfl rfl (H.cell (i := 0) rfl rfl) ?_
    refine ow_len rfl rfl (tyAt rfl) rfl ?_
    refine ow_lss rfl rfl rfl ?_
    refine ow_nil ?_
    refine wc_cond_dec rfl (fun h => ?_) (fun h => ?_) <;> try dsimp only at h
    · have hlt : i < x.ws.length := by omega
      have hsn := mxW_succ hlt
      have hsw := hR.1
      obtain ⟨bw, ow, hpw⟩ := hR.1.some_of (by simp; omega)
      rw [hpw] at hsw
      refine wc_skip ?_
      refine wc_seq ?_
      refine wc_block ?_
      refine wc_seq ?_
      refine wc_region ?_
      refine ow_fieldAddr rfl (tyAt rfl) rfl rfl rfl (tyAt rfl) rfl rfl ?_
      refine ow_load rfl (tyAt rfl) rfl rfl (H.cell (i := 0) rfl rfl) ?_
      rw [hpw]
      (apply ow_move; (· rfl); (· ((conv => lhs; whnf) <;> rfl)))
      refine ow_idx1 (j := i) rfl (tyAt rfl) rfl (tyAt rfl) rfl rfl rfl (by omega) rfl ?_
      refine ow_load rfl (tyAt rfl) rfl rfl ((H.oldSl hsw).int (by omega)) ?_
      (apply ow_move; (· rfl); (· ((conv => lhs; whnf) <;> rfl)))
      refine ow_gtr rfl rfl rfl ?_
      refine ow_nil ?_
      refine wc_cond_dec rfl (fun h => ?_) (fun h => ?_) <;> try dsimp only at h
      · rw [Int.max_eq_right (by omega)] at hsn
        refine wc_region ?_
        refine ow_fieldAddr rfl (tyAt rfl) rfl rfl rfl (tyAt rfl) rfl rfl ?_
        refine ow_load rfl (tyAt rfl) rfl rfl (H.cell (i := 0) rfl rfl) ?_
        rw [hpw]
        (apply ow_move; (· rfl); (· ((conv => lhs; whnf) <;> rfl)))
        refine ow_idx1 (j := i) rfl (tyAt rfl) rfl (tyAt rfl) rfl rfl rfl (by omega) rfl ?_
        refine ow_load rfl (tyAt rfl) rfl rfl ((H.oldSl hsw).int (by omega)) ?_
        (apply ow_assign; (· rfl); (· ((conv => lhs; whnf) <;> rfl)))
        refine ow_nil ?_
        refine wc_region ?_
        (apply ow_move; (· rfl); (· ((conv => lhs; whnf) <;> rfl)))
        refine ow_add rfl rfl rfl (by simp only [InK]; omega) ?_
        (apply ow_assign; (· rfl); (· ((conv => lhs; whnf) <;> rfl)))
        refine ow_nil ?_
        refine ⟨i + 1, ?_, by repeat (first | with_reducible exact Off.mix | with_reducible exact Off.refl | ((with_reducible refine Off.upd ?_ ?_); (· rfl))), ⟨rfl, hlt, H⟩, by omega⟩
        rw [hsn]
        first | exact rfl | exact upd_self' rfl rfl | exact upd_self' rfl (upd_self' rfl rfl) | exact upd_self' rfl (upd_self' rfl (upd_self' rfl rfl)) | exact upd_self' rfl (upd_self' rfl (upd_self' rfl (upd_self' rfl rfl)))
      · rw [Int.max_eq_left (by omega)] at hsn
        refine wc_skip ?_
        refine wc_region ?_
        (apply ow_move; (· rfl); (· ((conv => lhs; whnf) <;> rfl)))
        refine ow_add rfl rfl rfl (by simp only [InK]; omega) ?_
        (apply ow_assign; (· rfl); (· ((conv => lhs; whnf) <;> rfl)))
        refine ow_nil ?_
        refine ⟨i + 1, ?_, by repeat (first | with_reducible exact Off.mix | with_reducible exact Off.refl | ((with_reducible refine Off.upd ?_ ?_); (· rfl))), ⟨rfl, hlt, H⟩, by omega⟩
        rw [hsn]
        first | exact rfl | exact upd_self' rfl rfl | exact upd_self' rfl (upd_self' rfl rfl) | exact upd_self' rfl (upd_self' rfl (upd_self' rfl rfl)) | exact upd_self' rfl (upd_self' rfl (upd_self' rfl (upd_self' rfl rfl)))
    · have hi' : i = x.ws.length := by omega
      subst hi'
      refine wc_exit ?_
      exact ⟨(), by first | exact rfl | exact upd_self' rfl rfl | exact upd_self' rfl (upd_self' rfl rfl) | exact upd_self' rfl (upd_self' rfl (upd_self' rfl rfl)) | exact upd_self' rfl (upd_self' rfl (upd_self' rfl (upd_self' rfl rfl))), by repeat (first | with_reducible exact Off.mix | with_reducible exact Off.refl | ((with_reducible refine Off.upd ?_ ?_); (· rfl))), ⟨rfl, H⟩⟩
  clear H
  rintro _ j D w ⟨rfl, H⟩
  have hs := sum_le hmay
  have h1 := mxW_nn x.ws x.ws.length (Nat.le_refl _)
  have h2 := mxW_le hmay x.ws.length (Nat.le_refl _)
  have h3 := upV_in hs.1 hk.1
  have hk1 := hk.1
  have hk2 := hk.2
  refine wc_seq ?_
  refine wc_region ?_
  refine ow_loadA (l := rfV x rows) rfl (tyAt rfl) rfl rfl rfl (H.cells (i := 0) (o := 0) (m := 2) rfl rfl) ?_
  refine ow_call rfl rfl (ent (by kernel_rfl)) (CallsV.mono (refTotal_spec x rows h4 hmay _ (Rf.old H hR)) ?_) rfl
  rintro v w ⟨rfl, H'⟩
  replace H := H.call H'
  rw [List.nil_append] at H
  clear H'
  (apply ow_move; (· rfl); (· ((conv => lhs; whnf) <;> rfl)))
  refine ow_call rfl rfl (ent (by kernel_rfl)) (CallsV.mono (refUp_spec x.ws.sum k (by omega) (by omega) hk1 (by omega) _) ?_) rfl
  rintro v w' ⟨rfl, rfl⟩
  (apply ow_move; (· rfl); (· ((conv => lhs; whnf) <;> rfl)))
  refine ow_add rfl rfl rfl (by simp only [InK]; omega) ?_
  (apply ow_assign; (· rfl); (· ((conv => lhs; whnf) <;> rfl)))
  refine ow_nil ?_
  refine wc_ret ?_
  obtain ⟨w, hT, H⟩ := H.takes Try.prog
  refine ⟨.inr rfl, w, hT, _, .tmp .nil, ?_⟩
  exact ⟨rfl, H.none⟩
theorem refRight9_spec (x : RX) (rows : List RowR) (p : List Int) (q : Option Addr) (c : Nat) (k : Int) (hm : p.length ≤ 9223372036854775806) (hxm : x.ws.length ≤ 4096) (w0 : World) (hs : SlH (hp w0) q (ints .i64 p)) :
    CallsV Try.prog 48 #[.agg ⟨rfV x rows⟩, .slice q p.length c, .int .i64 k] w0 fun v w => v = .bool (decide (CutR x.ws.length p k)) ∧ St Pu w0 w [] [] := by
  refine callsV_of Try.func48 rfl rfl ?_
  have H := St.init w0
  have hno : ¬ CutR x.ws.length p k → (Value.bool false = Value.bool (decide (CutR x.ws.length p k))) := fun h => by rw [decide_eq_false h]
  have hyes : CutR x.ws.length p k → (Value.bool true = Value.bool (decide (CutR x.ws.length p k))) := fun h => by rw [decide_eq_true h]
  refine wc_seq ?_
  refine wc_region ?_
  refine ow_box (l := rfV x rows) H rfl rfl rfl (fun b3 w H => ?_)
  (apply ow_assign; (· rfl); (· ((conv => lhs; whnf) <;> rfl)))
  refine ow_nil ?_
  refine wc_seq ?_
  refine wc_seq ?_
  refine wc_region ?_
  (apply ow_move; (· rfl); (· ((conv => lhs; whnf) <;> rfl)))
  refine ow_lss rfl rfl rfl ?_
  (apply ow_move; (· rfl); (· ((conv => lhs; whnf) <;> rfl)))
  refine ow_guard_dec rfl rfl rfl (fun h => ?_) (fun h => ?_) <;> try dsimp only at h
  · refine ow_guard_no rfl rfl rfl rfl rfl rfl rfl ?_
    refine ow_guard_no rfl rfl rfl rfl rfl rfl rfl ?_
    (apply ow_pick_t; (· rfl); (· rfl); (· ((conv => lhs; whnf) <;> rfl)))
    (apply ow_move; (· rfl); (· ((conv => lhs; whnf) <;> rfl)))
    refine ow_guard_no rfl rfl rfl rfl rfl rfl rfl ?_
    refine ow_guard_no rfl rfl rfl rfl rfl rfl rfl ?_
    refine ow_guard_no rfl rfl rfl rfl rfl rfl rfl ?_
    refine ow_guard_no rfl rfl rfl rfl rfl rfl rfl ?_
    refine ow_guard_no rfl rfl rfl rfl rfl rfl rfl ?_
    refine ow_guard_no rfl rfl rfl rfl rfl rfl rfl ?_
    (apply ow_pick_t; (· rfl); (· rfl); (· ((conv => lhs; whnf) <;> rfl)))
    refine ow_nil ?_
    refine wc_cond_true rfl ?_
    refine wc_seq ?_
    refine wc_region ?_
    (apply ow_assign; (· rfl); (· ((conv => lhs; whnf) <;> rfl)))
    refine ow_nil ?_
    refine wc_ret ?_
    obtain ⟨w, hT, H⟩ := H.takes Try.prog
    refine ⟨.inr rfl, w, hT, _, .tmp .nil, ?_⟩
    exact ⟨hno (fun h' => by have := h'.1; unfold mayK at this; omega), H.none⟩
  have hk1 : 1 ≤ k := by omega
  clear h
  refine ow_guard_yes rfl rfl rfl rfl ?_
  (apply ow_move; (· rfl); (· ((conv => lhs; whnf) <;> rfl)))
  refine ow_guard_yes rfl rfl rfl rfl ?_
  refine ow_gtr rfl rfl rfl ?_
  (apply ow_pick_f; (· rfl); (· rfl); (· ((conv => lhs; whnf) <;> rfl)))
  (apply ow_move; (· rfl); (· ((conv => lhs; whnf) <;> rfl)))
  refine ow_guard_dec rfl rfl rfl (fun h => ?_) (fun h => ?_) <;> try dsimp only at h
  · refine ow_guard_no rfl rfl rfl rfl rfl rfl rfl ?_
    refine ow_guard_no rfl rfl rfl rfl rfl rfl rfl ?_
    refine ow_guard_no rfl rfl rfl rfl rfl rfl rfl ?_
    refine ow_guard_no rfl rfl rfl rfl rfl rfl rfl ?_
    refine ow_guard_no rfl rfl rfl rfl rfl rfl rfl ?_
    refine ow_guard_no rfl rfl rfl rfl rfl rfl rfl ?_
    (apply ow_pick_t; (· rfl); (· rfl); (· ((conv => lhs; whnf) <;> rfl)))
    refine ow_nil ?_
    refine wc_cond_true rfl ?_
    refine wc_seq ?_
    refine wc_region ?_
    (apply ow_assign; (· rfl); (· ((conv => lhs; whnf) <;> rfl)))
    refine ow_nil ?_
    refine wc_ret ?_
    obtain ⟨w, hT, H⟩ := H.takes Try.prog
    refine ⟨.inr rfl, w, hT, _, .tmp .nil, ?_⟩
    exact ⟨hno (fun h' => by have := h'.1; unfold mayK at this; omega), H.none⟩
  have hk2 : k ≤ 4096 := by omega
  clear h
  refine ow_guard_yes rfl rfl rfl rfl ?_
  (apply ow_move; (· rfl); (· ((conv => lhs; whnf) <;> rfl)))
  refine ow_guard_yes rfl rfl rfl rfl ?_
  refine ow_len rfl rfl (tyAt rfl) rfl ?_
  refine ow_guard_yes rfl rfl rfl rfl ?_
  refine ow_fieldAddr rfl (tyAt rfl) rfl rfl rfl (tyAt rfl) rfl rfl ?_
  refine ow_guard_yes rfl rfl rfl rfl ?_
  refine ow_load rfl (tyAt rfl) rfl rfl (H.cell (i := 0) rfl rfl) ?_
  refine ow_guard_yes rfl rfl rfl rfl ?_
  refine ow_len rfl rfl (tyAt rfl) rfl ?_
  refine ow_guard_yes rfl rfl rfl rfl ?_
  refine ow_neq rfl rfl rfl ?_
  (apply ow_pick_f; (· rfl); (· rfl); (· ((conv => lhs; whnf) <;> rfl)))
  refine ow_nil ?_
  refine wc_cond_dec rfl (fun h => ?_) (fun h => ?_) <;> try dsimp only at h
  · refine wc_seq ?_
    refine wc_region ?_
    (apply ow_assign; (· rfl); (· ((conv => lhs; whnf) <;> rfl)))
    refine ow_nil ?_
    refine wc_ret ?_
    obtain ⟨w, hT, H⟩ := H.takes Try.prog
    refine ⟨.inr rfl, w, hT, _, .tmp .nil, ?_⟩
    exact ⟨hno (fun h' => by have := h'.2.1; omega), H.none⟩
  have hpl : p.length = x.ws.length := by omega
  clear h
  refine wc_skip ?_
  refine wc_seq ?_
  refine wc_seq ?_
  refine wc_region ?_
  (apply ow_assign; (· rfl); (· ((conv => lhs; whnf) <;> rfl)))
  refine ow_nil ?_
  refine wc_blockJ [6, 7, 22, 23, 24, 25, 26, 27, 28, 29, 30, 31, 32, 33, 34, 35, 36, 37, 38, 39, 40] (fun (_ : Unit) e => e) (fun _ D w => D = [] ∧ (∀ i, i < p.length → ¬ badP k (p.getD i 0)) ∧ St Pu w0 w [.row b3 81 (rfV x rows)] []) ?_ ?_
  · refine wc_loopS [6, 7, 22, 23, 24, 25, 26, 27, 28, 29, 30, 31, 32, 33, 34, 35, 36, 37, 38, 39, 40] (fun (s : Nat) e => upd e 7 (.int .i64 s)) (fun s D w => D = [] ∧ s ≤ p.length ∧ (∀ i, i < s → ¬ badP k (p.getD i 0)) ∧ St Pu w0 w [.row b3 81 (rfV x rows)] []) (fun s _ => p.length - s) 0 (by first | exact rfl | exact upd_self' rfl rfl | exact upd_self' rfl (upd_self' rfl rfl) | exact upd_self' rfl (upd_self' rfl (upd_self' rfl rfl)) | exact upd_self' rfl (upd_self' rfl (upd_self' rfl (upd_self' rfl rfl)))) ⟨rfl, Nat.zero_le _, fun k hk => absurd hk (Nat.not_lt_zero _), H⟩ ?_
    clear H
    rintro i j D w ⟨rfl, hi, hok, H⟩
    refine wc_seq ?_
    refine wc_seq ?_
    refine wc_region ?_
    (apply ow_move; (· rfl); (· ((conv => lhs; whnf) <;> rfl)))
    (apply ow_move; (· rfl); (· ((conv => lhs; whnf) <;> rfl)))
    refine ow_len rfl rfl (tyAt rfl) rfl ?_
    refine ow_lss rfl rfl rfl ?_
    refine ow_nil ?_
    refine wc_cond_dec rfl (fun h => ?_) (fun h => ?_) <;> try dsimp only at h
    · have hlt : i < p.length := by omega
      have hsx := hs
      obtain ⟨bq, o, rfl⟩ := hs.some_of (by simp; omega)
      refine wc_skip ?_
      refine wc_seq ?_
      refine wc_block ?_
      refine wc_seq ?_
      refine wc_region ?_
      (apply ow_move; (· rfl); (· ((conv => lhs; whnf) <;> rfl)))
      (apply ow_move; (· rfl); (· ((conv => lhs; whnf) <;> rfl)))
      refine ow_idx1 (j := i) rfl (tyAt rfl) rfl (tyAt rfl) rfl rfl rfl hlt rfl ?_
      refine ow_load rfl (tyAt rfl) rfl rfl ((H.oldSl hsx).int hlt) ?_
      refine ow_lss rfl rfl rfl ?_
      (apply ow_move; (· rfl); (· ((conv => lhs; whnf) <;> rfl)))
      refine ow_guard_dec rfl rfl rfl (fun h => ?_) (fun h => ?_) <;> try dsimp only at h
      · refine ow_guard_no rfl rfl rfl rfl rfl rfl rfl ?_
        refine ow_guard_no rfl rfl rfl rfl rfl rfl rfl ?_
        refine ow_guard_no rfl rfl rfl rfl rfl rfl rfl ?_
        refine ow_guard_no rfl rfl rfl rfl rfl rfl rfl ?_
        refine ow_guard_no rfl rfl rfl rfl rfl rfl rfl ?_
        refine ow_guard_no rfl rfl rfl rfl rfl rfl rfl ?_
        (apply ow_pick_t; (· rfl); (· rfl); (· ((conv => lhs; whnf) <;> rfl)))
        refine ow_nil ?_
        refine wc_cond_true rfl ?_
        refine wc_seq ?_
        refine wc_region ?_
        (apply ow_assign; (· rfl); (· ((conv => lhs; whnf) <;> rfl)))
        refine ow_nil ?_
        refine wc_ret ?_
        obtain ⟨w, hT, H⟩ := H.takes Try.prog
        refine ⟨.inr rfl, w, hT, _, .tmp .nil, ?_⟩
        exact ⟨hno (fun h' => h'.2.2 i hlt (.inl h)), H.none⟩
      have h1 := h
      clear h
      refine ow_guard_yes rfl rfl rfl rfl ?_
      (apply ow_move; (· rfl); (· ((conv => lhs; whnf) <;> rfl)))
      refine ow_guard_yes rfl rfl rfl rfl ?_
      (apply ow_move; (· rfl); (· ((conv => lhs; whnf) <;> rfl)))
      refine ow_guard_yes rfl rfl rfl rfl ?_
      refine ow_idx1 (j := i) rfl (tyAt rfl) rfl (tyAt rfl) rfl rfl rfl hlt rfl ?_
      refine ow_guard_yes rfl rfl rfl rfl ?_
      refine ow_load rfl (tyAt rfl) rfl rfl ((H.oldSl hsx).int hlt) ?_
      refine ow_guard_yes rfl rfl rfl rfl ?_
      (apply ow_move; (· rfl); (· ((conv => lhs; whnf) <;> rfl)))
      refine ow_guard_yes rfl rfl rfl rfl ?_
      refine ow_geq rfl rfl rfl ?_
      (apply ow_pick_f; (· rfl); (· rfl); (· ((conv => lhs; whnf) <;> rfl)))
      refine ow_nil ?_
      refine wc_cond_dec rfl (fun h => ?_) (fun h => ?_) <;> try dsimp only at h
      · refine wc_seq ?_
        refine wc_region ?_
        (apply ow_assign; (· rfl); (· ((conv => lhs; whnf) <;> rfl)))
        refine ow_nil ?_
        refine wc_ret ?_
        obtain ⟨w, hT, H⟩ := H.takes Try.prog
        refine ⟨.inr rfl, w, hT, _, .tmp .nil, ?_⟩
        exact ⟨hno (fun h' => h'.2.2 i hlt (.inr h)), H.none⟩
      · refine wc_skip ?_
        refine wc_region ?_
        (apply ow_move; (· rfl); (· ((conv => lhs; whnf) <;> rfl)))
        refine ow_add rfl rfl rfl (by simp only [InK]; omega) ?_
        (apply ow_assign; (· rfl); (· ((conv => lhs; whnf) <;> rfl)))
        refine ow_nil ?_
        refine ⟨i + 1, by first | exact rfl | exact upd_self' rfl rfl | exact upd_self' rfl (upd_self' rfl rfl) | exact upd_self' rfl (upd_self' rfl (upd_self' rfl rfl)) | exact upd_self' rfl (upd_self' rfl (upd_self' rfl (upd_self' rfl rfl))), by repeat (first | with_reducible exact Off.mix | with_reducible exact Off.refl | ((with_reducible refine Off.upd ?_ ?_); (· rfl))), ⟨rfl, hlt, fun k2 hk2 => ?_, H⟩, by omega⟩
        rcases Nat.lt_or_ge k2 i with h2 | h2
        · exact hok k2 h2
        · rw [show k2 = i by omega]; unfold badP; omega
    · have hi' : i = p.length := by omega
      subst hi'
      refine wc_exit ?_
      exact ⟨(), by first | exact rfl | exact upd_self' rfl rfl | exact upd_self' rfl (upd_self' rfl rfl) | exact upd_self' rfl (upd_self' rfl (upd_self' rfl rfl)) | exact upd_self' rfl (upd_self' rfl (upd_self' rfl (upd_self' rfl rfl))), by repeat (first | with_reducible exact Off.mix | with_reducible exact Off.refl | ((with_reducible refine Off.upd ?_ ?_); (· rfl))), rfl, hok, H⟩
  clear H
  rintro _ j D w ⟨rfl, hok, H⟩
  refine wc_seq ?_
  refine wc_region ?_
  (apply ow_assign; (· rfl); (· ((conv => lhs; whnf) <;> rfl)))
  refine ow_nil ?_
  refine wc_ret ?_
  obtain ⟨w, hT, H⟩ := H.takes Try.prog
  refine ⟨.inr rfl, w, hT, _, .tmp .nil, ?_⟩
  exact ⟨hyes ⟨⟨hk1, hk2⟩, hpl, hok⟩, H.none⟩
theorem refWeights9_spec (x : RX) (rows : List RowR) (p : List Int) (q : Option Addr) (c k : Nat) (h4 : x.ws.length ≤ 4096) (hmay : ∀ z ∈ x.ws, mayW z) (hR9 : CutR x.ws.length p (k : Int)) (w0 : World) (hR : Rf (hp w0) x rows) (hs : SlH (hp w0) q (ints .i64 p)) :
    CallsV Try.prog 87 #[.agg ⟨rfV x rows⟩, .slice q p.length c, .int .i64 (k : Int)] w0 fun v w => ∃ b, v = .slice (some ⟨b, 0, none⟩) k k ∧ St Pu w0 w [.row b 2 (ints .i64 (wtL x.ws p k p.length))] [] := by
  refine callsV_of Try.func87 rfl rfl ?_
  have H := St.init w0
  have hk := hR9.1
  unfold mayK at hk
  have hpl := hR9.2.1
  refine wc_seq ?_
  refine wc_region ?_
  refine ow_box (l := rfV x rows) H rfl rfl rfl (fun b3 w H => ?_)
  (apply ow_assign; (· rfl); (· ((conv => lhs; whnf) <;> rfl)))
  refine ow_nil ?_
  refine wc_seq ?_
  refine wc_region ?_
  (apply ow_move; (· rfl); (· ((conv => lhs; whnf) <;> rfl)))
  refine ow_makeSlice (m := (k : Int)) (z := .int .i64 0) H rfl (tyAt rfl) rfl (tyAt rfl) rfl rfl rfl rfl (by omega) (by show (8 : Int) * _ ≤ _; omega) (by omega) (fun bo w H => ?_)
  rw [Int.toNat_natCast, show List.replicate k (Value.int .i64 0) = ints .i64 (wtL x.ws p k 0) by rw [wtL_zero]; unfold ints; rw [List.map_replicate]] at H
  rw [Int.toNat_natCast]
  (apply ow_assign; (· rfl); (· ((conv => lhs; whnf) <;> rfl)))
  refine ow_nil ?_
  refine wc_seq ?_
  refine wc_seq ?_
  refine wc_region ?_
  (apply ow_assign; (· rfl); (· ((conv => lhs; whnf) <;> rfl)))
  refine ow_nil ?_
  refine wc_block ?_
  refine wc_loopS [8, 11, 12, 13, 14, 15, 16, 17, 18, 19, 20, 21, 22, 23, 24, 25, 26, 27, 28, 29, 30, 31, 32, 33, 34, 35] (fun (s : Nat) e => upd e 8 (.int .i64 s)) (fun s D w => D = [] ∧ s ≤ p.length ∧ St Pu w0 w [.row bo 2 (ints .i64 (wtL x.ws p k s)), .row b3 81 (rfV x rows)] []) (fun s _ => p.length - s) 0 (by first | exact rfl | exact upd_self' rfl rfl | exact upd_self' rfl (upd_self' rfl rfl) | exact upd_self' rfl (upd_self' rfl (upd_self' rfl rfl)) | exact upd_self' rfl (upd_self' rfl (upd_self' rfl (upd_self' rfl rfl)))) ⟨rfl, Nat.zero_le _, H⟩ ?_
  clear H
  rintro i j D w ⟨rfl, hi, H⟩
  refine wc_seq ?_
  refine wc_seq ?_
  refine wc_region ?_
  (apply ow_move; (· rfl); (· ((conv => lhs; whnf) <;> rfl)))
  (apply ow_move; (· rfl); (· ((conv => lhs; whnf) <;> rfl)))
  refine ow_len rfl rfl (tyAt rfl) rfl ?_
  refine ow_lss rfl rfl rfl ?_
  refine ow_nil ?_
  refine wc_cond_dec rfl (fun h => ?_) (fun h => ?_) <;> try dsimp only at h
  · have hlt : i < p.length := by omega
    have hb := hR9.2.2 i hlt
    have hsn := wtL_succ (ws := x.ws) hb
    unfold badP at hb
    have hw := wtAt_in (p := p) hmay (p.getD i 0).toNat i
    have hwl := wtL_at (ws := x.ws) (p := p) (k := k) (i := i) (j := (p.getD i 0).toNat) (by omega)
    have hln := wtL_len x.ws p k i
    have hwn := ws_nn hmay i
    have hsx := hs
    obtain ⟨bq, oq, rfl⟩ := hs.some_of (by simp; omega)
    have hsw := hR.1
    obtain ⟨bw, ow, hpw⟩ := hR.1.some_of (by simp; omega)
    rw [hpw] at hsw
    have hsi : ∀ {w : World}, St Pu w0 w [.row bo 2 (ints .i64 (wtL x.ws p k i)), .row b3 81 (rfV x rows)] [] → _ := fun H => (H.oldSl hsx).int hlt
    have hgi : p.getD i 0 = p.getD i 0 := rfl
    generalize hz : p.getD i 0 = z at hb hsn hw hwl
    rw [← hwl] at hw
    obtain ⟨l', hl'⟩ : ∃ l', wtL x.ws p k (i + 1) = l' := ⟨_, rfl⟩
    rw [hl'] at hsn
    generalize wtL x.ws p k i = l at hsn hw hln H
    clear hsi hgi
    refine wc_skip ?_
    refine wc_seq ?_
    refine wc_block ?_
    refine wc_drawK (fun w => St Pu w0 w [.row bo 2 (ints .i64 l), .row b3 81 (rfV x rows)] []) 19 (by kernel_rfl) (by kernel_rfl) (by intro c e D w h; first | exact h.elim | (rcases h with ⟨h | h, _⟩ <;> cases h)) ?_
    replace H := H.drew
    apply ak_take (i := 0) rfl rfl rfl rfl (by kernel_rfl) (by with_reducible first | exact H | rfl)
    · intro w Q' HS hq; replace H := HS; clear HS; (apply ow_move; (· rfl); (· ((conv => lhs; whnf) <;> rfl))); exact ow_nil hq
    apply ak_take (i := 1) rfl rfl rfl rfl (by kernel_rfl) (by with_reducible first | exact H | rfl)
    · intro w Q' HS hq; replace H := HS; clear HS; (apply ow_move; (· rfl); (· ((conv => lhs; whnf) <;> rfl))); exact ow_nil hq
    apply ak_take (i := 2) rfl rfl rfl rfl (by kernel_rfl) (by with_reducible first | exact H | rfl)
    · intro w Q' HS hq; replace H := HS; clear HS; (apply ow_move; (· rfl); (· ((conv => lhs; whnf) <;> rfl))); exact ow_nil hq
    apply ak_take (i := 3) rfl rfl rfl rfl (by kernel_rfl) (by with_reducible first | exact H | rfl)
    · intro w Q' HS hq; replace H := HS; clear HS; refine ow_idx1 (j := i) rfl (tyAt rfl) rfl (tyAt rfl) rfl rfl rfl hlt rfl ?_; exact ow_nil hq
    apply ak_take (i := 4) rfl rfl rfl rfl (by kernel_rfl) (by with_reducible first | exact H | rfl)
    · intro w Q' HS hq; replace H := HS; clear HS; refine ow_load rfl (tyAt rfl) rfl rfl (v := .int .i64 z) (by rw [← hz]; exact (H.oldSl hsx).int hlt) ?_; exact ow_nil hq
    apply ak_take (i := 5) rfl rfl rfl rfl (by kernel_rfl) (by with_reducible first | exact H | rfl)
    · intro w Q' HS hq; replace H := HS; clear HS; (apply ow_move; (· rfl); (· ((conv => lhs; whnf) <;> rfl))); exact ow_nil hq
    apply ak_take (i := 6) rfl rfl rfl rfl (by kernel_rfl) (by with_reducible first | exact H | rfl)
    · intro w Q' HS hq; replace H := HS; clear HS; (apply ow_move; (· rfl); (· ((conv => lhs; whnf) <;> rfl))); exact ow_nil hq
    apply ak_take (i := 7) rfl rfl rfl rfl (by kernel_rfl) (by with_reducible first | exact H | rfl)
    · intro w Q' HS hq; replace H := HS; clear HS; (apply ow_move; (· rfl); (· ((conv => lhs; whnf) <;> rfl))); exact ow_nil hq
    apply ak_take (i := 8) rfl rfl rfl rfl (by kernel_rfl) (by with_reducible first | exact H | rfl)
    · intro w Q' HS hq; replace H := HS; clear HS; refine ow_idx1 (j := i) rfl (tyAt rfl) rfl (tyAt rfl) rfl rfl rfl hlt rfl ?_; exact ow_nil hq
    apply ak_take (i := 9) rfl rfl rfl rfl (by kernel_rfl) (by with_reducible first | exact H | rfl)
    · intro w Q' HS hq; replace H := HS; clear HS; refine ow_load rfl (tyAt rfl) rfl rfl (v := .int .i64 z) (by rw [← hz]; exact (H.oldSl hsx).int hlt) ?_; exact ow_nil hq
    apply ak_take (i := 10) rfl rfl rfl rfl (by kernel_rfl) (by with_reducible first | exact H | rfl)
    · intro w Q' HS hq; replace H := HS; clear HS; refine ow_idx1 (j := z.toNat) rfl (tyAt rfl) rfl (tyAt rfl) rfl rfl (by omega) (by omega) rfl ?_; exact ow_nil hq
    apply ak_take (i := 11) rfl rfl rfl rfl (by kernel_rfl) (by with_reducible first | exact H | rfl)
    · intro w Q' HS hq; replace H := HS; clear HS; refine ow_load rfl (tyAt rfl) rfl rfl (SlH.int (H.rowSl (i := 0) rfl) (by omega)) ?_; exact ow_nil hq
    apply ak_take (i := 12) rfl rfl rfl rfl (by kernel_rfl) (by with_reducible first | exact H | rfl)
    · intro w Q' HS hq; replace H := HS; clear HS; refine ow_fieldAddr rfl (tyAt rfl) rfl rfl rfl (tyAt rfl) rfl rfl ?_; exact ow_nil hq
    apply ak_take (i := 13) rfl rfl rfl rfl (by kernel_rfl) (by with_reducible first | exact H | rfl)
    · intro w Q' HS hq; replace H := HS; clear HS; refine ow_load rfl (tyAt rfl) rfl rfl (H.cell (i := 1) rfl rfl) ?_; exact ow_nil hq
    rw [hpw]
    apply ak_take (i := 14) rfl rfl rfl rfl (by kernel_rfl) (by with_reducible first | exact H | rfl)
    · intro w Q' HS hq; replace H := HS; clear HS; (apply ow_move; (· rfl); (· ((conv => lhs; whnf) <;> rfl))); exact ow_nil hq
    apply ak_take (i := 15) rfl rfl rfl rfl (by kernel_rfl) (by with_reducible first | exact H | rfl)
    · intro w Q' HS hq; replace H := HS; clear HS; refine ow_idx1 (j := i) rfl (tyAt rfl) rfl (tyAt rfl) rfl rfl rfl (by omega) rfl ?_; exact ow_nil hq
    apply ak_take (i := 16) rfl rfl rfl rfl (by kernel_rfl) (by with_reducible first | exact H | rfl)
    · intro w Q' HS hq; replace H := HS; clear HS; refine ow_load rfl (tyAt rfl) rfl rfl ((H.oldSl hsw).int (by omega)) ?_; exact ow_nil hq
    apply ak_take (i := 17) rfl rfl rfl rfl (by kernel_rfl) (by with_reducible first | exact H | rfl)
    · intro w Q' HS hq; replace H := HS; clear HS; refine ow_add rfl rfl rfl (by simp only [InK]; omega) ?_; exact ow_nil hq
    apply ak_take (i := 18) rfl rfl rfl rfl (by kernel_rfl) (by with_reducible first | exact H | rfl)
    · intro w Q' HS hq; replace H := HS; clear HS; refine ow_idx1 (j := z.toNat) rfl (tyAt rfl) rfl (tyAt rfl) rfl rfl (by omega) (by omega) rfl ?_; exact ow_nil hq
    apply ak_one (i := 19)
    · kernel_rfl
    · rfl
    · rfl
    refine ow_store (i := 0) (o := 0 + z.toNat) (v := .int .i64 (l.getD z.toNat 0 + x.ws.getD i 0)) H (tyAt rfl) rfl rfl rfl rfl rfl (by simp; omega) (fun w H => ?_)
    dsimp only [List.set] at H
    rw [Nat.zero_add, intsI_set, ← hsn] at H
    refine ow_nil ⟨fun h => (by cases h), ?_⟩
    refine ak_done (by kernel_rfl) ?_
    refine wc_region ?_
    (apply ow_move; (· rfl); (· ((conv => lhs; whnf) <;> rfl)))
    refine ow_add rfl rfl rfl (by simp only [InK]; omega) ?_
    (apply ow_assign; (· rfl); (· ((conv => lhs; whnf) <;> rfl)))
    refine ow_nil ?_
    exact ⟨i + 1, by first | exact rfl | exact upd_self' rfl rfl | exact upd_self' rfl (upd_self' rfl rfl) | exact upd_self' rfl (upd_self' rfl (upd_self' rfl rfl)) | exact upd_self' rfl (upd_self' rfl (upd_self' rfl (upd_self' rfl rfl))), by repeat (first | with_reducible exact Off.mix | with_reducible exact Off.refl | ((with_reducible refine Off.upd ?_ ?_); (· rfl))), ⟨rfl, hlt, by rw [hl']; exact H⟩, by omega⟩
  · have hi' : i = p.length := by omega
    subst hi'
    refine wc_exit ?_
    refine wc_seq ?_
    refine wc_region ?_
    (apply ow_move; (· rfl); (· ((conv => lhs; whnf) <;> rfl)))
    (apply ow_assign; (· rfl); (· ((conv => lhs; whnf) <;> rfl)))
    refine ow_nil ?_
    refine wc_ret ?_
    obtain ⟨w, hT, H⟩ := H.takes Try.prog
    refine ⟨.inr rfl, w, hT, _, .tmp .nil, ?_⟩
    exact ⟨bo, rfl, H.only (i := 0) rfl⟩
/-! ### Cut -/
def inC (T : List IE) (p : List Int) (a k : Nat) : Int := sumN k fun b => if a < b then unl p a b (btw T (a : Int) (b : Int)) else 0
def ouC (T : List IE) (p : List Int) (n k : Nat) : Int := sumN k fun a => inC T p a n
theorem inC_in {T : List IE} (hW : Wf T) (p : List Int) (a k : Nat) : 0 ≤ inC T p a k ∧ inC T p a k ≤ (k : Int) * 1099511627776 := by
  unfold inC
  constructor
  · refine Int.le_trans (Int.le_of_eq (sumN_zero k).symm) (sumN_le fun j _ => ?_)
    have := hW.btw_le (a : Int) (j : Int)
    unfold unl
    split
    · split <;> omega
    · omega
  · rw [← sumN_const]
    refine sumN_le fun j _ => ?_
    have := hW.btw_le (a : Int) (j : Int)
    unfold unl
    split
    · split <;> omega
    · omega
theorem ouC_in {T : List IE} (hW : Wf T) (p : List Int) (n k : Nat) : 0 ≤ ouC T p n k ∧ ouC T p n k ≤ (k : Int) * ((n : Int) * 1099511627776) := by
  unfold ouC
  constructor
  · exact Int.le_trans (Int.le_of_eq (sumN_zero k).symm) (sumN_le fun j _ => (inC_in hW p j n).1)
  · rw [← sumN_const k ((n : Int) * 1099511627776)]
    exact sumN_le fun j _ => (inC_in hW p j n).2
theorem inC_low {T : List IE} {p : List Int} {a : Nat} : inC T p a (a + 1) = 0 := by
  unfold inC
  rw [sumN_congr (g := fun _ => 0) (fun b hb => if_neg (by omega)), sumN_zero]
end Go.Proofs.Ytnkjhmfliinnoaa

