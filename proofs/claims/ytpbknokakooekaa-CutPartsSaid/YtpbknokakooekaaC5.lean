/- The statement's function 'sandtablelaw09.CutGains' returns true at every input, and changes nothing that was there. -/
import Derived.Test.YtpbknokakooekaaC4
namespace Go.Proofs.Ytpbknokakooekaa
set_option linter.all false
open Go Go.Sx Go.Proofs
set_option maxRecDepth 100000
set_option maxHeartbeats 2000000
theorem zeros_at (n j : Nat) : (List.replicate n (0 : Int)).getD j 0 = 0 := by
  rw [List.getD_eq_getElem?_getD, List.getElem?_replicate]; split <;> rfl
theorem zeros_right (n : Nat) : CutR n (List.replicate n 0) 1 := ⟨by unfold mayK; decide, List.length_replicate, fun i _ => by rw [zeros_at]; unfold badP; decide⟩
theorem zeros_cut (T : List IE) (n : Nat) : cutM T (List.replicate n 0) = 0 := by
  unfold cutM
  rw [sumN_congr (g := fun _ => 0) (fun a _ => ?_), sumN_zero]
  rw [sumN_congr (g := fun _ => 0) (fun b _ => ?_), sumN_zero]
  unfold unl
  rw [zeros_at, zeros_at, if_pos rfl]
  split <;> rfl
theorem zeros_fit {ws : List Int} (hm : ∀ z ∈ ws, mayW z) : fitsB ws (List.replicate ws.length 0) 1 := by
  refine ⟨zeros_right _, fun j hj => ?_⟩
  have hj0 : j = 0 := by have : (1 : Int).toNat = 1 := rfl; omega
  subst hj0
  have hs := sum_le hm
  have h1 := mxW_nn ws ws.length (Nat.le_refl _)
  have h2 := upV_mul hs.1 (show (1 : Int) ≤ 1 by decide)
  have hw : wtAt ws (List.replicate ws.length 0) 0 (List.replicate ws.length (0 : Int)).length = ws.sum := by
    unfold wtAt
    rw [List.length_replicate, ← sum_all]
    exact sumN_congr fun t _ => by rw [zeros_at]; rfl
  rw [hw, show boundV ws 1 = upV ws.sum 1 + mxW ws ws.length from if_pos (by unfold mayK; decide)]
  omega
theorem cutR_set {n : Nat} {p : List Int} {k : Int} (h : CutR n p k) {to : Int} (h0 : 0 ≤ to) (h1 : to < k) (i : Nat) : CutR n (p.set i to) k := by
  refine ⟨h.1, by rw [List.length_set]; exact h.2.1, fun j hj => ?_⟩
  rw [List.length_set] at hj
  by_cases hi : i < p.length
  · rw [getD_setI _ _ _ _ hi]
    split
    · unfold badP; omega
    · exact h.2.2 j hj
  · rw [List.set_eq_of_length_le (by omega)]; exact h.2.2 j hj
theorem law09Gains (q q2 q3 : Option Addr) (cap cap2 cap3 : Nat) (ws : List Int) (ops : List OpA) (part : List Int) (k i0 to0 : Int) (hm : ws.length ≤ 9223372036854775807) (hm2 : ops.length ≤ 9223372036854775807) (hm3 : part.length ≤ 9223372036854775807) (w0 : World) (hq : SlH (hp w0) q (ints .i64 ws)) (hq2 : SlH (hp w0) q2 (ops.flatMap opA)) (hs : SlH (hp w0) q3 (ints .i64 part)) :
    CallsV Try.prog 12 #[.slice q ws.length cap, .slice q2 ops.length cap2, .slice q3 part.length cap3, .int .i64 k, .int .i64 i0, .int .i64 to0] w0 fun v w => v = .bool true ∧ St Pu w0 w [] [] := by
  refine callsV_of Try.func12 rfl rfl ?_
  obtain ⟨iN, _, eiN⟩ := and_mask i0 (m := 255) (by decide)
  obtain ⟨tN, _, etN⟩ := and_mask to0 (m := 255) (by decide)
  refine wc_seq ?_
  refine wc_region ?_
  (apply ow_assign; (· rfl); (· ((conv => lhs; whnf) <;> rfl)))
  refine ow_nil ?_
  refine wc_seq ?_
  refine wc_seq ?_
  refine wc_region ?_
  refine ow_call rfl rfl (ent (by kernel_rfl)) (CallsV.mono (alive09 w0) ?_) rfl
  rintro v w ⟨rfl, H⟩
  refine ow_not rfl rfl ?_
  refine ow_nil ?_
  refine wc_cond_false rfl ?_
  refine wc_skip ?_
  refine wc_seq ?_
  refine wc_region ?_
  (apply ow_move; (· rfl); (· ((conv => lhs; whnf) <;> rfl)))
  (apply ow_move; (· rfl); (· ((conv => lhs; whnf) <;> rfl)))
  refine ow_call rfl rfl (ent (by kernel_rfl)) (CallsV.mono (build09_spec q q2 cap cap2 ws ops hm hm2 w (H.oldSl hq) (H.oldSl hq2)) ?_) rfl
  rintro v w (⟨rfl, _, H'⟩ | ⟨g, x, ms, rows, rfl, rfl, hxw, h30, hmay, hW, hn, _, hM, H'⟩)
  · replace H := H.call H'
    rw [List.nil_append] at H
    clear H'
    (apply ow_move; (· rfl); (· ((conv => lhs; whnf) <;> rfl)))
    refine ow_extract rfl rfl rfl ?_
    refine ow_extract rfl rfl rfl ?_
    refine ow_extract rfl rfl rfl ?_
    refine ow_alloc (l := [.slice none 0 0, .slice none 0 0]) H rfl (tyAt rfl) rfl (fun b6 w H => ?_)
    (apply ow_assign; (· rfl); (· ((conv => lhs; whnf) <;> rfl)))
    refine ow_storeA (i := 0) (o := 0) (l' := [.slice none 0 0, .slice none 0 0]) H (tyAt rfl) rfl rfl rfl rfl (by simp [Value.oneCell']) (by simp) (fun w H => ?_)
    (apply ow_assign; (· rfl); (· ((conv => lhs; whnf) <;> rfl)))
    refine ow_nil ?_
    refine wc_seq ?_
    refine wc_seq ?_
    refine wc_region ?_
    (apply ow_move; (· rfl); (· ((conv => lhs; whnf) <;> rfl)))
    refine ow_not rfl rfl ?_
    (apply ow_move; (· rfl); (· ((conv => lhs; whnf) <;> rfl)))
    refine ow_guard_no rfl rfl rfl rfl rfl rfl rfl ?_
    refine ow_guard_no rfl rfl rfl rfl rfl rfl rfl ?_
    refine ow_guard_no rfl rfl rfl rfl rfl rfl rfl ?_
    (apply ow_pick_t; (· rfl); (· rfl); (· ((conv => lhs; whnf) <;> rfl)))
    (apply ow_move; (· rfl); (· ((conv => lhs; whnf) <;> rfl)))
    refine ow_guard_no rfl rfl rfl rfl rfl rfl rfl ?_
    refine ow_guard_no rfl rfl rfl rfl rfl rfl rfl ?_
    (apply ow_pick_t; (· rfl); (· rfl); (· ((conv => lhs; whnf) <;> rfl)))
    (apply ow_move; (· rfl); (· ((conv => lhs; whnf) <;> rfl)))
    refine ow_guard_no rfl rfl rfl rfl rfl rfl rfl ?_
    refine ow_guard_no rfl rfl rfl rfl rfl rfl rfl ?_
    refine ow_guard_no rfl rfl rfl rfl rfl rfl rfl ?_
    refine ow_guard_no rfl rfl rfl rfl rfl rfl rfl ?_
    refine ow_guard_no rfl rfl rfl rfl rfl rfl rfl ?_
    (apply ow_pick_t; (· rfl); (· rfl); (· ((conv => lhs; whnf) <;> rfl)))
    refine ow_nil ?_
    refine wc_cond_true rfl ?_
    refine wc_seq ?_
    refine wc_region ?_
    (apply ow_assign; (· rfl); (· ((conv => lhs; whnf) <;> rfl)))
    refine ow_nil ?_
    refine wc_ret ?_
    obtain ⟨w, hT, H⟩ := H.takes Try.prog
    refine ⟨.inr rfl, w, hT, _, .tmp .nil, ?_⟩
    exact ⟨rfl, H.none⟩
  replace H : St Pu w0 w (grC g ms ++ rfC x rows) [] := (H.call H').sub (List.sublist_append_left _ _)
  clear H'
  (apply ow_move; (· rfl); (· ((conv => lhs; whnf) <;> rfl)))
  refine ow_extract rfl rfl rfl ?_
  refine ow_extract rfl rfl rfl ?_
  refine ow_extract rfl rfl rfl ?_
  refine ow_alloc (l := [.slice none 0 0, .slice none 0 0]) H rfl (tyAt rfl) rfl (fun b6 w H => ?_)
  (apply ow_assign; (· rfl); (· ((conv => lhs; whnf) <;> rfl)))
  refine ow_storeA (i := 0) (o := 0) (l' := rfV x rows) H (tyAt rfl) rfl rfl rfl rfl (by simp [Value.oneCell']) (by simp) (fun w H => ?_)
  have h4 : g.ws.length ≤ 4096 := by omega
  have h1k : g.ws.length ≤ 1000 := by omega
  have hTl : (tb ms).length = g.ws.length := by rw [tb_len, hn]
  have hxl : (tb ms).length = x.ws.length := by rw [hTl, hxw]
  replace H : St Pu w0 w ([.row b6 45 (rfV x rows)] ++ (grC g ms ++ rfC x rows)) [] := H
  obtain ⟨RR, hRR⟩ : ∃ RR, grC g ms ++ rfC x rows = RR := ⟨_, rfl⟩
  have hGr : ∀ {w : World} {pre : List Cap}, St Pu w0 w (pre ++ RR) [] → Gr (hp w) g ms := fun H => gr_of_ok fun c hc => okAll H c (List.mem_append_right _ (by rw [← hRR]; exact List.mem_append_left _ hc))
  have hRf : ∀ {w : World} {pre : List Cap}, St Pu w0 w (pre ++ RR) [] → Rf (hp w) x rows := fun H => rf_of_ok fun c hc => okAll H c (List.mem_append_right _ (by rw [← hRR]; exact List.mem_append_right _ hc))
  rw [hRR] at H
  clear hRR
  (apply ow_assign; (· rfl); (· ((conv => lhs; whnf) <;> rfl)))
  refine ow_nil ?_
  refine wc_seq ?_
  refine wc_seq ?_
  refine wc_region ?_
  (apply ow_move; (· rfl); (· ((conv => lhs; whnf) <;> rfl)))
  refine ow_not rfl rfl ?_
  (apply ow_move; (· rfl); (· ((conv => lhs; whnf) <;> rfl)))
  refine ow_guard_yes rfl rfl rfl rfl ?_
  (apply ow_move; (· rfl); (· ((conv => lhs; whnf) <;> rfl)))
  refine ow_guard_yes rfl rfl rfl rfl ?_
  refine ow_len rfl rfl (tyAt rfl) rfl ?_
  refine ow_guard_yes rfl rfl rfl rfl ?_
  refine ow_gtr rfl rfl rfl ?_
  (apply ow_pick_f; (· rfl); (· rfl); (· ((conv => lhs; whnf) <;> rfl)))
  (apply ow_move; (· rfl); (· ((conv => lhs; whnf) <;> rfl)))
  refine ow_guard_dec rfl rfl rfl (fun h => ?_) (fun h => ?_) <;> try dsimp only at h
  · refine ow_guard_no rfl rfl rfl rfl rfl rfl rfl ?_
    refine ow_guard_no rfl rfl rfl rfl rfl rfl rfl ?_
    (apply ow_pick_t; (· rfl); (· rfl); (· ((conv => lhs; whnf) <;> rfl)))
    (apply ow_move; (· rfl); (· ((conv => lhs; whnf) <;> rfl)))
    refine ow_guard_no rfl rfl rfl rfl rfl rfl rfl ?_
    refine ow_guard_no rfl rfl rfl rfl rfl rfl rfl ?_
    refine ow_guard_no rfl rfl rfl rfl rfl rfl rfl ?_
    refine ow_guard_no rfl rfl rfl rfl rfl rfl rfl ?_
    refine ow_guard_no rfl rfl rfl rfl rfl rfl rfl ?_
    (apply ow_pick_t; (· rfl); (· rfl); (· ((conv => lhs; whnf) <;> rfl)))
    refine ow_nil ?_
    refine wc_cond_true rfl ?_
    refine wc_seq ?_
    refine wc_region ?_
    (apply ow_assign; (· rfl); (· ((conv => lhs; whnf) <;> rfl)))
    refine ow_nil ?_
    refine wc_ret ?_
    obtain ⟨w, hT, H⟩ := H.takes Try.prog
    refine ⟨.inr rfl, w, hT, _, .tmp .nil, ?_⟩
    exact ⟨rfl, H.none⟩
  have hp60 : part.length ≤ 60 := by omega
  clear h
  refine ow_guard_yes rfl rfl rfl rfl ?_
  (apply ow_move; (· rfl); (· ((conv => lhs; whnf) <;> rfl)))
  refine ow_guard_yes rfl rfl rfl rfl ?_
  refine ow_gtr rfl rfl rfl ?_
  (apply ow_pick_f; (· rfl); (· rfl); (· ((conv => lhs; whnf) <;> rfl)))
  (apply ow_move; (· rfl); (· ((conv => lhs; whnf) <;> rfl)))
  refine ow_guard_dec rfl rfl rfl (fun h => ?_) (fun h => ?_) <;> try dsimp only at h
  · refine ow_guard_no rfl rfl rfl rfl rfl rfl rfl ?_
    refine ow_guard_no rfl rfl rfl rfl rfl rfl rfl ?_
    refine ow_guard_no rfl rfl rfl rfl rfl rfl rfl ?_
    refine ow_guard_no rfl rfl rfl rfl rfl rfl rfl ?_
    refine ow_guard_no rfl rfl rfl rfl rfl rfl rfl ?_
    (apply ow_pick_t; (· rfl); (· rfl); (· ((conv => lhs; whnf) <;> rfl)))
    refine ow_nil ?_
    refine wc_cond_true rfl ?_
    refine wc_seq ?_
    refine wc_region ?_
    (apply ow_assign; (· rfl); (· ((conv => lhs; whnf) <;> rfl)))
    refine ow_nil ?_
    refine wc_ret ?_
    obtain ⟨w, hT, H⟩ := H.takes Try.prog
    refine ⟨.inr rfl, w, hT, _, .tmp .nil, ?_⟩
    exact ⟨rfl, H.none⟩
  have hk60 : k ≤ 60 := by omega
  clear h
  refine ow_guard_yes rfl rfl rfl rfl ?_
  (apply ow_move; (· rfl); (· ((conv => lhs; whnf) <;> rfl)))
  refine ow_guard_yes rfl rfl rfl rfl ?_
  (apply ow_move; (· rfl); (· ((conv => lhs; whnf) <;> rfl)))
  refine ow_guard_yes rfl rfl rfl rfl ?_
  (apply ow_move; (· rfl); (· ((conv => lhs; whnf) <;> rfl)))
  refine ow_guard_yes rfl rfl rfl rfl ?_
  refine ow_call rfl rfl (ent (by kernel_rfl)) (CallsV.mono (cutRight_spec g ms part q3 cap3 k hm3 _ (hGr H) (H.oldSl hs)) ?_) rfl
  rintro v w ⟨rfl, H'⟩
  replace H : St Pu w0 w ([.row b6 45 (rfV x rows)] ++ RR) [] := H.call H'
  clear H'
  by_cases hR : ¬ CutR g.ws.length part k
  · rw [decide_eq_false hR]
    refine ow_guard_yes rfl rfl rfl rfl ?_
    refine ow_not rfl rfl ?_
    (apply ow_pick_f; (· rfl); (· rfl); (· ((conv => lhs; whnf) <;> rfl)))
    refine ow_nil ?_
    refine wc_cond_true rfl ?_
    refine wc_seq ?_
    refine wc_region ?_
    (apply ow_assign; (· rfl); (· ((conv => lhs; whnf) <;> rfl)))
    refine ow_nil ?_
    refine wc_ret ?_
    obtain ⟨w, hT, H⟩ := H.takes Try.prog
    refine ⟨.inr rfl, w, hT, _, .tmp .nil, ?_⟩
    exact ⟨rfl, H.none⟩
  replace hR := Decidable.of_not_not hR
  rw [decide_eq_true hR]
  have hk := hR.1
  unfold mayK at hk
  have hpl := hR.2.1
  obtain ⟨kn, rfl⟩ : ∃ kn : Nat, k = (kn : Int) := ⟨k.toNat, by omega⟩
  refine ow_guard_yes rfl rfl rfl rfl ?_
  refine ow_not rfl rfl ?_
  (apply ow_pick_f; (· rfl); (· rfl); (· ((conv => lhs; whnf) <;> rfl)))
  refine ow_nil ?_
  refine wc_cond_false rfl ?_
  refine wc_skip ?_
  refine wc_seq ?_
  refine wc_region ?_
  (apply ow_assign; (· rfl); (· ((conv => lhs; whnf) <;> rfl)))
  refine ow_nil ?_
  refine wc_seq ?_
  refine wc_seq ?_
  refine wc_region ?_
  (apply ow_move; (· rfl); (· ((conv => lhs; whnf) <;> rfl)))
  (apply ow_move; (· rfl); (· ((conv => lhs; whnf) <;> rfl)))
  (apply ow_move; (· rfl); (· ((conv => lhs; whnf) <;> rfl)))
  refine ow_call rfl rfl (ent (by kernel_rfl)) (CallsV.mono (weights_spec g ms part q3 cap3 kn hm3 hmay hn h4 _ (hGr H) (H.oldSl hs)) ?_) rfl
  rintro v w (⟨hno, _⟩ | ⟨_, bwt, rfl, H'⟩)
  · exact absurd hR hno
  replace H : St Pu w0 w ([.row bwt 2 (ints .i64 (wtL g.ws part kn part.length)), .row b6 45 (rfV x rows)] ++ RR) [] := H.call H'
  clear H'
  have hwl := wtL_len g.ws part kn part.length
  have hws := sum_wt hR
  have hwv : ∀ c, c < kn → 0 ≤ (wtL g.ws part kn part.length).getD c 0 ∧ (wtL g.ws part kn part.length).getD c 0 ≤ 32985348833280 * 2 := fun c hc => by
    rw [wtL_at hc]
    have := wtAt_in (p := part) hmay c part.length
    omega
  generalize wtL g.ws part kn part.length = W at *
  have hpart : ∀ s, s ≤ kn → 0 ≤ (W.take s).sum ∧ (W.take s).sum ≤ (s : Int) * 65970697666560 := by
    intro s
    induction s with
    | zero => exact fun _ => ⟨Int.le_refl 0, by simp⟩
    | succ s ih =>
      intro h
      have h1 := ih (by omega)
      have h2 := hwv s (by omega)
      rw [take_snoc (getD_some (by omega)), List.sum_append, Int.natCast_succ, Int.add_mul, Int.one_mul]
      simp only [List.sum_cons, List.sum_nil, Int.add_zero]
      omega
  refine ow_len rfl rfl (tyAt rfl) rfl ?_
  (apply ow_move; (· rfl); (· ((conv => lhs; whnf) <;> rfl)))
  refine ow_nil ?_
  refine wc_blockJ [16, 18, 54, 55, 56, 57, 58, 59, 60, 61] (fun (_ : Unit) e => upd e 16 (.int .i64 W.sum)) (fun _ D w => D = [] ∧ St Pu w0 w ([.row bwt 2 (ints .i64 W), .row b6 45 (rfV x rows)] ++ RR) []) ?_ ?_
  · refine wc_loopS [16, 18, 54, 55, 56, 57, 58, 59, 60, 61] (fun (s : Nat) e => upd (upd e 16 (.int .i64 (W.take s).sum)) 54 (.int .i64 s)) (fun s D w => D = [] ∧ s ≤ kn ∧ St Pu w0 w ([.row bwt 2 (ints .i64 W), .row b6 45 (rfV x rows)] ++ RR) []) (fun s _ => kn - s) 0 (by first | exact rfl | exact upd_self' rfl rfl | exact upd_self' rfl (upd_self' rfl rfl) | exact upd_self' rfl (upd_self' rfl (upd_self' rfl rfl)) | exact upd_self' rfl (upd_self' rfl (upd_self' rfl (upd_self' rfl rfl)))) ⟨rfl, Nat.zero_le _, H⟩ ?_
    clear H
    rintro s j D w ⟨rfl, hi, H⟩
    refine wc_seq ?_
    refine wc_region ?_
    refine ow_lss rfl rfl rfl ?_
    refine ow_nil ?_
    refine wc_seq ?_
    refine wc_cond_dec rfl (fun h => ?_) (fun h => ?_) <;> try dsimp only at h
    · have hlt : s < kn := by omega
      clear h
      have h1 := hpart s hi
      have h2 := hwv s hlt
      have hsn : (W.take (s + 1)).sum = (W.take s).sum + W.getD s 0 := by rw [take_snoc (getD_some (by omega)), List.sum_append]; simp
      refine wc_skip ?_
      refine wc_seq ?_
      refine wc_block ?_
      refine wc_seq ?_
      refine wc_region ?_
      refine ow_idx1 (j := s) rfl (tyAt rfl) rfl (tyAt rfl) rfl rfl rfl hlt rfl ?_
      refine ow_load rfl (tyAt rfl) rfl rfl (SlH.int (H.rowSl (i := 0) rfl) (by omega)) ?_
      (apply ow_assign; (· rfl); (· ((conv => lhs; whnf) <;> rfl)))
      refine ow_nil ?_
      refine wc_region ?_
      (apply ow_move; (· rfl); (· ((conv => lhs; whnf) <;> rfl)))
      (apply ow_move; (· rfl); (· ((conv => lhs; whnf) <;> rfl)))
      refine ow_add rfl rfl rfl (by simp only [InK]; omega) ?_
      (apply ow_assign; (· rfl); (· ((conv => lhs; whnf) <;> rfl)))
      refine ow_nil ?_
      refine wc_region ?_
      refine ow_add rfl rfl rfl (by simp only [InK]; omega) ?_
      (apply ow_move; (· rfl); (· ((conv => lhs; whnf) <;> rfl)))
      refine ow_nil ?_
      refine ⟨s + 1, ?_, by repeat (first | with_reducible exact Off.mix | with_reducible exact Off.refl | ((with_reducible refine Off.upd ?_ ?_); (· rfl))), ⟨rfl, hlt, H⟩, by omega⟩
      rw [hsn]
      first | exact rfl | exact upd_self' rfl rfl | exact upd_self' rfl (upd_self' rfl rfl) | exact upd_self' rfl (upd_self' rfl (upd_self' rfl rfl)) | exact upd_self' rfl (upd_self' rfl (upd_self' rfl (upd_self' rfl rfl)))
    · have hi' : s = kn := by omega
      subst hi'
      rw [List.take_of_length_le (show W.length ≤ s by omega)]
      refine wc_exit ?_
      exact ⟨(), by first | exact rfl | exact upd_self' rfl rfl | exact upd_self' rfl (upd_self' rfl rfl) | exact upd_self' rfl (upd_self' rfl (upd_self' rfl rfl)) | exact upd_self' rfl (upd_self' rfl (upd_self' rfl (upd_self' rfl rfl))), by repeat (first | with_reducible exact Off.mix | with_reducible exact Off.refl | ((with_reducible refine Off.upd ?_ ?_); (· rfl))), ⟨rfl, H⟩⟩
  clear H
  rintro _ j D w ⟨rfl, H⟩
  replace H : St Pu w0 w ([] ++ RR) [] := H.sub (List.sublist_append_right _ _)
  rw [hws]
  clear hpart hwv hwl hws
  refine wc_seq ?_
  refine wc_region ?_
  (apply ow_move; (· rfl); (· ((conv => lhs; whnf) <;> rfl)))
  refine ow_len rfl rfl (tyAt rfl) rfl ?_
  refine ow_makeSlice (m := (part.length : Int)) (z := .int .i64 0) H rfl (tyAt rfl) rfl (tyAt rfl) rfl rfl rfl rfl (by omega) (by show (8 : Int) * _ ≤ _; omega) (by omega) (fun bo w H => ?_)
  rw [Int.toNat_natCast, show List.replicate part.length (Value.int .i64 0) = ints .i64 (List.replicate part.length 0) by unfold ints; rw [List.map_replicate]] at H
  rw [Int.toNat_natCast]
  replace H : St Pu w0 w ([.row bo 3 (ints .i64 (List.replicate part.length 0))] ++ RR) [] := H
  have hcz := fun w hG hsz => cut_spec g ms (List.replicate part.length 0) (some ⟨bo, 0, none⟩) part.length 1 (by rw [List.length_replicate]; omega) hn h1k hW w hG hsz
  have hfz := fun w hG hsz => fits_spec g ms (List.replicate part.length 0) (some ⟨bo, 0, none⟩) part.length 1 (by rw [List.length_replicate]; omega) hmay hn h4 w hG hsz
  rw [hpl] at hcz hfz
  rw [List.length_replicate, if_pos (zeros_right _), zeros_cut] at hcz
  rw [List.length_replicate, decide_eq_true (zeros_fit hmay)] at hfz
  rw [hpl] at H ⊢
  have hcr := fun w hG hsz => cut_spec g ms part q3 cap3 (kn : Int) hm3 hn h1k hW w hG hsz
  rw [if_pos hR, hpl] at hcr
  have hcin := cutM_in hW part
  rw [hTl] at hcin
  have hnn : (g.ws.length : Int) * ((g.ws.length : Int) * 1099511627776) ≤ 30 * (30 * 1099511627776) := Int.mul_le_mul (by omega) (by omega) (by omega) (by omega)
  (apply ow_assign; (· rfl); (· ((conv => lhs; whnf) <;> rfl)))
  refine ow_nil ?_
  refine wc_seq ?_
  refine wc_seq ?_
  refine wc_region ?_
  (apply ow_move; (· rfl); (· ((conv => lhs; whnf) <;> rfl)))
  (apply ow_move; (· rfl); (· ((conv => lhs; whnf) <;> rfl)))
  refine ow_call rfl rfl (ent (by kernel_rfl)) (CallsV.mono (total_spec g ms h4 hmay _ (hGr H)) ?_) rfl
  rintro v w' ⟨rfl, rfl⟩
  refine ow_neq rfl rfl rfl ?_
  (apply ow_move; (· rfl); (· ((conv => lhs; whnf) <;> rfl)))
  refine ow_guard_dec rfl rfl rfl (fun h => (h (by with_reducible rfl)).elim) (fun _ => ?_)
  refine ow_guard_yes rfl rfl rfl rfl ?_
  (apply ow_move; (· rfl); (· ((conv => lhs; whnf) <;> rfl)))
  refine ow_guard_yes rfl rfl rfl rfl ?_
  (apply ow_move; (· rfl); (· ((conv => lhs; whnf) <;> rfl)))
  refine ow_guard_yes rfl rfl rfl rfl ?_
  rw [decide_eq_false (show ¬ ¬ (g.ws.sum = g.ws.sum) from fun h => h rfl)]
  skip
  refine ow_call rfl rfl (ent (by kernel_rfl)) (CallsV.mono (hcz _ (hGr H) (H.rowSl (i := 0) rfl)) ?_) rfl
  rintro v w ⟨rfl, H'⟩
  replace H : St Pu w0 w ([.row bo 3 (ints .i64 (List.replicate g.ws.length 0))] ++ RR) [] := H.call H'
  clear H'
  refine ow_guard_yes rfl rfl rfl rfl ?_
  refine ow_neq rfl rfl rfl ?_
  (apply ow_pick_f; (· rfl); (· rfl); (· ((conv => lhs; whnf) <;> rfl)))
  (apply ow_move; (· rfl); (· ((conv => lhs; whnf) <;> rfl)))
  refine ow_guard_yes rfl rfl rfl rfl ?_
  (apply ow_move; (· rfl); (· ((conv => lhs; whnf) <;> rfl)))
  refine ow_guard_yes rfl rfl rfl rfl ?_
  (apply ow_move; (· rfl); (· ((conv => lhs; whnf) <;> rfl)))
  refine ow_guard_yes rfl rfl rfl rfl ?_
  refine ow_call rfl rfl (ent (by kernel_rfl)) (CallsV.mono (hfz _ (hGr H) (H.rowSl (i := 0) rfl)) ?_) rfl
  rintro v w ⟨rfl, H'⟩
  replace H : St Pu w0 w ([.row bo 3 (ints .i64 (List.replicate g.ws.length 0))] ++ RR) [] := H.call H'
  clear H'
  refine ow_guard_yes rfl rfl rfl rfl ?_
  refine ow_not rfl rfl ?_
  (apply ow_pick_f; (· rfl); (· rfl); (· ((conv => lhs; whnf) <;> rfl)))
  (apply ow_move; (· rfl); (· ((conv => lhs; whnf) <;> rfl)))
  refine ow_guard_yes rfl rfl rfl rfl ?_
  (apply ow_move; (· rfl); (· ((conv => lhs; whnf) <;> rfl)))
  refine ow_guard_yes rfl rfl rfl rfl ?_
  (apply ow_move; (· rfl); (· ((conv => lhs; whnf) <;> rfl)))
  refine ow_guard_yes rfl rfl rfl rfl ?_
  (apply ow_move; (· rfl); (· ((conv => lhs; whnf) <;> rfl)))
  refine ow_guard_yes rfl rfl rfl rfl ?_
  refine ow_call rfl rfl (ent (by kernel_rfl)) (CallsV.mono (hcr _ (hGr H) (H.oldSl hs)) ?_) rfl
  rintro v w ⟨rfl, H'⟩
  replace H : St Pu w0 w ([.row bo 3 (ints .i64 (List.replicate g.ws.length 0))] ++ RR) [] := H.call H'
  clear H'
  replace H : St Pu w0 w ([] ++ RR) [] := H.sub (List.sublist_append_right _ _)
  refine ow_guard_yes rfl rfl rfl rfl ?_
  refine ow_lss rfl rfl rfl ?_
  (apply ow_pick_f; (· rfl); (· rfl); (· ((conv => lhs; whnf) <;> rfl)))
  refine ow_nil ?_
  refine wc_cond_dec rfl (fun h => ?_) (fun h => ?_) <;> try dsimp only at h
  · omega
  clear h hcz hfz
  refine wc_skip ?_
  refine wc_seq ?_
  refine wc_seq ?_
  refine wc_region ?_
  (apply ow_move; (· rfl); (· ((conv => lhs; whnf) <;> rfl)))
  refine ow_len rfl rfl (tyAt rfl) rfl ?_
  refine ow_eql rfl rfl rfl ?_
  refine ow_nil ?_
  refine wc_cond_dec rfl (fun h => ?_) (fun h => ?_) <;> try dsimp only at h
  · refine wc_seq ?_
    refine wc_region ?_
    (apply ow_assign; (· rfl); (· ((conv => lhs; whnf) <;> rfl)))
    refine ow_nil ?_
    refine wc_ret ?_
    obtain ⟨w, hT, H⟩ := H.takes Try.prog
    refine ⟨.inr rfl, w, hT, _, .tmp .nil, ?_⟩
    exact ⟨rfl, H.none⟩
  have hn0 : 0 < g.ws.length := by omega
  clear h
  refine wc_skip ?_
  refine wc_seq ?_
  refine wc_drawK (fun w => St Pu w0 w [] []) 99 (by kernel_rfl) (by kernel_rfl) (by intro c e D w h; first | exact h.elim | (rcases h with ⟨h | h, _⟩ <;> cases h)) ?_
  replace H := H.drew
  have G := H
  replace H := H.none
  apply ak_take (i := 0) rfl rfl rfl rfl (by kernel_rfl) (by with_reducible first | exact H | rfl)
  · intro w Q' HS hq; replace H := HS; clear HS; (apply ow_move; (· rfl); (· ((conv => lhs; whnf) <;> rfl))); exact ow_nil hq
  apply ak_take (i := 1) rfl rfl rfl rfl (by kernel_rfl) (by with_reducible first | exact H | rfl)
  · intro w Q' HS hq; replace H := HS; clear HS; refine ow_and rfl rfl rfl ?_; exact ow_nil hq
  rw [show bw .and .i64 i0 255 = (iN : Int) from eiN]
  apply ak_take (i := 2) rfl rfl rfl rfl (by kernel_rfl) (by with_reducible first | exact H | rfl)
  · intro w Q' HS hq; replace H := HS; clear HS; (apply ow_move; (· rfl); (· ((conv => lhs; whnf) <;> rfl))); exact ow_nil hq
  apply ak_take (i := 3) rfl rfl rfl rfl (by kernel_rfl) (by with_reducible first | exact H | rfl)
  · intro w Q' HS hq; replace H := HS; clear HS; refine ow_len rfl rfl (tyAt rfl) rfl ?_; exact ow_nil hq
  apply ak_take (i := 4) rfl rfl rfl rfl (by kernel_rfl) (by with_reducible first | exact H | rfl)
  · intro w Q' HS hq; replace H := HS; clear HS; refine ow_rem rfl rfl rfl (by omega) (by omega) ?_; exact ow_nil hq
  apply ak_take (i := 5) rfl rfl rfl rfl (by kernel_rfl) (by with_reducible first | exact H | rfl)
  · intro w Q' HS hq; replace H := HS; clear HS; (apply ow_move; (· rfl); (· ((conv => lhs; whnf) <;> rfl))); exact ow_nil hq
  apply ak_take (i := 6) rfl rfl rfl rfl (by kernel_rfl) (by with_reducible first | exact H | rfl)
  · intro w Q' HS hq; replace H := HS; clear HS; refine ow_and rfl rfl rfl ?_; exact ow_nil hq
  rw [show bw .and .i64 to0 255 = (tN : Int) from etN]
  apply ak_take (i := 7) rfl rfl rfl rfl (by kernel_rfl) (by with_reducible first | exact H | rfl)
  · intro w Q' HS hq; replace H := HS; clear HS; (apply ow_move; (· rfl); (· ((conv => lhs; whnf) <;> rfl))); exact ow_nil hq
  apply ak_take (i := 8) rfl rfl rfl rfl (by kernel_rfl) (by with_reducible first | exact H | rfl)
  · intro w Q' HS hq; replace H := HS; clear HS; refine ow_rem rfl rfl rfl (by omega) (by omega) ?_; exact ow_nil hq
  apply ak_take (i := 9) rfl rfl rfl rfl (by kernel_rfl) (by with_reducible first | exact H | rfl)
  · intro w Q' HS hq; replace H := HS; clear HS; (apply ow_assign; (· rfl); (· ((conv => lhs; whnf) <;> rfl))); exact ow_nil hq
  apply ak_take (i := 10) rfl rfl rfl rfl (by kernel_rfl) (by with_reducible first | exact H | rfl)
  · intro w Q' HS hq; replace H := HS; clear HS; (apply ow_assign; (· rfl); (· ((conv => lhs; whnf) <;> rfl))); exact ow_nil hq
  refine ak_done (by kernel_rfl) ?_
  replace H := G
  clear G
  obtain ⟨n, hnd⟩ : ∃ n : Nat, iN % g.ws.length = n := ⟨_, rfl⟩
  have hnl : n < g.ws.length := by rw [← hnd]; exact Nat.mod_lt _ hn0
  obtain ⟨t, htd⟩ : ∃ t : Nat, tN % kn = t := ⟨_, rfl⟩
  have htl : t < kn := by rw [← htd]; exact Nat.mod_lt _ (by omega)
  rw [show (iN : Int) % (g.ws.length : Int) = (n : Int) by rw [← hnd]; rfl, show (tN : Int) % (kn : Int) = (t : Int) by rw [← htd]; rfl]
  clear hnd htd
  refine wc_seq ?_
  refine wc_region ?_
  refine ow_buildSlice0 H rfl (tyAt rfl) rfl (tyAt rfl) (fun ba w H => ?_)
  replace H := H.rowApp (i := 0) (len := 0) (sz := 1) rfl rfl (by omega)
  dsimp only [List.set] at H
  replace H : St Pu w0 w (.app (some ⟨ba, 0, none⟩) 0 0 3 1 (ints .i64 []) :: RR) [] := H
  (apply ow_move; (· rfl); (· ((conv => lhs; whnf) <;> rfl)))
  rw [← hpl]
  refine ow_append (i := 0) H rfl rfl (tyAt rfl) rfl (tyAt rfl) rfl (by decide) rfl rfl (H.oldSl hs) (by first | rfl | (simp; done) | (simp; omega)) (by simp [Value.oneCell']) (by first | omega | (dsimp only; omega) | (simp; omega)) (by first | omega | (dsimp only; omega) | (simp; omega)) (fun p1 c1 w H => ?_)
  dsimp only [List.set] at H
  replace H : St Pu w0 w ([.app p1 part.length c1 3 1 (ints .i64 part)] ++ RR) [] := by rw [Nat.zero_add] at H; exact H
  rw [Nat.zero_add]
  obtain ⟨b1, rfl⟩ : ∃ g, p1 = some ⟨g, 0, none⟩ := appOk.some (H.cap (i := 0) rfl) (by simp; omega)
  (apply ow_assign; (· rfl); (· ((conv => lhs; whnf) <;> rfl)))
  refine ow_nil ?_
  refine wc_seq ?_
  refine wc_region ?_
  (apply ow_move; (· rfl); (· ((conv => lhs; whnf) <;> rfl)))
  (apply ow_move; (· rfl); (· ((conv => lhs; whnf) <;> rfl)))
  (apply ow_move; (· rfl); (· ((conv => lhs; whnf) <;> rfl)))
  refine ow_idx1 (j := n) rfl (tyAt rfl) rfl (tyAt rfl) rfl rfl rfl (by omega) rfl ?_
  refine ow_storeApp (i := 0) (o := 0 + n) (v := .int .i64 (t : Int)) H (tyAt rfl) rfl rfl rfl rfl rfl (by simp; omega) (fun w H => ?_)
  rw [Nat.zero_add, intsI_set] at H
  replace H : St Pu w0 w ([.app (some ⟨b1, 0, none⟩) part.length c1 3 1 (ints .i64 (part.set n (t : Int)))] ++ RR) [] := H
  have hR2 : CutR g.ws.length (part.set n (t : Int)) (kn : Int) := cutR_set hR (by omega) (by omega) n
  have hg1 : gainZ (tb ms) part (kn : Int) (n : Int) (t : Int) = gainV (tb ms) part n (t : Int) := by unfold gainZ; rw [hTl, if_pos ⟨hR, by omega, by omega, by omega, by omega⟩, Int.toNat_natCast]
  have hpn := hR.2.2 n (by omega)
  unfold badP at hpn
  have hg2 : gainZ (tb ms) (part.set n (t : Int)) (kn : Int) (n : Int) (part.getD n 0) = -gainV (tb ms) part n (t : Int) := by
    unfold gainZ
    rw [hTl, if_pos ⟨hR2, by omega, by rw [List.length_set]; omega, by omega, by omega⟩, Int.toNat_natCast]
    exact gain_back hW (by omega) (by omega) _
  have hmv := cut_move hW (p := part) (by omega) (i := n) (by omega) (t : Int)
  have hcm := fun w hG hsz => cut_spec g ms (part.set n (t : Int)) (some ⟨b1, 0, none⟩) c1 (kn : Int) (by rw [List.length_set]; omega) hn h1k hW w hG hsz
  rw [if_pos hR2, List.length_set] at hcm
  have hgm := fun w hG hsz => gain_spec g ms (part.set n (t : Int)) (some ⟨b1, 0, none⟩) c1 (kn : Int) (n : Int) (part.getD n 0) (by rw [List.length_set]; omega) hn h4 hW w hG hsz
  rw [hg2, List.length_set] at hgm
  have hgp := fun w hG hsz => gain_spec g ms part q3 cap3 (kn : Int) (n : Int) (t : Int) hm3 hn h4 hW w hG hsz
  rw [hg1] at hgp
  have hcin2 := cutM_in hW (part.set n (t : Int))
  rw [hTl] at hcin2
  rw [← hpl] at hcr
  generalize gainV (tb ms) part n (t : Int) = G at *
  generalize cutM (tb ms) (part.set n (t : Int)) = C2 at *
  generalize cutM (tb ms) part = C1 at *
  refine ow_nil ?_
  refine wc_seq ?_
  refine wc_region ?_
  (apply ow_move; (· rfl); (· ((conv => lhs; whnf) <;> rfl)))
  (apply ow_move; (· rfl); (· ((conv => lhs; whnf) <;> rfl)))
  (apply ow_move; (· rfl); (· ((conv => lhs; whnf) <;> rfl)))
  (apply ow_move; (· rfl); (· ((conv => lhs; whnf) <;> rfl)))
  (apply ow_move; (· rfl); (· ((conv => lhs; whnf) <;> rfl)))
  refine ow_call rfl rfl (ent (by kernel_rfl)) (CallsV.mono (hgp _ (hGr H) (H.oldSl hs)) ?_) rfl
  rintro v w ⟨rfl, H'⟩
  replace H : St Pu w0 w ([.app (some ⟨b1, 0, none⟩) part.length c1 3 1 (ints .i64 (part.set n (t : Int)))] ++ RR) [] := H.call H'
  clear H'
  (apply ow_assign; (· rfl); (· ((conv => lhs; whnf) <;> rfl)))
  refine ow_nil ?_
  refine wc_seq ?_
  refine wc_region ?_
  (apply ow_move; (· rfl); (· ((conv => lhs; whnf) <;> rfl)))
  (apply ow_move; (· rfl); (· ((conv => lhs; whnf) <;> rfl)))
  (apply ow_move; (· rfl); (· ((conv => lhs; whnf) <;> rfl)))
  refine ow_call rfl rfl (ent (by kernel_rfl)) (CallsV.mono (hcr _ (hGr H) (H.oldSl hs)) ?_) rfl
  rintro v w ⟨rfl, H'⟩
  replace H : St Pu w0 w ([.app (some ⟨b1, 0, none⟩) part.length c1 3 1 (ints .i64 (part.set n (t : Int)))] ++ RR) [] := H.call H'
  clear H'
  (apply ow_move; (· rfl); (· ((conv => lhs; whnf) <;> rfl)))
  (apply ow_move; (· rfl); (· ((conv => lhs; whnf) <;> rfl)))
  (apply ow_move; (· rfl); (· ((conv => lhs; whnf) <;> rfl)))
  refine ow_call rfl rfl (ent (by kernel_rfl)) (CallsV.mono (hcm _ (hGr H) (appOk.sl (H.cap (i := 0) rfl))) ?_) rfl
  rintro v w ⟨rfl, H'⟩
  replace H : St Pu w0 w ([.app (some ⟨b1, 0, none⟩) part.length c1 3 1 (ints .i64 (part.set n (t : Int)))] ++ RR) [] := H.call H'
  clear H'
  refine ow_sub rfl rfl rfl (by simp only [InK]; omega) ?_
  (apply ow_move; (· rfl); (· ((conv => lhs; whnf) <;> rfl)))
  refine ow_eql rfl rfl rfl ?_
  (apply ow_move; (· rfl); (· ((conv => lhs; whnf) <;> rfl)))
  rw [hmv, decide_eq_true (rfl : G = G)]
  have hsx := hs
  obtain ⟨bq, o, rfl⟩ := hs.some_of (by simp; omega)
  refine ow_guard_yes rfl rfl rfl rfl ?_
  (apply ow_move; (· rfl); (· ((conv => lhs; whnf) <;> rfl)))
  refine ow_guard_yes rfl rfl rfl rfl ?_
  (apply ow_move; (· rfl); (· ((conv => lhs; whnf) <;> rfl)))
  refine ow_guard_yes rfl rfl rfl rfl ?_
  (apply ow_move; (· rfl); (· ((conv => lhs; whnf) <;> rfl)))
  refine ow_guard_yes rfl rfl rfl rfl ?_
  (apply ow_move; (· rfl); (· ((conv => lhs; whnf) <;> rfl)))
  refine ow_guard_yes rfl rfl rfl rfl ?_
  (apply ow_move; (· rfl); (· ((conv => lhs; whnf) <;> rfl)))
  refine ow_guard_yes rfl rfl rfl rfl ?_
  (apply ow_move; (· rfl); (· ((conv => lhs; whnf) <;> rfl)))
  refine ow_guard_yes rfl rfl rfl rfl ?_
  refine ow_idx1 (j := n) rfl (tyAt rfl) rfl (tyAt rfl) rfl rfl rfl (by omega) rfl ?_
  refine ow_guard_yes rfl rfl rfl rfl ?_
  refine ow_load rfl (tyAt rfl) rfl rfl ((H.oldSl hsx).int (by omega)) ?_
  refine ow_guard_yes rfl rfl rfl rfl ?_
  refine ow_call rfl rfl (ent (by kernel_rfl)) (CallsV.mono (hgm _ (hGr H) (appOk.sl (H.cap (i := 0) rfl))) ?_) rfl
  rintro v w ⟨rfl, H'⟩
  replace H : St Pu w0 w ([.app (some ⟨b1, 0, none⟩) part.length c1 3 1 (ints .i64 (part.set n (t : Int)))] ++ RR) [] := H.call H'
  clear H'
  refine ow_guard_yes rfl rfl rfl rfl ?_
  (apply ow_move; (· rfl); (· ((conv => lhs; whnf) <;> rfl)))
  refine ow_guard_yes rfl rfl rfl rfl ?_
  refine ow_neg rfl rfl (by simp only [InK]; omega) ?_
  refine ow_guard_yes rfl rfl rfl rfl ?_
  refine ow_eql rfl rfl rfl ?_
  (apply ow_pick_t; (· rfl); (· rfl); (· ((conv => lhs; whnf) <;> rfl)))
  (apply ow_assign; (· rfl); (· ((conv => lhs; whnf) <;> rfl)))
  refine ow_nil ?_
  rw [decide_eq_true (rfl : -G = -G)]
  skip
  refine wc_ret ?_
  obtain ⟨w, hT, H⟩ := H.takes Try.prog
  refine ⟨.inr rfl, w, hT, _, .tmp .nil, ?_⟩
  exact ⟨rfl, H.none⟩
end Go.Proofs.Ytpbknokakooekaa

