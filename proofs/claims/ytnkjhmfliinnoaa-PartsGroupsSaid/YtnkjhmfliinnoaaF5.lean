/- The statement's function 'sandtablelaw14.PartsGroups' returns true at every input, and changes nothing that was there. -/
import Derived.Test.YtnkjhmfliinnoaaEI
namespace Go.Proofs.Ytnkjhmfliinnoaa
set_option linter.all false
open Go Go.Sx Go.Proofs
set_option maxRecDepth 100000
set_option maxHeartbeats 2000000
theorem gx_at {M : Nat → Prop} {w0 w : World} {P : List Cap} {D : List Nat} {z : List GrX} {x : GrX} (H : St M w0 w (P ++ z.flatMap gxC) D) (hx : x ∈ z) : SlH (hp w) x.q (ints .i64 x.xs) := appOk.sl (okAll H (.app x.q x.xs.length x.c 3 1 (ints .i64 x.xs)) (List.mem_append_right _ (List.mem_flatMap.2 ⟨x, hx, List.mem_cons_self⟩)))
theorem law14Groups (q3 : Option Addr) (cap3 : Nat) (part : List Int) (k most : Int) (hm3 : part.length ≤ 9223372036854775807) (w0 : World) (hs : SlH (hp w0) q3 (ints .i64 part)) :
    CallsV Try.prog 10 #[.slice q3 part.length cap3, .int .i64 k, .int .i64 most] w0 fun v w => v = .bool true ∧ St Pu w0 w [] [] := by
  refine callsV_of Try.func10 rfl rfl ?_
  refine wc_seq ?_
  refine wc_region ?_
  (apply ow_assign; (· rfl); (· ((conv => lhs; whnf) <;> rfl)))
  refine ow_nil ?_
  refine wc_seq ?_
  refine wc_seq ?_
  refine wc_region ?_
  refine ow_call rfl rfl (ent (by kernel_rfl)) (CallsV.mono (alive14 w0) ?_) rfl
  rintro v w ⟨rfl, H⟩
  refine ow_not rfl rfl ?_
  refine ow_nil ?_
  refine wc_cond_false rfl ?_
  refine wc_skip ?_
  refine wc_seq ?_
  refine wc_seq ?_
  refine wc_region ?_
  (apply ow_move; (· rfl); (· ((conv => lhs; whnf) <;> rfl)))
  refine ow_len rfl rfl (tyAt rfl) rfl ?_
  refine ow_gtr rfl rfl rfl ?_
  (apply ow_move; (· rfl); (· ((conv => lhs; whnf) <;> rfl)))
  refine ow_guard_dec rfl rfl rfl (fun h => ?_) (fun h => ?_) <;> try dsimp only at h
  · refine ow_guard_no rfl rfl rfl rfl rfl rfl rfl ?_
    refine ow_guard_no rfl rfl rfl rfl rfl rfl rfl ?_
    (apply ow_pick_t; (· rfl); (· rfl); (· ((conv => lhs; whnf) <;> rfl)))
    refine ow_nil ?_
    refine wc_cond_true rfl ?_
    refine wc_seq ?_
    refine wc_region ?_
    (apply ow_assign; (· rfl); (· ((conv => lhs; whnf) <;> rfl)))
    refine ow_nil ?_
    refine wc_ret ?_
    obtain ⟨w, hT, H⟩ := H.takes Try.prog
    refine ⟨.inr rfl, w, hT, _, .tmp .nil, ?_⟩
    exact ⟨rfl, H.none⟩
  have hp60 : part.length ≤ 60 := by omega
  clear h
  refine ow_guard_yes rfl rfl rfl rfl ?_
  (apply ow_move; (· rfl); (· ((conv => lhs; whnf) <;> rfl)))
  refine ow_guard_yes rfl rfl rfl rfl ?_
  refine ow_gtr rfl rfl rfl ?_
  (apply ow_pick_f; (· rfl); (· rfl); (· ((conv => lhs; whnf) <;> rfl)))
  refine ow_nil ?_
  refine wc_cond_dec rfl (fun h => ?_) (fun h => ?_) <;> try dsimp only at h
  · refine wc_seq ?_
    refine wc_region ?_
    (apply ow_assign; (· rfl); (· ((conv => lhs; whnf) <;> rfl)))
    refine ow_nil ?_
    refine wc_ret ?_
    obtain ⟨w, hT, H⟩ := H.takes Try.prog
    refine ⟨.inr rfl, w, hT, _, .tmp .nil, ?_⟩
    exact ⟨rfl, H.none⟩
  have hk60 : k ≤ 60 := by omega
  clear h
  obtain ⟨k15, hk15, ek0⟩ := and_mask most (m := 15) (by decide)
  have ek15 : Sx.bw .and .i64 most 15 = (k15 : Int) := ek0
  refine wc_skip ?_
  refine wc_seq ?_
  refine wc_region ?_
  (apply ow_move; (· rfl); (· ((conv => lhs; whnf) <;> rfl)))
  (apply ow_move; (· rfl); (· ((conv => lhs; whnf) <;> rfl)))
  refine ow_call rfl rfl (ent (by kernel_rfl)) (CallsV.mono (groupsW_spec q3 cap3 part k 100 (by omega) (by omega) _ (H.oldSl hs)) ?_) rfl
  rintro v w ⟨z, qo, co, rfl, hz, hzl, H'⟩
  replace H := H.call H'
  rw [List.append_nil] at H
  clear H'
  have h100 : (100 : Int).toNat = 100 := rfl
  have hzk : (z.length : Int) = max k 0 := by omega
  (apply ow_assign; (· rfl); (· ((conv => lhs; whnf) <;> rfl)))
  refine ow_nil ?_
  refine wc_seq ?_
  refine wc_seq ?_
  refine wc_region ?_
  (apply ow_move; (· rfl); (· ((conv => lhs; whnf) <;> rfl)))
  refine ow_len rfl rfl (tyAt rfl) rfl ?_
  (apply ow_move; (· rfl); (· ((conv => lhs; whnf) <;> rfl)))
  refine ow_max rfl rfl rfl ?_
  refine ow_neq rfl rfl rfl ?_
  refine ow_nil ?_
  refine wc_cond_dec rfl (fun h => ?_) (fun h => ?_) <;> try dsimp only at h
  · exact absurd hzk h
  clear h
  refine wc_skip ?_
  refine wc_seq ?_
  refine wc_seq ?_
  refine wc_region ?_
  (apply ow_move; (· rfl); (· ((conv => lhs; whnf) <;> rfl)))
  refine ow_len rfl rfl (tyAt rfl) rfl ?_
  (apply ow_move; (· rfl); (· ((conv => lhs; whnf) <;> rfl)))
  refine ow_nil ?_
  refine wc_blockJ [6, 8, 9, 29, 30, 31, 32, 33, 34, 35, 36, 37, 38, 39, 40] (fun (_ : Unit) e => e) (fun _ D w => D = [] ∧ St Pu w0 w ([.app qo z.length co 23 1 (z.map gxS)] ++ z.flatMap gxC) []) ?_ ?_
  · refine wc_loopS [6, 8, 9, 29, 30, 31, 32, 33, 34, 35, 36, 37, 38, 39, 40] (fun (s : Nat) e => upd e 29 (.int .i64 s)) (fun s D w => D = [] ∧ s ≤ z.length ∧ St Pu w0 w ([.app qo z.length co 23 1 (z.map gxS)] ++ z.flatMap gxC) []) (fun s _ => z.length - s) 0 (by first | exact rfl | exact upd_self' rfl rfl | exact upd_self' rfl (upd_self' rfl rfl) | exact upd_self' rfl (upd_self' rfl (upd_self' rfl rfl)) | exact upd_self' rfl (upd_self' rfl (upd_self' rfl (upd_self' rfl rfl)))) ⟨rfl, Nat.zero_le _, H⟩ ?_
    clear H
    rintro i j D w ⟨rfl, hi, H⟩
    refine wc_seq ?_
    refine wc_region ?_
    refine ow_lss rfl rfl rfl ?_
    refine ow_nil ?_
    refine wc_seq ?_
    refine wc_cond_dec rfl (fun h => ?_) (fun h => ?_) <;> try dsimp only at h
    · have hlt : i < z.length := by omega
      clear h
      obtain ⟨x, hx⟩ : ∃ x, z[i]? = some x := ⟨_, List.getElem?_eq_getElem hlt⟩
      have hxs := hz i x hx
      have hxl : x.xs.length ≤ part.length := by rw [hxs]; exact sdU_len _ _ _
      have hsx : (z.map gxS)[i]? = some (gxS x) := by rw [List.getElem?_map, hx]; rfl
      obtain ⟨bo, rfl⟩ : ∃ g, qo = some ⟨g, 0, none⟩ := appOk.some (H.cap (i := 0) rfl) (by rw [List.length_map]; omega)
      refine wc_skip ?_
      refine wc_seq ?_
      refine wc_block ?_
      refine wc_seq ?_
      refine wc_region ?_
      (apply ow_move; (· rfl); (· ((conv => lhs; whnf) <;> rfl)))
      refine ow_idx1 (j := i) rfl (tyAt rfl) rfl (tyAt rfl) rfl rfl rfl hlt rfl ?_
      refine ow_load rfl (tyAt rfl) rfl rfl ((appOk.sl (H.cap (i := 0) rfl)).cell (j := i) hsx) ?_
      (apply ow_assign; (· rfl); (· ((conv => lhs; whnf) <;> rfl)))
      (apply ow_assign; (· rfl); (· ((conv => lhs; whnf) <;> rfl)))
      refine ow_nil ?_
      refine wc_seq ?_
      refine wc_region ?_
      (apply ow_move; (· rfl); (· ((conv => lhs; whnf) <;> rfl)))
      (apply ow_move; (· rfl); (· ((conv => lhs; whnf) <;> rfl)))
      (apply ow_move; (· rfl); (· ((conv => lhs; whnf) <;> rfl)))
      refine ow_call rfl rfl (ent (by kernel_rfl)) (CallsV.mono (refSide_spec q3 cap3 part (i : Int) (by omega) _ (H.oldSl hs)) ?_) rfl
      rintro v w ⟨q1, c1, rfl, H'⟩
      replace H := H.call H'
      clear H'
      skip
      refine ow_call rfl rfl (ent (by kernel_rfl)) (CallsV.mono (sameInts_spec x.q q1 _ _ _ _ x.xs (sdL part (i : Int)) rfl rfl (by omega) (by rw [← hxs]; omega) _ (gx_at (P := [_, _]) H (List.mem_of_getElem? hx)) (appOk.sl (H.cap (i := 0) rfl))) ?_) rfl
      rintro v w ⟨rfl, H'⟩
      replace H : St Pu w0 w ([.app (some ⟨bo, 0, none⟩) z.length co 23 1 (z.map gxS)] ++ z.flatMap gxC) [] := (H.call H').drop
      clear H'
      rw [decide_eq_true hxs]
      refine ow_not rfl rfl ?_
      refine ow_nil ?_
      refine wc_cond_false rfl ?_
      refine wc_skip ?_
      refine wc_region ?_
      refine ow_add rfl rfl rfl (by simp only [InK]; omega) ?_
      (apply ow_move; (· rfl); (· ((conv => lhs; whnf) <;> rfl)))
      refine ow_nil ?_
      exact ⟨i + 1, by first | exact rfl | exact upd_self' rfl rfl | exact upd_self' rfl (upd_self' rfl rfl) | exact upd_self' rfl (upd_self' rfl (upd_self' rfl rfl)) | exact upd_self' rfl (upd_self' rfl (upd_self' rfl (upd_self' rfl rfl))), by repeat (first | with_reducible exact Off.mix | with_reducible exact Off.refl | ((with_reducible refine Off.upd ?_ ?_); (· rfl))), ⟨rfl, hlt, H⟩, by omega⟩
    · have hi' : i = z.length := by omega
      subst hi'
      refine wc_exit ?_
      exact ⟨(), rfl, by repeat (first | with_reducible exact Off.mix | with_reducible exact Off.refl | ((with_reducible refine Off.upd ?_ ?_); (· rfl)) | ((with_reducible refine Off.mixN ?_ ?_); (· rfl))), ⟨rfl, H⟩⟩
  clear H
  rintro _ j D w ⟨rfl, H⟩
  refine wc_seq ?_
  refine wc_region ?_
  (apply ow_move; (· rfl); (· ((conv => lhs; whnf) <;> rfl)))
  (apply ow_move; (· rfl); (· ((conv => lhs; whnf) <;> rfl)))
  (apply ow_move; (· rfl); (· ((conv => lhs; whnf) <;> rfl)))
  refine ow_and rfl rfl rfl ?_
  rw [ek15]
  refine ow_call rfl rfl (ent (by kernel_rfl)) (CallsV.mono (groupsW_spec q3 cap3 part k (k15 : Int) (by omega) (by omega) _ (H.oldSl hs)) ?_) rfl
  rintro v w ⟨z2, qo2, co2, rfl, _, hzl2, H'⟩
  replace H := H.call H'
  refine ow_len rfl rfl (tyAt rfl) rfl ?_
  (apply ow_move; (· rfl); (· ((conv => lhs; whnf) <;> rfl)))
  refine ow_and rfl rfl rfl ?_
  (apply ow_move; (· rfl); (· ((conv => lhs; whnf) <;> rfl)))
  refine ow_len rfl rfl (tyAt rfl) rfl ?_
  refine ow_min rfl rfl rfl ?_
  refine ow_eql rfl rfl rfl ?_
  (apply ow_assign; (· rfl); (· ((conv => lhs; whnf) <;> rfl)))
  refine ow_nil ?_
  rw [ek15]
  skip
  refine wc_ret ?_
  obtain ⟨w, hT, H⟩ := H.takes Try.prog
  refine ⟨.inr rfl, w, hT, _, .tmp .nil, ?_⟩
  exact ⟨congrArg Value.bool (decide_eq_true (show ((z2.length : Nat) : Int) = min (k15 : Int) (z.length : Int) by omega)), H.none⟩
end Go.Proofs.Ytnkjhmfliinnoaa

