/- Pairing: alive of the statements: function 65. -/
import Derived.Test.YtgliblmpiilloaaN3
import Derived.Test.YtgliblmpiilloaaN4
import Derived.Test.YtgliblmpiilloaaB66
namespace Go.Proofs.Ytgliblmpiilloaa
set_option linter.all false
open Go Go.Sx Go.Proofs
set_option maxRecDepth 100000
set_option maxHeartbeats 2000000
theorem hv010 : heavyL (foldJ 3 [(0, 1, 3), (1, 2, 5)]) = [1, 0, 2] := by decide
theorem pr010 : (prL [1, 0, 2]).take (9 : Int).toNat = [(0, 1)] := by decide
theorem rt010 : RightP [1, 0, 2] := by decide
theorem rt11 : ¬ RightP [1, 1] := by decide
theorem ct010 : cntM [1, 0, 2] = 2 := by decide
theorem alive10 (w0 : World) : CallsV Try.prog 65 #[] w0 fun v w => v = .bool true ∧ St Pu w0 w [] [] := by
  refine callsV_of Try.func65 rfl rfl ?_
  have H := St.init w0
  refine wc_seq ?_
  refine wc_region ?_
  (apply ow_assign; (· rfl); (· ((conv => lhs; whnf) <;> rfl)))
  refine ow_nil ?_
  refine wc_seq ?_
  refine wc_region ?_
  refine ow_buildSlice1 (vs := [.int .i64 1, .int .i64 1, .int .i64 1]) H rfl (tyAt rfl) rfl (tyAt rfl) rfl rfl rfl rfl rfl (by simp [Value.one]) (fun b w H => ?_)
  skip
  refine ow_build (l := opA (0, 1, 3)) (vs := [(0, .int .i64 0), (1, .int .i64 1), (2, .int .i64 3)]) rfl (tyAt rfl) rfl (.cons (tyAt rfl) (.cons (tyAt rfl) (.cons (tyAt rfl) .nil))) rfl rfl ?_
  skip
  refine ow_build (l := opA (1, 2, 5)) (vs := [(0, .int .i64 1), (1, .int .i64 2), (2, .int .i64 5)]) rfl (tyAt rfl) rfl (.cons (tyAt rfl) (.cons (tyAt rfl) (.cons (tyAt rfl) .nil))) rfl rfl ?_
  skip
  refine ow_buildSliceA (zs := [.int .i64 0, .int .i64 0, .int .i64 0, .int .i64 0, .int .i64 0, .int .i64 0]) (l := [((0 : Int), (1 : Int), (3 : Int)), (1, 2, 5)].flatMap opA) (vs := [(0, .agg ⟨opA (0, 1, 3)⟩), (1, .agg ⟨opA (1, 2, 5)⟩)]) H rfl (tyAt rfl) rfl (tyAt rfl) rfl rfl rfl (by kernel_rfl) rfl (fun bb w H => ?_)
  have hs1 := H.rowSl (i := 1) rfl
  have hs2 := H.rowSl (i := 0) rfl
  refine ow_call rfl rfl (ent (by kernel_rfl)) (CallsV.mono (build66_spec (some ⟨b, 0, none⟩) (some ⟨bb, 0, none⟩) 3 2 [1, 1, 1] [(0, 1, 3), (1, 2, 5)] (by decide) (by decide) w hs1 hs2) ?_) rfl
  rintro v w (⟨_, h, _⟩ | ⟨g, x, ms, rows, rfl, hgw, hxw, _, hmay, hW, hn, hF, hM, H'⟩)
  · exact absurd (show _ ∧ _ ∧ _ from ⟨by decide, by decide, by decide⟩) h
  replace H := (H.call H').sub (List.sublist_append_left _ _)
  clear H' hs1 hs2
  obtain ⟨V, hV⟩ : ∃ V, rfV x rows = V := ⟨_, rfl⟩
  have hVl : V.length = 2 := by rw [← hV]; rfl
  have hv1 : ∀ u ∈ V, u.oneCell' = true := by rw [← hV]; simp [Value.oneCell']
  obtain ⟨V1, V2, rfl⟩ : ∃ V1 V2, V = [V1, V2] := by
    match V, hVl with
    | [a, b], _ => exact ⟨a, b, rfl⟩
  (apply ow_move; (· rfl); (· ((conv => lhs; whnf) <;> rfl)))
  refine ow_extract rfl rfl rfl ?_
  refine ow_extract rfl rfl rfl ?_
  refine ow_extract rfl rfl rfl ?_
  refine ow_alloc (l := [.slice none 0 0, .slice none 0 0]) H rfl (tyAt rfl) rfl (fun b2 w H => ?_)
  (apply ow_assign; (· rfl); (· ((conv => lhs; whnf) <;> rfl)))
  rw [hV]
  refine ow_storeA (i := 0) (o := 0) (l' := [V1, V2]) H (tyAt rfl) rfl rfl rfl rfl hv1 (by simp) (fun w H => ?_)
  replace H := H.drop
  (apply ow_assign; (· rfl); (· ((conv => lhs; whnf) <;> rfl)))
  refine ow_nil ?_
  refine wc_seq ?_
  refine wc_seq ?_
  refine wc_region ?_
  (apply ow_move; (· rfl); (· ((conv => lhs; whnf) <;> rfl)))
  refine ow_not rfl rfl ?_
  refine ow_nil ?_
  refine wc_cond_false rfl ?_
  refine wc_skip ?_
  refine wc_seq ?_
  refine wc_region ?_
  (apply ow_move; (· rfl); (· ((conv => lhs; whnf) <;> rfl)))
  have h4 : g.ws.length ≤ 4096 := by rw [hgw]; decide
  refine ow_call rfl rfl (ent (by kernel_rfl)) (CallsV.mono (heavy_spec g ms (by rw [hgw]; exact hn) h4 hW w (gr_of_ok fun c hc => okAll H c (List.mem_append_left _ hc))) ?_) rfl
  rintro v w ⟨bm, rfl, H'⟩
  replace H := (H.call H').sub (List.sublist_append_left _ _)
  clear H'
  rw [hF, show foldJ [(1 : Int), 1, 1].length [((0 : Int), (1 : Int), (3 : Int)), (1, 2, 5)] = foldJ 3 [(0, 1, 3), (1, 2, 5)] from rfl, hv010] at H ⊢
  (apply ow_assign; (· rfl); (· ((conv => lhs; whnf) <;> rfl)))
  refine ow_nil ?_
  refine wc_seq ?_
  refine wc_seq ?_
  refine wc_region ?_
  (apply ow_move; (· rfl); (· ((conv => lhs; whnf) <;> rfl)))
  refine ow_buildSlice1 (vs := [.int .i64 1, .int .i64 0, .int .i64 2]) H rfl (tyAt rfl) rfl (tyAt rfl) rfl rfl rfl rfl rfl (by simp [Value.one]) (fun b w H => ?_)
  refine ow_call rfl rfl (ent (by kernel_rfl)) (CallsV.mono (sameInts_spec (some ⟨bm, 0, none⟩) (some ⟨b, 0, none⟩) _ _ _ _ [1, 0, 2] [1, 0, 2] rfl rfl (by decide) (by decide) _ (H.rowSl (i := 1) rfl) (H.rowSl (i := 0) rfl)) ?_) rfl
  rintro v w ⟨rfl, H'⟩
  replace H := (H.call H').drop
  clear H'
  rw [decide_eq_true (rfl : ([1, 0, 2] : List Int) = [1, 0, 2])]
  refine ow_not rfl rfl ?_
  refine ow_nil ?_
  refine wc_cond_false rfl ?_
  refine wc_skip ?_
  refine wc_seq ?_
  refine wc_region ?_
  (apply ow_move; (· rfl); (· ((conv => lhs; whnf) <;> rfl)))
  refine ow_call rfl rfl (ent (by kernel_rfl)) (CallsV.mono (pairsW_spec (some ⟨bm, 0, none⟩) _ [1, 0, 2] 9 (by decide) w (H.rowSl (i := 0) rfl)) ?_) rfl
  rintro v w ⟨q1, c1, q2, c2, rfl, H'⟩
  replace H := H.call H'
  simp only [List.cons_append, List.nil_append] at H
  clear H'
  rw [pr010] at H ⊢
  obtain ⟨bq, rfl⟩ : ∃ g, q2 = some ⟨g, 0, none⟩ := appOk.some (H.cap (i := 0) rfl) (by decide)
  (apply ow_move; (· rfl); (· ((conv => lhs; whnf) <;> rfl)))
  refine ow_extract rfl rfl rfl ?_
  refine ow_extract rfl rfl rfl ?_
  (apply ow_assign; (· rfl); (· ((conv => lhs; whnf) <;> rfl)))
  (apply ow_assign; (· rfl); (· ((conv => lhs; whnf) <;> rfl)))
  refine ow_nil ?_
  refine wc_seq ?_
  refine wc_region ?_
  (apply ow_move; (· rfl); (· ((conv => lhs; whnf) <;> rfl)))
  refine ow_len rfl rfl (tyAt rfl) rfl ?_
  refine ow_eql rfl rfl rfl ?_
  (apply ow_move; (· rfl); (· ((conv => lhs; whnf) <;> rfl)))
  refine ow_guard_yes rfl rfl rfl rfl ?_
  (apply ow_move; (· rfl); (· ((conv => lhs; whnf) <;> rfl)))
  refine ow_guard_yes rfl rfl rfl rfl ?_
  refine ow_len rfl rfl (tyAt rfl) rfl ?_
  refine ow_guard_yes rfl rfl rfl rfl ?_
  refine ow_eql rfl rfl rfl ?_
  (apply ow_pick_t; (· rfl); (· rfl); (· ((conv => lhs; whnf) <;> rfl)))
  (apply ow_move; (· rfl); (· ((conv => lhs; whnf) <;> rfl)))
  refine ow_guard_yes rfl rfl rfl rfl ?_
  (apply ow_move; (· rfl); (· ((conv => lhs; whnf) <;> rfl)))
  refine ow_guard_yes rfl rfl rfl rfl ?_
  refine ow_idx1 (j := 0) rfl (tyAt rfl) rfl (tyAt rfl) rfl rfl rfl (by decide) rfl ?_
  refine ow_guard_yes rfl rfl rfl rfl ?_
  refine ow_load rfl (tyAt rfl) rfl rfl (SlH.int (appOk.sl (H.cap (i := 0) rfl)) (by decide)) ?_
  rw [show (([((0 : Int), (1 : Int))] : List (Int × Int)).map (·.2)).getD 0 0 = 1 from rfl]
  refine ow_guard_yes rfl rfl rfl rfl ?_
  refine ow_eql rfl rfl rfl ?_
  (apply ow_pick_t; (· rfl); (· rfl); (· ((conv => lhs; whnf) <;> rfl)))
  (apply ow_move; (· rfl); (· ((conv => lhs; whnf) <;> rfl)))
  refine ow_guard_yes rfl rfl rfl rfl ?_
  (apply ow_move; (· rfl); (· ((conv => lhs; whnf) <;> rfl)))
  refine ow_guard_yes rfl rfl rfl rfl ?_
  refine ow_call rfl rfl (ent (by kernel_rfl)) (CallsV.mono (right_spec (some ⟨bm, 0, none⟩) _ [1, 0, 2] (by decide) w (H.rowSl (i := 2) rfl)) ?_) rfl
  rintro v w' ⟨rfl, rfl⟩
  rw [decide_eq_true rt010]
  (apply ow_pick_t; (· rfl); (· rfl); (· ((conv => lhs; whnf) <;> rfl)))
  (apply ow_move; (· rfl); (· ((conv => lhs; whnf) <;> rfl)))
  refine ow_guard_yes rfl rfl rfl rfl ?_
  refine ow_buildSlice1 (vs := [.int .i64 1, .int .i64 1]) H rfl (tyAt rfl) rfl (tyAt rfl) rfl rfl rfl rfl rfl (by simp [Value.one]) (fun bl w H => ?_)
  refine ow_guard_yes rfl rfl rfl rfl ?_
  refine ow_call rfl rfl (ent (by kernel_rfl)) (CallsV.mono (right_spec (some ⟨bl, 0, none⟩) 2 [1, 1] (by decide) _ (H.rowSl (i := 0) rfl)) ?_) rfl
  rintro v w' ⟨rfl, rfl⟩
  rw [decide_eq_false rt11]
  refine ow_guard_yes rfl rfl rfl rfl ?_
  refine ow_not rfl rfl ?_
  (apply ow_pick_t; (· rfl); (· rfl); (· ((conv => lhs; whnf) <;> rfl)))
  (apply ow_move; (· rfl); (· ((conv => lhs; whnf) <;> rfl)))
  refine ow_guard_yes rfl rfl rfl rfl ?_
  (apply ow_move; (· rfl); (· ((conv => lhs; whnf) <;> rfl)))
  refine ow_guard_yes rfl rfl rfl rfl ?_
  refine ow_call rfl rfl (ent (by kernel_rfl)) (CallsV.mono (count_spec (some ⟨bm, 0, none⟩) _ [1, 0, 2] (by decide) _ (H.rowSl (i := 3) rfl)) ?_) rfl
  rintro v w ⟨rfl, H'⟩
  replace H := H.call H'
  clear H'
  rw [ct010]
  refine ow_guard_yes rfl rfl rfl rfl ?_
  refine ow_eql rfl rfl rfl ?_
  (apply ow_pick_t; (· rfl); (· rfl); (· ((conv => lhs; whnf) <;> rfl)))
  (apply ow_assign; (· rfl); (· ((conv => lhs; whnf) <;> rfl)))
  refine ow_nil ?_
  refine wc_ret ?_
  obtain ⟨w, hT, H⟩ := H.takes Try.prog
  refine ⟨.inr rfl, w, hT, _, .tmp .nil, ?_⟩
  exact ⟨rfl, H.none⟩
end Go.Proofs.Ytgliblmpiilloaa
