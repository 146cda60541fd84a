/- Grow: alive of the statements: function 56. -/
import Derived.Test.YtgliblmpiilloaaU3
import Derived.Test.YtgliblmpiilloaaB57
namespace Go.Proofs.Ytgliblmpiilloaa
set_option linter.all false
open Go Go.Sx Go.Proofs
set_option maxRecDepth 100000
set_option maxHeartbeats 2000000
theorem hv2 : halveL (foldJL 3 [(0, 2, 3)]) [1, 1, 1] 2 = [0, 1, 0] := by decide
theorem hv0 : halveL (foldJL 3 [(0, 2, 3)]) [1, 1, 1] 0 = [1, 1, 1] := by decide
theorem pl2 : pullZ (foldJL 3 [(0, 2, 3)]) [0, 1, 0] 2 = 3 := by decide
theorem sd0 : (sdL [0, 1, 0] 0).take (9 : Int).toNat = [0, 2] := by decide
theorem alive12 (w0 : World) : CallsV Try.prog 56 #[] w0 fun v w => v = .bool true ∧ St Pu w0 w [] [] := by
  refine callsV_of Try.func56 rfl rfl ?_
  have H := St.init w0
  refine wc_seq ?_
  refine wc_region ?_
  (apply ow_assign; (· rfl); (· ((conv => lhs; whnf) <;> rfl)))
  refine ow_nil ?_
  refine wc_seq ?_
  refine wc_region ?_
  refine ow_buildSlice1 (vs := [.int .i64 1, .int .i64 1, .int .i64 1]) H rfl (tyAt rfl) rfl (tyAt rfl) rfl rfl rfl rfl rfl (by simp [Value.one]) (fun b w H => ?_)
  skip
  refine ow_build (l := opA (0, 2, 3)) (vs := [(0, .int .i64 0), (1, .int .i64 2), (2, .int .i64 3)]) rfl (tyAt rfl) rfl (.cons (tyAt rfl) (.cons (tyAt rfl) (.cons (tyAt rfl) .nil))) rfl rfl ?_
  skip
  refine ow_buildSliceA (zs := [.int .i64 0, .int .i64 0, .int .i64 0]) (l := [((0 : Int), (2 : Int), (3 : Int))].flatMap opA) (vs := [(0, .agg ⟨opA (0, 2, 3)⟩)]) H rfl (tyAt rfl) rfl (tyAt rfl) rfl rfl rfl (by kernel_rfl) rfl (fun bb w H => ?_)
  have hs1 := H.rowSl (i := 1) rfl
  have hs2 := H.rowSl (i := 0) rfl
  refine ow_call rfl rfl (ent (by kernel_rfl)) (CallsV.mono (build57_spec (some ⟨b, 0, none⟩) (some ⟨bb, 0, none⟩) 3 1 [1, 1, 1] [(0, 2, 3)] (by decide) (by decide) w hs1 hs2) ?_) rfl
  rintro v w (⟨_, h, _⟩ | ⟨g, x, ms, rows, rfl, hgw, hxw, _, hmay, hW, hn, hF, hM, H'⟩)
  · exact absurd (show _ ∧ _ ∧ _ from ⟨by decide, by decide, by decide⟩) h
  replace H : St Pu w0 w (grC g ms) [] := (H.call H').sub ((List.sublist_append_left _ _).trans (List.sublist_append_left _ _))
  clear H' hs1 hs2
  (apply ow_move; (· rfl); (· ((conv => lhs; whnf) <;> rfl)))
  refine ow_extract rfl rfl rfl ?_
  refine ow_extract rfl rfl rfl ?_
  refine ow_extract rfl rfl rfl ?_
  refine ow_alloc (l := [.slice none 0 0, .slice none 0 0]) H rfl (tyAt rfl) rfl (fun b2 w H => ?_)
  (apply ow_assign; (· rfl); (· ((conv => lhs; whnf) <;> rfl)))
  refine ow_storeA (i := 0) (o := 0) (l' := rfV x rows) H (tyAt rfl) rfl rfl rfl rfl (by simp [Value.oneCell']) (by simp) (fun w H => ?_)
  replace H : St Pu w0 w (grC g ms) [] := H.drop
  have h4 : g.ws.length ≤ 4096 := by rw [hgw]; decide
  have hn' : ms.length = g.ws.length := by rw [hgw]; exact hn
  have hmay' : ∀ z ∈ g.ws, mayW z := by rw [hgw]; exact hmay
  replace hF : tb ms = foldJL 3 [(0, 2, 3)] := hF
  (apply ow_assign; (· rfl); (· ((conv => lhs; whnf) <;> rfl)))
  refine ow_nil ?_
  refine wc_seq ?_
  refine wc_seq ?_
  refine wc_region ?_
  (apply ow_move; (· rfl); (· ((conv => lhs; whnf) <;> rfl)))
  refine ow_not rfl rfl ?_
  refine ow_nil ?_
  refine wc_cond_false rfl ?_
  refine wc_skip ?_
  refine wc_seq ?_
  refine wc_region ?_
  (apply ow_move; (· rfl); (· ((conv => lhs; whnf) <;> rfl)))
  refine ow_call rfl rfl (ent (by kernel_rfl)) (CallsV.mono (halve_spec g ms 2 hn' h4 hmay' hW (by decide) w (gr_of_ok (okAll H))) ?_) rfl
  rintro v w ⟨bm, rfl, H'⟩
  replace H : St Pu w0 w (.row bm 3 (ints .i64 [0, 1, 0]) :: grC g ms) [] := by
    have h := H.call H'
    rw [hF, hgw, hv2] at h
    exact h
  clear H'
  rw [hF, hgw, hv2]
  (apply ow_assign; (· rfl); (· ((conv => lhs; whnf) <;> rfl)))
  refine ow_nil ?_
  refine wc_seq ?_
  refine wc_seq ?_
  refine wc_region ?_
  (apply ow_move; (· rfl); (· ((conv => lhs; whnf) <;> rfl)))
  refine ow_buildSlice1 (vs := [.int .i64 0, .int .i64 1, .int .i64 0]) H rfl (tyAt rfl) rfl (tyAt rfl) rfl rfl rfl rfl rfl (by simp [Value.one]) (fun bl w H => ?_)
  skip
  refine ow_call rfl rfl (ent (by kernel_rfl)) (CallsV.mono (sameInts_spec (some ⟨bm, 0, none⟩) (some ⟨bl, 0, none⟩) _ _ _ _ [0, 1, 0] [0, 1, 0] rfl rfl (by decide) (by decide) _ (H.rowSl (i := 1) rfl) (H.rowSl (i := 0) rfl)) ?_) rfl
  rintro v w ⟨rfl, H'⟩
  replace H : St Pu w0 w (.row bm 3 (ints .i64 [0, 1, 0]) :: grC g ms) [] := (H.call H').drop
  clear H'
  rw [decide_eq_true (rfl : ([0, 1, 0] : List Int) = [0, 1, 0])]
  have hGr : ∀ {w : World}, St Pu w0 w (.row bm 3 (ints .i64 [0, 1, 0]) :: grC g ms) [] → Gr (hp w) g ms := fun H => gr_of_ok fun c hc => okAll H c (List.mem_cons_of_mem _ hc)
  refine ow_not rfl rfl ?_
  refine ow_nil ?_
  refine wc_cond_false rfl ?_
  refine wc_skip ?_
  refine wc_seq ?_
  refine wc_region ?_
  (apply ow_move; (· rfl); (· ((conv => lhs; whnf) <;> rfl)))
  (apply ow_move; (· rfl); (· ((conv => lhs; whnf) <;> rfl)))
  refine ow_call rfl rfl (ent (by kernel_rfl)) (CallsV.mono (pull_spec g ms [0, 1, 0] (some ⟨bm, 0, none⟩) _ 2 hn' h4 hW _ (hGr H) (H.rowSl (i := 0) rfl)) ?_) rfl
  rintro v w ⟨rfl, H'⟩
  replace H := H.call H'
  simp only [List.nil_append] at H
  clear H'
  rw [hF, pl2]
  refine ow_eql rfl rfl rfl ?_
  (apply ow_move; (· rfl); (· ((conv => lhs; whnf) <;> rfl)))
  refine ow_guard_yes rfl rfl rfl rfl ?_
  (apply ow_move; (· rfl); (· ((conv => lhs; whnf) <;> rfl)))
  refine ow_guard_yes rfl rfl rfl rfl ?_
  refine ow_call rfl rfl (ent (by kernel_rfl)) (CallsV.mono (sideW_spec (some ⟨bm, 0, none⟩) _ [0, 1, 0] 0 9 (by decide) _ (H.rowSl (i := 0) rfl)) ?_) rfl
  rintro v w ⟨q1, c1, rfl, H'⟩
  replace H : St Pu w0 w (.row bm 3 (ints .i64 [0, 1, 0]) :: grC g ms) [] := (H.call H').drop
  clear H'
  rw [sd0]
  refine ow_guard_yes rfl rfl rfl rfl ?_
  refine ow_len rfl rfl (tyAt rfl) rfl ?_
  refine ow_guard_yes rfl rfl rfl rfl ?_
  refine ow_eql rfl rfl rfl ?_
  (apply ow_pick_t; (· rfl); (· rfl); (· ((conv => lhs; whnf) <;> rfl)))
  (apply ow_move; (· rfl); (· ((conv => lhs; whnf) <;> rfl)))
  refine ow_guard_yes rfl rfl rfl rfl ?_
  (apply ow_move; (· rfl); (· ((conv => lhs; whnf) <;> rfl)))
  refine ow_guard_yes rfl rfl rfl rfl ?_
  refine ow_call rfl rfl (ent (by kernel_rfl)) (CallsV.mono (halve_spec g ms 0 hn' h4 hmay' hW (by decide) w (hGr H)) ?_) rfl
  rintro v w ⟨bn, rfl, H'⟩
  replace H : St Pu w0 w (.row bn 3 (ints .i64 [1, 1, 1]) :: .row bm 3 (ints .i64 [0, 1, 0]) :: grC g ms) [] := by
    have h := H.call H'
    rw [hF, hgw, hv0] at h
    exact h
  clear H'
  rw [hF, hgw, hv0]
  refine ow_guard_yes rfl rfl rfl rfl ?_
  refine ow_buildSlice1 (vs := [.int .i64 1, .int .i64 1, .int .i64 1]) H rfl (tyAt rfl) rfl (tyAt rfl) rfl rfl rfl rfl rfl (by simp [Value.one]) (fun bl w H => ?_)
  refine ow_guard_yes rfl rfl rfl rfl ?_
  refine ow_call rfl rfl (ent (by kernel_rfl)) (CallsV.mono (sameInts_spec (some ⟨bn, 0, none⟩) (some ⟨bl, 0, none⟩) _ _ _ _ [1, 1, 1] [1, 1, 1] rfl rfl (by decide) (by decide) _ (H.rowSl (i := 1) rfl) (H.rowSl (i := 0) rfl)) ?_) rfl
  rintro v w ⟨rfl, H'⟩
  replace H := H.call H'
  clear H'
  rw [decide_eq_true (rfl : ([1, 1, 1] : List Int) = [1, 1, 1])]
  (apply ow_pick_t; (· rfl); (· rfl); (· ((conv => lhs; whnf) <;> rfl)))
  (apply ow_assign; (· rfl); (· ((conv => lhs; whnf) <;> rfl)))
  refine ow_nil ?_
  refine wc_ret ?_
  obtain ⟨w, hT, H⟩ := H.takes Try.prog
  refine ⟨.inr rfl, w, hT, _, .tmp .nil, ?_⟩
  exact ⟨rfl, H.none⟩
end Go.Proofs.Ytgliblmpiilloaa
