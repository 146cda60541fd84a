/- Parts: alive of the statements of layer 14. -/
import Derived.Test.YtnkjhmfliinnoaaEH
namespace Go.Proofs.Ytnkjhmfliinnoaa
set_option linter.all false
open Go Go.Sx Go.Proofs
set_option maxRecDepth 100000
set_option maxHeartbeats 2000000
theorem z4 : CutR 4 [0, 0, 0, 0] ((4 : Nat) : Int) := zero_right (n := 4) (k := 4) (by unfold mayK; decide)
theorem z1 : ¬ CutR 4 [0] 4 := fun h => absurd h.2.1 (by decide)
theorem alive14 (w0 : World) : CallsV Try.prog 44 #[] w0 fun v w => v = .bool true ∧ St Pu w0 w [] [] := by
  refine callsV_of Try.func44 rfl rfl ?_
  have H := St.init w0
  refine wc_seq ?_
  refine wc_region ?_
  (apply ow_assign; (· rfl); (· ((conv => lhs; whnf) <;> rfl)))
  refine ow_nil ?_
  refine wc_seq ?_
  refine wc_region ?_
  refine ow_buildSlice1 (vs := [.int .i64 1, .int .i64 1, .int .i64 1, .int .i64 1]) H rfl (tyAt rfl) rfl (tyAt rfl) rfl rfl rfl rfl rfl (by simp [Value.one]) (fun b w H => ?_)
  skip
  refine ow_build (l := opA (0, 2, 9)) (vs := [(0, .int .i64 0), (1, .int .i64 2), (2, .int .i64 9)]) rfl (tyAt rfl) rfl (.cons (tyAt rfl) (.cons (tyAt rfl) (.cons (tyAt rfl) .nil))) rfl rfl ?_
  skip
  refine ow_build (l := opA (1, 3, 9)) (vs := [(0, .int .i64 1), (1, .int .i64 3), (2, .int .i64 9)]) rfl (tyAt rfl) rfl (.cons (tyAt rfl) (.cons (tyAt rfl) (.cons (tyAt rfl) .nil))) rfl rfl ?_
  skip
  refine ow_build (l := opA (0, 1, 1)) (vs := [(0, .int .i64 0), (1, .int .i64 1), (2, .int .i64 1)]) rfl (tyAt rfl) rfl (.cons (tyAt rfl) (.cons (tyAt rfl) (.cons (tyAt rfl) .nil))) rfl rfl ?_
  skip
  refine ow_buildSliceA (zs := [.int .i64 0, .int .i64 0, .int .i64 0, .int .i64 0, .int .i64 0, .int .i64 0, .int .i64 0, .int .i64 0, .int .i64 0]) (l := [((0 : Int), (2 : Int), (9 : Int)), (1, 3, 9), (0, 1, 1)].flatMap opA) (vs := [(0, .agg ⟨opA (0, 2, 9)⟩), (1, .agg ⟨opA (1, 3, 9)⟩), (2, .agg ⟨opA (0, 1, 1)⟩)]) H rfl (tyAt rfl) rfl (tyAt rfl) rfl rfl rfl (by kernel_rfl) rfl (fun bb w H => ?_)
  have hs1 := H.rowSl (i := 1) rfl
  have hs2 := H.rowSl (i := 0) rfl
  refine ow_call rfl rfl (ent (by kernel_rfl)) (CallsV.mono (build14_spec (some ⟨b, 0, none⟩) (some ⟨bb, 0, none⟩) 4 3 [1, 1, 1, 1] [(0, 2, 9), (1, 3, 9), (0, 1, 1)] (by decide) (by decide) w hs1 hs2) ?_) rfl
  rintro v w (⟨_, h, _⟩ | ⟨g, x, ms, rows, rfl, hgw, hxw, _, hmay, hW, hn, hF, hM, H'⟩)
  · exact absurd (show _ ∧ _ ∧ _ from ⟨by decide, by decide, by decide⟩) h
  replace H := (H.call H').sub (List.sublist_append_left _ _)
  clear H' hs1 hs2
  have hxm : ∀ z ∈ x.ws, mayW z := by rw [hxw]; exact hmay
  have hx4 : x.ws.length = 4 := by rw [hxw]; rfl
  rw [← hgw] at hmay hn
  have h4 : g.ws.length = 4 := by rw [hgw]; rfl
  obtain ⟨RR, hRR⟩ : ∃ RR, grC g ms ++ rfC x rows = RR := ⟨_, rfl⟩
  have hGr : ∀ {w : World} {pre : List Cap}, St Pu w0 w (pre ++ RR) [] → Gr (hp w) g ms := fun H => gr_of_ok fun c hc => okAll H c (List.mem_append_right _ (by rw [← hRR]; exact List.mem_append_left _ hc))
  have hRf : ∀ {w : World} {pre : List Cap}, St Pu w0 w (pre ++ RR) [] → Rf (hp w) x rows := fun H => rf_of_ok fun c hc => okAll H c (List.mem_append_right _ (by rw [← hRR]; exact List.mem_append_right _ hc))
  rw [hRR] at H
  clear hRR
  (apply ow_move; (· rfl); (· ((conv => lhs; whnf) <;> rfl)))
  refine ow_extract rfl rfl rfl ?_
  refine ow_extract rfl rfl rfl ?_
  refine ow_extract rfl rfl rfl ?_
  refine ow_alloc (l := [.slice none 0 0, .slice none 0 0]) H rfl (tyAt rfl) rfl (fun b6 w H => ?_)
  (apply ow_assign; (· rfl); (· ((conv => lhs; whnf) <;> rfl)))
  refine ow_storeA (i := 0) (o := 0) (l' := rfV x rows) H (tyAt rfl) rfl rfl rfl rfl (by simp [Value.oneCell']) (by simp) (fun w H => ?_)
  replace H : St Pu w0 w ([.row b6 81 (rfV x rows)] ++ RR) [] := H
  (apply ow_assign; (· rfl); (· ((conv => lhs; whnf) <;> rfl)))
  refine ow_nil ?_
  refine wc_seq ?_
  refine wc_seq ?_
  refine wc_region ?_
  (apply ow_move; (· rfl); (· ((conv => lhs; whnf) <;> rfl)))
  refine ow_not rfl rfl ?_
  refine ow_nil ?_
  refine wc_cond_false rfl ?_
  refine wc_skip ?_
  refine wc_seq ?_
  refine wc_region ?_
  (apply ow_move; (· rfl); (· ((conv => lhs; whnf) <;> rfl)))
  refine ow_call rfl rfl (ent (by kernel_rfl)) (CallsV.mono (split14_spec g ms 2 hmay hn (by omega) hW _ (hGr H)) ?_) rfl
  rintro v w hh
  obtain ⟨hk2, p, q1, c1, hS, rfl, H'⟩ := hh.resolve_left (fun h => h.1 (by unfold mayK; decide))
  replace H := H.call H'
  clear H' hh
  have hR := SplR.right (k := (2 : Int).toNat) (by unfold mayK; decide) hS
  have hgd : goodB x.ws (mendL (tb ms) g.ws (2 : Int).toNat p) 2 := by rw [hxw, ← hgw]; exact ⟨mend_right (T := tb ms) hmay hR, mend_good (T := tb ms) hmay hR⟩
  have hml := hgd.1.2.1
  rw [hxw, ← hgw] at hml
  obtain ⟨m1, hm1⟩ : ∃ m1, mendL (tb ms) g.ws (2 : Int).toNat p = m1 := ⟨_, rfl⟩
  rw [hm1] at H hgd hml
  rw [← hml] at H ⊢
  (apply ow_move; (· rfl); (· ((conv => lhs; whnf) <;> rfl)))
  refine ow_extract rfl rfl rfl ?_
  refine ow_extract rfl rfl rfl ?_
  (apply ow_assign; (· rfl); (· ((conv => lhs; whnf) <;> rfl)))
  (apply ow_assign; (· rfl); (· ((conv => lhs; whnf) <;> rfl)))
  refine ow_nil ?_
  refine wc_seq ?_
  refine wc_region ?_
  (apply ow_move; (· rfl); (· ((conv => lhs; whnf) <;> rfl)))
  refine ow_call rfl rfl (ent (by kernel_rfl)) (CallsV.mono (split14_spec g ms 0 hmay hn (by omega) hW _ (hGr (pre := [_, _]) H)) ?_) rfl
  rintro v w hh
  obtain ⟨_, rfl, H'⟩ := hh.resolve_right (fun h => absurd h.1 (by unfold mayK; decide))
  replace H : St Pu w0 w ([.app q1 m1.length c1 3 1 (ints .i64 m1), .row b6 81 (rfV x rows)] ++ RR) [] := H.call H'
  clear H' hh
  (apply ow_move; (· rfl); (· ((conv => lhs; whnf) <;> rfl)))
  refine ow_extract rfl rfl rfl ?_
  refine ow_extract rfl rfl rfl ?_
  (apply ow_assign; (· rfl); (· ((conv => lhs; whnf) <;> rfl)))
  (apply ow_assign; (· rfl); (· ((conv => lhs; whnf) <;> rfl)))
  refine ow_nil ?_
  refine wc_seq ?_
  refine wc_seq ?_
  refine wc_region ?_
  (apply ow_move; (· rfl); (· ((conv => lhs; whnf) <;> rfl)))
  refine ow_len rfl rfl (tyAt rfl) rfl ?_
  refine ow_neq rfl rfl rfl ?_
  refine ow_nil ?_
  refine wc_cond_dec rfl (fun h => ?_) (fun h => ?_) <;> try dsimp only at h
  · omega
  clear h
  refine wc_skip ?_
  refine wc_seq ?_
  refine wc_region ?_
  (apply ow_move; (· rfl); (· ((conv => lhs; whnf) <;> rfl)))
  refine ow_buildSlice1 (vs := [.int .i64 0, .int .i64 0, .int .i64 0, .int .i64 0]) H rfl (tyAt rfl) rfl (tyAt rfl) rfl rfl rfl rfl rfl (by simp [Value.one]) (fun bz w H => ?_)
  have hz := H.rowSl (i := 0) rfl
  skip
  refine ow_call rfl rfl (ent (by kernel_rfl)) (CallsV.mono (mend_spec g ms [0, 0, 0, 0] (some ⟨bz, 0, none⟩) 4 4 (by decide) hmay hn (by omega) hW _ (hGr (pre := [_, _, _]) H) hz) ?_) rfl
  rintro v w hh
  obtain ⟨hR4, q2, c2, rfl, H'⟩ := hh.resolve_left (fun h => h.1 (by rw [h4]; exact z4))
  replace H : St Pu w0 w ([.app q2 4 c2 3 1 (ints .i64 (mendL (tb ms) g.ws 4 [0, 0, 0, 0])), .row bz 3 [.int .i64 0, .int .i64 0, .int .i64 0, .int .i64 0], .app q1 m1.length c1 3 1 (ints .i64 m1), .row b6 81 (rfV x rows)] ++ RR) [] := H.call H'
  clear H' hh hz
  have hgd2 : goodB x.ws (mendL (tb ms) g.ws 4 [0, 0, 0, 0]) 4 := by rw [hxw, ← hgw]; exact ⟨mend_right (T := tb ms) hmay hR4, mend_good (T := tb ms) hmay hR4⟩
  have hml2 := hgd2.1.2.1
  rw [hx4] at hml2
  obtain ⟨m2, hm2⟩ : ∃ m2, mendL (tb ms) g.ws 4 [0, 0, 0, 0] = m2 := ⟨_, rfl⟩
  rw [hm2] at H hgd2 hml2
  (apply ow_move; (· rfl); (· ((conv => lhs; whnf) <;> rfl)))
  refine ow_extract rfl rfl rfl ?_
  refine ow_extract rfl rfl rfl ?_
  (apply ow_assign; (· rfl); (· ((conv => lhs; whnf) <;> rfl)))
  (apply ow_assign; (· rfl); (· ((conv => lhs; whnf) <;> rfl)))
  refine ow_nil ?_
  refine wc_seq ?_
  refine wc_region ?_
  (apply ow_move; (· rfl); (· ((conv => lhs; whnf) <;> rfl)))
  refine ow_buildSlice1 (vs := [.int .i64 0]) H rfl (tyAt rfl) rfl (tyAt rfl) rfl rfl rfl rfl rfl (by simp [Value.one]) (fun by1 w H => ?_)
  have hz := H.rowSl (i := 0) rfl
  skip
  refine ow_call rfl rfl (ent (by kernel_rfl)) (CallsV.mono (mendNo_spec g ms [0] (some ⟨by1, 0, none⟩) 1 4 (by decide) (by rw [h4]; exact z1) _ (hGr (pre := [_, _, _, _, _]) H) hz) ?_) rfl
  rintro v w ⟨rfl, H'⟩
  replace H : St Pu w0 w ([.row by1 3 [.int .i64 0], .app q2 4 c2 3 1 (ints .i64 m2), .row bz 3 [.int .i64 0, .int .i64 0, .int .i64 0, .int .i64 0], .app q1 m1.length c1 3 1 (ints .i64 m1), .row b6 81 (rfV x rows)] ++ RR) [] := H.call H'
  clear H' hz
  (apply ow_move; (· rfl); (· ((conv => lhs; whnf) <;> rfl)))
  refine ow_extract rfl rfl rfl ?_
  refine ow_extract rfl rfl rfl ?_
  (apply ow_assign; (· rfl); (· ((conv => lhs; whnf) <;> rfl)))
  (apply ow_assign; (· rfl); (· ((conv => lhs; whnf) <;> rfl)))
  refine ow_nil ?_
  refine wc_seq ?_
  refine wc_region ?_
  (apply ow_move; (· rfl); (· ((conv => lhs; whnf) <;> rfl)))
  refine ow_eql rfl rfl rfl ?_
  (apply ow_move; (· rfl); (· ((conv => lhs; whnf) <;> rfl)))
  refine ow_guard_yes rfl rfl rfl rfl ?_
  (apply ow_move; (· rfl); (· ((conv => lhs; whnf) <;> rfl)))
  refine ow_guard_yes rfl rfl rfl rfl ?_
  refine ow_eql rfl rfl rfl ?_
  (apply ow_pick_t; (· rfl); (· rfl); (· ((conv => lhs; whnf) <;> rfl)))
  (apply ow_move; (· rfl); (· ((conv => lhs; whnf) <;> rfl)))
  refine ow_guard_yes rfl rfl rfl rfl ?_
  refine ow_loadA (l := rfV x rows) rfl (tyAt rfl) rfl rfl rfl (H.cells (i := 4) (o := 0) (m := 2) rfl rfl) ?_
  refine ow_guard_yes rfl rfl rfl rfl ?_
  (apply ow_move; (· rfl); (· ((conv => lhs; whnf) <;> rfl)))
  refine ow_guard_yes rfl rfl rfl rfl ?_
  refine ow_call rfl rfl (ent (by kernel_rfl)) (CallsV.mono (good_spec x rows m1 q1 c1 2 (by omega) (by omega) hxm _ (hRf (pre := [_, _, _, _, _]) H) (appOk.sl (H.cap (i := 3) rfl))) ?_) rfl
  rintro v w ⟨rfl, H'⟩
  replace H : St Pu w0 w ([.row by1 3 [.int .i64 0], .app q2 4 c2 3 1 (ints .i64 m2), .row bz 3 [.int .i64 0, .int .i64 0, .int .i64 0, .int .i64 0], .app q1 m1.length c1 3 1 (ints .i64 m1), .row b6 81 (rfV x rows)] ++ RR) [] := H.call H'
  clear H'
  rw [decide_eq_true hgd]
  (apply ow_pick_t; (· rfl); (· rfl); (· ((conv => lhs; whnf) <;> rfl)))
  (apply ow_move; (· rfl); (· ((conv => lhs; whnf) <;> rfl)))
  refine ow_guard_yes rfl rfl rfl rfl ?_
  refine ow_loadA (l := rfV x rows) rfl (tyAt rfl) rfl rfl rfl (H.cells (i := 4) (o := 0) (m := 2) rfl rfl) ?_
  refine ow_guard_yes rfl rfl rfl rfl ?_
  (apply ow_move; (· rfl); (· ((conv => lhs; whnf) <;> rfl)))
  refine ow_guard_yes rfl rfl rfl rfl ?_
  have hgs := fun w hR hs => good_spec x rows m2 q2 c2 4 (by omega) (by omega) hxm w hR hs
  rw [hml2] at hgs
  refine ow_call rfl rfl (ent (by kernel_rfl)) (CallsV.mono (hgs _ (hRf (pre := [_, _, _, _, _]) H) (appOk.sl (H.cap (i := 1) rfl))) ?_) rfl
  rintro v w ⟨rfl, H'⟩
  replace H : St Pu w0 w ([.row by1 3 [.int .i64 0], .app q2 4 c2 3 1 (ints .i64 m2), .row bz 3 [.int .i64 0, .int .i64 0, .int .i64 0, .int .i64 0], .app q1 m1.length c1 3 1 (ints .i64 m1), .row b6 81 (rfV x rows)] ++ RR) [] := H.call H'
  clear H' hgs
  rw [decide_eq_true hgd2]
  (apply ow_pick_t; (· rfl); (· rfl); (· ((conv => lhs; whnf) <;> rfl)))
  (apply ow_move; (· rfl); (· ((conv => lhs; whnf) <;> rfl)))
  refine ow_guard_yes rfl rfl rfl rfl ?_
  (apply ow_move; (· rfl); (· ((conv => lhs; whnf) <;> rfl)))
  refine ow_guard_yes rfl rfl rfl rfl ?_
  refine ow_eql rfl rfl rfl ?_
  (apply ow_pick_t; (· rfl); (· rfl); (· ((conv => lhs; whnf) <;> rfl)))
  (apply ow_move; (· rfl); (· ((conv => lhs; whnf) <;> rfl)))
  refine ow_guard_yes rfl rfl rfl rfl ?_
  (apply ow_move; (· rfl); (· ((conv => lhs; whnf) <;> rfl)))
  refine ow_guard_yes rfl rfl rfl rfl ?_
  refine ow_eql rfl rfl rfl ?_
  (apply ow_pick_t; (· rfl); (· rfl); (· ((conv => lhs; whnf) <;> rfl)))
  (apply ow_move; (· rfl); (· ((conv => lhs; whnf) <;> rfl)))
  refine ow_guard_yes rfl rfl rfl rfl ?_
  (apply ow_move; (· rfl); (· ((conv => lhs; whnf) <;> rfl)))
  refine ow_guard_yes rfl rfl rfl rfl ?_
  refine ow_call rfl rfl (ent (by kernel_rfl)) (CallsV.mono (groupsW_spec q1 c1 m1 2 9 (by decide) (by omega) _ (appOk.sl (H.cap (i := 3) rfl))) ?_) rfl
  rintro v w ⟨z, qo, co, rfl, _, hzl, H'⟩
  replace H := H.call H'
  clear H'
  rw [hzl]
  refine ow_guard_yes rfl rfl rfl rfl ?_
  refine ow_len rfl rfl (tyAt rfl) rfl ?_
  refine ow_guard_yes rfl rfl rfl rfl ?_
  refine ow_eql rfl rfl rfl ?_
  (apply ow_pick_t; (· rfl); (· rfl); (· ((conv => lhs; whnf) <;> rfl)))
  (apply ow_assign; (· rfl); (· ((conv => lhs; whnf) <;> rfl)))
  refine ow_nil ?_
  refine wc_ret ?_
  obtain ⟨w, hT, H⟩ := H.takes Try.prog
  refine ⟨.inr rfl, w, hT, _, .tmp .nil, ?_⟩
  exact ⟨rfl, H.none⟩
end Go.Proofs.Ytnkjhmfliinnoaa

