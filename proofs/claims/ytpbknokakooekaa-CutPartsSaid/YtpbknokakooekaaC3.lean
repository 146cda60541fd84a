/- Cut: alive of the statements of layer 9. -/
import Derived.Test.YtpbknokakooekaaCA
import Derived.Test.YtpbknokakooekaaGA
namespace Go.Proofs.Ytpbknokakooekaa
set_option linter.all false
open Go Go.Sx Go.Proofs
set_option maxRecDepth 100000
set_option maxHeartbeats 2000000
theorem cv09 : (if CutR 2 [0, 1] 2 then cutM [[(1, 7)], [(0, 7)]] [0, 1] else 0) = 7 := by decide
theorem cr091 : CutR 2 [0, 1] 2 := by decide
theorem cr092 : ¬ CutR 2 [0, 1] 1 := by decide
theorem wl09 : wtL [1, 2] [0, 1] 2 2 = [1, 2] := by decide
theorem gn09 : gainZ [[(1, 7)], [(0, 7)]] [0, 1] 2 0 1 = 7 := by decide
theorem bd09 : boundV [1, 2] 2 = 4 := by decide
theorem ft09 : fitsB [1, 2] [0, 1] 2 := by decide
theorem em09 : emU [0, 1] (4 : Int).toNat = [2, 3] := by decide
theorem alive09 (w0 : World) : CallsV Try.prog 49 #[] w0 fun v w => v = .bool true ∧ St Pu w0 w [] [] := by
  refine callsV_of Try.func49 rfl rfl ?_
  have H := St.init w0
  refine wc_seq ?_
  refine wc_region ?_
  (apply ow_assign; (· rfl); (· ((conv => lhs; whnf) <;> rfl)))
  refine ow_nil ?_
  refine wc_seq ?_
  refine wc_region ?_
  refine ow_buildSlice1 (vs := [.int .i64 1, .int .i64 2]) H rfl (tyAt rfl) rfl (tyAt rfl) rfl rfl rfl rfl rfl (by simp [Value.one]) (fun b w H => ?_)
  have hb := H.rowSl (i := 0) rfl
  replace H := H.none
  refine ow_call rfl rfl (ent (by kernel_rfl)) (CallsV.mono (new_spec (some ⟨b, 0, none⟩) 2 [1, 2] (by simp) w hb) ?_) rfl
  rintro v w (⟨_, h, _⟩ | ⟨_, _, ⟨x, hx, h⟩, _⟩ | ⟨⟨gb, pw, cw, pn, cn, ws⟩, ms, rfl, hgw, h4, hmay, htb, H'⟩)
  · exact absurd h (by decide)
  · exfalso
    simp at hx
    rcases hx with rfl | rfl
    · exact h (by decide)
    · exact h (by decide)
  dsimp only at hgw
  subst hgw
  replace H := H.call H'
  clear H' hb
  have hW : Wf [[], []] := wf_nil 2
  replace htb : tb ms = [[], []] := htb
  (apply ow_move; (· rfl); (· ((conv => lhs; whnf) <;> rfl)))
  refine ow_extract rfl rfl rfl ?_
  refine ow_extract rfl rfl rfl ?_
  (apply ow_assign; (· rfl); (· ((conv => lhs; whnf) <;> rfl)))
  (apply ow_assign; (· rfl); (· ((conv => lhs; whnf) <;> rfl)))
  refine ow_nil ?_
  refine wc_seq ?_
  refine wc_seq ?_
  refine wc_region ?_
  (apply ow_move; (· rfl); (· ((conv => lhs; whnf) <;> rfl)))
  refine ow_eqlPn rfl rfl rfl (tyAt rfl) rfl ?_
  (apply ow_move; (· rfl); (· ((conv => lhs; whnf) <;> rfl)))
  refine ow_guard_yes rfl rfl rfl rfl ?_
  (apply ow_move; (· rfl); (· ((conv => lhs; whnf) <;> rfl)))
  refine ow_guard_yes rfl rfl rfl rfl ?_
  refine ow_call rfl rfl (ent (by kernel_rfl)) (CallsV.mono (join_gspec ⟨gb, pw, cw, pn, cn, [1, 2]⟩ ms 0 1 7 (ms_len (by rw [htb]; rfl)) (by simp) (by rw [htb]; exact hW) _ H.begin) ?_) rfl
  rintro v w ⟨rfl, ms, htb', H'⟩
  replace H := H.callC (fun _ h => h) H'
  clear H'
  have hW' := (joinN_wf hW (n := 2) rfl 0 1 7).1
  rw [htb, show (joinN [[], []] (GX.mk gb pw cw pn cn [1, 2]).ws.length 0 1 7).2 = [[(1, 7)], [(0, 7)]] from (show (joinN [[], []] 2 0 1 7).2 = [[(1, 7)], [(0, 7)]] by decide)] at htb'
  rw [show (joinN [[], []] 2 0 1 7).2 = [[(1, 7)], [(0, 7)]] by decide] at hW'
  rw [htb, show (joinN [[], []] (GX.mk gb pw cw pn cn [1, 2]).ws.length 0 1 7).1 = 0 from (show (joinN [[], []] 2 0 1 7).1 = 0 by decide)]
  clear hW htb
  have hn : ms.length = (GX.mk gb pw cw pn cn [1, 2]).ws.length := ms_len (by rw [htb']; rfl)
  have hW2 : Wf (tb ms) := by rw [htb']; exact hW'
  refine ow_guard_yes rfl rfl rfl rfl ?_
  refine ow_neq rfl rfl rfl ?_
  (apply ow_pick_f; (· rfl); (· rfl); (· ((conv => lhs; whnf) <;> rfl)))
  refine ow_nil ?_
  refine wc_cond_false rfl ?_
  refine wc_skip ?_
  refine wc_seq ?_
  refine wc_region ?_
  refine ow_buildSlice1 (vs := [.int .i64 0, .int .i64 1]) H rfl (tyAt rfl) rfl (tyAt rfl) rfl rfl rfl rfl rfl (by simp [Value.one]) (fun b w H => ?_)
  have hG : ∀ {w : World} {pre : List Cap}, St Pu w0 w (pre ++ (grC ⟨gb, pw, cw, pn, cn, [1, 2]⟩ ms ++ [])) [] → Gr (hp w) ⟨gb, pw, cw, pn, cn, [1, 2]⟩ ms := fun H => gr_of_ok fun c hc => okAll H c (List.mem_append_right _ (List.mem_append_left _ hc))
  replace H : St Pu w0 w ([.row b 3 (ints .i64 [0, 1])] ++ (grC ⟨gb, pw, cw, pn, cn, [1, 2]⟩ ms ++ [])) [] := H
  (apply ow_assign; (· rfl); (· ((conv => lhs; whnf) <;> rfl)))
  refine ow_nil ?_
  refine wc_seq ?_
  refine wc_region ?_
  (apply ow_move; (· rfl); (· ((conv => lhs; whnf) <;> rfl)))
  (apply ow_move; (· rfl); (· ((conv => lhs; whnf) <;> rfl)))
  refine ow_call rfl rfl (ent (by kernel_rfl)) (CallsV.mono (weights_spec ⟨gb, pw, cw, pn, cn, [1, 2]⟩ ms [0, 1] (some ⟨b, 0, none⟩) _ 2 (by decide) hmay hn (by simp) _ (hG H) (H.rowSl (i := 0) rfl)) ?_) rfl
  rintro v w (⟨hno, _⟩ | ⟨_, bw, rfl, H'⟩)
  · exact absurd cr091 hno
  replace H : St Pu w0 w ([.row bw 2 (ints .i64 [1, 2]), .row b 3 (ints .i64 [0, 1])] ++ (grC ⟨gb, pw, cw, pn, cn, [1, 2]⟩ ms ++ [])) [] := H.call H'
  clear H'
  (apply ow_assign; (· rfl); (· ((conv => lhs; whnf) <;> rfl)))
  refine ow_nil ?_
  refine wc_seq ?_
  refine wc_seq ?_
  refine wc_region ?_
  (apply ow_move; (· rfl); (· ((conv => lhs; whnf) <;> rfl)))
  (apply ow_move; (· rfl); (· ((conv => lhs; whnf) <;> rfl)))
  refine ow_call rfl rfl (ent (by kernel_rfl)) (CallsV.mono (cut_spec ⟨gb, pw, cw, pn, cn, [1, 2]⟩ ms [0, 1] (some ⟨b, 0, none⟩) _ 2 (by decide) hn (by simp) hW2 _ (hG H) (H.rowSl (i := 1) rfl)) ?_) rfl
  rintro v w ⟨rfl, H'⟩
  replace H : St Pu w0 w ([.row bw 2 (ints .i64 [1, 2]), .row b 3 (ints .i64 [0, 1])] ++ (grC ⟨gb, pw, cw, pn, cn, [1, 2]⟩ ms ++ [])) [] := H.call H'
  clear H'
  rw [htb', show (if CutR (GX.mk gb pw cw pn cn [1, 2]).ws.length [0, 1] 2 then cutM [[(1, 7)], [(0, 7)]] [0, 1] else 0) = 7 from cv09]
  refine ow_neq rfl rfl rfl ?_
  (apply ow_move; (· rfl); (· ((conv => lhs; whnf) <;> rfl)))
  refine ow_guard_yes rfl rfl rfl rfl ?_
  (apply ow_move; (· rfl); (· ((conv => lhs; whnf) <;> rfl)))
  refine ow_guard_yes rfl rfl rfl rfl ?_
  refine ow_len rfl rfl (tyAt rfl) rfl ?_
  refine ow_guard_yes rfl rfl rfl rfl ?_
  refine ow_neq rfl rfl rfl ?_
  (apply ow_pick_f; (· rfl); (· rfl); (· ((conv => lhs; whnf) <;> rfl)))
  refine ow_nil ?_
  refine wc_cond_false rfl ?_
  refine wc_skip ?_
  refine wc_seq ?_
  refine wc_region ?_
  (apply ow_move; (· rfl); (· ((conv => lhs; whnf) <;> rfl)))
  refine ow_eql rfl rfl rfl ?_
  (apply ow_move; (· rfl); (· ((conv => lhs; whnf) <;> rfl)))
  refine ow_guard_yes rfl rfl rfl rfl ?_
  (apply ow_move; (· rfl); (· ((conv => lhs; whnf) <;> rfl)))
  refine ow_guard_yes rfl rfl rfl rfl ?_
  (apply ow_move; (· rfl); (· ((conv => lhs; whnf) <;> rfl)))
  refine ow_guard_yes rfl rfl rfl rfl ?_
  refine ow_call rfl rfl (ent (by kernel_rfl)) (CallsV.mono (cutRight_spec ⟨gb, pw, cw, pn, cn, [1, 2]⟩ ms [0, 1] (some ⟨b, 0, none⟩) _ 2 (by decide) _ (hG H) (H.rowSl (i := 1) rfl)) ?_) rfl
  rintro v w ⟨rfl, H'⟩
  replace H : St Pu w0 w ([.row bw 2 (ints .i64 [1, 2]), .row b 3 (ints .i64 [0, 1])] ++ (grC ⟨gb, pw, cw, pn, cn, [1, 2]⟩ ms ++ [])) [] := H.call H'
  clear H'
  rw [decide_eq_true (show CutR (GX.mk gb pw cw pn cn [1, 2]).ws.length [0, 1] 2 from cr091)]
  (apply ow_pick_t; (· rfl); (· rfl); (· ((conv => lhs; whnf) <;> rfl)))
  (apply ow_move; (· rfl); (· ((conv => lhs; whnf) <;> rfl)))
  refine ow_guard_yes rfl rfl rfl rfl ?_
  (apply ow_move; (· rfl); (· ((conv => lhs; whnf) <;> rfl)))
  refine ow_guard_yes rfl rfl rfl rfl ?_
  (apply ow_move; (· rfl); (· ((conv => lhs; whnf) <;> rfl)))
  refine ow_guard_yes rfl rfl rfl rfl ?_
  refine ow_call rfl rfl (ent (by kernel_rfl)) (CallsV.mono (cutRight_spec ⟨gb, pw, cw, pn, cn, [1, 2]⟩ ms [0, 1] (some ⟨b, 0, none⟩) _ 1 (by decide) _ (hG H) (H.rowSl (i := 1) rfl)) ?_) rfl
  rintro v w ⟨rfl, H'⟩
  replace H : St Pu w0 w ([.row bw 2 (ints .i64 [1, 2]), .row b 3 (ints .i64 [0, 1])] ++ (grC ⟨gb, pw, cw, pn, cn, [1, 2]⟩ ms ++ [])) [] := H.call H'
  clear H'
  rw [decide_eq_false (show ¬ CutR (GX.mk gb pw cw pn cn [1, 2]).ws.length [0, 1] 1 from cr092)]
  refine ow_guard_yes rfl rfl rfl rfl ?_
  refine ow_not rfl rfl ?_
  (apply ow_pick_t; (· rfl); (· rfl); (· ((conv => lhs; whnf) <;> rfl)))
  (apply ow_move; (· rfl); (· ((conv => lhs; whnf) <;> rfl)))
  refine ow_guard_yes rfl rfl rfl rfl ?_
  (apply ow_move; (· rfl); (· ((conv => lhs; whnf) <;> rfl)))
  refine ow_guard_yes rfl rfl rfl rfl ?_
  refine ow_idx1 (j := 1) rfl (tyAt rfl) rfl (tyAt rfl) rfl rfl rfl (by decide) rfl ?_
  refine ow_guard_yes rfl rfl rfl rfl ?_
  refine ow_load rfl (tyAt rfl) rfl rfl (H.cell (i := 0) rfl rfl) ?_
  refine ow_guard_yes rfl rfl rfl rfl ?_
  refine ow_eql rfl rfl rfl ?_
  (apply ow_pick_t; (· rfl); (· rfl); (· ((conv => lhs; whnf) <;> rfl)))
  (apply ow_move; (· rfl); (· ((conv => lhs; whnf) <;> rfl)))
  refine ow_guard_yes rfl rfl rfl rfl ?_
  (apply ow_move; (· rfl); (· ((conv => lhs; whnf) <;> rfl)))
  refine ow_guard_yes rfl rfl rfl rfl ?_
  (apply ow_move; (· rfl); (· ((conv => lhs; whnf) <;> rfl)))
  refine ow_guard_yes rfl rfl rfl rfl ?_
  refine ow_call rfl rfl (ent (by kernel_rfl)) (CallsV.mono (gain_spec ⟨gb, pw, cw, pn, cn, [1, 2]⟩ ms [0, 1] (some ⟨b, 0, none⟩) _ 2 0 1 (by decide) hn (by simp) hW2 _ (hG H) (H.rowSl (i := 1) rfl)) ?_) rfl
  rintro v w ⟨rfl, H'⟩
  replace H : St Pu w0 w ([.row bw 2 (ints .i64 [1, 2]), .row b 3 (ints .i64 [0, 1])] ++ (grC ⟨gb, pw, cw, pn, cn, [1, 2]⟩ ms ++ [])) [] := H.call H'
  clear H'
  rw [htb', gn09]
  refine ow_guard_yes rfl rfl rfl rfl ?_
  refine ow_eql rfl rfl rfl ?_
  (apply ow_pick_t; (· rfl); (· rfl); (· ((conv => lhs; whnf) <;> rfl)))
  (apply ow_move; (· rfl); (· ((conv => lhs; whnf) <;> rfl)))
  refine ow_guard_yes rfl rfl rfl rfl ?_
  (apply ow_move; (· rfl); (· ((conv => lhs; whnf) <;> rfl)))
  refine ow_guard_yes rfl rfl rfl rfl ?_
  refine ow_call rfl rfl (ent (by kernel_rfl)) (CallsV.mono (bound_spec ⟨gb, pw, cw, pn, cn, [1, 2]⟩ ms 2 (by simp) hmay _ (hG H)) ?_) rfl
  rintro v w ⟨rfl, H'⟩
  replace H : St Pu w0 w ([.row bw 2 (ints .i64 [1, 2]), .row b 3 (ints .i64 [0, 1])] ++ (grC ⟨gb, pw, cw, pn, cn, [1, 2]⟩ ms ++ [])) [] := H.call H'
  clear H'
  rw [show boundV (GX.mk gb pw cw pn cn [1, 2]).ws 2 = 4 from bd09]
  refine ow_guard_yes rfl rfl rfl rfl ?_
  refine ow_eql rfl rfl rfl ?_
  (apply ow_pick_t; (· rfl); (· rfl); (· ((conv => lhs; whnf) <;> rfl)))
  (apply ow_move; (· rfl); (· ((conv => lhs; whnf) <;> rfl)))
  refine ow_guard_yes rfl rfl rfl rfl ?_
  (apply ow_move; (· rfl); (· ((conv => lhs; whnf) <;> rfl)))
  refine ow_guard_yes rfl rfl rfl rfl ?_
  (apply ow_move; (· rfl); (· ((conv => lhs; whnf) <;> rfl)))
  refine ow_guard_yes rfl rfl rfl rfl ?_
  refine ow_call rfl rfl (ent (by kernel_rfl)) (CallsV.mono (fits_spec ⟨gb, pw, cw, pn, cn, [1, 2]⟩ ms [0, 1] (some ⟨b, 0, none⟩) _ 2 (by decide) hmay hn (by simp) _ (hG H) (H.rowSl (i := 1) rfl)) ?_) rfl
  rintro v w ⟨rfl, H'⟩
  replace H : St Pu w0 w ([.row bw 2 (ints .i64 [1, 2]), .row b 3 (ints .i64 [0, 1])] ++ (grC ⟨gb, pw, cw, pn, cn, [1, 2]⟩ ms ++ [])) [] := H.call H'
  clear H'
  rw [decide_eq_true (show fitsB (GX.mk gb pw cw pn cn [1, 2]).ws [0, 1] 2 from ft09)]
  (apply ow_pick_t; (· rfl); (· rfl); (· ((conv => lhs; whnf) <;> rfl)))
  (apply ow_move; (· rfl); (· ((conv => lhs; whnf) <;> rfl)))
  refine ow_guard_yes rfl rfl rfl rfl ?_
  (apply ow_move; (· rfl); (· ((conv => lhs; whnf) <;> rfl)))
  refine ow_guard_yes rfl rfl rfl rfl ?_
  refine ow_call rfl rfl (ent (by kernel_rfl)) (CallsV.mono (emptyW_spec (some ⟨b, 0, none⟩) _ [0, 1] 4 9 (by decide) (by decide) _ (H.rowSl (i := 1) rfl)) ?_) rfl
  rintro v w ⟨q1, c1, rfl, H'⟩
  replace H := (H.call H').none
  clear H'
  rw [em09]
  refine ow_guard_yes rfl rfl rfl rfl ?_
  refine ow_len rfl rfl (tyAt rfl) rfl ?_
  refine ow_guard_yes rfl rfl rfl rfl ?_
  refine ow_eql rfl rfl rfl ?_
  (apply ow_pick_t; (· rfl); (· rfl); (· ((conv => lhs; whnf) <;> rfl)))
  (apply ow_assign; (· rfl); (· ((conv => lhs; whnf) <;> rfl)))
  refine ow_nil ?_
  refine wc_ret ?_
  obtain ⟨w, hT, H⟩ := H.takes Try.prog
  refine ⟨.inr rfl, w, hT, _, .tmp .nil, ?_⟩
  exact ⟨rfl, H⟩
end Go.Proofs.Ytpbknokakooekaa

