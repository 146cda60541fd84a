/- Graphs: alive of the statements of layer 8: function 40. -/
import Derived.Test.YtgliblmpiilloaaG5
namespace Go.Proofs.Ytgliblmpiilloaa
set_option linter.all false
open Go Go.Sx Go.Proofs
set_option maxRecDepth 100000
set_option maxHeartbeats 2000000
theorem joinN_wf {T : List IE} (hW : Wf T) {n : Nat} (hl : T.length = n) (a b z : Int) : Wf (joinN T n a b z).2 ∧ (joinN T n a b z).2.length = n := by
  unfold joinN
  split
  · rename_i h
    obtain ⟨ha, hb, hab⟩ := h
    unfold inR at ha hb
    split
    · rename_i hz
      exact ⟨joinT_wf hW (by omega) (by omega) (by omega) hz.2, by rw [joinT_len, hl]⟩
    · exact ⟨hW, hl⟩
  · exact ⟨hW, hl⟩
theorem ms_len {ms : List MpT} {n : Nat} (h : (tb ms).length = n) : ms.length = n := by rw [← tb_len]; exact h
theorem alive08 (w0 : World) : CallsV Try.prog 40 #[] w0 fun v w => v = .bool true ∧ St Pu w0 w [] [] := by
  refine callsV_of Try.func40 rfl rfl ?_
  have H := St.init w0
  refine wc_seq ?_
  refine wc_region ?_
  (apply ow_assign; (· rfl); (· ((conv => lhs; whnf) <;> rfl)))
  refine ow_nil ?_
  refine wc_seq ?_
  refine wc_region ?_
  refine ow_buildSlice1 (vs := [.int .i64 1, .int .i64 2]) H rfl (tyAt rfl) rfl (tyAt rfl) rfl rfl rfl rfl rfl (by simp [Value.one]) (fun b w H => ?_)
  have hb := H.rowSl (i := 0) rfl
  replace H := H.none
  refine ow_call rfl rfl (ent (by kernel_rfl)) (CallsV.mono (new_spec (some ⟨b, 0, none⟩) 2 [1, 2] (by simp) w hb) ?_) rfl
  rintro v w (⟨_, h, _⟩ | ⟨_, _, ⟨x, hx, h⟩, _⟩ | ⟨⟨gb, pw, cw, pn, cn, ws⟩, ms, rfl, hgw, h4, hmay, htb, H'⟩)
  · exact absurd h (by decide)
  · exfalso
    simp at hx
    rcases hx with rfl | rfl
    · exact h (by decide)
    · exact h (by decide)
  dsimp only at hgw
  subst hgw
  replace H := H.call H'
  clear H' hb
  have hW : Wf [[], []] := wf_nil 2
  replace htb : tb ms = [[], []] := htb
  (apply ow_move; (· rfl); (· ((conv => lhs; whnf) <;> rfl)))
  refine ow_extract rfl rfl rfl ?_
  refine ow_extract rfl rfl rfl ?_
  (apply ow_assign; (· rfl); (· ((conv => lhs; whnf) <;> rfl)))
  (apply ow_assign; (· rfl); (· ((conv => lhs; whnf) <;> rfl)))
  refine ow_nil ?_
  refine wc_seq ?_
  refine wc_region ?_
  refine ow_buildSlice1 (vs := [.int .i64 0]) H rfl (tyAt rfl) rfl (tyAt rfl) rfl rfl rfl rfl rfl (by simp [Value.one]) (fun b w H => ?_)
  have hb := H.rowSl (i := 0) rfl
  replace H := H.drop
  refine ow_call rfl rfl (ent (by kernel_rfl)) (CallsV.mono (new_spec (some ⟨b, 0, none⟩) 1 [0] (by simp) w hb) ?_) rfl
  rintro v w (⟨_, h, _⟩ | ⟨rfl, _, _, H'⟩ | ⟨_, _, _, _, _, h, _⟩)
  · exact absurd h (by decide)
  · replace H := H.call H'
    rw [List.nil_append] at H
    clear H' hb
    (apply ow_move; (· rfl); (· ((conv => lhs; whnf) <;> rfl)))
    refine ow_extract rfl rfl rfl ?_
    refine ow_extract rfl rfl rfl ?_
    (apply ow_assign; (· rfl); (· ((conv => lhs; whnf) <;> rfl)))
    (apply ow_assign; (· rfl); (· ((conv => lhs; whnf) <;> rfl)))
    refine ow_nil ?_
    refine wc_seq ?_
    refine wc_seq ?_
    refine wc_region ?_
    (apply ow_move; (· rfl); (· ((conv => lhs; whnf) <;> rfl)))
    refine ow_eqlPn rfl rfl rfl (tyAt rfl) rfl ?_
    refine ow_nil ?_
    refine wc_cond_false rfl ?_
    refine wc_skip ?_
    refine wc_seq ?_
    refine wc_region ?_
    (apply ow_move; (· rfl); (· ((conv => lhs; whnf) <;> rfl)))
    refine ow_call rfl rfl (ent (by kernel_rfl)) (CallsV.mono (join_gspec ⟨gb, pw, cw, pn, cn, [1, 2]⟩ ms 0 1 3 (ms_len (by rw [htb]; rfl)) (by simp) (by rw [htb]; exact hW) _ H.begin) ?_) rfl
    rintro v w ⟨rfl, ms, htb', H'⟩
    replace H := H.callC (fun _ h => h) H'
    clear H'
    have hW' := (joinN_wf hW (n := 2) rfl 0 1 3).1
    rw [htb, show (joinN [[], []] (GX.mk gb pw cw pn cn [1, 2]).ws.length 0 1 3).2 = [[(1, 3)], [(0, 3)]] from (show (joinN [[], []] 2 0 1 3).2 = [[(1, 3)], [(0, 3)]] by decide)] at htb'
    rw [show (joinN [[], []] 2 0 1 3).2 = [[(1, 3)], [(0, 3)]] by decide] at hW'
    rw [htb, show (joinN [[], []] (GX.mk gb pw cw pn cn [1, 2]).ws.length 0 1 3).1 = 0 from (show (joinN [[], []] 2 0 1 3).1 = 0 by decide)]
    clear hW htb
    have hW := hW'
    have htb := htb'
    clear hW' htb'
    (apply ow_move; (· rfl); (· ((conv => lhs; whnf) <;> rfl)))
    refine ow_call rfl rfl (ent (by kernel_rfl)) (CallsV.mono (join_gspec ⟨gb, pw, cw, pn, cn, [1, 2]⟩ ms 1 0 4 (ms_len (by rw [htb]; rfl)) (by simp) (by rw [htb]; exact hW) _ H.begin) ?_) rfl
    rintro v w ⟨rfl, ms, htb', H'⟩
    replace H := H.callC (fun _ h => h) H'
    clear H'
    have hW' := (joinN_wf hW (n := 2) rfl 1 0 4).1
    rw [htb, show (joinN [[(1, 3)], [(0, 3)]] (GX.mk gb pw cw pn cn [1, 2]).ws.length 1 0 4).2 = [[(1, 7)], [(0, 7)]] from (show (joinN [[(1, 3)], [(0, 3)]] 2 1 0 4).2 = [[(1, 7)], [(0, 7)]] by decide)] at htb'
    rw [show (joinN [[(1, 3)], [(0, 3)]] 2 1 0 4).2 = [[(1, 7)], [(0, 7)]] by decide] at hW'
    rw [htb, show (joinN [[(1, 3)], [(0, 3)]] (GX.mk gb pw cw pn cn [1, 2]).ws.length 1 0 4).1 = 0 from (show (joinN [[(1, 3)], [(0, 3)]] 2 1 0 4).1 = 0 by decide)]
    clear hW htb
    have hW := hW'
    have htb := htb'
    clear hW' htb'
    (apply ow_move; (· rfl); (· ((conv => lhs; whnf) <;> rfl)))
    refine ow_call rfl rfl (ent (by kernel_rfl)) (CallsV.mono (join_gspec ⟨gb, pw, cw, pn, cn, [1, 2]⟩ ms 0 0 1 (ms_len (by rw [htb]; rfl)) (by simp) (by rw [htb]; exact hW) _ H.begin) ?_) rfl
    rintro v w ⟨rfl, ms, htb', H'⟩
    replace H := H.callC (fun _ h => h) H'
    clear H'
    have hW' := (joinN_wf hW (n := 2) rfl 0 0 1).1
    rw [htb, show (joinN [[(1, 7)], [(0, 7)]] (GX.mk gb pw cw pn cn [1, 2]).ws.length 0 0 1).2 = [[(1, 7)], [(0, 7)]] from (show (joinN [[(1, 7)], [(0, 7)]] 2 0 0 1).2 = [[(1, 7)], [(0, 7)]] by decide)] at htb'
    rw [show (joinN [[(1, 7)], [(0, 7)]] 2 0 0 1).2 = [[(1, 7)], [(0, 7)]] by decide] at hW'
    rw [htb, show (joinN [[(1, 7)], [(0, 7)]] (GX.mk gb pw cw pn cn [1, 2]).ws.length 0 0 1).1 = 1 from (show (joinN [[(1, 7)], [(0, 7)]] 2 0 0 1).1 = 1 by decide)]
    clear hW htb
    have hW := hW'
    have htb := htb'
    clear hW' htb'
    have hn : ms.length = (GX.mk gb pw cw pn cn [1, 2]).ws.length := ms_len (by rw [htb]; rfl)
    have hW2 : Wf (tb ms) := by rw [htb]; exact hW
    (apply ow_assign; (· rfl); (· ((conv => lhs; whnf) <;> rfl)))
    (apply ow_assign; (· rfl); (· ((conv => lhs; whnf) <;> rfl)))
    (apply ow_assign; (· rfl); (· ((conv => lhs; whnf) <;> rfl)))
    refine ow_nil ?_
    refine wc_seq ?_
    refine wc_seq ?_
    refine wc_region ?_
    (apply ow_move; (· rfl); (· ((conv => lhs; whnf) <;> rfl)))
    refine ow_call rfl rfl (ent (by kernel_rfl)) (CallsV.mono (between_spec ⟨gb, pw, cw, pn, cn, [1, 2]⟩ ms 0 1 hn (by simp) hW2 _ (gr_at H)) ?_) rfl
    rintro v w ⟨rfl, H'⟩
    replace H := H.call H'
    rw [List.nil_append] at H
    clear H'
    rw [htb, show btw [[(1, 7)], [(0, 7)]] 0 1 = 7 by decide]
    refine ow_neq rfl rfl rfl ?_
    refine ow_nil ?_
    refine wc_cond_false rfl ?_
    refine wc_skip ?_
    refine wc_seq ?_
    refine wc_region ?_
    (apply ow_move; (· rfl); (· ((conv => lhs; whnf) <;> rfl)))
    refine ow_eql rfl rfl rfl ?_
    (apply ow_move; (· rfl); (· ((conv => lhs; whnf) <;> rfl)))
    refine ow_guard_yes rfl rfl rfl rfl ?_
    (apply ow_move; (· rfl); (· ((conv => lhs; whnf) <;> rfl)))
    refine ow_guard_yes rfl rfl rfl rfl ?_
    refine ow_eql rfl rfl rfl ?_
    (apply ow_pick_t; (· rfl); (· rfl); (· ((conv => lhs; whnf) <;> rfl)))
    (apply ow_move; (· rfl); (· ((conv => lhs; whnf) <;> rfl)))
    refine ow_guard_yes rfl rfl rfl rfl ?_
    (apply ow_move; (· rfl); (· ((conv => lhs; whnf) <;> rfl)))
    refine ow_guard_yes rfl rfl rfl rfl ?_
    refine ow_eql rfl rfl rfl ?_
    (apply ow_pick_t; (· rfl); (· rfl); (· ((conv => lhs; whnf) <;> rfl)))
    (apply ow_move; (· rfl); (· ((conv => lhs; whnf) <;> rfl)))
    refine ow_guard_yes rfl rfl rfl rfl ?_
    (apply ow_move; (· rfl); (· ((conv => lhs; whnf) <;> rfl)))
    refine ow_guard_yes rfl rfl rfl rfl ?_
    refine ow_eql rfl rfl rfl ?_
    (apply ow_pick_t; (· rfl); (· rfl); (· ((conv => lhs; whnf) <;> rfl)))
    (apply ow_move; (· rfl); (· ((conv => lhs; whnf) <;> rfl)))
    refine ow_guard_yes rfl rfl rfl rfl ?_
    (apply ow_move; (· rfl); (· ((conv => lhs; whnf) <;> rfl)))
    refine ow_guard_yes rfl rfl rfl rfl ?_
    refine ow_eql rfl rfl rfl ?_
    (apply ow_pick_t; (· rfl); (· rfl); (· ((conv => lhs; whnf) <;> rfl)))
    (apply ow_move; (· rfl); (· ((conv => lhs; whnf) <;> rfl)))
    refine ow_guard_yes rfl rfl rfl rfl ?_
    (apply ow_move; (· rfl); (· ((conv => lhs; whnf) <;> rfl)))
    refine ow_guard_yes rfl rfl rfl rfl ?_
    refine ow_call rfl rfl (ent (by kernel_rfl)) (CallsV.mono (between_spec ⟨gb, pw, cw, pn, cn, [1, 2]⟩ ms 1 0 hn (by simp) hW2 _ (gr_at H)) ?_) rfl
    rintro v w ⟨rfl, H'⟩
    replace H := H.call H'
    rw [List.nil_append] at H
    clear H'
    rw [htb, show btw [[(1, 7)], [(0, 7)]] 1 0 = 7 by decide]
    refine ow_guard_yes rfl rfl rfl rfl ?_
    refine ow_eql rfl rfl rfl ?_
    (apply ow_pick_t; (· rfl); (· rfl); (· ((conv => lhs; whnf) <;> rfl)))
    (apply ow_move; (· rfl); (· ((conv => lhs; whnf) <;> rfl)))
    refine ow_guard_yes rfl rfl rfl rfl ?_
    (apply ow_move; (· rfl); (· ((conv => lhs; whnf) <;> rfl)))
    refine ow_guard_yes rfl rfl rfl rfl ?_
    refine ow_call rfl rfl (ent (by kernel_rfl)) (CallsV.mono (total_spec ⟨gb, pw, cw, pn, cn, [1, 2]⟩ ms (by simp) hmay _ (gr_at H)) ?_) rfl
    rintro v w' ⟨rfl, rfl⟩
    rw [show (GX.mk gb pw cw pn cn [1, 2]).ws.sum = 3 from (show ([1, 2] : List Int).sum = 3 by decide)]
    refine ow_guard_yes rfl rfl rfl rfl ?_
    refine ow_eql rfl rfl rfl ?_
    (apply ow_pick_t; (· rfl); (· rfl); (· ((conv => lhs; whnf) <;> rfl)))
    (apply ow_move; (· rfl); (· ((conv => lhs; whnf) <;> rfl)))
    refine ow_guard_yes rfl rfl rfl rfl ?_
    (apply ow_move; (· rfl); (· ((conv => lhs; whnf) <;> rfl)))
    refine ow_guard_yes rfl rfl rfl rfl ?_
    refine ow_call rfl rfl (ent (by kernel_rfl)) (CallsV.mono (weight_spec ⟨gb, pw, cw, pn, cn, [1, 2]⟩ ms 1 _ (gr_at H)) ?_) rfl
    rintro v w' ⟨rfl, rfl⟩
    rw [show wtG (GX.mk gb pw cw pn cn [1, 2]).ws 1 = 2 from (show wtG [1, 2] 1 = 2 by decide)]
    refine ow_guard_yes rfl rfl rfl rfl ?_
    refine ow_eql rfl rfl rfl ?_
    (apply ow_pick_t; (· rfl); (· rfl); (· ((conv => lhs; whnf) <;> rfl)))
    (apply ow_move; (· rfl); (· ((conv => lhs; whnf) <;> rfl)))
    refine ow_guard_yes rfl rfl rfl rfl ?_
    (apply ow_move; (· rfl); (· ((conv => lhs; whnf) <;> rfl)))
    refine ow_guard_yes rfl rfl rfl rfl ?_
    refine ow_call rfl rfl (ent (by kernel_rfl)) (CallsV.mono (degree_gspec ⟨gb, pw, cw, pn, cn, [1, 2]⟩ ms 0 hn (by simp) hW2 _ (gr_at H)) ?_) rfl
    rintro v w ⟨rfl, H'⟩
    replace H := H.call H'
    rw [List.nil_append] at H
    clear H'
    rw [htb, show degT [[(1, 7)], [(0, 7)]] 0 = 7 by decide]
    refine ow_guard_yes rfl rfl rfl rfl ?_
    refine ow_eql rfl rfl rfl ?_
    (apply ow_pick_t; (· rfl); (· rfl); (· ((conv => lhs; whnf) <;> rfl)))
    (apply ow_move; (· rfl); (· ((conv => lhs; whnf) <;> rfl)))
    refine ow_guard_yes rfl rfl rfl rfl ?_
    (apply ow_move; (· rfl); (· ((conv => lhs; whnf) <;> rfl)))
    refine ow_guard_yes rfl rfl rfl rfl ?_
    refine ow_call rfl rfl (ent (by kernel_rfl)) (CallsV.mono (lawEdges_spec ⟨gb, pw, cw, pn, cn, [1, 2]⟩ ms 9 hn (by simp) hW2 (by rw [htb]; decide) _ (gr_at H)) ?_) rfl
    rintro v w ⟨p', c', rfl, H'⟩
    replace H : St Pu w0 w (grC ⟨gb, pw, cw, pn, cn, [1, 2]⟩ ms ++ []) [] := (H.call H').drop
    clear H'
    rw [htb, show ((edgesT [[(1, 7)], [(0, 7)]]).take (9 : Int).toNat).length = 1 by decide]
    refine ow_guard_yes rfl rfl rfl rfl ?_
    refine ow_len rfl rfl (tyAt rfl) rfl ?_
    refine ow_guard_yes rfl rfl rfl rfl ?_
    refine ow_eql rfl rfl rfl ?_
    (apply ow_pick_t; (· rfl); (· rfl); (· ((conv => lhs; whnf) <;> rfl)))
    (apply ow_move; (· rfl); (· ((conv => lhs; whnf) <;> rfl)))
    refine ow_guard_yes rfl rfl rfl rfl ?_
    (apply ow_move; (· rfl); (· ((conv => lhs; whnf) <;> rfl)))
    refine ow_guard_yes rfl rfl rfl rfl ?_
    refine ow_call rfl rfl (ent (by kernel_rfl)) (CallsV.mono (lawNear_spec ⟨gb, pw, cw, pn, cn, [1, 2]⟩ ms 1 hn (by simp) hW2 _ (gr_at H)) ?_) rfl
    rintro v w ⟨p', c', rfl, H'⟩
    replace H : St Pu w0 w (grC ⟨gb, pw, cw, pn, cn, [1, 2]⟩ ms ++ []) [] := (H.call H').drop
    clear H'
    rw [htb, show (nearN [[(1, 7)], [(0, 7)]] 1).length = 1 by decide]
    refine ow_guard_yes rfl rfl rfl rfl ?_
    refine ow_len rfl rfl (tyAt rfl) rfl ?_
    refine ow_guard_yes rfl rfl rfl rfl ?_
    refine ow_eql rfl rfl rfl ?_
    (apply ow_pick_t; (· rfl); (· rfl); (· ((conv => lhs; whnf) <;> rfl)))
    (apply ow_move; (· rfl); (· ((conv => lhs; whnf) <;> rfl)))
    refine ow_guard_yes rfl rfl rfl rfl ?_
    (apply ow_move; (· rfl); (· ((conv => lhs; whnf) <;> rfl)))
    refine ow_guard_yes rfl rfl rfl rfl ?_
    refine ow_call rfl rfl (ent (by kernel_rfl)) (CallsV.mono (lawNear_spec ⟨gb, pw, cw, pn, cn, [1, 2]⟩ ms 5 hn (by simp) hW2 _ (gr_at H)) ?_) rfl
    rintro v w ⟨p', c', rfl, H'⟩
    replace H : St Pu w0 w (grC ⟨gb, pw, cw, pn, cn, [1, 2]⟩ ms ++ []) [] := (H.call H').drop
    clear H'
    rw [htb, show (nearN [[(1, 7)], [(0, 7)]] 5).length = 0 by decide]
    refine ow_guard_yes rfl rfl rfl rfl ?_
    refine ow_len rfl rfl (tyAt rfl) rfl ?_
    refine ow_guard_yes rfl rfl rfl rfl ?_
    refine ow_eql rfl rfl rfl ?_
    (apply ow_pick_t; (· rfl); (· rfl); (· ((conv => lhs; whnf) <;> rfl)))
    (apply ow_move; (· rfl); (· ((conv => lhs; whnf) <;> rfl)))
    refine ow_guard_yes rfl rfl rfl rfl ?_
    (apply ow_move; (· rfl); (· ((conv => lhs; whnf) <;> rfl)))
    refine ow_guard_yes rfl rfl rfl rfl ?_
    refine ow_call rfl rfl (ent (by kernel_rfl)) (CallsV.mono (glen_spec ⟨gb, pw, cw, pn, cn, [1, 2]⟩ ms _ (gr_at H)) ?_) rfl
    rintro v w' ⟨rfl, rfl⟩
    refine ow_guard_yes rfl rfl rfl rfl ?_
    refine ow_eql rfl rfl rfl ?_
    (apply ow_pick_t; (· rfl); (· rfl); (· ((conv => lhs; whnf) <;> rfl)))
    (apply ow_assign; (· rfl); (· ((conv => lhs; whnf) <;> rfl)))
    refine ow_nil ?_
    refine wc_ret ?_
    obtain ⟨w, hT, H⟩ := H.takes Try.prog
    refine ⟨.inr rfl, w, hT, _, .tmp .nil, ?_⟩
    exact ⟨rfl, H.none⟩
  · exfalso
    exact absurd (h 0 List.mem_cons_self) (by decide)
end Go.Proofs.Ytgliblmpiilloaa
