/- The statement's function 'sandtabletop.WholeHalves' returns true at every input, and changes nothing that was there. -/
import Derived.Test.YtnkjhmfliinnoaaW1
namespace Go.Proofs.Ytnkjhmfliinnoaa
set_option linter.all false
open Go Go.Sx Go.Proofs
set_option maxRecDepth 100000
set_option maxHeartbeats 2000000
theorem liftL_len3 (q a : List Int) : (liftL q a).length = a.length := by unfold liftL; rw [List.length_map]
theorem lift_right3 {m ws p : List Int} {k : Int} (hR : RightP m) (hl : m.length = ws.length) (h : CutR (nwL m ws).length p k) : CutR ws.length (liftL p (inL m ws)) k := ⟨h.1, by rw [liftL_len3, inL_len hR, hl], fun j hj => by
  rw [liftL_len3] at hj
  have hi := inL_in (ws := ws) hR j hj
  unfold inR at hi
  rw [liftL_at hj]
  exact h.2.2 _ (by rw [h.2.1]; omega)⟩
theorem lift_cut3 {m ws p : List Int} {T : List IE} (hW : Wf T) (hTl : T.length = ws.length) (hR : RightP m) (hl : m.length = ws.length) (h0 : (ShJ ws m T).1 = 0) : cutM (ShJ ws m T).2 p = cutM T (liftL p (inL m ws)) := by
  unfold ShJ at h0 ⊢
  rw [sh_cut (inL_in hR) (edgesT T) (fun x hx => ?_) h0, ← cut_mat hW]
  · rfl
  · have := edges_in hW hx
    rw [inL_len hR, hl, ← hTl]
    exact ⟨this.1, this.2.1⟩
theorem halve_right {T : List IE} {ws : List Int} (h0 : ∀ z ∈ ws, mayW z) (most : Int) : CutR T.length (halveL T ws most) 2 := by
  have h := gi_all (T := T) (ws := ws) (fun j _ => (ws_nn h0 j).1) most T.length
  exact ⟨by unfold mayK; decide, h.len, fun j hj => by
    have := h.val j (by rw [← h.len]; exact hj)
    show ¬ badP 2 ((halveL T ws most).getD j 0)
    unfold badP
    change (halveL T ws most).getD j 0 = 0 ∨ (halveL T ws most).getD j 0 = 1 at this
    omega⟩
theorem law08Halves (q q2 : Option Addr) (cap cap2 : Nat) (ws js : List Int) (most : Int) (hmo : -9223372036854775808 ≤ most ∧ most ≤ 9223372036854775807) (hm : ws.length ≤ 9223372036854775807) (hm2 : js.length ≤ 9223372036854775807) (w0 : World) (hq : SlH (hp w0) q (ints .i64 ws)) (hq2 : SlH (hp w0) q2 (ints .i64 js)) :
    CallsV Try.prog 4 #[.slice q ws.length cap, .slice q2 js.length cap2, .int .i64 most] w0 fun v w => v = .bool true ∧ St Pu w0 w [] [] := by
  refine callsV_of Try.func4 rfl rfl ?_
  refine wc_seq ?_
  refine wc_region ?_
  (apply ow_assign; (· rfl); (· ((conv => lhs; whnf) <;> rfl)))
  refine ow_nil ?_
  refine wc_seq ?_
  refine wc_seq ?_
  refine wc_region ?_
  refine ow_call rfl rfl (ent (by kernel_rfl)) (CallsV.mono (sound08 w0) ?_) rfl
  rintro v w ⟨rfl, H⟩
  refine ow_not rfl rfl ?_
  refine ow_nil ?_
  refine wc_cond_false rfl ?_
  refine wc_skip ?_
  refine wc_seq ?_
  refine wc_region ?_
  (apply ow_move; (· rfl); (· ((conv => lhs; whnf) <;> rfl)))
  (apply ow_move; (· rfl); (· ((conv => lhs; whnf) <;> rfl)))
  refine ow_call rfl rfl (ent (by kernel_rfl)) (CallsV.mono (mesh_spec q q2 cap cap2 ws js hm hm2 w (H.oldSl hq) (H.oldSl hq2)) ?_) rfl
  rintro v w (⟨rfl, H'⟩ | ⟨g, ms, rfl, rfl, h24, hmay, hW, hn, H'⟩)
  · replace H := H.call H'
    clear H'
    (apply ow_assign; (· rfl); (· ((conv => lhs; whnf) <;> rfl)))
    refine ow_nil ?_
    refine wc_seq ?_
    refine wc_seq ?_
    refine wc_region ?_
    (apply ow_move; (· rfl); (· ((conv => lhs; whnf) <;> rfl)))
    refine ow_eqlPn rfl rfl rfl (tyAt rfl) rfl ?_
    refine ow_nil ?_
    refine wc_cond_true rfl ?_
    refine wc_seq ?_
    refine wc_region ?_
    (apply ow_assign; (· rfl); (· ((conv => lhs; whnf) <;> rfl)))
    refine ow_nil ?_
    refine wc_ret ?_
    obtain ⟨w, hT, H⟩ := H.takes Try.prog
    refine ⟨.inr rfl, w, hT, _, .tmp .nil, ?_⟩
    exact ⟨rfl, H.none⟩
  replace H : St Pu w0 w ([] ++ (grC g ms ++ [])) [] := H.call H'
  clear H'
  obtain ⟨RR, hRR⟩ : ∃ RR, grC g ms ++ [] = RR := ⟨_, rfl⟩
  have hGr : ∀ {w : World} {pre : List Cap}, St Pu w0 w (pre ++ RR) [] → Gr (hp w) g ms := fun H => gr_of_ok fun c hc => okAll H c (List.mem_append_right _ (by rw [← hRR]; exact List.mem_append_left _ hc))
  rw [hRR] at H
  clear hRR
  have hTl : (tb ms).length = g.ws.length := by rw [tb_len, hn]
  have hnn : ∀ j, 0 ≤ g.ws.getD j 0 := fun j => (ws_nn hmay j).1
  have hRh : CutR g.ws.length (halveL (tb ms) g.ws most) 2 := by rw [← hTl]; exact halve_right hmay most
  (apply ow_assign; (· rfl); (· ((conv => lhs; whnf) <;> rfl)))
  refine ow_nil ?_
  refine wc_seq ?_
  refine wc_seq ?_
  refine wc_region ?_
  (apply ow_move; (· rfl); (· ((conv => lhs; whnf) <;> rfl)))
  refine ow_eqlPn rfl rfl rfl (tyAt rfl) rfl ?_
  refine ow_nil ?_
  refine wc_cond_false rfl ?_
  refine wc_skip ?_
  refine wc_seq ?_
  refine wc_region ?_
  (apply ow_move; (· rfl); (· ((conv => lhs; whnf) <;> rfl)))
  (apply ow_move; (· rfl); (· ((conv => lhs; whnf) <;> rfl)))
  refine ow_call rfl rfl (ent (by kernel_rfl)) (CallsV.mono (halve_spec g ms most hn (by omega) hmay hW hmo _ (hGr H)) ?_) rfl
  rintro v w ⟨bh, rfl, H'⟩
  obtain ⟨hv, hvd⟩ : ∃ hv, halveL (tb ms) g.ws most = hv := ⟨_, rfl⟩
  rw [hvd] at H' hRh ⊢
  have hvl := hRh.2.1
  replace H : St Pu w0 w ([.row bh 3 (ints .i64 hv)] ++ RR) [] := H.call H'
  clear H'
  (apply ow_assign; (· rfl); (· ((conv => lhs; whnf) <;> rfl)))
  refine ow_nil ?_
  refine wc_seq ?_
  refine wc_region ?_
  (apply ow_move; (· rfl); (· ((conv => lhs; whnf) <;> rfl)))
  (apply ow_move; (· rfl); (· ((conv => lhs; whnf) <;> rfl)))
  refine ow_call rfl rfl (ent (by kernel_rfl)) (CallsV.mono (weights_spec g ms hv (some ⟨bh, 0, none⟩) hv.length 2 (by omega) hmay hn (by omega) _ (hGr H) (H.rowSl (i := 0) rfl)) ?_) rfl
  rintro v w hh
  obtain ⟨_, bw, rfl, H'⟩ := hh.resolve_left (fun h => h.1 hRh)
  clear hh
  have hw0 := wtAt_in (p := hv) hmay 0 hv.length
  have hw1 := wtAt_in (p := hv) hmay 1 hv.length
  have hWl := wtL_len g.ws hv 2 hv.length
  have hWa := wtL_at (ws := g.ws) (p := hv) (k := 2) (i := hv.length) (j := 0) (by omega)
  have hWb := wtL_at (ws := g.ws) (p := hv) (k := 2) (i := hv.length) (j := 1) (by omega)
  obtain ⟨W, hWd⟩ : ∃ W, wtL g.ws hv 2 hv.length = W := ⟨_, rfl⟩
  obtain ⟨wa, hwa⟩ : ∃ wa, wtAt g.ws hv 0 hv.length = wa := ⟨_, rfl⟩
  obtain ⟨wb, hwb⟩ : ∃ wb, wtAt g.ws hv 1 hv.length = wb := ⟨_, rfl⟩
  rw [hWd] at H' hWl hWa hWb
  rw [hwa] at hw0 hWa
  rw [hwb] at hw1 hWb
  replace H : St Pu w0 w ([.row bw 2 (ints .i64 W), .row bh 3 (ints .i64 hv)] ++ RR) [] := H.call H'
  clear H'
  (apply ow_assign; (· rfl); (· ((conv => lhs; whnf) <;> rfl)))
  refine ow_nil ?_
  refine wc_seq ?_
  refine wc_seq ?_
  refine wc_region ?_
  (apply ow_move; (· rfl); (· ((conv => lhs; whnf) <;> rfl)))
  refine ow_len rfl rfl (tyAt rfl) rfl ?_
  refine ow_neq rfl rfl rfl ?_
  refine ow_nil ?_
  refine wc_cond_false rfl ?_
  refine wc_skip ?_
  refine wc_seq ?_
  refine wc_drawK (fun w => St Pu w0 w [.row bw 2 (ints .i64 W)] []) 10 (by kernel_rfl) (by kernel_rfl) (by intro c e D w h; first | exact h.elim | (rcases h with ⟨h | h, _⟩ <;> cases h)) ?_
  replace H := H.drew
  have G := H
  replace H := H.only (i := 0) rfl
  apply ak_take (i := 0) rfl rfl rfl rfl (by kernel_rfl) (by with_reducible first | exact H | rfl)
  · intro w Q' HS hq; replace H := HS; clear HS; (apply ow_move; (· rfl); (· ((conv => lhs; whnf) <;> rfl))); exact ow_nil hq
  apply ak_take (i := 1) rfl rfl rfl rfl (by kernel_rfl) (by with_reducible first | exact H | rfl)
  · intro w Q' HS hq; replace H := HS; clear HS; refine ow_idx1 (j := 0) rfl (tyAt rfl) rfl (tyAt rfl) rfl rfl rfl (by omega) rfl ?_; exact ow_nil hq
  apply ak_take (i := 2) rfl rfl rfl rfl (by kernel_rfl) (by with_reducible first | exact H | rfl)
  · intro w Q' HS hq; replace H := HS; clear HS; refine ow_load rfl (tyAt rfl) rfl rfl (v := .int .i64 wa) (by rw [← hWa]; exact SlH.int (H.rowSl (i := 0) rfl) (by omega)) ?_; exact ow_nil hq
  apply ak_take (i := 3) rfl rfl rfl rfl (by kernel_rfl) (by with_reducible first | exact H | rfl)
  · intro w Q' HS hq; replace H := HS; clear HS; refine ow_add rfl rfl rfl (by simp only [InK]; omega) ?_; exact ow_nil hq
  apply ak_take (i := 4) rfl rfl rfl rfl (by kernel_rfl) (by with_reducible first | exact H | rfl)
  · intro w Q' HS hq; replace H := HS; clear HS; (apply ow_move; (· rfl); (· ((conv => lhs; whnf) <;> rfl))); exact ow_nil hq
  apply ak_take (i := 5) rfl rfl rfl rfl (by kernel_rfl) (by with_reducible first | exact H | rfl)
  · intro w Q' HS hq; replace H := HS; clear HS; refine ow_idx1 (j := 1) rfl (tyAt rfl) rfl (tyAt rfl) rfl rfl rfl (by omega) rfl ?_; exact ow_nil hq
  apply ak_take (i := 6) rfl rfl rfl rfl (by kernel_rfl) (by with_reducible first | exact H | rfl)
  · intro w Q' HS hq; replace H := HS; clear HS; refine ow_load rfl (tyAt rfl) rfl rfl (v := .int .i64 wb) (by rw [← hWb]; exact SlH.int (H.rowSl (i := 0) rfl) (by omega)) ?_; exact ow_nil hq
  apply ak_take (i := 7) rfl rfl rfl rfl (by kernel_rfl) (by with_reducible first | exact H | rfl)
  · intro w Q' HS hq; replace H := HS; clear HS; refine ow_add rfl rfl rfl (by simp only [InK]; omega) ?_; exact ow_nil hq
  apply ak_take (i := 8) rfl rfl rfl rfl (by kernel_rfl) (by with_reducible first | exact H | rfl)
  · intro w Q' HS hq; replace H := HS; clear HS; refine ow_buildArr (l := bdV (wa + 5, wb + 3)) (vs := [(0, .int .i64 (wa + 5)), (1, .int .i64 (wb + 3))]) rfl (tyAt rfl) rfl (tyAt rfl) rfl rfl ?_; exact ow_nil hq
  replace H := G
  clear G
  apply ak_one (i := 9)
  · kernel_rfl
  · rfl
  · rfl
  refine ow_alloc (l := [.int .i64 0, .int .i64 0]) H rfl (tyAt rfl) rfl (fun b10 w H => ?_)
  refine ow_nil ⟨fun _ => H.only (i := 1) rfl, ?_⟩
  apply ak_one (i := 10)
  · kernel_rfl
  · rfl
  · rfl
  refine ow_storeA (i := 0) (o := 0) (l' := bdV (wa + 5, wb + 3)) H (tyAt rfl) rfl rfl rfl rfl (by simp [Value.oneCell']) (by simp) (fun w H => ?_)
  refine ow_nil ⟨fun h => (by cases h), ?_⟩
  refine ak_done (by kernel_rfl) ?_
  replace H : St Pu w0 w ([.row b10 34 (bdV (wa + 5, wb + 3)), .row bw 2 (ints .i64 W), .row bh 3 (ints .i64 hv)] ++ RR) [] := H
  have hpr := refine_prop hW hnn (bd := (wa + 5, wb + 3)) (two_of hRh) (by rw [hvl, hTl])
  have hRf : CutR g.ws.length (refineL (tb ms) g.ws (wa + 5, wb + 3) hv) 2 := cutR_of hpr.1 (by rw [hpr.2.1, hTl])
  have hpp := pass_prop hW hnn (bd := (wa + 5, wb + 3)) (two_of hRh) (by rw [hvl, hTl])
  have hcl := hpr.2.2.1
  have hgn := hpp.gain
  have hg0 := hpp.nn
  have hf0 := hpr.2.2.2 0 (by omega) (by rw [hwa]; show wa ≤ wa + 5; omega)
  have hf1 := hpr.2.2.2 1 (by omega) (by rw [hwb]; show wb ≤ wb + 3; omega)
  replace hf0 : wtAt g.ws (refineL (tb ms) g.ws (wa + 5, wb + 3) hv) 0 hv.length ≤ wa + 5 := hf0
  replace hf1 : wtAt g.ws (refineL (tb ms) g.ws (wa + 5, wb + 3) hv) 1 hv.length ≤ wb + 3 := hf1
  refine wc_seq ?_
  refine wc_region ?_
  (apply ow_move; (· rfl); (· ((conv => lhs; whnf) <;> rfl)))
  (apply ow_move; (· rfl); (· ((conv => lhs; whnf) <;> rfl)))
  refine ow_loadA (l := bdV (wa + 5, wb + 3)) rfl (tyAt rfl) rfl rfl rfl (H.cells (i := 0) (o := 0) (m := 2) rfl rfl) ?_
  skip
  refine ow_call rfl rfl (ent (by kernel_rfl)) (CallsV.mono (refine_spec g ms hv (some ⟨bh, 0, none⟩) hv.length (wa + 5, wb + 3) (by omega) hmay hn (by omega) hW _ (hGr H) (H.rowSl (i := 2) rfl)) ?_) rfl
  rintro v w ⟨q4, c4, rfl, hrl, H'⟩
  obtain ⟨rf, hrf⟩ : ∃ rf, refineL (tb ms) g.ws (wa + 5, wb + 3) hv = rf := ⟨_, rfl⟩
  rw [hrf] at H' hRf hcl hf0 hf1 hrl
  replace H : St Pu w0 w ([.app q4 hv.length c4 3 1 (ints .i64 rf), .row b10 34 (bdV (wa + 5, wb + 3)), .row bw 2 (ints .i64 W), .row bh 3 (ints .i64 hv)] ++ RR) [] := H.call H'
  clear H' hpp hpr
  have hwt := fun w hG hs => weights_spec g ms rf q4 c4 2 (by omega) hmay hn (by omega) w hG hs
  rw [hrl] at hwt
  (apply ow_assign; (· rfl); (· ((conv => lhs; whnf) <;> rfl)))
  refine ow_nil ?_
  refine wc_seq ?_
  refine wc_region ?_
  (apply ow_move; (· rfl); (· ((conv => lhs; whnf) <;> rfl)))
  (apply ow_move; (· rfl); (· ((conv => lhs; whnf) <;> rfl)))
  refine ow_call rfl rfl (ent (by kernel_rfl)) (CallsV.mono (hwt _ (hGr H) (appOk.sl (H.cap (i := 0) rfl))) ?_) rfl
  clear hwt
  rintro v w hh
  obtain ⟨_, bv, rfl, H'⟩ := hh.resolve_left (fun h => h.1 hRf)
  clear hh
  have hVl := wtL_len g.ws rf 2 hv.length
  have hVa := wtL_at (ws := g.ws) (p := rf) (k := 2) (i := hv.length) (j := 0) (by omega)
  have hVb := wtL_at (ws := g.ws) (p := rf) (k := 2) (i := hv.length) (j := 1) (by omega)
  obtain ⟨V, hVd⟩ : ∃ V, wtL g.ws rf 2 hv.length = V := ⟨_, rfl⟩
  obtain ⟨va, hva⟩ : ∃ va, wtAt g.ws rf 0 hv.length = va := ⟨_, rfl⟩
  obtain ⟨vb, hvb⟩ : ∃ vb, wtAt g.ws rf 1 hv.length = vb := ⟨_, rfl⟩
  rw [hVd] at H' hVl hVa hVb
  rw [hva] at hVa hf0
  rw [hvb] at hVb hf1
  replace H : St Pu w0 w ([.row bv 2 (ints .i64 V), .app q4 hv.length c4 3 1 (ints .i64 rf), .row b10 34 (bdV (wa + 5, wb + 3)), .row bw 2 (ints .i64 W), .row bh 3 (ints .i64 hv)] ++ RR) [] := H.call H'
  clear H'
  have hct := fun w hG hs => cut_spec g ms rf q4 c4 2 (by omega) hn (by omega) hW w hG hs
  rw [if_pos hRf, hrl] at hct
  have hch := fun w hG hs => cut_spec g ms hv (some ⟨bh, 0, none⟩) hv.length 2 (by omega) hn (by omega) hW w hG hs
  rw [if_pos hRh] at hch
  (apply ow_assign; (· rfl); (· ((conv => lhs; whnf) <;> rfl)))
  refine ow_nil ?_
  refine wc_seq ?_
  refine wc_seq ?_
  refine wc_drawK (fun w => St Pu w0 w [.row bv 2 (ints .i64 V), .row b10 34 (bdV (wa + 5, wb + 3))] []) 99 (by kernel_rfl) (by kernel_rfl) (by intro c e D w h; first | exact h.elim | (rcases h with ⟨h | h, _⟩ <;> cases h)) ?_
  replace H := H.drew
  have G := H
  replace H := H.pickT (P := [_, _, _, _, _]) (P' := [.row bv 2 (ints .i64 V), .row b10 34 (bdV (wa + 5, wb + 3))]) [0, 2] rfl (by decide)
  replace H := H.sub (List.sublist_append_left _ _)
  apply ak_take (i := 0) rfl rfl rfl rfl (by kernel_rfl) (by with_reducible first | exact H | rfl)
  · intro w Q' HS hq; replace H := HS; clear HS; (apply ow_move; (· rfl); (· ((conv => lhs; whnf) <;> rfl))); exact ow_nil hq
  apply ak_take (i := 1) rfl rfl rfl rfl (by kernel_rfl) (by with_reducible first | exact H | rfl)
  · intro w Q' HS hq; replace H := HS; clear HS; refine ow_len rfl rfl (tyAt rfl) rfl ?_; exact ow_nil hq
  apply ak_take (i := 2) rfl rfl rfl rfl (by kernel_rfl) (by with_reducible first | exact H | rfl)
  · intro w Q' HS hq; replace H := HS; clear HS; refine ow_neq rfl rfl rfl ?_; exact ow_nil hq
  apply ak_take (i := 3) rfl rfl rfl rfl (by kernel_rfl) (by with_reducible first | exact H | rfl)
  · intro w Q' HS hq; replace H := HS; clear HS; (apply ow_move; (· rfl); (· ((conv => lhs; whnf) <;> rfl))); exact ow_nil hq
  refine ak_guard_dec (dj := 54) rfl (fun h => ?_) (fun h => ?_) <;> try dsimp only at h
  · exact absurd rfl h
  clear h
  apply ak_take (i := 4) rfl rfl rfl rfl (by kernel_rfl) (by with_reducible first | exact H | rfl)
  · intro w Q' HS hq; replace H := HS; clear HS; refine ow_guard_yes rfl rfl rfl rfl ?_; (apply ow_move; (· rfl); (· ((conv => lhs; whnf) <;> rfl))); exact ow_nil hq
  apply ak_take (i := 5) rfl rfl rfl rfl (by kernel_rfl) (by with_reducible first | exact H | rfl)
  · intro w Q' HS hq; replace H := HS; clear HS; refine ow_guard_yes rfl rfl rfl rfl ?_; refine ow_idx1 (j := 0) rfl (tyAt rfl) rfl (tyAt rfl) rfl rfl rfl (by omega) rfl ?_; exact ow_nil hq
  apply ak_take (i := 6) rfl rfl rfl rfl (by kernel_rfl) (by with_reducible first | exact H | rfl)
  · intro w Q' HS hq; replace H := HS; clear HS; refine ow_guard_yes rfl rfl rfl rfl ?_; refine ow_load rfl (tyAt rfl) rfl rfl (v := .int .i64 va) (by rw [← hVa]; exact SlH.int (H.rowSl (i := 0) rfl) (by omega)) ?_; exact ow_nil hq
  apply ak_take (i := 7) rfl rfl rfl rfl (by kernel_rfl) (by with_reducible first | exact H | rfl)
  · intro w Q' HS hq; replace H := HS; clear HS; refine ow_guard_yes rfl rfl rfl rfl ?_; refine ow_idxArr1 (j := 0) rfl (tyAt rfl) rfl (tyAt rfl) rfl rfl rfl (by omega) rfl ?_; exact ow_nil hq
  apply ak_take (i := 8) rfl rfl rfl rfl (by kernel_rfl) (by with_reducible first | exact H | rfl)
  · intro w Q' HS hq; replace H := HS; clear HS; refine ow_guard_yes rfl rfl rfl rfl ?_; refine ow_load rfl (tyAt rfl) rfl rfl (v := .int .i64 (wa + 5)) (H.cell (i := 1) (o := 0) rfl rfl) ?_; exact ow_nil hq
  apply ak_take (i := 9) rfl rfl rfl rfl (by kernel_rfl) (by with_reducible first | exact H | rfl)
  · intro w Q' HS hq; replace H := HS; clear HS; refine ow_guard_yes rfl rfl rfl rfl ?_; refine ow_gtr rfl rfl rfl ?_; exact ow_nil hq
  apply ak_take (i := 10) rfl rfl rfl rfl (by kernel_rfl) (by with_reducible first | exact H | rfl)
  · intro w Q' HS hq; replace H := HS; clear HS; (apply ow_pick_f; (· rfl); (· rfl); (· ((conv => lhs; whnf) <;> rfl))); exact ow_nil hq
  apply ak_take (i := 11) rfl rfl rfl rfl (by kernel_rfl) (by with_reducible first | exact H | rfl)
  · intro w Q' HS hq; replace H := HS; clear HS; (apply ow_move; (· rfl); (· ((conv => lhs; whnf) <;> rfl))); exact ow_nil hq
  refine ak_guard_dec (dj := 62) rfl (fun h => ?_) (fun h => ?_) <;> try dsimp only at h
  · omega
  clear h
  apply ak_take (i := 12) rfl rfl rfl rfl (by kernel_rfl) (by with_reducible first | exact H | rfl)
  · intro w Q' HS hq; replace H := HS; clear HS; refine ow_guard_yes rfl rfl rfl rfl ?_; (apply ow_move; (· rfl); (· ((conv => lhs; whnf) <;> rfl))); exact ow_nil hq
  apply ak_take (i := 13) rfl rfl rfl rfl (by kernel_rfl) (by with_reducible first | exact H | rfl)
  · intro w Q' HS hq; replace H := HS; clear HS; refine ow_guard_yes rfl rfl rfl rfl ?_; refine ow_idx1 (j := 1) rfl (tyAt rfl) rfl (tyAt rfl) rfl rfl rfl (by omega) rfl ?_; exact ow_nil hq
  apply ak_take (i := 14) rfl rfl rfl rfl (by kernel_rfl) (by with_reducible first | exact H | rfl)
  · intro w Q' HS hq; replace H := HS; clear HS; refine ow_guard_yes rfl rfl rfl rfl ?_; refine ow_load rfl (tyAt rfl) rfl rfl (v := .int .i64 vb) (by rw [← hVb]; exact SlH.int (H.rowSl (i := 0) rfl) (by omega)) ?_; exact ow_nil hq
  apply ak_take (i := 15) rfl rfl rfl rfl (by kernel_rfl) (by with_reducible first | exact H | rfl)
  · intro w Q' HS hq; replace H := HS; clear HS; refine ow_guard_yes rfl rfl rfl rfl ?_; refine ow_idxArr1 (j := 1) rfl (tyAt rfl) rfl (tyAt rfl) rfl rfl rfl (by omega) rfl ?_; exact ow_nil hq
  apply ak_take (i := 16) rfl rfl rfl rfl (by kernel_rfl) (by with_reducible first | exact H | rfl)
  · intro w Q' HS hq; replace H := HS; clear HS; refine ow_guard_yes rfl rfl rfl rfl ?_; refine ow_load rfl (tyAt rfl) rfl rfl (v := .int .i64 (wb + 3)) (H.cell (i := 1) (o := 1) rfl rfl) ?_; exact ow_nil hq
  apply ak_take (i := 17) rfl rfl rfl rfl (by kernel_rfl) (by with_reducible first | exact H | rfl)
  · intro w Q' HS hq; replace H := HS; clear HS; refine ow_guard_yes rfl rfl rfl rfl ?_; refine ow_gtr rfl rfl rfl ?_; exact ow_nil hq
  apply ak_take (i := 18) rfl rfl rfl rfl (by kernel_rfl) (by with_reducible first | exact H | rfl)
  · intro w Q' HS hq; replace H := HS; clear HS; (apply ow_pick_f; (· rfl); (· rfl); (· ((conv => lhs; whnf) <;> rfl))); exact ow_nil hq
  apply ak_take (i := 19) rfl rfl rfl rfl (by kernel_rfl) (by with_reducible first | exact H | rfl)
  · intro w Q' HS hq; replace H := HS; clear HS; (apply ow_move; (· rfl); (· ((conv => lhs; whnf) <;> rfl))); exact ow_nil hq
  refine ak_guard_dec (dj := 70) rfl (fun h => ?_) (fun h => ?_) <;> try dsimp only at h
  · omega
  clear h
  apply ak_take (i := 20) rfl rfl rfl rfl (by kernel_rfl) (by with_reducible first | exact H | rfl)
  · intro w Q' HS hq; replace H := HS; clear HS; refine ow_guard_yes rfl rfl rfl rfl ?_; (apply ow_move; (· rfl); (· ((conv => lhs; whnf) <;> rfl))); exact ow_nil hq
  apply ak_take (i := 21) rfl rfl rfl rfl (by kernel_rfl) (by with_reducible first | exact H | rfl)
  · intro w Q' HS hq; replace H := HS; clear HS; refine ow_guard_yes rfl rfl rfl rfl ?_; (apply ow_move; (· rfl); (· ((conv => lhs; whnf) <;> rfl))); exact ow_nil hq
  apply ak_take (i := 23) rfl rfl rfl rfl (by kernel_rfl) (by with_reducible first | exact H | rfl)
  · intro w Q' HS hq; replace H := HS; clear HS; refine ow_guard_yes rfl rfl rfl rfl ?_; (apply ow_move; (· rfl); (· ((conv => lhs; whnf) <;> rfl))); exact ow_nil hq
  apply ak_take (i := 24) rfl rfl rfl rfl (by kernel_rfl) (by with_reducible first | exact H | rfl)
  · intro w Q' HS hq; replace H := HS; clear HS; refine ow_guard_yes rfl rfl rfl rfl ?_; (apply ow_move; (· rfl); (· ((conv => lhs; whnf) <;> rfl))); exact ow_nil hq
  replace H := G
  clear G
  apply ak_one (i := 22)
  · kernel_rfl
  · rfl
  · rfl
  refine ow_guard_yes rfl rfl rfl rfl ?_
  refine ow_call rfl rfl (ent (by kernel_rfl)) (CallsV.mono (hct _ (hGr H) (appOk.sl (H.cap (i := 1) rfl))) ?_) rfl
  rintro v w ⟨rfl, H'⟩
  replace H : St Pu w0 w ([.row bv 2 (ints .i64 V), .app q4 hv.length c4 3 1 (ints .i64 rf), .row b10 34 (bdV (wa + 5, wb + 3)), .row bw 2 (ints .i64 W), .row bh 3 (ints .i64 hv)] ++ RR) [] := H.call H'
  clear H' hct
  refine ow_nil ⟨fun _ => (H.pickT (P := [_, _, _, _, _]) (P' := [.row bv 2 (ints .i64 V), .row b10 34 (bdV (wa + 5, wb + 3))]) [0, 2] rfl (by decide)).sub (List.sublist_append_left _ _), ?_⟩
  apply ak_one (i := 25)
  · kernel_rfl
  · rfl
  · rfl
  refine ow_guard_yes rfl rfl rfl rfl ?_
  refine ow_call rfl rfl (ent (by kernel_rfl)) (CallsV.mono (hch _ (hGr H) (H.rowSl (i := 4) rfl)) ?_) rfl
  rintro v w ⟨rfl, H'⟩
  replace H : St Pu w0 w ([.row bv 2 (ints .i64 V), .app q4 hv.length c4 3 1 (ints .i64 rf), .row b10 34 (bdV (wa + 5, wb + 3)), .row bw 2 (ints .i64 W), .row bh 3 (ints .i64 hv)] ++ RR) [] := H.call H'
  clear H' hch
  refine ow_nil ⟨fun _ => (H.pickT (P := [_, _, _, _, _]) (P' := [.row bv 2 (ints .i64 V), .row b10 34 (bdV (wa + 5, wb + 3))]) [0, 2] rfl (by decide)).sub (List.sublist_append_left _ _), ?_⟩
  have G := H
  replace H := (H.pickT (P := [_, _, _, _, _]) (P' := [.row bv 2 (ints .i64 V), .row b10 34 (bdV (wa + 5, wb + 3))]) [0, 2] rfl (by decide)).sub (List.sublist_append_left _ _)
  apply ak_take (i := 26) rfl rfl rfl rfl (by kernel_rfl) (by with_reducible first | exact H | rfl)
  · intro w Q' HS hq; replace H := HS; clear HS; refine ow_guard_yes rfl rfl rfl rfl ?_; refine ow_gtr rfl rfl rfl ?_; exact ow_nil hq
  apply ak_take (i := 27) rfl rfl rfl rfl (by kernel_rfl) (by with_reducible first | exact H | rfl)
  · intro w Q' HS hq; replace H := HS; clear HS; (apply ow_pick_f; (· rfl); (· rfl); (· ((conv => lhs; whnf) <;> rfl))); exact ow_nil hq
  replace H := G
  clear G
  refine ak_done (by kernel_rfl) ?_
  replace H : St Pu w0 w ([] ++ RR) [] := H.sub (List.sublist_append_right _ _)
  skip
  refine wc_cond_dec rfl (fun h => ?_) (fun h => ?_) <;> try dsimp only at h
  · omega
  clear h
  clear hgn hg0 hcl hVa hVb hVl hWl hWa hWb hf0 hf1
  have hmr := (heavy_hi hW).rt
  have hmll : (heavyL (tb ms)).length = g.ws.length := by rw [heavyL_len]; exact hTl
  refine wc_skip ?_
  refine wc_seq ?_
  refine wc_region ?_
  (apply ow_move; (· rfl); (· ((conv => lhs; whnf) <;> rfl)))
  (apply ow_move; (· rfl); (· ((conv => lhs; whnf) <;> rfl)))
  refine ow_call rfl rfl (ent (by kernel_rfl)) (CallsV.mono (heavy_spec g ms hn (by omega) hW _ (hGr H)) ?_) rfl
  rintro v w ⟨by1, rfl, H'⟩
  replace H : St Pu w0 w ([.row by1 3 (ints .i64 (heavyL (tb ms)))] ++ RR) [] := H.call H'
  clear H'
  skip
  refine ow_call rfl rfl (ent (by kernel_rfl)) (CallsV.mono (shrink_spec g ms (heavyL (tb ms)) (some ⟨by1, 0, none⟩) _ (by omega) hn hmay (by omega) hW _ (hGr H) (H.rowSl (i := 0) rfl)) ?_) rfl
  rintro v w (⟨f, rfl, hE, H'⟩ | ⟨g', ms', bi, rfl, hO, hgw, htb, H'⟩)
  · have hf := hE.1
    replace H := H.call H'
    clear H'
    (apply ow_move; (· rfl); (· ((conv => lhs; whnf) <;> rfl)))
    refine ow_extract rfl rfl rfl ?_
    refine ow_extract rfl rfl rfl ?_
    refine ow_extract rfl rfl rfl ?_
    (apply ow_assign; (· rfl); (· ((conv => lhs; whnf) <;> rfl)))
    (apply ow_assign; (· rfl); (· ((conv => lhs; whnf) <;> rfl)))
    (apply ow_assign; (· rfl); (· ((conv => lhs; whnf) <;> rfl)))
    refine ow_nil ?_
    refine wc_seq ?_
    refine wc_seq ?_
    refine wc_region ?_
    (apply ow_move; (· rfl); (· ((conv => lhs; whnf) <;> rfl)))
    refine ow_neq rfl rfl rfl ?_
    refine ow_nil ?_
    refine wc_cond_dec rfl (fun h => ?_) (fun h => ?_) <;> try dsimp only at h
    · refine wc_seq ?_
      refine wc_region ?_
      (apply ow_assign; (· rfl); (· ((conv => lhs; whnf) <;> rfl)))
      refine ow_nil ?_
      refine wc_ret ?_
      obtain ⟨w, hT, H⟩ := H.takes Try.prog
      refine ⟨.inr rfl, w, hT, _, .tmp .nil, ?_⟩
      exact ⟨rfl, H.none⟩
    · exact absurd h (by omega)
  obtain ⟨a, had⟩ : ∃ a, inL (heavyL (tb ms)) g.ws = a := ⟨_, rfl⟩
  have hal := inL_len (ws := g.ws) hmr
  have hain := inL_in (ws := g.ws) hmr
  have hnl := nwL_le (ws := g.ws) hmr
  have hmay' : ∀ z ∈ g'.ws, mayW z := by rw [hgw]; exact hO.2.1
  have hshw := shJ_wf (n := (nwL (heavyL (tb ms)) g.ws).length) (a := inL (heavyL (tb ms)) g.ws) (edgesT (tb ms))
  have hW' : Wf (tb ms') := by rw [htb]; exact hshw.1
  have hn' : ms'.length = g'.ws.length := by rw [← tb_len, htb, hgw]; exact hshw.2
  have hTl' : (tb ms').length = g'.ws.length := by rw [tb_len, hn']
  have hcut := fun p => lift_cut3 (p := p) hW hTl hmr hmll hO.2.2
  have hlr := fun p (h : CutR g'.ws.length p 2) => lift_right3 (p := p) (k := 2) hmr hmll (by rw [← hgw]; exact h)
  have hRh' : CutR g'.ws.length (halveL (tb ms') g'.ws most) 2 := by rw [← hTl']; exact halve_right hmay' most
  rw [← hgw] at hain hnl
  rw [← htb] at hcut
  rw [had] at hal hain hcut hlr
  rw [hmll] at hal hnl
  replace H : St Pu w0 w ([.row bi 3 (ints .i64 (inL (heavyL (tb ms)) g.ws)), .row by1 3 (ints .i64 (heavyL (tb ms)))] ++ (grC g' ms' ++ RR)) [] := (H.call H').perm (List.Perm.append_left [_] (List.perm_append_comm_assoc (grC g' ms') [_] RR))
  clear H' hO hgw htb hshw
  rw [had] at H
  rw [hmll]
  have hGr' : ∀ {w : World} {pre : List Cap}, St Pu w0 w (pre ++ (grC g' ms' ++ RR)) [] → Gr (hp w) g' ms' := fun H => gr_atR H
  have hGr2 : ∀ {w : World} {pre : List Cap}, St Pu w0 w (pre ++ (grC g' ms' ++ RR)) [] → Gr (hp w) g ms := fun {w pre} H => hGr (pre := pre ++ grC g' ms') (by rw [List.append_assoc]; exact H)
  obtain ⟨R2, hR2⟩ : ∃ R2, grC g' ms' ++ RR = R2 := ⟨_, rfl⟩
  rw [hR2] at H
  simp only [hR2] at hGr' hGr2
  obtain ⟨hv', hvd'⟩ : ∃ hv', halveL (tb ms') g'.ws most = hv' := ⟨_, rfl⟩
  have hhs := fun w hG => halve_spec g' ms' most hn' (by omega) hmay' hW' hmo w hG
  rw [hvd'] at hhs hRh'
  have hvl' := hRh'.2.1
  (apply ow_move; (· rfl); (· ((conv => lhs; whnf) <;> rfl)))
  refine ow_extract rfl rfl rfl ?_
  refine ow_extract rfl rfl rfl ?_
  refine ow_extract rfl rfl rfl ?_
  (apply ow_assign; (· rfl); (· ((conv => lhs; whnf) <;> rfl)))
  (apply ow_assign; (· rfl); (· ((conv => lhs; whnf) <;> rfl)))
  (apply ow_assign; (· rfl); (· ((conv => lhs; whnf) <;> rfl)))
  refine ow_nil ?_
  refine wc_seq ?_
  refine wc_seq ?_
  refine wc_region ?_
  (apply ow_move; (· rfl); (· ((conv => lhs; whnf) <;> rfl)))
  refine ow_neq rfl rfl rfl ?_
  refine ow_nil ?_
  refine wc_cond_false rfl ?_
  refine wc_skip ?_
  refine wc_seq ?_
  refine wc_region ?_
  (apply ow_move; (· rfl); (· ((conv => lhs; whnf) <;> rfl)))
  (apply ow_move; (· rfl); (· ((conv => lhs; whnf) <;> rfl)))
  refine ow_call rfl rfl (ent (by kernel_rfl)) (CallsV.mono (hhs _ (hGr' H)) ?_) rfl
  clear hhs
  rintro v w ⟨bh2, rfl, H'⟩
  replace H : St Pu w0 w ([.row bh2 3 (ints .i64 hv'), .row bi 3 (ints .i64 a), .row by1 3 (ints .i64 (heavyL (tb ms)))] ++ R2) [] := H.call H'
  clear H'
  have hlf := fun w h1 h2 => lift_spec hv' a (some ⟨bh2, 0, none⟩) (some ⟨bi, 0, none⟩) hv'.length a.length (by omega) (by omega) w h1 h2
  rw [hal] at hlf
  (apply ow_assign; (· rfl); (· ((conv => lhs; whnf) <;> rfl)))
  refine ow_nil ?_
  refine wc_seq ?_
  refine wc_region ?_
  (apply ow_move; (· rfl); (· ((conv => lhs; whnf) <;> rfl)))
  (apply ow_move; (· rfl); (· ((conv => lhs; whnf) <;> rfl)))
  refine ow_call rfl rfl (ent (by kernel_rfl)) (CallsV.mono (hlf _ (H.rowSl (i := 0) rfl) (H.rowSl (i := 1) rfl)) ?_) rfl
  clear hlf
  rintro v w hh
  obtain ⟨_, bl, rfl, H'⟩ := hh.resolve_left (fun h => h.1 (by unfold liftOk; rw [hvl']; exact hain))
  clear hh
  replace H : St Pu w0 w ([.row bl 3 (ints .i64 (liftL hv' a)), .row bh2 3 (ints .i64 hv'), .row bi 3 (ints .i64 a), .row by1 3 (ints .i64 (heavyL (tb ms)))] ++ R2) [] := H.call H'
  clear H'
  have hRl := hlr hv' hRh'
  have hll := hRl.2.1
  have hc1 := fun w hG hs => cut_spec g ms (liftL hv' a) (some ⟨bl, 0, none⟩) g.ws.length 2 (by omega) hn (by omega) hW w hG hs
  rw [if_pos hRl, hll, ← hcut] at hc1
  have hc2 := fun w hG hs => cut_spec g' ms' hv' (some ⟨bh2, 0, none⟩) hv'.length 2 (by omega) hn' (by omega) hW' w hG hs
  rw [if_pos hRh'] at hc2
  (apply ow_move; (· rfl); (· ((conv => lhs; whnf) <;> rfl)))
  refine ow_extract rfl rfl rfl ?_
  refine ow_extract rfl rfl rfl ?_
  (apply ow_assign; (· rfl); (· ((conv => lhs; whnf) <;> rfl)))
  (apply ow_assign; (· rfl); (· ((conv => lhs; whnf) <;> rfl)))
  refine ow_nil ?_
  refine wc_seq ?_
  refine wc_region ?_
  (apply ow_move; (· rfl); (· ((conv => lhs; whnf) <;> rfl)))
  refine ow_eql rfl rfl rfl ?_
  (apply ow_move; (· rfl); (· ((conv => lhs; whnf) <;> rfl)))
  refine ow_guard_yes rfl rfl rfl rfl ?_
  (apply ow_move; (· rfl); (· ((conv => lhs; whnf) <;> rfl)))
  refine ow_guard_yes rfl rfl rfl rfl ?_
  (apply ow_move; (· rfl); (· ((conv => lhs; whnf) <;> rfl)))
  refine ow_guard_yes rfl rfl rfl rfl ?_
  refine ow_call rfl rfl (ent (by kernel_rfl)) (CallsV.mono (hc1 _ (hGr2 H) (H.rowSl (i := 0) rfl)) ?_) rfl
  rintro v w ⟨rfl, H'⟩
  replace H : St Pu w0 w ([.row bl 3 (ints .i64 (liftL hv' a)), .row bh2 3 (ints .i64 hv'), .row bi 3 (ints .i64 a), .row by1 3 (ints .i64 (heavyL (tb ms)))] ++ R2) [] := H.call H'
  clear H'
  refine ow_guard_yes rfl rfl rfl rfl ?_
  (apply ow_move; (· rfl); (· ((conv => lhs; whnf) <;> rfl)))
  refine ow_guard_yes rfl rfl rfl rfl ?_
  (apply ow_move; (· rfl); (· ((conv => lhs; whnf) <;> rfl)))
  refine ow_guard_yes rfl rfl rfl rfl ?_
  refine ow_call rfl rfl (ent (by kernel_rfl)) (CallsV.mono (hc2 _ (hGr' H) (H.rowSl (i := 1) rfl)) ?_) rfl
  rintro v w ⟨rfl, H'⟩
  replace H := H.call H'
  clear H'
  refine ow_guard_yes rfl rfl rfl rfl ?_
  refine ow_eql rfl rfl rfl ?_
  (apply ow_pick_t; (· rfl); (· rfl); (· ((conv => lhs; whnf) <;> rfl)))
  (apply ow_assign; (· rfl); (· ((conv => lhs; whnf) <;> rfl)))
  refine ow_nil ?_
  rw [decide_eq_true (rfl : cutM (tb ms') hv' = cutM (tb ms') hv')]
  skip
  refine wc_ret ?_
  obtain ⟨w, hT, H⟩ := H.takes Try.prog
  refine ⟨.inr rfl, w, hT, _, .tmp .nil, ?_⟩
  exact ⟨rfl, H.none⟩
end Go.Proofs.Ytnkjhmfliinnoaa

