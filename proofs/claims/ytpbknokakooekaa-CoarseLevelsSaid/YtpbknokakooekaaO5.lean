/- Coarse: alive of the statements of layer 11. -/
import Derived.Test.YtpbknokakooekaaO4
import Derived.Test.YtpbknokakooekaaB11
import Derived.Test.YtpbknokakooekaaGA
namespace Go.Proofs.Ytpbknokakooekaa
set_option linter.all false
open Go Go.Sx Go.Proofs
set_option maxRecDepth 100000
set_option maxHeartbeats 2000000
abbrev T11 : List IE := foldJ 3 [(0, 1, 3), (1, 2, 5)]
theorem hv11 : heavyL T11 = [1, 0, 2] := by decide
theorem rt11a : RightP [1, 0, 2] := by decide
theorem rt11b : RightP [1, 0] := by decide
theorem nw11 : nwL [1, 0, 2] [1, 1, 1] = [2, 1] := by decide
theorem in11 : inL [1, 0, 2] [1, 1, 1] = [0, 0, 1] := by decide
theorem sj11 : ShJ [1, 1, 1] [1, 0, 2] T11 = (0, [[(1, 5)], [(0, 5)]]) := by decide
theorem hv11b : heavyL [[(1, 5)], [(0, 5)]] = [1, 0] := by decide
theorem nw11b : nwL [1, 0] [2, 1] = [3] := by decide
theorem sj11b : ShJ [2, 1] [1, 0] [[(1, 5)], [(0, 5)]] = (0, [[]]) := by decide
theorem may21 : ∀ x ∈ ([2, 1] : List Int), mayW x := by decide
theorem may3 : ∀ x ∈ ([3] : List Int), mayW x := by decide
theorem ok11 : ShOk [1, 1, 1] [1, 0, 2] T11 := ⟨⟨rfl, rt11a⟩, by rw [nw11]; exact may21, by rw [sj11]⟩
theorem ok11b : ShOk [2, 1] [1, 0] [[(1, 5)], [(0, 5)]] := ⟨⟨rfl, rt11b⟩, by rw [nw11b]; exact may3, by rw [sj11b]⟩
theorem lo11 : liftOk [4, 7] [0, 0, 1] := by unfold liftOk inR; decide
theorem lo11b : ¬ liftOk [] [0, 0, 1] := fun h => absurd (h 0 (by decide)).2 (by decide)
theorem li11 : liftL [4, 7] [0, 0, 1] = [4, 4, 7] := by decide
theorem bt11 : btw [[(1, 5)], [(0, 5)]] 0 1 = 5 := by decide
theorem two11 {g : GX} {ms : List MpT} {z : List LvX} (hg : g.ws = [1, 1, 1]) (ht : tb ms = T11) (hc : Chn 1 g ms z) (he : z.length = (9 : Int).toNat ∨ ((z.length : Int) < 9 ∧ LvEnd 1 (lastG g ms z))) : z.length = 2 := by
  have hx0 : ∀ x, z[0]? = some x → x.g.ws = [2, 1] ∧ tb x.ms = [[(1, 5)], [(0, 5)]] := fun x hx => by
    have hs := hc 0 x hx
    have h1 := hs.ws
    have h2 := hs.tbx
    rw [List.take_zero] at h1 h2
    unfold hvP lastG at h1 h2
    simp only [List.foldl_nil] at h1 h2
    rw [hg, ht, hv11, nw11] at h1
    rw [hg, ht, hv11, sj11] at h2
    exact ⟨h1, h2⟩
  have hx1 : ∀ x, z[1]? = some x → x.g.ws = [3] := fun x hx => by
    have hl : 1 < z.length := (List.getElem?_eq_some_iff.1 hx).1
    obtain ⟨y, hy⟩ : ∃ y, z[0]? = some y := ⟨_, List.getElem?_eq_getElem (by omega)⟩
    obtain ⟨g1, g2⟩ := hx0 y hy
    have h1 := (hc 1 x hx).ws
    rw [take_snoc hy, lastG_snoc] at h1
    unfold hvP at h1
    simp only at h1
    rw [g1, g2, hv11b, nw11b] at h1
    exact h1
  match z, hc, he, hx0, hx1 with
  | [], _, he, _, _ =>
    exfalso
    rcases he with h | ⟨_, h⟩
    · exact absurd h (by decide)
    · unfold LvEnd lastG hvP at h
      simp only [List.foldl_nil] at h
      rw [hg, ht, hv11, nw11] at h
      rcases h with h | h | h
      · exact h (by decide)
      · exact h ok11
      · exact absurd h (by decide)
  | [x], _, he, hx0, _ =>
    exfalso
    obtain ⟨g1, g2⟩ := hx0 x rfl
    rcases he with h | ⟨_, h⟩
    · exact absurd h (show ¬ (1 : Nat) = 9 by decide)
    · unfold LvEnd lastG hvP at h
      simp only [List.foldl_cons, List.foldl_nil] at h
      rw [g1, g2, hv11b, nw11b] at h
      rcases h with h | h | h
      · exact h (by decide)
      · exact h ok11b
      · exact absurd h (by decide)
  | [x, y], _, _, _, _ => rfl
  | x :: y :: u :: r, hc, _, _, hx1 =>
    exfalso
    have h1 := hx1 y rfl
    have h2 := (hc 2 u rfl).more
    unfold lastG at h2
    simp only [List.take_succ_cons, List.take_zero, List.foldl_cons, List.foldl_nil] at h2
    rw [h1] at h2
    exact absurd h2 (by decide)
theorem alive11 (w0 : World) : CallsV Try.prog 33 #[] w0 fun v w => v = .bool true ∧ St Pu w0 w [] [] := by
  refine callsV_of Try.func33 rfl rfl ?_
  have H := St.init w0
  refine wc_seq ?_
  refine wc_region ?_
  (apply ow_assign; (· rfl); (· ((conv => lhs; whnf) <;> rfl)))
  refine ow_nil ?_
  refine wc_seq ?_
  refine wc_region ?_
  refine ow_buildSlice1 (vs := [.int .i64 1, .int .i64 1, .int .i64 1]) H rfl (tyAt rfl) rfl (tyAt rfl) rfl rfl rfl rfl rfl (by simp [Value.one]) (fun b w H => ?_)
  skip
  refine ow_build (l := opA (0, 1, 3)) (vs := [(0, .int .i64 0), (1, .int .i64 1), (2, .int .i64 3)]) rfl (tyAt rfl) rfl (.cons (tyAt rfl) (.cons (tyAt rfl) (.cons (tyAt rfl) .nil))) rfl rfl ?_
  skip
  refine ow_build (l := opA (1, 2, 5)) (vs := [(0, .int .i64 1), (1, .int .i64 2), (2, .int .i64 5)]) rfl (tyAt rfl) rfl (.cons (tyAt rfl) (.cons (tyAt rfl) (.cons (tyAt rfl) .nil))) rfl rfl ?_
  skip
  refine ow_buildSliceA (zs := [.int .i64 0, .int .i64 0, .int .i64 0, .int .i64 0, .int .i64 0, .int .i64 0]) (l := [((0 : Int), (1 : Int), (3 : Int)), (1, 2, 5)].flatMap opA) (vs := [(0, .agg ⟨opA (0, 1, 3)⟩), (1, .agg ⟨opA (1, 2, 5)⟩)]) H rfl (tyAt rfl) rfl (tyAt rfl) rfl rfl rfl (by kernel_rfl) rfl (fun bb w H => ?_)
  have hs1 := H.rowSl (i := 1) rfl
  have hs2 := H.rowSl (i := 0) rfl
  refine ow_call rfl rfl (ent (by kernel_rfl)) (CallsV.mono (build11_spec (some ⟨b, 0, none⟩) (some ⟨bb, 0, none⟩) 3 2 [1, 1, 1] [(0, 1, 3), (1, 2, 5)] (by decide) (by decide) w hs1 hs2) ?_) rfl
  rintro v w (⟨_, h, _⟩ | ⟨g, x, ms, rows, rfl, hgw, hxw, _, hmay, hW, hn, hF, hM, H'⟩)
  · exact absurd (show _ ∧ _ ∧ _ from ⟨by decide, by decide, by decide⟩) h
  replace H := (H.call H').sub (List.sublist_append_left _ _)
  clear H' hs1 hs2
  obtain ⟨V, hV⟩ : ∃ V, rfV x rows = V := ⟨_, rfl⟩
  have hVl : V.length = 2 := by rw [← hV]; rfl
  have hv1 : ∀ u ∈ V, u.oneCell' = true := by rw [← hV]; simp [Value.oneCell']
  obtain ⟨V1, V2, rfl⟩ : ∃ V1 V2, V = [V1, V2] := by
    match V, hVl with
    | [a, b], _ => exact ⟨a, b, rfl⟩
  replace hF : tb ms = T11 := hF
  rw [← hgw] at hmay hn
  have h4 : g.ws.length ≤ 4096 := by rw [hgw]; decide
  have hok : ShOk g.ws [1, 0, 2] (tb ms) := by rw [hgw, hF]; exact ok11
  have hgd : LvGood (g, ms) := ⟨hn, hmay, h4, hW⟩
  replace H := H.sub (List.sublist_append_left (grC g ms) _)
  replace H : St Pu w0 w ([] ++ (grC g ms ++ [])) [] := by rw [List.append_nil]; exact H
  (apply ow_move; (· rfl); (· ((conv => lhs; whnf) <;> rfl)))
  refine ow_extract rfl rfl rfl ?_
  refine ow_extract rfl rfl rfl ?_
  refine ow_extract rfl rfl rfl ?_
  refine ow_alloc (l := [.slice none 0 0, .slice none 0 0]) H rfl (tyAt rfl) rfl (fun bx w H => ?_)
  (apply ow_assign; (· rfl); (· ((conv => lhs; whnf) <;> rfl)))
  rw [hV]
  refine ow_storeA (i := 0) (o := 0) (l' := [V1, V2]) H (tyAt rfl) rfl rfl rfl rfl hv1 (by simp) (fun w H => ?_)
  replace H := H.drop
  (apply ow_assign; (· rfl); (· ((conv => lhs; whnf) <;> rfl)))
  refine ow_nil ?_
  refine wc_seq ?_
  refine wc_seq ?_
  refine wc_region ?_
  (apply ow_move; (· rfl); (· ((conv => lhs; whnf) <;> rfl)))
  refine ow_not rfl rfl ?_
  refine ow_nil ?_
  refine wc_cond_false rfl ?_
  refine wc_skip ?_
  refine wc_seq ?_
  refine wc_region ?_
  (apply ow_move; (· rfl); (· ((conv => lhs; whnf) <;> rfl)))
  refine ow_buildSlice1 (vs := [.int .i64 1, .int .i64 0, .int .i64 2]) H rfl (tyAt rfl) rfl (tyAt rfl) rfl rfl rfl rfl rfl (by simp [Value.one]) (fun b0 w H => ?_)
  refine ow_call rfl rfl (ent (by kernel_rfl)) (CallsV.mono (shrink_spec g ms [1, 0, 2] (some ⟨b0, 0, none⟩) 3 (by decide) hn hmay h4 hW w (gr_atR (L := [_]) H) (H.rowSl (i := 0) rfl)) ?_) rfl
  rintro v w (⟨f, _, hE, _⟩ | ⟨g', ms', bi, rfl, _, hgw', htb', H'⟩)
  · exact absurd hok hE.no
  replace H := H.call H'
  clear H'
  rw [hgw, nw11] at hgw'
  rw [hgw, hF, sj11] at htb'
  replace htb' : tb ms' = [[(1, 5)], [(0, 5)]] := htb'
  rw [hgw, in11] at H
  have hn' : ms'.length = g'.ws.length := by rw [← tb_len, htb', hgw']; rfl
  have hW' : Wf (tb ms') := by
    have := shJ_wf (n := (nwL [1, 0, 2] [1, 1, 1]).length) (a := inL [1, 0, 2] [1, 1, 1]) (edgesT T11)
    have e : shJ (nwL [1, 0, 2] [1, 1, 1]).length (inL [1, 0, 2] [1, 1, 1]) (edgesT T11) = (0, [[(1, 5)], [(0, 5)]]) := sj11
    rw [e] at this
    rw [htb']; exact this.1
  have h4' : g'.ws.length ≤ 4096 := by rw [hgw']; decide
  replace H : St Pu w0 w ([.row bi 3 (ints .i64 [0, 0, 1])] ++ (grC g' ms' ++ (.row b0 3 [.int .i64 1, .int .i64 0, .int .i64 2] :: (grC g ms ++ [])))) [] := H
  (apply ow_move; (· rfl); (· ((conv => lhs; whnf) <;> rfl)))
  refine ow_extract rfl rfl rfl ?_
  refine ow_extract rfl rfl rfl ?_
  refine ow_extract rfl rfl rfl ?_
  (apply ow_assign; (· rfl); (· ((conv => lhs; whnf) <;> rfl)))
  (apply ow_assign; (· rfl); (· ((conv => lhs; whnf) <;> rfl)))
  (apply ow_assign; (· rfl); (· ((conv => lhs; whnf) <;> rfl)))
  refine ow_nil ?_
  refine wc_seq ?_
  refine wc_seq ?_
  refine wc_region ?_
  (apply ow_move; (· rfl); (· ((conv => lhs; whnf) <;> rfl)))
  refine ow_eqlPn rfl rfl rfl (tyAt rfl) rfl ?_
  refine ow_nil ?_
  refine wc_cond_false rfl ?_
  refine wc_skip ?_
  refine wc_seq ?_
  refine wc_region ?_
  (apply ow_move; (· rfl); (· ((conv => lhs; whnf) <;> rfl)))
  refine ow_buildSlice1 (vs := [.int .i64 1, .int .i64 0]) H rfl (tyAt rfl) rfl (tyAt rfl) rfl rfl rfl rfl rfl (by simp [Value.one]) (fun b1 w H => ?_)
  have hG : Gr (hp w) g ms := gr_of_ok fun c hc => okAll H c (List.mem_cons_of_mem _ (List.mem_cons_of_mem _ (List.mem_append_right (grC g' ms') (List.mem_cons_of_mem _ (List.mem_append_left _ hc)))))
  refine ow_call rfl rfl (ent (by kernel_rfl)) (CallsV.mono (shrink_spec g ms [1, 0] (some ⟨b1, 0, none⟩) 2 (by decide) hn hmay h4 hW w hG (H.rowSl (i := 0) rfl)) ?_) rfl
  rintro v w hh
  obtain ⟨f, rfl, hE, H'⟩ := hh.resolve_right (by rintro ⟨_, _, _, _, hO, _⟩; have := hO.1.1; rw [hgw] at this; exact absurd this (by decide))
  clear hh
  obtain rfl : f = 1 := by
    rcases hE.2 with ⟨h, _⟩ | ⟨_, h, _⟩ | ⟨h, _⟩
    · exact h
    · have := h.1; rw [hgw] at this; exact absurd this (by decide)
    · have := h.1; rw [hgw] at this; exact absurd this (by decide)
  clear hE hG
  replace H := H.call H'
  rw [List.nil_append] at H
  clear H'
  replace H := H.drop
  (apply ow_move; (· rfl); (· ((conv => lhs; whnf) <;> rfl)))
  refine ow_extract rfl rfl rfl ?_
  refine ow_extract rfl rfl rfl ?_
  refine ow_extract rfl rfl rfl ?_
  (apply ow_assign; (· rfl); (· ((conv => lhs; whnf) <;> rfl)))
  (apply ow_assign; (· rfl); (· ((conv => lhs; whnf) <;> rfl)))
  (apply ow_assign; (· rfl); (· ((conv => lhs; whnf) <;> rfl)))
  refine ow_nil ?_
  refine wc_seq ?_
  refine wc_region ?_
  refine ow_buildSlice1 (vs := [.int .i64 4, .int .i64 7]) H rfl (tyAt rfl) rfl (tyAt rfl) rfl rfl rfl rfl rfl (by simp [Value.one]) (fun b2 w H => ?_)
  (apply ow_move; (· rfl); (· ((conv => lhs; whnf) <;> rfl)))
  refine ow_call rfl rfl (ent (by kernel_rfl)) (CallsV.mono (lift_spec [4, 7] [0, 0, 1] (some ⟨b2, 0, none⟩) (some ⟨bi, 0, none⟩) 2 3 (by decide) (by decide) w (H.rowSl (i := 0) rfl) (H.rowSl (i := 1) rfl)) ?_) rfl
  rintro v w (⟨h, _⟩ | ⟨_, bl, rfl, H'⟩)
  · exact absurd lo11 h
  replace H := H.call H'
  clear H'
  rw [li11] at H
  (apply ow_move; (· rfl); (· ((conv => lhs; whnf) <;> rfl)))
  refine ow_extract rfl rfl rfl ?_
  refine ow_extract rfl rfl rfl ?_
  (apply ow_assign; (· rfl); (· ((conv => lhs; whnf) <;> rfl)))
  (apply ow_assign; (· rfl); (· ((conv => lhs; whnf) <;> rfl)))
  refine ow_nil ?_
  refine wc_seq ?_
  refine wc_region ?_
  (apply ow_move; (· rfl); (· ((conv => lhs; whnf) <;> rfl)))
  refine ow_call rfl rfl (ent (by kernel_rfl)) (CallsV.mono (lift_spec [] [0, 0, 1] none (some ⟨bi, 0, none⟩) 0 3 (by decide) (by decide) w (SlH.nil _ _) (H.rowSl (i := 2) rfl)) ?_) rfl
  rintro v w hh
  obtain ⟨_, rfl, H'⟩ := hh.resolve_right (fun h => lo11b h.1)
  clear hh
  replace H := H.call H'
  rw [List.nil_append] at H
  clear H'
  replace H : St Pu w0 w ([.row bl 3 (ints .i64 [4, 4, 7]), .row b2 3 [.int .i64 4, .int .i64 7], .row bi 3 (ints .i64 [0, 0, 1])] ++ (grC g' ms' ++ (.row b0 3 [.int .i64 1, .int .i64 0, .int .i64 2] :: (grC g ms ++ [])))) [] := H
  (apply ow_move; (· rfl); (· ((conv => lhs; whnf) <;> rfl)))
  refine ow_extract rfl rfl rfl ?_
  refine ow_extract rfl rfl rfl ?_
  (apply ow_assign; (· rfl); (· ((conv => lhs; whnf) <;> rfl)))
  (apply ow_assign; (· rfl); (· ((conv => lhs; whnf) <;> rfl)))
  refine ow_nil ?_
  refine wc_seq ?_
  refine wc_region ?_
  (apply ow_move; (· rfl); (· ((conv => lhs; whnf) <;> rfl)))
  refine ow_eql rfl rfl rfl ?_
  (apply ow_move; (· rfl); (· ((conv => lhs; whnf) <;> rfl)))
  refine ow_guard_yes rfl rfl rfl rfl ?_
  (apply ow_move; (· rfl); (· ((conv => lhs; whnf) <;> rfl)))
  refine ow_guard_yes rfl rfl rfl rfl ?_
  refine ow_call rfl rfl (ent (by kernel_rfl)) (CallsV.mono (glen_spec g' ms' w (gr_atR (L := [_, _, _]) H)) ?_) rfl
  rintro v w' ⟨rfl, rfl⟩
  rw [show g'.ws.length = 2 by rw [hgw']; rfl]
  refine ow_guard_yes rfl rfl rfl rfl ?_
  refine ow_eql rfl rfl rfl ?_
  (apply ow_pick_t; (· rfl); (· rfl); (· ((conv => lhs; whnf) <;> rfl)))
  (apply ow_move; (· rfl); (· ((conv => lhs; whnf) <;> rfl)))
  refine ow_guard_yes rfl rfl rfl rfl ?_
  (apply ow_move; (· rfl); (· ((conv => lhs; whnf) <;> rfl)))
  refine ow_guard_yes rfl rfl rfl rfl ?_
  refine ow_call rfl rfl (ent (by kernel_rfl)) (CallsV.mono (between_spec g' ms' 0 1 hn' h4' hW' _ (gr_atR (L := [_, _, _]) H)) ?_) rfl
  rintro v w ⟨rfl, H'⟩
  rw [htb', bt11]
  replace H := H.call H'
  rw [List.nil_append] at H
  clear H'
  refine ow_guard_yes rfl rfl rfl rfl ?_
  refine ow_eql rfl rfl rfl ?_
  (apply ow_pick_t; (· rfl); (· rfl); (· ((conv => lhs; whnf) <;> rfl)))
  (apply ow_move; (· rfl); (· ((conv => lhs; whnf) <;> rfl)))
  refine ow_guard_yes rfl rfl rfl rfl ?_
  (apply ow_move; (· rfl); (· ((conv => lhs; whnf) <;> rfl)))
  refine ow_guard_yes rfl rfl rfl rfl ?_
  refine ow_call rfl rfl (ent (by kernel_rfl)) (CallsV.mono (weight_spec g' ms' 0 _ (gr_atR (L := [_, _, _]) H)) ?_) rfl
  rintro v w' ⟨rfl, rfl⟩
  rw [show wtG g'.ws 0 = 2 by rw [hgw']; rfl]
  refine ow_guard_yes rfl rfl rfl rfl ?_
  refine ow_eql rfl rfl rfl ?_
  (apply ow_pick_t; (· rfl); (· rfl); (· ((conv => lhs; whnf) <;> rfl)))
  (apply ow_move; (· rfl); (· ((conv => lhs; whnf) <;> rfl)))
  refine ow_guard_yes rfl rfl rfl rfl ?_
  (apply ow_move; (· rfl); (· ((conv => lhs; whnf) <;> rfl)))
  refine ow_guard_yes rfl rfl rfl rfl ?_
  refine ow_buildSlice1 (vs := [.int .i64 0, .int .i64 0, .int .i64 1]) H rfl (tyAt rfl) rfl (tyAt rfl) rfl rfl rfl rfl rfl (by simp [Value.one]) (fun b3 w H => ?_)
  refine ow_guard_yes rfl rfl rfl rfl ?_
  refine ow_call rfl rfl (ent (by kernel_rfl)) (CallsV.mono (sameInts_spec (some ⟨bi, 0, none⟩) (some ⟨b3, 0, none⟩) 3 3 3 3 [0, 0, 1] [0, 0, 1] rfl rfl (by decide) (by decide) _ (H.rowSl (i := 3) rfl) (H.rowSl (i := 0) rfl)) ?_) rfl
  rintro v w ⟨rfl, H'⟩
  replace H := (H.call H').drop
  clear H'
  rw [decide_eq_true (rfl : ([0, 0, 1] : List Int) = [0, 0, 1])]
  (apply ow_pick_t; (· rfl); (· rfl); (· ((conv => lhs; whnf) <;> rfl)))
  (apply ow_move; (· rfl); (· ((conv => lhs; whnf) <;> rfl)))
  refine ow_guard_yes rfl rfl rfl rfl ?_
  (apply ow_move; (· rfl); (· ((conv => lhs; whnf) <;> rfl)))
  refine ow_guard_yes rfl rfl rfl rfl ?_
  refine ow_eql rfl rfl rfl ?_
  (apply ow_pick_t; (· rfl); (· rfl); (· ((conv => lhs; whnf) <;> rfl)))
  (apply ow_move; (· rfl); (· ((conv => lhs; whnf) <;> rfl)))
  refine ow_guard_yes rfl rfl rfl rfl ?_
  (apply ow_move; (· rfl); (· ((conv => lhs; whnf) <;> rfl)))
  refine ow_guard_yes rfl rfl rfl rfl ?_
  refine ow_buildSlice1 (vs := [.int .i64 4, .int .i64 4, .int .i64 7]) H rfl (tyAt rfl) rfl (tyAt rfl) rfl rfl rfl rfl rfl (by simp [Value.one]) (fun b4 w H => ?_)
  refine ow_guard_yes rfl rfl rfl rfl ?_
  refine ow_call rfl rfl (ent (by kernel_rfl)) (CallsV.mono (sameInts_spec (some ⟨bl, 0, none⟩) (some ⟨b4, 0, none⟩) 3 3 3 3 [4, 4, 7] [4, 4, 7] rfl rfl (by decide) (by decide) _ (H.rowSl (i := 1) rfl) (H.rowSl (i := 0) rfl)) ?_) rfl
  rintro v w ⟨rfl, H'⟩
  replace H := (H.call H').drop
  clear H'
  rw [decide_eq_true (rfl : ([4, 4, 7] : List Int) = [4, 4, 7])]
  (apply ow_pick_t; (· rfl); (· rfl); (· ((conv => lhs; whnf) <;> rfl)))
  (apply ow_move; (· rfl); (· ((conv => lhs; whnf) <;> rfl)))
  refine ow_guard_yes rfl rfl rfl rfl ?_
  (apply ow_move; (· rfl); (· ((conv => lhs; whnf) <;> rfl)))
  refine ow_guard_yes rfl rfl rfl rfl ?_
  refine ow_eql rfl rfl rfl ?_
  (apply ow_pick_t; (· rfl); (· rfl); (· ((conv => lhs; whnf) <;> rfl)))
  (apply ow_move; (· rfl); (· ((conv => lhs; whnf) <;> rfl)))
  refine ow_guard_yes rfl rfl rfl rfl ?_
  (apply ow_move; (· rfl); (· ((conv => lhs; whnf) <;> rfl)))
  refine ow_guard_yes rfl rfl rfl rfl ?_
  refine ow_eql rfl rfl rfl ?_
  (apply ow_pick_t; (· rfl); (· rfl); (· ((conv => lhs; whnf) <;> rfl)))
  (apply ow_move; (· rfl); (· ((conv => lhs; whnf) <;> rfl)))
  refine ow_guard_yes rfl rfl rfl rfl ?_
  (apply ow_move; (· rfl); (· ((conv => lhs; whnf) <;> rfl)))
  refine ow_guard_yes rfl rfl rfl rfl ?_
  have hG : Gr (hp w) g ms := gr_of_ok fun c hc => okAll H c (List.mem_cons_of_mem _ (List.mem_cons_of_mem _ (List.mem_cons_of_mem _ (List.mem_append_right (grC g' ms') (List.mem_cons_of_mem _ (List.mem_append_left _ hc))))))
  refine ow_call rfl rfl (ent (by kernel_rfl)) (CallsV.mono (levelsW_spec g ms 1 9 hgd w hG) ?_) rfl
  rintro v w ⟨z, p, c, rfl, hc, he, H'⟩
  rw [two11 hgw hF hc he]
  replace H := H.call H'
  clear H'
  refine ow_guard_yes rfl rfl rfl rfl ?_
  refine ow_len rfl rfl (tyAt rfl) rfl ?_
  refine ow_guard_yes rfl rfl rfl rfl ?_
  refine ow_eql rfl rfl rfl ?_
  (apply ow_pick_t; (· rfl); (· rfl); (· ((conv => lhs; whnf) <;> rfl)))
  (apply ow_assign; (· rfl); (· ((conv => lhs; whnf) <;> rfl)))
  refine ow_nil ?_
  refine wc_ret ?_
  obtain ⟨w, hT, H⟩ := H.takes Try.prog
  refine ⟨.inr rfl, w, hT, _, .tmp .nil, ?_⟩
  exact ⟨rfl, H.none⟩
end Go.Proofs.Ytpbknokakooekaa

