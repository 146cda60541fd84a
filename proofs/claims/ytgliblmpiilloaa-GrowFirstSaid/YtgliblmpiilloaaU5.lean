/- The statement's function 'sandtablelaw12.GrowFirst' returns true at every input, and changes nothing that was there. -/
import Derived.Test.YtgliblmpiilloaaU4
namespace Go.Proofs.Ytgliblmpiilloaa
set_option linter.all false
open Go Go.Sx Go.Proofs
set_option maxRecDepth 100000
set_option maxHeartbeats 2000000
theorem ws_pos {ws : List Int} (h : ∀ z ∈ ws, mayW z) {j : Nat} (hj : j < ws.length) : 1 ≤ ws.getD j 0 := by
  rw [List.getD_eq_getElem?_getD, List.getElem?_eq_getElem hj]
  exact (h _ (List.getElem_mem hj)).1
theorem wt0_ones {T : List IE} {ws : List Int} (most : Int) : wt0 ws (hlv T ws most 0) T.length = 0 := by
  unfold wt0
  exact (sumN_congr (g := fun _ => 0) fun j hj => by rw [hlv, ones_at hj, if_neg (by decide)]).trans (sumN_zero _)
theorem none_in {T : List IE} {ws : List Int} (hl : T.length = ws.length) (hmay : ∀ z ∈ ws, mayW z) : halveL T ws 0 = List.replicate T.length 1 := by
  have hs : zAt T ws 0 (hlv T ws 0 0) = -1 := by
    rcases zAt_char (ws := ws) (most := 0) (gi_zero T ws 0).len with ⟨h1, _⟩ | ⟨z, hz, _, _, h3⟩
    · exact h1
    · rw [wt0_ones] at h3
      have := ws_pos hmay (j := z) (by omega)
      omega
  unfold halveL
  rw [hlv_stop hs _ (Nat.zero_le _)]
  rfl
theorem first_in {T : List IE} {ws : List Int} (hl : T.length = ws.length) (hmay : ∀ z ∈ ws, mayW z) (h0 : 0 < T.length) : halveL T ws (ws.getD 0 0) = (List.replicate T.length 1).set 0 0 := by
  have hn0 : ∀ j, j < T.length → 0 ≤ ws.getD j 0 := fun j hj => by have := ws_pos hmay (j := j) (by omega); omega
  have hz : zAt T ws (ws.getD 0 0) (hlv T ws (ws.getD 0 0) 0) = 0 := by
    have hk : ∀ k, k + 1 ≤ T.length → nxS ws (plL T (List.replicate T.length 1)) (List.replicate T.length 1) (ws.getD 0 0 - 0) (k + 1) = 0 := by
      intro k
      induction k with
      | zero =>
        intro h
        rw [nxS_yes (ones_at (by omega))]
        unfold nxF
        rw [if_pos ⟨by show ws.getD 0 0 ≤ _; omega, .inl rfl⟩]; rfl
      | succ k ih =>
        intro h
        rw [nxS_yes (ones_at (by omega)), ih (by omega)]
        unfold nxF
        rw [if_neg]
        rintro ⟨_, h1 | h1⟩
        · omega
        · rw [Int.toNat_natCast, show (0 : Int).toNat = 0 from rfl, plL_at (by omega), plL_at (by omega), plT_ones (fun j hj => ones_at hj), plT_ones (fun j hj => ones_at hj)] at h1
          omega
    have h1 := hk (T.length - 1) (by omega)
    rw [show T.length - 1 + 1 = T.length by omega] at h1
    unfold zAt nxZ sdL
    rw [wt0_ones]
    show List.foldl _ _ (sdU (List.replicate T.length 1) 1 (List.replicate T.length (1 : Int)).length) = 0
    rw [List.length_replicate]
    exact h1
  have h1 : hlv T ws (ws.getD 0 0) 1 = (List.replicate T.length 1).set 0 0 := by
    rw [hlv]
    unfold stp
    rw [hz, if_neg (by decide)]; rfl
  have hs : zAt T ws (ws.getD 0 0) (hlv T ws (ws.getD 0 0) 1) = -1 := by
    rcases zAt_char (ws := ws) (most := ws.getD 0 0) (gi_all hn0 (ws.getD 0 0) 1).len with ⟨h2, _⟩ | ⟨z, hzl, _, _, h3⟩
    · exact h2
    · rw [h1, wt0_set h0 List.length_replicate (ones_at h0)] at h3
      have h4 : wt0 ws (List.replicate T.length 1) T.length = 0 := wt0_ones (ws.getD 0 0)
      have := ws_pos hmay (j := z) (by omega)
      omega
  unfold halveL
  rw [hlv_stop hs _ h0, h1]
theorem law12First (q q2 : Option Addr) (cap cap2 : Nat) (ws : List Int) (ops : List OpA) (hm : ws.length ≤ 9223372036854775807) (hm2 : ops.length ≤ 9223372036854775807) (w0 : World) (hq : SlH (hp w0) q (ints .i64 ws)) (hq2 : SlH (hp w0) q2 (ops.flatMap opA)) :
    CallsV Try.prog 12 #[.slice q ws.length cap, .slice q2 ops.length cap2] w0 fun v w => v = .bool true ∧ St Pu w0 w [] [] := by
  refine callsV_of Try.func12 rfl rfl ?_
  refine wc_seq ?_
  refine wc_region ?_
  (apply ow_assign; (· rfl); (· ((conv => lhs; whnf) <;> rfl)))
  refine ow_nil ?_
  refine wc_seq ?_
  refine wc_seq ?_
  refine wc_region ?_
  refine ow_call rfl rfl (ent (by kernel_rfl)) (CallsV.mono (alive12 w0) ?_) rfl
  rintro v w ⟨rfl, H⟩
  refine ow_not rfl rfl ?_
  refine ow_nil ?_
  refine wc_cond_false rfl ?_
  refine wc_skip ?_
  refine wc_seq ?_
  refine wc_region ?_
  (apply ow_move; (· rfl); (· ((conv => lhs; whnf) <;> rfl)))
  (apply ow_move; (· rfl); (· ((conv => lhs; whnf) <;> rfl)))
  refine ow_call rfl rfl (ent (by kernel_rfl)) (CallsV.mono (build57_spec q q2 cap cap2 ws ops hm hm2 w (H.oldSl hq) (H.oldSl hq2)) ?_) rfl
  rintro v w (⟨rfl, _, H'⟩ | ⟨g, x, ms, rows, rfl, rfl, hxw, h30, hmay, hW, hn, _, _, H'⟩)
  · replace H := H.call H'
    rw [List.nil_append] at H
    clear H'
    (apply ow_move; (· rfl); (· ((conv => lhs; whnf) <;> rfl)))
    refine ow_extract rfl rfl rfl ?_
    refine ow_extract rfl rfl rfl ?_
    refine ow_extract rfl rfl rfl ?_
    refine ow_alloc (l := [.slice none 0 0, .slice none 0 0]) H rfl (tyAt rfl) rfl (fun b6 w H => ?_)
    (apply ow_assign; (· rfl); (· ((conv => lhs; whnf) <;> rfl)))
    refine ow_storeA (i := 0) (o := 0) (l' := [.slice none 0 0, .slice none 0 0]) H (tyAt rfl) rfl rfl rfl rfl (by simp [Value.oneCell']) (by simp) (fun w H => ?_)
    (apply ow_assign; (· rfl); (· ((conv => lhs; whnf) <;> rfl)))
    refine ow_nil ?_
    refine wc_seq ?_
    refine wc_seq ?_
    refine wc_region ?_
    (apply ow_move; (· rfl); (· ((conv => lhs; whnf) <;> rfl)))
    refine ow_not rfl rfl ?_
    (apply ow_move; (· rfl); (· ((conv => lhs; whnf) <;> rfl)))
    refine ow_guard_no rfl rfl rfl rfl rfl rfl rfl ?_
    refine ow_guard_no rfl rfl rfl rfl rfl rfl rfl ?_
    refine ow_guard_no rfl rfl rfl rfl rfl rfl rfl ?_
    (apply ow_pick_t; (· rfl); (· rfl); (· ((conv => lhs; whnf) <;> rfl)))
    refine ow_nil ?_
    refine wc_cond_true rfl ?_
    refine wc_seq ?_
    refine wc_region ?_
    (apply ow_assign; (· rfl); (· ((conv => lhs; whnf) <;> rfl)))
    refine ow_nil ?_
    refine wc_ret ?_
    obtain ⟨w, hT, H⟩ := H.takes Try.prog
    refine ⟨.inr rfl, w, hT, _, .tmp .nil, ?_⟩
    exact ⟨rfl, H.none⟩
  replace H : St Pu w0 w (grC g ms) [] := (H.call H').sub ((List.sublist_append_left _ _).trans (List.sublist_append_left _ _))
  clear H'
  (apply ow_move; (· rfl); (· ((conv => lhs; whnf) <;> rfl)))
  refine ow_extract rfl rfl rfl ?_
  refine ow_extract rfl rfl rfl ?_
  refine ow_extract rfl rfl rfl ?_
  refine ow_alloc (l := [.slice none 0 0, .slice none 0 0]) H rfl (tyAt rfl) rfl (fun b6 w H => ?_)
  (apply ow_assign; (· rfl); (· ((conv => lhs; whnf) <;> rfl)))
  refine ow_storeA (i := 0) (o := 0) (l' := rfV x rows) H (tyAt rfl) rfl rfl rfl rfl (by simp [Value.oneCell']) (by simp) (fun w H => ?_)
  replace H : St Pu w0 w (grC g ms) [] := H.drop
  have h4 : g.ws.length ≤ 4096 := by omega
  have hTl : (tb ms).length = g.ws.length := by rw [tb_len, hn]
  (apply ow_assign; (· rfl); (· ((conv => lhs; whnf) <;> rfl)))
  refine ow_nil ?_
  refine wc_seq ?_
  refine wc_seq ?_
  refine wc_region ?_
  (apply ow_move; (· rfl); (· ((conv => lhs; whnf) <;> rfl)))
  refine ow_not rfl rfl ?_
  (apply ow_move; (· rfl); (· ((conv => lhs; whnf) <;> rfl)))
  refine ow_guard_yes rfl rfl rfl rfl ?_
  (apply ow_move; (· rfl); (· ((conv => lhs; whnf) <;> rfl)))
  refine ow_guard_yes rfl rfl rfl rfl ?_
  refine ow_len rfl rfl (tyAt rfl) rfl ?_
  refine ow_guard_yes rfl rfl rfl rfl ?_
  refine ow_eql rfl rfl rfl ?_
  (apply ow_pick_f; (· rfl); (· rfl); (· ((conv => lhs; whnf) <;> rfl)))
  refine ow_nil ?_
  refine wc_cond_dec rfl (fun h => ?_) (fun h => ?_) <;> try dsimp only at h
  · refine wc_seq ?_
    refine wc_region ?_
    (apply ow_assign; (· rfl); (· ((conv => lhs; whnf) <;> rfl)))
    refine ow_nil ?_
    refine wc_ret ?_
    obtain ⟨w, hT, H⟩ := H.takes Try.prog
    refine ⟨.inr rfl, w, hT, _, .tmp .nil, ?_⟩
    exact ⟨rfl, H.none⟩
  have h0 : 0 < g.ws.length := by omega
  clear h
  have hp1 := first_in hTl hmay (by omega)
  have hp2 := none_in hTl hmay
  rw [hTl] at hp1 hp2
  have hw0 := ws_nn hmay 0
  have hqq := hq
  obtain ⟨bq, oq, rfl⟩ := hq.some_of (by simp; omega)
  refine wc_skip ?_
  refine wc_seq ?_
  refine wc_region ?_
  (apply ow_move; (· rfl); (· ((conv => lhs; whnf) <;> rfl)))
  (apply ow_move; (· rfl); (· ((conv => lhs; whnf) <;> rfl)))
  refine ow_idx1 (j := 0) rfl (tyAt rfl) rfl (tyAt rfl) rfl rfl rfl h0 rfl ?_
  refine ow_load rfl (tyAt rfl) rfl rfl ((H.oldSl hqq).int h0) ?_
  refine ow_call rfl rfl (ent (by kernel_rfl)) (CallsV.mono (halve_spec g ms (g.ws.getD 0 0) hn h4 hmay hW (by omega) w (gr_of_ok (okAll H))) ?_) rfl
  rintro v w ⟨bp, rfl, H'⟩
  rw [hp1] at H' ⊢
  replace H : St Pu w0 w (.row bp 3 (ints .i64 ((List.replicate g.ws.length 1).set 0 0)) :: grC g ms) [] := H.call H'
  clear H'
  (apply ow_move; (· rfl); (· ((conv => lhs; whnf) <;> rfl)))
  refine ow_call rfl rfl (ent (by kernel_rfl)) (CallsV.mono (halve_spec g ms 0 hn h4 hmay hW (by decide) w (gr_of_ok fun c hc => okAll H c (List.mem_cons_of_mem _ hc))) ?_) rfl
  rintro v w ⟨bn, rfl, H'⟩
  rw [hp2] at H' ⊢
  replace H : St Pu w0 w [.row bn 3 (ints .i64 (List.replicate g.ws.length 1)), .row bp 3 (ints .i64 ((List.replicate g.ws.length 1).set 0 0))] [] := (H.call H').pick [0, 1] rfl (by decide)
  clear H'
  rw [List.length_set, List.length_replicate]
  have hat : ∀ j, ((List.replicate g.ws.length (1 : Int)).set 0 0).getD j 0 = if j = 0 then 0 else (List.replicate g.ws.length (1 : Int)).getD j 0 := fun j => getD_setI _ _ _ _ (by rw [List.length_replicate]; exact h0)
  have hon : ∀ j, j < g.ws.length → (List.replicate g.ws.length (1 : Int)).getD j 0 = 1 := fun j hj => ones_at hj
  (apply ow_assign; (· rfl); (· ((conv => lhs; whnf) <;> rfl)))
  (apply ow_assign; (· rfl); (· ((conv => lhs; whnf) <;> rfl)))
  refine ow_nil ?_
  refine wc_seq ?_
  refine wc_seq ?_
  refine wc_region ?_
  (apply ow_move; (· rfl); (· ((conv => lhs; whnf) <;> rfl)))
  refine ow_len rfl rfl (tyAt rfl) rfl ?_
  (apply ow_move; (· rfl); (· ((conv => lhs; whnf) <;> rfl)))
  refine ow_nil ?_
  refine wc_blockJ [4, 10, 36, 37, 38, 39, 40, 41, 42, 43, 44, 45, 46, 47, 48, 49, 50, 51, 52, 53, 54, 55] (fun (_ : Unit) e => e) (fun _ D w => D = [] ∧ St Pu w0 w [.row bn 3 (ints .i64 (List.replicate g.ws.length 1)), .row bp 3 (ints .i64 ((List.replicate g.ws.length 1).set 0 0))] []) ?_ ?_
  · refine wc_loopS [4, 10, 36, 37, 38, 39, 40, 41, 42, 43, 44, 45, 46, 47, 48, 49, 50, 51, 52, 53, 54, 55] (fun (s : Nat) e => upd e 36 (.int .i64 s)) (fun s D w => D = [] ∧ s ≤ g.ws.length ∧ St Pu w0 w [.row bn 3 (ints .i64 (List.replicate g.ws.length 1)), .row bp 3 (ints .i64 ((List.replicate g.ws.length 1).set 0 0))] []) (fun s _ => g.ws.length - s) 0 (by first | exact rfl | exact upd_self' rfl rfl | exact upd_self' rfl (upd_self' rfl rfl) | exact upd_self' rfl (upd_self' rfl (upd_self' rfl rfl)) | exact upd_self' rfl (upd_self' rfl (upd_self' rfl (upd_self' rfl rfl)))) ⟨rfl, Nat.zero_le _, H⟩ ?_
    clear H
    rintro i j D w ⟨rfl, hi, H⟩
    refine wc_seq ?_
    refine wc_region ?_
    refine ow_lss rfl rfl rfl ?_
    refine ow_nil ?_
    refine wc_seq ?_
    refine wc_cond_dec rfl (fun h => ?_) (fun h => ?_) <;> try dsimp only at h
    · have hlt : i < g.ws.length := by omega
      have h1 := hon i hlt
      refine wc_skip ?_
      refine wc_seq ?_
      refine wc_block ?_
      refine wc_seq ?_
      refine wc_region ?_
      (apply ow_move; (· rfl); (· ((conv => lhs; whnf) <;> rfl)))
      (apply ow_assign; (· rfl); (· ((conv => lhs; whnf) <;> rfl)))
      refine ow_nil ?_
      refine wc_seq ?_
      refine wc_region ?_
      (apply ow_move; (· rfl); (· ((conv => lhs; whnf) <;> rfl)))
      (apply ow_move; (· rfl); (· ((conv => lhs; whnf) <;> rfl)))
      refine ow_idx1 (j := i) rfl (tyAt rfl) rfl (tyAt rfl) rfl rfl rfl hlt rfl ?_
      refine ow_load rfl (tyAt rfl) rfl rfl (SlH.int (H.rowSl (i := 0) rfl) (by simp; omega)) ?_
      rw [h1]
      refine ow_neq rfl rfl rfl ?_
      (apply ow_move; (· rfl); (· ((conv => lhs; whnf) <;> rfl)))
      refine ow_guard_yes rfl rfl rfl rfl ?_
      (apply ow_move; (· rfl); (· ((conv => lhs; whnf) <;> rfl)))
      refine ow_guard_yes rfl rfl rfl rfl ?_
      refine ow_gtr rfl rfl rfl ?_
      refine ow_guard_yes rfl rfl rfl rfl ?_
      (apply ow_move; (· rfl); (· ((conv => lhs; whnf) <;> rfl)))
      clear h
      refine ow_guard_dec rfl rfl rfl (fun h => ?_) (fun h => ?_) <;> try dsimp only at h
      · have h2 : ((List.replicate g.ws.length (1 : Int)).set 0 0).getD i 0 = 1 := by rw [hat, if_neg (by omega), h1]
        refine ow_guard_yes rfl rfl rfl rfl ?_
        (apply ow_move; (· rfl); (· ((conv => lhs; whnf) <;> rfl)))
        refine ow_guard_yes rfl rfl rfl rfl ?_
        (apply ow_move; (· rfl); (· ((conv => lhs; whnf) <;> rfl)))
        refine ow_guard_yes rfl rfl rfl rfl ?_
        refine ow_idx1 (j := i) rfl (tyAt rfl) rfl (tyAt rfl) rfl rfl rfl hlt rfl ?_
        refine ow_guard_yes rfl rfl rfl rfl ?_
        refine ow_load rfl (tyAt rfl) rfl rfl (SlH.int (H.rowSl (i := 1) rfl) (by simp; omega)) ?_
        rw [h2]
        refine ow_guard_yes rfl rfl rfl rfl ?_
        refine ow_eql rfl rfl rfl ?_
        refine ow_guard_yes rfl rfl rfl rfl ?_
        (apply ow_pick_t; (· rfl); (· rfl); (· ((conv => lhs; whnf) <;> rfl)))
        (apply ow_pick_f; (· rfl); (· rfl); (· ((conv => lhs; whnf) <;> rfl)))
        refine ow_nil ?_
        refine wc_cond_false rfl ?_
        refine wc_skip ?_
        refine wc_region ?_
        refine ow_add rfl rfl rfl (by simp only [InK]; omega) ?_
        (apply ow_move; (· rfl); (· ((conv => lhs; whnf) <;> rfl)))
        refine ow_nil ?_
        exact ⟨i + 1, by first | exact rfl | exact upd_self' rfl rfl | exact upd_self' rfl (upd_self' rfl rfl) | exact upd_self' rfl (upd_self' rfl (upd_self' rfl rfl)) | exact upd_self' rfl (upd_self' rfl (upd_self' rfl (upd_self' rfl rfl))), by repeat (first | with_reducible exact Off.mix | with_reducible exact Off.refl | ((with_reducible refine Off.upd ?_ ?_); (· rfl))), ⟨rfl, hlt, H⟩, by omega⟩
      · refine ow_guard_no rfl rfl rfl rfl rfl rfl rfl ?_
        refine ow_guard_no rfl rfl rfl rfl rfl rfl rfl ?_
        refine ow_guard_no rfl rfl rfl rfl rfl rfl rfl ?_
        refine ow_guard_no rfl rfl rfl rfl rfl rfl rfl ?_
        refine ow_guard_no rfl rfl rfl rfl rfl rfl rfl ?_
        refine ow_guard_yes rfl rfl rfl rfl ?_
        (apply ow_pick_f; (· rfl); (· rfl); (· ((conv => lhs; whnf) <;> rfl)))
        (apply ow_pick_f; (· rfl); (· rfl); (· ((conv => lhs; whnf) <;> rfl)))
        refine ow_nil ?_
        refine wc_cond_false rfl ?_
        refine wc_skip ?_
        refine wc_region ?_
        refine ow_add rfl rfl rfl (by simp only [InK]; omega) ?_
        (apply ow_move; (· rfl); (· ((conv => lhs; whnf) <;> rfl)))
        refine ow_nil ?_
        exact ⟨i + 1, by first | exact rfl | exact upd_self' rfl rfl | exact upd_self' rfl (upd_self' rfl rfl) | exact upd_self' rfl (upd_self' rfl (upd_self' rfl rfl)) | exact upd_self' rfl (upd_self' rfl (upd_self' rfl (upd_self' rfl rfl))), by repeat (first | with_reducible exact Off.mix | with_reducible exact Off.refl | ((with_reducible refine Off.upd ?_ ?_); (· rfl))), ⟨rfl, hlt, H⟩, by omega⟩
    · have hi' : i = g.ws.length := by omega
      subst hi'
      refine wc_exit ?_
      exact ⟨(), rfl, by repeat (first | with_reducible exact Off.mix | with_reducible exact Off.refl | ((with_reducible refine Off.upd ?_ ?_); (· rfl))), ⟨rfl, H⟩⟩
  clear H
  rintro _ j D w ⟨rfl, H⟩
  have h2 : ((List.replicate g.ws.length (1 : Int)).set 0 0).getD 0 0 = 0 := by rw [hat, if_pos rfl]
  refine wc_seq ?_
  refine wc_region ?_
  (apply ow_move; (· rfl); (· ((conv => lhs; whnf) <;> rfl)))
  refine ow_len rfl rfl (tyAt rfl) rfl ?_
  (apply ow_move; (· rfl); (· ((conv => lhs; whnf) <;> rfl)))
  refine ow_len rfl rfl (tyAt rfl) rfl ?_
  refine ow_eql rfl rfl rfl ?_
  (apply ow_move; (· rfl); (· ((conv => lhs; whnf) <;> rfl)))
  refine ow_guard_dec rfl rfl rfl (fun _ => ?_) (fun h => (h (by with_reducible rfl)).elim)
  refine ow_guard_yes rfl rfl rfl rfl ?_
  (apply ow_move; (· rfl); (· ((conv => lhs; whnf) <;> rfl)))
  refine ow_guard_yes rfl rfl rfl rfl ?_
  skip
  refine ow_idx1 (j := 0) rfl (tyAt rfl) rfl (tyAt rfl) rfl rfl rfl h0 rfl ?_
  refine ow_guard_yes rfl rfl rfl rfl ?_
  refine ow_load rfl (tyAt rfl) rfl rfl (SlH.int (H.rowSl (i := 1) rfl) (by simp; omega)) ?_
  rw [h2]
  refine ow_guard_yes rfl rfl rfl rfl ?_
  refine ow_eql rfl rfl rfl ?_
  (apply ow_pick_t; (· rfl); (· rfl); (· ((conv => lhs; whnf) <;> rfl)))
  (apply ow_assign; (· rfl); (· ((conv => lhs; whnf) <;> rfl)))
  refine ow_nil ?_
  refine wc_ret ?_
  obtain ⟨w, hT, H⟩ := H.takes Try.prog
  refine ⟨.inr rfl, w, hT, _, .tmp .nil, ?_⟩
  exact ⟨rfl, H.none⟩
end Go.Proofs.Ytgliblmpiilloaa
