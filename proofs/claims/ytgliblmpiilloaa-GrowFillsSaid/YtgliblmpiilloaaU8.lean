/- The statement's function 'sandtablelaw12.GrowFills' returns true at every input, and changes nothing that was there. -/
import Derived.Test.YtgliblmpiilloaaU4
import Derived.Test.YtgliblmpiilloaaU7
namespace Go.Proofs.Ytgliblmpiilloaa
set_option linter.all false
open Go Go.Sx Go.Proofs
set_option maxRecDepth 100000
set_option maxHeartbeats 2000000
theorem ws_pos8 {ws : List Int} (h : ∀ z ∈ ws, mayW z) {j : Nat} (hj : j < ws.length) : 1 ≤ ws.getD j 0 := by
  rw [List.getD_eq_getElem?_getD, List.getElem?_eq_getElem hj]
  exact (h _ (List.getElem_mem hj)).1
theorem sumN_list (ws : List Int) : ∀ k, k ≤ ws.length → sumN k (fun j => ws.getD j 0) = (ws.take k).sum
  | 0, _ => rfl
  | k + 1, h => by
    rw [sumN_succ, sumN_list ws k (by omega), take_snoc (getD_some (by omega)), List.sum_append]; simp
theorem total_full {T : List IE} {ws : List Int} (hl : T.length = ws.length) (hmay : ∀ z ∈ ws, mayW z) (j : Nat) (hj : j < T.length) : (halveL T ws ws.sum).getD j 0 = 0 := by
  have h0 : ∀ j, j < T.length → 0 ≤ ws.getD j 0 := fun j _ => (ws_nn hmay j).1
  have hgi := gi_all h0 ws.sum T.length
  change GI T ws ws.sum (halveL T ws ws.sum) at hgi
  rcases hgi.val j hj with h | h
  · exact h
  · exfalso
    have h1 := halve_full h0 ws.sum j hj h
    have h2 := wt0_set (ws := ws) hj hgi.len h
    have h3 : wt0 ws ((halveL T ws ws.sum).set j 0) T.length ≤ sumN T.length fun j => ws.getD j 0 := by
      unfold wt0
      refine sumN_le fun t _ => ?_
      have := ws_nn hmay t
      split <;> omega
    rw [sumN_list ws T.length (by omega), List.take_of_length_le (by omega)] at h3
    omega
theorem sides8 {p : List Int} {n : Nat} (hv : ∀ j, j < n → p.getD j 0 = 0 ∨ p.getD j 0 = 1) : ∀ k, k ≤ n → (sdU p 0 k).length + (sdU p 1 k).length = k
  | 0, _ => rfl
  | k + 1, h => by
    have ih := sides8 hv k (by omega)
    rcases hv k (by omega) with hp | hp
    · rw [sdU_yes hp, sdU_no (by rw [hp]; decide), List.length_append]; simp only [List.length_cons, List.length_nil]; omega
    · rw [sdU_no (by rw [hp]; decide), sdU_yes hp, List.length_append]; simp only [List.length_cons, List.length_nil]; omega
theorem side_full {p : List Int} : ∀ k, (∀ j, j < k → p.getD j 0 = 0) → (sdU p 0 k).length = k
  | 0, _ => rfl
  | k + 1, h => by
    rw [sdU_yes (h k (by omega)), List.length_append, side_full k (fun j hj => h j (by omega))]; rfl
theorem law12Fills (q q2 : Option Addr) (cap cap2 : Nat) (ws : List Int) (ops : List OpA) (most : Int) (hm : ws.length ≤ 9223372036854775807) (hm2 : ops.length ≤ 9223372036854775807) (hmo : -9223372036854775808 ≤ most ∧ most ≤ 9223372036854775807) (w0 : World) (hq : SlH (hp w0) q (ints .i64 ws)) (hq2 : SlH (hp w0) q2 (ops.flatMap opA)) :
    CallsV Try.prog 18 #[.slice q ws.length cap, .slice q2 ops.length cap2, .int .i64 most] w0 fun v w => v = .bool true ∧ St Pu w0 w [] [] := by
  refine callsV_of Try.func18 rfl rfl ?_
  refine wc_seq ?_
  refine wc_region ?_
  (apply ow_assign; (· rfl); (· ((conv => lhs; whnf) <;> rfl)))
  refine ow_nil ?_
  refine wc_seq ?_
  refine wc_seq ?_
  refine wc_region ?_
  refine ow_call rfl rfl (ent (by kernel_rfl)) (CallsV.mono (alive12 w0) ?_) rfl
  rintro v w ⟨rfl, H⟩
  refine ow_not rfl rfl ?_
  refine ow_nil ?_
  refine wc_cond_false rfl ?_
  refine wc_skip ?_
  refine wc_seq ?_
  refine wc_region ?_
  (apply ow_move; (· rfl); (· ((conv => lhs; whnf) <;> rfl)))
  (apply ow_move; (· rfl); (· ((conv => lhs; whnf) <;> rfl)))
  refine ow_call rfl rfl (ent (by kernel_rfl)) (CallsV.mono (build57_spec q q2 cap cap2 ws ops hm hm2 w (H.oldSl hq) (H.oldSl hq2)) ?_) rfl
  rintro v w (⟨rfl, _, H'⟩ | ⟨g, x, ms, rows, rfl, rfl, hxw, h30, hmay, hW, hn, _, _, H'⟩)
  · replace H := H.call H'
    rw [List.nil_append] at H
    clear H'
    (apply ow_move; (· rfl); (· ((conv => lhs; whnf) <;> rfl)))
    refine ow_extract rfl rfl rfl ?_
    refine ow_extract rfl rfl rfl ?_
    refine ow_extract rfl rfl rfl ?_
    refine ow_alloc (l := [.slice none 0 0, .slice none 0 0]) H rfl (tyAt rfl) rfl (fun b6 w H => ?_)
    (apply ow_assign; (· rfl); (· ((conv => lhs; whnf) <;> rfl)))
    refine ow_storeA (i := 0) (o := 0) (l' := [.slice none 0 0, .slice none 0 0]) H (tyAt rfl) rfl rfl rfl rfl (by simp [Value.oneCell']) (by simp) (fun w H => ?_)
    (apply ow_assign; (· rfl); (· ((conv => lhs; whnf) <;> rfl)))
    refine ow_nil ?_
    refine wc_seq ?_
    refine wc_seq ?_
    refine wc_region ?_
    (apply ow_move; (· rfl); (· ((conv => lhs; whnf) <;> rfl)))
    refine ow_not rfl rfl ?_
    refine ow_nil ?_
    refine wc_cond_true rfl ?_
    refine wc_seq ?_
    refine wc_region ?_
    (apply ow_assign; (· rfl); (· ((conv => lhs; whnf) <;> rfl)))
    refine ow_nil ?_
    refine wc_ret ?_
    obtain ⟨w, hT, H⟩ := H.takes Try.prog
    refine ⟨.inr rfl, w, hT, _, .tmp .nil, ?_⟩
    exact ⟨rfl, H.none⟩
  replace H : St Pu w0 w (grC g ms) [] := (H.call H').sub ((List.sublist_append_left _ _).trans (List.sublist_append_left _ _))
  clear H'
  (apply ow_move; (· rfl); (· ((conv => lhs; whnf) <;> rfl)))
  refine ow_extract rfl rfl rfl ?_
  refine ow_extract rfl rfl rfl ?_
  refine ow_extract rfl rfl rfl ?_
  refine ow_alloc (l := [.slice none 0 0, .slice none 0 0]) H rfl (tyAt rfl) rfl (fun b6 w H => ?_)
  (apply ow_assign; (· rfl); (· ((conv => lhs; whnf) <;> rfl)))
  refine ow_storeA (i := 0) (o := 0) (l' := rfV x rows) H (tyAt rfl) rfl rfl rfl rfl (by simp [Value.oneCell']) (by simp) (fun w H => ?_)
  replace H : St Pu w0 w (grC g ms) [] := H.drop
  have h4 : g.ws.length ≤ 4096 := by omega
  have hTl : (tb ms).length = g.ws.length := by rw [tb_len, hn]
  (apply ow_assign; (· rfl); (· ((conv => lhs; whnf) <;> rfl)))
  refine ow_nil ?_
  refine wc_seq ?_
  refine wc_seq ?_
  refine wc_region ?_
  (apply ow_move; (· rfl); (· ((conv => lhs; whnf) <;> rfl)))
  refine ow_not rfl rfl ?_
  refine ow_nil ?_
  refine wc_cond_false rfl ?_
  refine wc_skip ?_
  refine wc_seq ?_
  refine wc_region ?_
  (apply ow_move; (· rfl); (· ((conv => lhs; whnf) <;> rfl)))
  (apply ow_move; (· rfl); (· ((conv => lhs; whnf) <;> rfl)))
  refine ow_call rfl rfl (ent (by kernel_rfl)) (CallsV.mono (halve_spec g ms most hn h4 hmay hW hmo w (gr_of_ok (okAll H))) ?_) rfl
  rintro v w ⟨bm, rfl, H'⟩
  replace H : St Pu w0 w (.row bm 3 (ints .i64 (halveL (tb ms) g.ws most)) :: grC g ms) [] := H.call H'
  clear H'
  have h0 : ∀ j, j < (tb ms).length → 0 ≤ g.ws.getD j 0 := fun j _ => (ws_nn hmay j).1
  have hgi := gi_all h0 most (tb ms).length
  change GI (tb ms) g.ws most (halveL (tb ms) g.ws most) at hgi
  have hfull := halve_full h0 most
  have hpl := hgi.len
  have hval := hgi.val
  have hnn := hgi.nn
  have hle := hgi.le
  have htot := total_full hTl hmay
  rw [hTl] at hpl hval hnn hle hfull htot
  generalize halveL (tb ms) g.ws most = p at *
  have hall := sides8 hval g.ws.length (Nat.le_refl _)
  rw [hpl]
  have hcr : CutR g.ws.length p ((2 : Nat) : Int) := ⟨by decide, hpl, fun i hi hb => by
    unfold badP at hb
    have := hval i (by omega)
    omega⟩
  have hws := weights_spec g ms p (some ⟨bm, 0, none⟩) g.ws.length 2 (by omega) hmay hn h4 w (gr_of_ok fun c hc => okAll H c (List.mem_cons_of_mem _ hc)) (H.rowSl (i := 0) rfl)
  rw [hpl] at hws
  (apply ow_assign; (· rfl); (· ((conv => lhs; whnf) <;> rfl)))
  refine ow_nil ?_
  refine wc_seq ?_
  refine wc_region ?_
  (apply ow_move; (· rfl); (· ((conv => lhs; whnf) <;> rfl)))
  (apply ow_move; (· rfl); (· ((conv => lhs; whnf) <;> rfl)))
  refine ow_call rfl rfl (ent (by kernel_rfl)) (CallsV.mono (hws) ?_) rfl
  rintro v w (⟨h, _⟩ | ⟨_, bo, rfl, H'⟩)
  · exact absurd hcr h
  have hL : wtL g.ws p 2 g.ws.length = [wt0 g.ws p g.ws.length, wtAt g.ws p 1 g.ws.length] := rfl
  replace H : St Pu w0 w (.row bo 2 (ints .i64 (wtL g.ws p 2 g.ws.length)) :: .row bm 3 (ints .i64 p) :: grC g ms) [] := H.call H'
  clear H' hws
  have hw0 : (wtL g.ws p 2 g.ws.length).getD 0 0 = wt0 g.ws p g.ws.length := by rw [hL]; rfl
  have hwl := wtL_len g.ws p 2 g.ws.length
  clear hL
  generalize wtL g.ws p 2 g.ws.length = wl at H hw0 hwl
  generalize wt0 g.ws p g.ws.length = W0 at *
  (apply ow_assign; (· rfl); (· ((conv => lhs; whnf) <;> rfl)))
  refine ow_nil ?_
  refine wc_seq ?_
  refine wc_seq ?_
  refine wc_region ?_
  (apply ow_move; (· rfl); (· ((conv => lhs; whnf) <;> rfl)))
  refine ow_len rfl rfl (tyAt rfl) rfl ?_
  (apply ow_move; (· rfl); (· ((conv => lhs; whnf) <;> rfl)))
  refine ow_len rfl rfl (tyAt rfl) rfl ?_
  refine ow_neq rfl rfl rfl ?_
  (apply ow_move; (· rfl); (· ((conv => lhs; whnf) <;> rfl)))
  refine ow_guard_dec rfl rfl rfl (fun h => (h (by with_reducible rfl)).elim) (fun _ => ?_)
  refine ow_guard_yes rfl rfl rfl rfl ?_
  (apply ow_move; (· rfl); (· ((conv => lhs; whnf) <;> rfl)))
  refine ow_guard_yes rfl rfl rfl rfl ?_
  refine ow_len rfl rfl (tyAt rfl) rfl ?_
  refine ow_guard_yes rfl rfl rfl rfl ?_
  refine ow_neq rfl rfl rfl ?_
  (apply ow_pick_f; (· rfl); (· rfl); (· ((conv => lhs; whnf) <;> rfl)))
  (apply ow_move; (· rfl); (· ((conv => lhs; whnf) <;> rfl)))
  refine ow_guard_yes rfl rfl rfl rfl ?_
  (apply ow_move; (· rfl); (· ((conv => lhs; whnf) <;> rfl)))
  refine ow_guard_yes rfl rfl rfl rfl ?_
  refine ow_idx1 (j := 0) rfl (tyAt rfl) rfl (tyAt rfl) rfl rfl rfl (by decide) rfl ?_
  refine ow_guard_yes rfl rfl rfl rfl ?_
  refine ow_load rfl (tyAt rfl) rfl rfl (SlH.int (H.rowSl (i := 0) rfl) (by omega)) ?_
  rw [hw0]
  refine ow_guard_yes rfl rfl rfl rfl ?_
  (apply ow_move; (· rfl); (· ((conv => lhs; whnf) <;> rfl)))
  refine ow_guard_yes rfl rfl rfl rfl ?_
  refine ow_max rfl rfl rfl ?_
  refine ow_guard_yes rfl rfl rfl rfl ?_
  refine ow_gtr rfl rfl rfl ?_
  (apply ow_pick_f; (· rfl); (· rfl); (· ((conv => lhs; whnf) <;> rfl)))
  refine ow_nil ?_
  refine wc_cond_dec rfl (fun h => ?_) (fun h => ?_) <;> try dsimp only at h
  · omega
  clear h
  have hGr : ∀ {w : World}, St Pu w0 w (.row bo 2 (ints .i64 wl) :: .row bm 3 (ints .i64 p) :: grC g ms) [] → Gr (hp w) g ms := fun H => gr_of_ok fun c hc => okAll H c (List.mem_cons_of_mem _ (List.mem_cons_of_mem _ hc))
  refine wc_skip ?_
  refine wc_seq ?_
  refine wc_seq ?_
  refine wc_region ?_
  (apply ow_move; (· rfl); (· ((conv => lhs; whnf) <;> rfl)))
  refine ow_len rfl rfl (tyAt rfl) rfl ?_
  (apply ow_move; (· rfl); (· ((conv => lhs; whnf) <;> rfl)))
  refine ow_nil ?_
  refine wc_blockJ [6, 12, 50, 51, 52, 53, 54, 55, 56, 57, 58, 59, 60, 61, 62, 63, 64, 65, 66, 67, 68, 69, 70, 71, 72, 73] (fun (_ : Unit) e => e) (fun _ D w => D = [] ∧ St Pu w0 w (.row bo 2 (ints .i64 wl) :: .row bm 3 (ints .i64 p) :: grC g ms) []) ?_ ?_
  · refine wc_loopS [6, 12, 50, 51, 52, 53, 54, 55, 56, 57, 58, 59, 60, 61, 62, 63, 64, 65, 66, 67, 68, 69, 70, 71, 72, 73] (fun (s : Nat) e => upd e 50 (.int .i64 s)) (fun s D w => D = [] ∧ s ≤ g.ws.length ∧ St Pu w0 w (.row bo 2 (ints .i64 wl) :: .row bm 3 (ints .i64 p) :: grC g ms) []) (fun s _ => g.ws.length - s) 0 (by first | exact rfl | exact upd_self' rfl rfl | exact upd_self' rfl (upd_self' rfl rfl) | exact upd_self' rfl (upd_self' rfl (upd_self' rfl rfl)) | exact upd_self' rfl (upd_self' rfl (upd_self' rfl (upd_self' rfl rfl)))) ⟨rfl, Nat.zero_le _, H⟩ ?_
    clear H
    rintro i j D w ⟨rfl, hi, H⟩
    refine wc_seq ?_
    refine wc_region ?_
    refine ow_lss rfl rfl rfl ?_
    refine ow_nil ?_
    refine wc_seq ?_
    refine wc_cond_dec rfl (fun h => ?_) (fun h => ?_) <;> try dsimp only at h
    · have hlt : i < g.ws.length := by omega
      have hfi := hfull i hlt
      clear h
      have hwt : wtG g.ws (i : Int) = g.ws.getD i 0 := by unfold wtG; rw [if_pos ⟨by omega, by omega⟩, Int.toNat_natCast]
      refine wc_skip ?_
      refine wc_seq ?_
      refine wc_block ?_
      refine wc_seq ?_
      refine wc_region ?_
      (apply ow_move; (· rfl); (· ((conv => lhs; whnf) <;> rfl)))
      (apply ow_assign; (· rfl); (· ((conv => lhs; whnf) <;> rfl)))
      refine ow_nil ?_
      refine wc_seq ?_
      refine wc_drawK (fun w => St Pu w0 w [.row bo 2 (ints .i64 wl), .row bm 3 (ints .i64 p)] []) 99 (by kernel_rfl) (by kernel_rfl) (by intro c e D w h; first | exact h.elim | (rcases h with ⟨h | h, _⟩ <;> cases h)) ?_
      replace H := H.drew
      have G := H
      replace H : St Pu w0 _ [.row bo 2 (ints .i64 wl), .row bm 3 (ints .i64 p)] [] := H.pick [0, 1] rfl (by decide)
      apply ak_take (i := 0) rfl rfl rfl rfl (by kernel_rfl) (by with_reducible first | exact H | rfl)
      · intro w Q' HS hq; replace H := HS; clear HS; (apply ow_move; (· rfl); (· ((conv => lhs; whnf) <;> rfl))); exact ow_nil hq
      apply ak_take (i := 1) rfl rfl rfl rfl (by kernel_rfl) (by with_reducible first | exact H | rfl)
      · intro w Q' HS hq; replace H := HS; clear HS; (apply ow_move; (· rfl); (· ((conv => lhs; whnf) <;> rfl))); exact ow_nil hq
      apply ak_take (i := 2) rfl rfl rfl rfl (by kernel_rfl) (by with_reducible first | exact H | rfl)
      · intro w Q' HS hq; replace H := HS; clear HS; refine ow_idx1 (j := i) rfl (tyAt rfl) rfl (tyAt rfl) rfl rfl rfl hlt rfl ?_; exact ow_nil hq
      apply ak_take (i := 3) rfl rfl rfl rfl (by kernel_rfl) (by with_reducible first | exact H | rfl)
      · intro w Q' HS hq; replace H := HS; clear HS; refine ow_load rfl (tyAt rfl) rfl rfl (SlH.int (H.rowSl (i := 1) rfl) (by omega)) ?_; exact ow_nil hq
      apply ak_take (i := 4) rfl rfl rfl rfl (by kernel_rfl) (by with_reducible first | exact H | rfl)
      · intro w Q' HS hq; replace H := HS; clear HS; refine ow_eql rfl rfl rfl ?_; exact ow_nil hq
      apply ak_take (i := 5) rfl rfl rfl rfl (by kernel_rfl) (by with_reducible first | exact H | rfl)
      · intro w Q' HS hq; replace H := HS; clear HS; (apply ow_move; (· rfl); (· ((conv => lhs; whnf) <;> rfl))); exact ow_nil hq
      refine ak_guard_dec (dj := 58) rfl (fun h => ?_) (fun h => ?_) <;> try dsimp only at h
      · have hp1 := h
        clear h
        apply ak_take (i := 6) rfl rfl rfl rfl (by kernel_rfl) (by with_reducible first | exact H | rfl)
        · intro w Q' HS hq; replace H := HS; clear HS; refine ow_guard_yes rfl rfl rfl rfl ?_; (apply ow_move; (· rfl); (· ((conv => lhs; whnf) <;> rfl))); exact ow_nil hq
        apply ak_take (i := 7) rfl rfl rfl rfl (by kernel_rfl) (by with_reducible first | exact H | rfl)
        · intro w Q' HS hq; replace H := HS; clear HS; refine ow_guard_yes rfl rfl rfl rfl ?_; refine ow_gtr rfl rfl rfl ?_; exact ow_nil hq
        apply ak_take (i := 8) rfl rfl rfl rfl (by kernel_rfl) (by with_reducible first | exact H | rfl)
        · intro w Q' HS hq; replace H := HS; clear HS; (apply ow_pick_t; (· rfl); (· rfl); (· ((conv => lhs; whnf) <;> rfl))); exact ow_nil hq
        apply ak_take (i := 9) rfl rfl rfl rfl (by kernel_rfl) (by with_reducible first | exact H | rfl)
        · intro w Q' HS hq; replace H := HS; clear HS; (apply ow_move; (· rfl); (· ((conv => lhs; whnf) <;> rfl))); exact ow_nil hq
        refine ak_guard_dec (dj := 62) rfl (fun h => ?_) (fun h => ?_) <;> try dsimp only at h
        · have hm0 := h
          clear h
          apply ak_take (i := 10) rfl rfl rfl rfl (by kernel_rfl) (by with_reducible first | exact H | rfl)
          · intro w Q' HS hq; replace H := HS; clear HS; refine ow_guard_yes rfl rfl rfl rfl ?_; (apply ow_move; (· rfl); (· ((conv => lhs; whnf) <;> rfl))); exact ow_nil hq
          apply ak_take (i := 11) rfl rfl rfl rfl (by kernel_rfl) (by with_reducible first | exact H | rfl)
          · intro w Q' HS hq; replace H := HS; clear HS; refine ow_guard_yes rfl rfl rfl rfl ?_; (apply ow_move; (· rfl); (· ((conv => lhs; whnf) <;> rfl))); exact ow_nil hq
          apply ak_take (i := 13) rfl rfl rfl rfl (by kernel_rfl) (by with_reducible first | exact H | rfl)
          · intro w Q' HS hq; replace H := HS; clear HS; refine ow_guard_yes rfl rfl rfl rfl ?_; (apply ow_move; (· rfl); (· ((conv => lhs; whnf) <;> rfl))); exact ow_nil hq
          apply ak_take (i := 14) rfl rfl rfl rfl (by kernel_rfl) (by with_reducible first | exact H | rfl)
          · intro w Q' HS hq; replace H := HS; clear HS; refine ow_guard_yes rfl rfl rfl rfl ?_; (apply ow_move; (· rfl); (· ((conv => lhs; whnf) <;> rfl))); exact ow_nil hq
          apply ak_take (i := 15) rfl rfl rfl rfl (by kernel_rfl) (by with_reducible first | exact H | rfl)
          · intro w Q' HS hq; replace H := HS; clear HS; refine ow_guard_yes rfl rfl rfl rfl ?_; refine ow_idx1 (j := 0) rfl (tyAt rfl) rfl (tyAt rfl) rfl rfl rfl (by decide) rfl ?_; exact ow_nil hq
          apply ak_take (i := 16) rfl rfl rfl rfl (by kernel_rfl) (by with_reducible first | exact H | rfl)
          · intro w Q' HS hq; replace H := HS; clear HS; refine ow_guard_yes rfl rfl rfl rfl ?_; refine ow_load rfl (tyAt rfl) rfl rfl (SlH.int (H.rowSl (i := 0) rfl) (by omega)) ?_; exact ow_nil hq
          rw [hw0]
          apply ak_take (i := 17) rfl rfl rfl rfl (by kernel_rfl) (by with_reducible first | exact H | rfl)
          · intro w Q' HS hq; replace H := HS; clear HS; refine ow_guard_yes rfl rfl rfl rfl ?_; refine ow_sub rfl rfl rfl (by simp only [InK]; omega) ?_; exact ow_nil hq
          apply ak_one (i := 12)
          · kernel_rfl
          · rfl
          · rfl
          refine ow_guard_yes rfl rfl rfl rfl ?_
          refine ow_call rfl rfl (ent (by kernel_rfl)) (CallsV.mono (weight_spec g ms (i : Int) _ (hGr G)) ?_) rfl
          rintro v w' ⟨rfl, rfl⟩
          rw [hwt]
          refine ow_nil ⟨fun _ => H, ?_⟩
          apply ak_take (i := 18) rfl rfl rfl rfl (by kernel_rfl) (by with_reducible first | exact H | rfl)
          · intro w Q' HS hq; replace H := HS; clear HS; refine ow_guard_yes rfl rfl rfl rfl ?_; refine ow_leq rfl rfl rfl ?_; exact ow_nil hq
          apply ak_take (i := 19) rfl rfl rfl rfl (by kernel_rfl) (by with_reducible first | exact H | rfl)
          · intro w Q' HS hq; replace H := HS; clear HS; (apply ow_pick_t; (· rfl); (· rfl); (· ((conv => lhs; whnf) <;> rfl))); exact ow_nil hq
          refine ak_done (by kernel_rfl) ?_
          rw [decide_eq_false (show ¬ (g.ws.getD i 0 ≤ most - W0) from hfi hp1)]
          replace H := G
          refine wc_cond_false rfl ?_
          refine wc_skip ?_
          refine wc_region ?_
          refine ow_add rfl rfl rfl (by simp only [InK]; omega) ?_
          (apply ow_move; (· rfl); (· ((conv => lhs; whnf) <;> rfl)))
          refine ow_nil ?_
          exact ⟨i + 1, by first | exact rfl | exact upd_self' rfl rfl | exact upd_self' rfl (upd_self' rfl rfl) | exact upd_self' rfl (upd_self' rfl (upd_self' rfl rfl)) | exact upd_self' rfl (upd_self' rfl (upd_self' rfl (upd_self' rfl rfl))), by repeat (first | with_reducible exact Off.mix | with_reducible exact Off.refl | ((with_reducible refine Off.upd ?_ ?_); (· rfl))), ⟨rfl, hlt, H⟩, by omega⟩
        · apply ak_take (i := 10) rfl rfl rfl rfl (by kernel_rfl) (by with_reducible first | exact H | rfl)
          · intro w Q' HS hq; replace H := HS; clear HS; refine ow_guard_no rfl rfl rfl rfl rfl rfl rfl ?_; exact ow_nil hq
          apply ak_take (i := 11) rfl rfl rfl rfl (by kernel_rfl) (by with_reducible first | exact H | rfl)
          · intro w Q' HS hq; replace H := HS; clear HS; refine ow_guard_no rfl rfl rfl rfl rfl rfl rfl ?_; exact ow_nil hq
          apply ak_take (i := 13) rfl rfl rfl rfl (by kernel_rfl) (by with_reducible first | exact H | rfl)
          · intro w Q' HS hq; replace H := HS; clear HS; refine ow_guard_no rfl rfl rfl rfl rfl rfl rfl ?_; exact ow_nil hq
          apply ak_take (i := 14) rfl rfl rfl rfl (by kernel_rfl) (by with_reducible first | exact H | rfl)
          · intro w Q' HS hq; replace H := HS; clear HS; refine ow_guard_no rfl rfl rfl rfl rfl rfl rfl ?_; exact ow_nil hq
          apply ak_take (i := 15) rfl rfl rfl rfl (by kernel_rfl) (by with_reducible first | exact H | rfl)
          · intro w Q' HS hq; replace H := HS; clear HS; refine ow_guard_no rfl rfl rfl rfl rfl rfl rfl ?_; exact ow_nil hq
          apply ak_take (i := 16) rfl rfl rfl rfl (by kernel_rfl) (by with_reducible first | exact H | rfl)
          · intro w Q' HS hq; replace H := HS; clear HS; refine ow_guard_no rfl rfl rfl rfl rfl rfl rfl ?_; exact ow_nil hq
          apply ak_take (i := 17) rfl rfl rfl rfl (by kernel_rfl) (by with_reducible first | exact H | rfl)
          · intro w Q' HS hq; replace H := HS; clear HS; refine ow_guard_no rfl rfl rfl rfl rfl rfl rfl ?_; exact ow_nil hq
          apply ak_one (i := 12)
          · kernel_rfl
          · rfl
          · rfl
          refine ow_guard_no rfl rfl rfl rfl rfl rfl rfl ?_
          refine ow_nil ⟨fun _ => H, ?_⟩
          apply ak_take (i := 18) rfl rfl rfl rfl (by kernel_rfl) (by with_reducible first | exact H | rfl)
          · intro w Q' HS hq; replace H := HS; clear HS; refine ow_guard_no rfl rfl rfl rfl rfl rfl rfl ?_; exact ow_nil hq
          apply ak_take (i := 19) rfl rfl rfl rfl (by kernel_rfl) (by with_reducible first | exact H | rfl)
          · intro w Q' HS hq; replace H := HS; clear HS; (apply ow_pick_f; (· rfl); (· rfl); (· ((conv => lhs; whnf) <;> rfl))); exact ow_nil hq
          refine ak_done (by kernel_rfl) ?_
          replace H := G
          refine wc_cond_false rfl ?_
          refine wc_skip ?_
          refine wc_region ?_
          refine ow_add rfl rfl rfl (by simp only [InK]; omega) ?_
          (apply ow_move; (· rfl); (· ((conv => lhs; whnf) <;> rfl)))
          refine ow_nil ?_
          exact ⟨i + 1, by first | exact rfl | exact upd_self' rfl rfl | exact upd_self' rfl (upd_self' rfl rfl) | exact upd_self' rfl (upd_self' rfl (upd_self' rfl rfl)) | exact upd_self' rfl (upd_self' rfl (upd_self' rfl (upd_self' rfl rfl))), by repeat (first | with_reducible exact Off.mix | with_reducible exact Off.refl | ((with_reducible refine Off.upd ?_ ?_); (· rfl))), ⟨rfl, hlt, H⟩, by omega⟩
      · apply ak_take (i := 6) rfl rfl rfl rfl (by kernel_rfl) (by with_reducible first | exact H | rfl)
        · intro w Q' HS hq; replace H := HS; clear HS; refine ow_guard_no rfl rfl rfl rfl rfl rfl rfl ?_; exact ow_nil hq
        apply ak_take (i := 7) rfl rfl rfl rfl (by kernel_rfl) (by with_reducible first | exact H | rfl)
        · intro w Q' HS hq; replace H := HS; clear HS; refine ow_guard_no rfl rfl rfl rfl rfl rfl rfl ?_; exact ow_nil hq
        apply ak_take (i := 8) rfl rfl rfl rfl (by kernel_rfl) (by with_reducible first | exact H | rfl)
        · intro w Q' HS hq; replace H := HS; clear HS; (apply ow_pick_f; (· rfl); (· rfl); (· ((conv => lhs; whnf) <;> rfl))); exact ow_nil hq
        apply ak_take (i := 9) rfl rfl rfl rfl (by kernel_rfl) (by with_reducible first | exact H | rfl)
        · intro w Q' HS hq; replace H := HS; clear HS; (apply ow_move; (· rfl); (· ((conv => lhs; whnf) <;> rfl))); exact ow_nil hq
        apply ak_take (i := 10) rfl rfl rfl rfl (by kernel_rfl) (by with_reducible first | exact H | rfl)
        · intro w Q' HS hq; replace H := HS; clear HS; refine ow_guard_no rfl rfl rfl rfl rfl rfl rfl ?_; exact ow_nil hq
        apply ak_take (i := 11) rfl rfl rfl rfl (by kernel_rfl) (by with_reducible first | exact H | rfl)
        · intro w Q' HS hq; replace H := HS; clear HS; refine ow_guard_no rfl rfl rfl rfl rfl rfl rfl ?_; exact ow_nil hq
        apply ak_take (i := 13) rfl rfl rfl rfl (by kernel_rfl) (by with_reducible first | exact H | rfl)
        · intro w Q' HS hq; replace H := HS; clear HS; refine ow_guard_no rfl rfl rfl rfl rfl rfl rfl ?_; exact ow_nil hq
        apply ak_take (i := 14) rfl rfl rfl rfl (by kernel_rfl) (by with_reducible first | exact H | rfl)
        · intro w Q' HS hq; replace H := HS; clear HS; refine ow_guard_no rfl rfl rfl rfl rfl rfl rfl ?_; exact ow_nil hq
        apply ak_take (i := 15) rfl rfl rfl rfl (by kernel_rfl) (by with_reducible first | exact H | rfl)
        · intro w Q' HS hq; replace H := HS; clear HS; refine ow_guard_no rfl rfl rfl rfl rfl rfl rfl ?_; exact ow_nil hq
        apply ak_take (i := 16) rfl rfl rfl rfl (by kernel_rfl) (by with_reducible first | exact H | rfl)
        · intro w Q' HS hq; replace H := HS; clear HS; refine ow_guard_no rfl rfl rfl rfl rfl rfl rfl ?_; exact ow_nil hq
        apply ak_take (i := 17) rfl rfl rfl rfl (by kernel_rfl) (by with_reducible first | exact H | rfl)
        · intro w Q' HS hq; replace H := HS; clear HS; refine ow_guard_no rfl rfl rfl rfl rfl rfl rfl ?_; exact ow_nil hq
        apply ak_one (i := 12)
        · kernel_rfl
        · rfl
        · rfl
        refine ow_guard_no rfl rfl rfl rfl rfl rfl rfl ?_
        refine ow_nil ⟨fun _ => H, ?_⟩
        apply ak_take (i := 18) rfl rfl rfl rfl (by kernel_rfl) (by with_reducible first | exact H | rfl)
        · intro w Q' HS hq; replace H := HS; clear HS; refine ow_guard_no rfl rfl rfl rfl rfl rfl rfl ?_; exact ow_nil hq
        apply ak_take (i := 19) rfl rfl rfl rfl (by kernel_rfl) (by with_reducible first | exact H | rfl)
        · intro w Q' HS hq; replace H := HS; clear HS; (apply ow_pick_f; (· rfl); (· rfl); (· ((conv => lhs; whnf) <;> rfl))); exact ow_nil hq
        refine ak_done (by kernel_rfl) ?_
        replace H := G
        refine wc_cond_false rfl ?_
        refine wc_skip ?_
        refine wc_region ?_
        refine ow_add rfl rfl rfl (by simp only [InK]; omega) ?_
        (apply ow_move; (· rfl); (· ((conv => lhs; whnf) <;> rfl)))
        refine ow_nil ?_
        exact ⟨i + 1, by first | exact rfl | exact upd_self' rfl rfl | exact upd_self' rfl (upd_self' rfl rfl) | exact upd_self' rfl (upd_self' rfl (upd_self' rfl rfl)) | exact upd_self' rfl (upd_self' rfl (upd_self' rfl (upd_self' rfl rfl))), by repeat (first | with_reducible exact Off.mix | with_reducible exact Off.refl | ((with_reducible refine Off.upd ?_ ?_); (· rfl))), ⟨rfl, hlt, H⟩, by omega⟩
    · have hi' : i = g.ws.length := by omega
      subst hi'
      refine wc_exit ?_
      exact ⟨(), rfl, by repeat (first | with_reducible exact Off.mix | with_reducible exact Off.refl | ((with_reducible refine Off.upd ?_ ?_); (· rfl))), ⟨rfl, H⟩⟩
  clear H
  rintro _ j D w ⟨rfl, H⟩
  have hsum := sum_le hmay
  have hS : ∀ (b : Nat) (p : List Int) (z : Int) (w : World), p.length = g.ws.length → SlH (hp w) (some ⟨b, 0, none⟩) (ints .i64 p) → CallsV Try.prog 64 #[.slice (some ⟨b, 0, none⟩) g.ws.length g.ws.length, .int .i64 z, .int .i64 100] w fun v w' => ∃ q1 c1, v = .slice q1 (sdU p z g.ws.length).length c1 ∧ St Pu w w' [.app q1 (sdU p z g.ws.length).length c1 3 1 (ints .i64 (sdU p z g.ws.length))] [] := by
    intro b p z w hpl hs
    have h := sideW_spec (some ⟨b, 0, none⟩) g.ws.length p z 100 (by omega) w hs
    have hlz := sdU_len p z p.length
    unfold sdL at h
    rw [List.take_of_length_le (by rw [show (100 : Int).toNat = 100 from rfl]; omega), hpl] at h
    exact h
  have hl0 := sdU_len p 0 g.ws.length
  have hl1 := sdU_len p 1 g.ws.length
  refine wc_seq ?_
  refine wc_region ?_
  (apply ow_move; (· rfl); (· ((conv => lhs; whnf) <;> rfl)))
  (apply ow_move; (· rfl); (· ((conv => lhs; whnf) <;> rfl)))
  refine ow_call rfl rfl (ent (by kernel_rfl)) (CallsV.mono (total_spec g ms h4 hmay _ (hGr H)) ?_) rfl
  rintro v w' ⟨rfl, rfl⟩
  skip
  refine ow_call rfl rfl (ent (by kernel_rfl)) (CallsV.mono (halve_spec g ms g.ws.sum hn h4 hmay hW (by omega) _ (hGr H)) ?_) rfl
  rintro v w ⟨bt, rfl, H'⟩
  replace H := H.call H'
  simp only [List.cons_append, List.nil_append] at H
  clear H'
  have hgt := gi_all h0 g.ws.sum (tb ms).length
  change GI (tb ms) g.ws g.ws.sum (halveL (tb ms) g.ws g.ws.sum) at hgt
  have hptl := hgt.len
  rw [hTl] at hptl
  have hsf := side_full g.ws.length htot
  generalize halveL (tb ms) g.ws g.ws.sum = pt at hptl hsf H ⊢
  rw [hptl]
  skip
  refine ow_call rfl rfl (ent (by kernel_rfl)) (CallsV.mono (hS bt pt 0 _ hptl (H.rowSl (i := 0) rfl)) ?_) rfl
  rintro v w ⟨qa, ca, rfl, H'⟩
  replace H := (H.call H').drop
  clear H'
  rw [hsf]
  refine ow_len rfl rfl (tyAt rfl) rfl ?_
  (apply ow_move; (· rfl); (· ((conv => lhs; whnf) <;> rfl)))
  refine ow_len rfl rfl (tyAt rfl) rfl ?_
  refine ow_eql rfl rfl rfl ?_
  (apply ow_move; (· rfl); (· ((conv => lhs; whnf) <;> rfl)))
  refine ow_guard_dec rfl rfl rfl (fun _ => ?_) (fun h => (h (by with_reducible rfl)).elim)
  refine ow_guard_yes rfl rfl rfl rfl ?_
  (apply ow_move; (· rfl); (· ((conv => lhs; whnf) <;> rfl)))
  refine ow_guard_yes rfl rfl rfl rfl ?_
  refine ow_call rfl rfl (ent (by kernel_rfl)) (CallsV.mono (hS bm p 0 _ hpl (H.rowSl (i := 2) rfl)) ?_) rfl
  rintro v w ⟨qa, ca, rfl, H'⟩
  replace H := (H.call H').drop
  clear H'
  refine ow_guard_yes rfl rfl rfl rfl ?_
  refine ow_len rfl rfl (tyAt rfl) rfl ?_
  refine ow_guard_yes rfl rfl rfl rfl ?_
  (apply ow_move; (· rfl); (· ((conv => lhs; whnf) <;> rfl)))
  refine ow_guard_yes rfl rfl rfl rfl ?_
  refine ow_call rfl rfl (ent (by kernel_rfl)) (CallsV.mono (hS bm p 1 _ hpl (H.rowSl (i := 2) rfl)) ?_) rfl
  rintro v w ⟨qa, ca, rfl, H'⟩
  replace H := (H.call H').drop
  clear H'
  generalize (sdU p 0 g.ws.length).length = n0 at *
  generalize (sdU p 1 g.ws.length).length = n1 at *
  refine ow_guard_yes rfl rfl rfl rfl ?_
  refine ow_len rfl rfl (tyAt rfl) rfl ?_
  refine ow_guard_yes rfl rfl rfl rfl ?_
  refine ow_add rfl rfl rfl (by simp only [InK]; omega) ?_
  refine ow_guard_yes rfl rfl rfl rfl ?_
  (apply ow_move; (· rfl); (· ((conv => lhs; whnf) <;> rfl)))
  refine ow_guard_yes rfl rfl rfl rfl ?_
  refine ow_len rfl rfl (tyAt rfl) rfl ?_
  refine ow_guard_yes rfl rfl rfl rfl ?_
  refine ow_eql rfl rfl rfl ?_
  (apply ow_pick_t; (· rfl); (· rfl); (· ((conv => lhs; whnf) <;> rfl)))
  (apply ow_assign; (· rfl); (· ((conv => lhs; whnf) <;> rfl)))
  refine ow_nil ?_
  refine wc_ret ?_
  obtain ⟨w, hT, H⟩ := H.takes Try.prog
  refine ⟨.inr rfl, w, hT, _, .tmp .nil, ?_⟩
  exact ⟨congrArg Value.bool (decide_eq_true (by omega)), H.none⟩
end Go.Proofs.Ytgliblmpiilloaa
