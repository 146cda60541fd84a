/- The statement's function 'sandtablelaw13.RefineMoves' returns true at every input, and changes nothing that was there. -/
import Derived.Test.YtpbknokakooekaaRC13
namespace Go.Proofs.Ytpbknokakooekaa
set_option linter.all false
open Go Go.Sx Go.Proofs
set_option maxRecDepth 100000
set_option maxHeartbeats 2000000
theorem law13Moves (q q2 q3 : Option Addr) (cap cap2 cap3 : Nat) (ws : List Int) (ops : List OpA) (part : List Int) (bd : Int × Int) (nn : Int) (hm : ws.length ≤ 9223372036854775807) (hm2 : ops.length ≤ 9223372036854775807) (hm3 : part.length ≤ 9223372036854775807) (w0 : World) (hq : SlH (hp w0) q (ints .i64 ws)) (hq2 : SlH (hp w0) q2 (ops.flatMap opA)) (hs : SlH (hp w0) q3 (ints .i64 part)) :
    CallsV Try.prog 7 #[.slice q ws.length cap, .slice q2 ops.length cap2, .slice q3 part.length cap3, .agg ⟨bdV bd⟩, .int .i64 nn] w0 fun v w => v = .bool true ∧ St Pu w0 w [] [] := by
  refine callsV_of Try.func7 rfl rfl ?_
  obtain ⟨k15, hk15, ek0⟩ := and_mask nn (m := 15) (by decide)
  have ek15 : Sx.bw .and .i64 nn 15 = (k15 : Int) := ek0
  clear ek0
  have H := St.init w0
  refine wc_seq ?_
  refine wc_region ?_
  refine ow_box (l := bdV bd) H rfl rfl rfl (fun b3 w H => ?_)
  (apply ow_assign; (· rfl); (· ((conv => lhs; whnf) <;> rfl)))
  refine ow_nil ?_
  refine wc_seq ?_
  refine wc_seq ?_
  refine wc_region ?_
  refine ow_call rfl rfl (ent (by kernel_rfl)) (CallsV.mono (alive13 _) ?_) rfl
  rintro v w ⟨rfl, H'⟩
  replace H := H.call H'
  rw [List.nil_append] at H
  clear H'
  refine ow_not rfl rfl ?_
  refine ow_nil ?_
  refine wc_cond_false rfl ?_
  refine wc_skip ?_
  refine wc_seq ?_
  refine wc_region ?_
  (apply ow_move; (· rfl); (· ((conv => lhs; whnf) <;> rfl)))
  (apply ow_move; (· rfl); (· ((conv => lhs; whnf) <;> rfl)))
  refine ow_call rfl rfl (ent (by kernel_rfl)) (CallsV.mono (build13_spec q q2 cap cap2 ws ops hm hm2 w (H.oldSl hq) (H.oldSl hq2)) ?_) rfl
  rintro v w (⟨rfl, _, H'⟩ | ⟨g, x, ms, rows, rfl, rfl, hxw, h30, hmay, hW, hn, _, hM, H'⟩)
  · replace H := (H.call H')
    rw [List.nil_append] at H
    clear H'
    (apply ow_move; (· rfl); (· ((conv => lhs; whnf) <;> rfl)))
    refine ow_extract rfl rfl rfl ?_
    refine ow_extract rfl rfl rfl ?_
    refine ow_extract rfl rfl rfl ?_
    refine ow_alloc (l := [.slice none 0 0, .slice none 0 0]) H rfl (tyAt rfl) rfl (fun b6 w H => ?_)
    (apply ow_assign; (· rfl); (· ((conv => lhs; whnf) <;> rfl)))
    refine ow_storeA (i := 0) (o := 0) (l' := [.slice none 0 0, .slice none 0 0]) H (tyAt rfl) rfl rfl rfl rfl (by simp [Value.oneCell']) (by simp) (fun w H => ?_)
    (apply ow_assign; (· rfl); (· ((conv => lhs; whnf) <;> rfl)))
    refine ow_nil ?_
    refine wc_seq ?_
    refine wc_seq ?_
    refine wc_region ?_
    (apply ow_move; (· rfl); (· ((conv => lhs; whnf) <;> rfl)))
    refine ow_not rfl rfl ?_
    (apply ow_move; (· rfl); (· ((conv => lhs; whnf) <;> rfl)))
    refine ow_guard_no rfl rfl rfl rfl rfl rfl rfl ?_
    refine ow_guard_no rfl rfl rfl rfl rfl rfl rfl ?_
    refine ow_guard_no rfl rfl rfl rfl rfl rfl rfl ?_
    (apply ow_pick_t; (· rfl); (· rfl); (· ((conv => lhs; whnf) <;> rfl)))
    (apply ow_move; (· rfl); (· ((conv => lhs; whnf) <;> rfl)))
    refine ow_guard_no rfl rfl rfl rfl rfl rfl rfl ?_
    refine ow_guard_no rfl rfl rfl rfl rfl rfl rfl ?_
    refine ow_guard_no rfl rfl rfl rfl rfl rfl rfl ?_
    (apply ow_pick_t; (· rfl); (· rfl); (· ((conv => lhs; whnf) <;> rfl)))
    refine ow_nil ?_
    refine wc_cond_true rfl ?_
    refine wc_seq ?_
    refine wc_region ?_
    (apply ow_assign; (· rfl); (· ((conv => lhs; whnf) <;> rfl)))
    refine ow_nil ?_
    refine wc_ret ?_
    obtain ⟨w, hT, H⟩ := H.takes Try.prog
    refine ⟨.inr rfl, w, hT, _, .tmp .nil, ?_⟩
    exact ⟨rfl, H.none⟩
  replace H : St Pu w0 w ((grC g ms ++ rfC x rows) ++ [.row b3 34 (bdV bd)]) [] := H.call H'
  clear H'
  (apply ow_move; (· rfl); (· ((conv => lhs; whnf) <;> rfl)))
  refine ow_extract rfl rfl rfl ?_
  refine ow_extract rfl rfl rfl ?_
  refine ow_extract rfl rfl rfl ?_
  refine ow_alloc (l := [.slice none 0 0, .slice none 0 0]) H rfl (tyAt rfl) rfl (fun b6 w H => ?_)
  (apply ow_assign; (· rfl); (· ((conv => lhs; whnf) <;> rfl)))
  refine ow_storeA (i := 0) (o := 0) (l' := rfV x rows) H (tyAt rfl) rfl rfl rfl rfl (by simp [Value.oneCell']) (by simp) (fun w H => ?_)
  have h4 : g.ws.length ≤ 4096 := by omega
  have h1k : g.ws.length ≤ 1000 := by omega
  have hTl : (tb ms).length = g.ws.length := by rw [tb_len, hn]
  have hxl : (tb ms).length = x.ws.length := by rw [hTl, hxw]
  replace H : St Pu w0 w ([.row b6 45 (rfV x rows), .row b3 34 (bdV bd)] ++ (grC g ms ++ rfC x rows)) [] := H.perm (List.perm_append_comm.cons _)
  obtain ⟨RR, hRR⟩ : ∃ RR, grC g ms ++ rfC x rows = RR := ⟨_, rfl⟩
  have hGr : ∀ {w : World} {pre : List Cap}, St Pu w0 w (pre ++ RR) [] → Gr (hp w) g ms := fun H => gr_of_ok fun c hc => okAll H c (List.mem_append_right _ (by rw [← hRR]; exact List.mem_append_left _ hc))
  have hRf : ∀ {w : World} {pre : List Cap}, St Pu w0 w (pre ++ RR) [] → Rf (hp w) x rows := fun H => rf_of_ok fun c hc => okAll H c (List.mem_append_right _ (by rw [← hRR]; exact List.mem_append_right _ hc))
  rw [hRR] at H
  clear hRR
  (apply ow_assign; (· rfl); (· ((conv => lhs; whnf) <;> rfl)))
  refine ow_nil ?_
  refine wc_seq ?_
  refine wc_seq ?_
  refine wc_region ?_
  (apply ow_move; (· rfl); (· ((conv => lhs; whnf) <;> rfl)))
  refine ow_not rfl rfl ?_
  (apply ow_move; (· rfl); (· ((conv => lhs; whnf) <;> rfl)))
  refine ow_guard_yes rfl rfl rfl rfl ?_
  (apply ow_move; (· rfl); (· ((conv => lhs; whnf) <;> rfl)))
  refine ow_guard_yes rfl rfl rfl rfl ?_
  refine ow_len rfl rfl (tyAt rfl) rfl ?_
  refine ow_guard_yes rfl rfl rfl rfl ?_
  refine ow_gtr rfl rfl rfl ?_
  (apply ow_pick_f; (· rfl); (· rfl); (· ((conv => lhs; whnf) <;> rfl)))
  (apply ow_move; (· rfl); (· ((conv => lhs; whnf) <;> rfl)))
  refine ow_guard_dec rfl rfl rfl (fun h => ?_) (fun h => ?_) <;> try dsimp only at h
  · refine ow_guard_no rfl rfl rfl rfl rfl rfl rfl ?_
    refine ow_guard_no rfl rfl rfl rfl rfl rfl rfl ?_
    refine ow_guard_no rfl rfl rfl rfl rfl rfl rfl ?_
    (apply ow_pick_t; (· rfl); (· rfl); (· ((conv => lhs; whnf) <;> rfl)))
    refine ow_nil ?_
    refine wc_cond_true rfl ?_
    refine wc_seq ?_
    refine wc_region ?_
    (apply ow_assign; (· rfl); (· ((conv => lhs; whnf) <;> rfl)))
    refine ow_nil ?_
    refine wc_ret ?_
    obtain ⟨w, hT, H⟩ := H.takes Try.prog
    refine ⟨.inr rfl, w, hT, _, .tmp .nil, ?_⟩
    exact ⟨rfl, H.none⟩
  clear h
  refine ow_guard_yes rfl rfl rfl rfl ?_
  (apply ow_move; (· rfl); (· ((conv => lhs; whnf) <;> rfl)))
  refine ow_guard_yes rfl rfl rfl rfl ?_
  refine ow_len rfl rfl (tyAt rfl) rfl ?_
  refine ow_guard_yes rfl rfl rfl rfl ?_
  refine ow_gtr rfl rfl rfl ?_
  (apply ow_pick_f; (· rfl); (· rfl); (· ((conv => lhs; whnf) <;> rfl)))
  refine ow_nil ?_
  refine wc_cond_dec rfl (fun h => ?_) (fun h => ?_) <;> try dsimp only at h
  · refine wc_seq ?_
    refine wc_region ?_
    (apply ow_assign; (· rfl); (· ((conv => lhs; whnf) <;> rfl)))
    refine ow_nil ?_
    refine wc_ret ?_
    obtain ⟨w, hT, H⟩ := H.takes Try.prog
    refine ⟨.inr rfl, w, hT, _, .tmp .nil, ?_⟩
    exact ⟨rfl, H.none⟩
  have hp60 : part.length ≤ 60 := by omega
  clear h
  have hM1 := fun (most : Int) w hG hsz => movesW_spec g ms part q3 cap3 bd most (by omega) hmay hn h1k hW w hG hsz
  have hMh := hM1 100
  have hMk := hM1 (k15 : Int)
  clear hM1
  have hxl2 := mvL_len (tb ms) g.ws bd part
  rw [hTl] at hxl2
  rw [List.take_of_length_le (show (mvL (tb ms) g.ws bd part).length ≤ (100 : Int).toNat by rw [show (100 : Int).toNat = 100 from rfl]; omega)] at hMh
  rw [Int.toNat_natCast] at hMk
  have hrm := fun w hR' hsz => refMoves_spec (tb ms) x rows part q3 cap3 bd hW hxl (by omega) (by rw [hxw]; exact hM) (by rw [hxw]; exact hmay) (by omega) w hR' hsz
  have hrp := fun w hR' hsz => refPass_spec (tb ms) x rows part q3 cap3 bd hW hxl (by omega) (by rw [hxw]; exact hM) (by rw [hxw]; exact hmay) (by omega) w hR' hsz
  rw [hxw] at hrm hrp
  have hps := fun w hG hsz => pass_spec g ms part q3 cap3 bd (by omega) hmay hn h1k hW w hG hsz
  obtain ⟨xs, hxs⟩ : ∃ xs, mvL (tb ms) g.ws bd part = xs := ⟨_, rfl⟩
  rw [hxs] at hMh hMk hrm hxl2
  clear hxs
  refine wc_skip ?_
  refine wc_seq ?_
  refine wc_region ?_
  (apply ow_move; (· rfl); (· ((conv => lhs; whnf) <;> rfl)))
  (apply ow_move; (· rfl); (· ((conv => lhs; whnf) <;> rfl)))
  refine ow_loadA (l := bdV bd) rfl (tyAt rfl) rfl rfl rfl (H.cells (i := 1) (o := 0) (m := 2) rfl rfl) ?_
  refine ow_call rfl rfl (ent (by kernel_rfl)) (CallsV.mono (hMh _ (hGr H) (H.oldSl hs)) ?_) rfl
  rintro v w ⟨qa, ca, qb, cb, rfl, H'⟩
  replace H : St Pu w0 w ([.app qb xs.length cb 2 1 (ints .i64 (xs.map (·.2))), .app qa xs.length ca 3 1 (ints .i64 (xs.map (·.1))), .row b6 45 (rfV x rows), .row b3 34 (bdV bd)] ++ RR) [] := H.call H'
  clear H'
  (apply ow_move; (· rfl); (· ((conv => lhs; whnf) <;> rfl)))
  refine ow_extract rfl rfl rfl ?_
  refine ow_extract rfl rfl rfl ?_
  (apply ow_assign; (· rfl); (· ((conv => lhs; whnf) <;> rfl)))
  (apply ow_assign; (· rfl); (· ((conv => lhs; whnf) <;> rfl)))
  refine ow_nil ?_
  refine wc_seq ?_
  refine wc_region ?_
  refine ow_loadA (l := rfV x rows) rfl (tyAt rfl) rfl rfl rfl (H.cells (i := 2) (o := 0) (m := 2) rfl rfl) ?_
  (apply ow_move; (· rfl); (· ((conv => lhs; whnf) <;> rfl)))
  refine ow_loadA (l := bdV bd) rfl (tyAt rfl) rfl rfl rfl (H.cells (i := 3) (o := 0) (m := 2) rfl rfl) ?_
  refine ow_call rfl rfl (ent (by kernel_rfl)) (CallsV.mono (hrm _ (hRf H) (H.oldSl hs)) ?_) rfl
  rintro v w ⟨q4, c4, q5, c5, rfl, H'⟩
  replace H : St Pu w0 w ([.app q4 xs.length c4 3 1 (ints .i64 (xs.map (·.1))), .app q5 xs.length c5 2 1 (ints .i64 (xs.map (·.2))), .app qb xs.length cb 2 1 (ints .i64 (xs.map (·.2))), .app qa xs.length ca 3 1 (ints .i64 (xs.map (·.1))), .row b6 45 (rfV x rows), .row b3 34 (bdV bd)] ++ RR) [] := H.call H'
  clear H'
  (apply ow_move; (· rfl); (· ((conv => lhs; whnf) <;> rfl)))
  refine ow_extract rfl rfl rfl ?_
  refine ow_extract rfl rfl rfl ?_
  (apply ow_assign; (· rfl); (· ((conv => lhs; whnf) <;> rfl)))
  (apply ow_assign; (· rfl); (· ((conv => lhs; whnf) <;> rfl)))
  refine ow_nil ?_
  refine wc_seq ?_
  refine wc_seq ?_
  refine wc_region ?_
  (apply ow_move; (· rfl); (· ((conv => lhs; whnf) <;> rfl)))
  (apply ow_move; (· rfl); (· ((conv => lhs; whnf) <;> rfl)))
  refine ow_call rfl rfl (ent (by kernel_rfl)) (CallsV.mono (sameInts_spec qa q4 _ _ _ _ (xs.map fun (y : Int × Int) => y.1) (xs.map fun (y : Int × Int) => y.1) (by rw [List.length_map]) (by rw [List.length_map]) (by rw [List.length_map]; omega) (by rw [List.length_map]; omega) _ (appOk.sl (H.cap (i := 3) rfl)) (appOk.sl (H.cap (i := 0) rfl))) ?_) rfl
  rintro v w ⟨rfl, H'⟩
  replace H := H.call H'
  rw [List.nil_append] at H
  clear H'
  rw [decide_eq_true (rfl : (xs.map fun (y : Int × Int) => y.1) = (xs.map fun (y : Int × Int) => y.1))]
  refine ow_not rfl rfl ?_
  (apply ow_move; (· rfl); (· ((conv => lhs; whnf) <;> rfl)))
  refine ow_guard_yes rfl rfl rfl rfl ?_
  (apply ow_move; (· rfl); (· ((conv => lhs; whnf) <;> rfl)))
  refine ow_guard_yes rfl rfl rfl rfl ?_
  refine ow_len rfl rfl (tyAt rfl) rfl ?_
  refine ow_guard_yes rfl rfl rfl rfl ?_
  (apply ow_move; (· rfl); (· ((conv => lhs; whnf) <;> rfl)))
  refine ow_guard_yes rfl rfl rfl rfl ?_
  refine ow_len rfl rfl (tyAt rfl) rfl ?_
  refine ow_guard_yes rfl rfl rfl rfl ?_
  refine ow_neq rfl rfl rfl ?_
  (apply ow_pick_f; (· rfl); (· rfl); (· ((conv => lhs; whnf) <;> rfl)))
  refine ow_nil ?_
  rw [decide_eq_false (show ¬ ¬ ((xs.length : Int) = (xs.length : Int)) from fun h => h rfl)]
  obtain ⟨LL, hLL⟩ : ∃ LL, ([.app q4 xs.length c4 3 1 (ints .i64 (xs.map (·.1))), .app q5 xs.length c5 2 1 (ints .i64 (xs.map (·.2))), .app qb xs.length cb 2 1 (ints .i64 (xs.map (·.2))), .app qa xs.length ca 3 1 (ints .i64 (xs.map (·.1))), .row b6 45 (rfV x rows), .row b3 34 (bdV bd)] : List Cap) = LL := ⟨_, rfl⟩
  rw [hLL] at H
  refine wc_cond_false rfl ?_
  refine wc_skip ?_
  refine wc_seq ?_
  refine wc_seq ?_
  refine wc_region ?_
  (apply ow_move; (· rfl); (· ((conv => lhs; whnf) <;> rfl)))
  refine ow_len rfl rfl (tyAt rfl) rfl ?_
  (apply ow_move; (· rfl); (· ((conv => lhs; whnf) <;> rfl)))
  refine ow_nil ?_
  refine wc_blockJ [10, 18, 74, 75, 76, 77, 78, 79, 80, 81, 82, 83, 84, 85, 86] (fun (_ : Unit) e => e) (fun _ D w => D = [] ∧ St Pu w0 w (LL ++ RR) []) ?_ ?_
  · refine wc_loopS [10, 18, 74, 75, 76, 77, 78, 79, 80, 81, 82, 83, 84, 85, 86] (fun (i : Nat) e => upd e 74 (.int .i64 i)) (fun i D w => D = [] ∧ i ≤ xs.length ∧ St Pu w0 w (LL ++ RR) []) (fun i _ => xs.length - i) 0 (by first | exact rfl | exact upd_self' rfl rfl | exact upd_self' rfl (upd_self' rfl rfl) | exact upd_self' rfl (upd_self' rfl (upd_self' rfl rfl)) | exact upd_self' rfl (upd_self' rfl (upd_self' rfl (upd_self' rfl rfl)))) ⟨rfl, Nat.zero_le _, H⟩ ?_
    clear H
    rintro i j D w ⟨rfl, hi, H⟩
    refine wc_seq ?_
    refine wc_region ?_
    refine ow_lss rfl rfl rfl ?_
    refine ow_nil ?_
    refine wc_seq ?_
    refine wc_cond_dec rfl (fun h => ?_) (fun h => ?_) <;> try dsimp only at h
    · have hlt : i < xs.length := by omega
      clear h
      subst hLL
      obtain ⟨bb, rfl⟩ : ∃ g, qb = some ⟨g, 0, none⟩ := appOk.some (H.cap (i := 2) rfl) (by simp; omega)
      obtain ⟨b5, rfl⟩ : ∃ g, q5 = some ⟨g, 0, none⟩ := appOk.some (H.cap (i := 1) rfl) (by simp; omega)
      refine wc_skip ?_
      refine wc_seq ?_
      refine wc_block ?_
      refine wc_seq ?_
      refine wc_region ?_
      (apply ow_move; (· rfl); (· ((conv => lhs; whnf) <;> rfl)))
      (apply ow_assign; (· rfl); (· ((conv => lhs; whnf) <;> rfl)))
      refine ow_nil ?_
      refine wc_seq ?_
      refine wc_drawK (fun w => St Pu w0 w ([.app q4 xs.length c4 3 1 (ints .i64 (xs.map (·.1))), .app (some ⟨b5, 0, none⟩) xs.length c5 2 1 (ints .i64 (xs.map (·.2))), .app (some ⟨bb, 0, none⟩) xs.length cb 2 1 (ints .i64 (xs.map (·.2))), .app qa xs.length ca 3 1 (ints .i64 (xs.map (·.1))), .row b6 45 (rfV x rows), .row b3 34 (bdV bd)] ++ RR) []) 99 (by kernel_rfl) (by kernel_rfl) (by intro c e D w h; first | exact h.elim | (rcases h with ⟨h | h, _⟩ <;> cases h)) ?_
      replace H := H.drew
      apply ak_take (i := 0) rfl rfl rfl rfl (by kernel_rfl) (by with_reducible first | exact H | rfl)
      · intro w Q' HS hq; replace H := HS; clear HS; (apply ow_move; (· rfl); (· ((conv => lhs; whnf) <;> rfl))); exact ow_nil hq
      apply ak_take (i := 1) rfl rfl rfl rfl (by kernel_rfl) (by with_reducible first | exact H | rfl)
      · intro w Q' HS hq; replace H := HS; clear HS; (apply ow_move; (· rfl); (· ((conv => lhs; whnf) <;> rfl))); exact ow_nil hq
      apply ak_take (i := 2) rfl rfl rfl rfl (by kernel_rfl) (by with_reducible first | exact H | rfl)
      · intro w Q' HS hq; replace H := HS; clear HS; refine ow_idx1 (j := i) rfl (tyAt rfl) rfl (tyAt rfl) rfl rfl rfl hlt rfl ?_; exact ow_nil hq
      apply ak_take (i := 3) rfl rfl rfl rfl (by kernel_rfl) (by with_reducible first | exact H | rfl)
      · intro w Q' HS hq; replace H := HS; clear HS; refine ow_load rfl (tyAt rfl) rfl rfl (SlH.int (appOk.sl (H.cap (i := 2) rfl)) (by rw [List.length_map]; exact hlt)) ?_; exact ow_nil hq
      apply ak_take (i := 4) rfl rfl rfl rfl (by kernel_rfl) (by with_reducible first | exact H | rfl)
      · intro w Q' HS hq; replace H := HS; clear HS; (apply ow_move; (· rfl); (· ((conv => lhs; whnf) <;> rfl))); exact ow_nil hq
      apply ak_take (i := 5) rfl rfl rfl rfl (by kernel_rfl) (by with_reducible first | exact H | rfl)
      · intro w Q' HS hq; replace H := HS; clear HS; (apply ow_move; (· rfl); (· ((conv => lhs; whnf) <;> rfl))); exact ow_nil hq
      apply ak_take (i := 6) rfl rfl rfl rfl (by kernel_rfl) (by with_reducible first | exact H | rfl)
      · intro w Q' HS hq; replace H := HS; clear HS; refine ow_idx1 (j := i) rfl (tyAt rfl) rfl (tyAt rfl) rfl rfl rfl hlt rfl ?_; exact ow_nil hq
      apply ak_take (i := 7) rfl rfl rfl rfl (by kernel_rfl) (by with_reducible first | exact H | rfl)
      · intro w Q' HS hq; replace H := HS; clear HS; refine ow_load rfl (tyAt rfl) rfl rfl (SlH.int (appOk.sl (H.cap (i := 1) rfl)) (by rw [List.length_map]; exact hlt)) ?_; exact ow_nil hq
      apply ak_take (i := 8) rfl rfl rfl rfl (by kernel_rfl) (by with_reducible first | exact H | rfl)
      · intro w Q' HS hq; replace H := HS; clear HS; refine ow_neq rfl rfl rfl ?_; exact ow_nil hq
      refine ak_done (by kernel_rfl) ?_
      rw [decide_eq_false (show ¬ ¬ ((xs.map (·.2)).getD i 0 = (xs.map (·.2)).getD i 0) from fun h => h rfl)]
      refine wc_cond_false rfl ?_
      refine wc_skip ?_
      refine wc_region ?_
      refine ow_add rfl rfl rfl (by simp only [InK]; omega) ?_
      (apply ow_move; (· rfl); (· ((conv => lhs; whnf) <;> rfl)))
      refine ow_nil ?_
      exact ⟨i + 1, by first | exact rfl | exact upd_self' rfl rfl | exact upd_self' rfl (upd_self' rfl rfl) | exact upd_self' rfl (upd_self' rfl (upd_self' rfl rfl)) | exact upd_self' rfl (upd_self' rfl (upd_self' rfl (upd_self' rfl rfl))), by repeat (first | with_reducible exact Off.mix | with_reducible exact Off.refl | ((with_reducible refine Off.upd ?_ ?_); (· rfl))), ⟨rfl, hlt, H⟩, by omega⟩
    · have hi' : i = xs.length := by omega
      subst hi'
      refine wc_exit ?_
      exact ⟨(), rfl, by repeat (first | with_reducible exact Off.mix | with_reducible exact Off.refl | ((with_reducible refine Off.upd ?_ ?_); (· rfl))), ⟨rfl, H⟩⟩
  clear H
  rintro _ j D w ⟨rfl, H⟩
  subst hLL
  have hcs := appOk.le (H.cap (i := 0) rfl)
  have hmin : (xs.map (·.1)).take (min k15 xs.length) = (xs.map (·.1)).take k15 := by
    rw [← List.take_take, ← List.length_map (f := fun (x : Int × Int) => x.1), List.take_length]
  have hml : (min (k15 : Int) (xs.length : Int)).toNat = min k15 xs.length := by omega
  refine wc_seq ?_
  refine wc_region ?_
  (apply ow_move; (· rfl); (· ((conv => lhs; whnf) <;> rfl)))
  refine ow_and rfl rfl rfl ?_
  (apply ow_move; (· rfl); (· ((conv => lhs; whnf) <;> rfl)))
  refine ow_len rfl rfl (tyAt rfl) rfl ?_
  refine ow_min rfl rfl rfl ?_
  (apply ow_assign; (· rfl); (· ((conv => lhs; whnf) <;> rfl)))
  refine ow_nil ?_
  refine wc_seq ?_
  refine wc_region ?_
  (apply ow_move; (· rfl); (· ((conv => lhs; whnf) <;> rfl)))
  (apply ow_move; (· rfl); (· ((conv => lhs; whnf) <;> rfl)))
  rw [ek15]
  skip
  refine ow_loadA (l := bdV bd) rfl (tyAt rfl) rfl rfl rfl (H.cells (i := 5) (o := 0) (m := 2) rfl rfl) ?_
  (apply ow_move; (· rfl); (· ((conv => lhs; whnf) <;> rfl)))
  refine ow_and rfl rfl rfl ?_
  rw [ek15]
  refine ow_call rfl rfl (ent (by kernel_rfl)) (CallsV.mono (hMk _ (hGr H) (H.oldSl hs)) ?_) rfl
  rintro v w ⟨q1, c1, qz, cz, rfl, H'⟩
  replace H : St Pu w0 w (([.app q1 (xs.take k15).length c1 3 1 (ints .i64 ((xs.take k15).map (·.1))), .app q4 xs.length c4 3 1 (ints .i64 (xs.map (·.1))), .row b6 45 (rfV x rows), .row b3 34 (bdV bd)]) ++ RR) [] := (H.call H').sub (.cons _ (.cons₂ _ (.cons₂ _ (.cons _ (.cons _ (.cons _ (.cons₂ _ (.cons₂ _ (List.Sublist.refl _)))))))))
  clear H'
  (apply ow_move; (· rfl); (· ((conv => lhs; whnf) <;> rfl)))
  refine ow_extract rfl rfl rfl ?_
  refine ow_extract rfl rfl rfl ?_
  (apply ow_assign; (· rfl); (· ((conv => lhs; whnf) <;> rfl)))
  (apply ow_assign; (· rfl); (· ((conv => lhs; whnf) <;> rfl)))
  refine ow_nil ?_
  refine wc_seq ?_
  refine wc_region ?_
  (apply ow_move; (· rfl); (· ((conv => lhs; whnf) <;> rfl)))
  (apply ow_move; (· rfl); (· ((conv => lhs; whnf) <;> rfl)))
  refine ow_loadA (l := bdV bd) rfl (tyAt rfl) rfl rfl rfl (H.cells (i := 3) (o := 0) (m := 2) rfl rfl) ?_
  refine ow_call rfl rfl (ent (by kernel_rfl)) (CallsV.mono (hps _ (hGr H) (H.oldSl hs)) ?_) rfl
  rintro v w ⟨q8, c8, rfl, H'⟩
  replace H : St Pu w0 w ([.app q8 part.length c8 3 1 (ints .i64 (passL (tb ms) g.ws bd part).1), .app q1 (xs.take k15).length c1 3 1 (ints .i64 ((xs.take k15).map (·.1))), .app q4 xs.length c4 3 1 (ints .i64 (xs.map (·.1))), .row b6 45 (rfV x rows), .row b3 34 (bdV bd)] ++ RR) [] := H.call H'
  clear H'
  (apply ow_move; (· rfl); (· ((conv => lhs; whnf) <;> rfl)))
  refine ow_extract rfl rfl rfl ?_
  refine ow_extract rfl rfl rfl ?_
  (apply ow_assign; (· rfl); (· ((conv => lhs; whnf) <;> rfl)))
  (apply ow_assign; (· rfl); (· ((conv => lhs; whnf) <;> rfl)))
  refine ow_nil ?_
  refine wc_seq ?_
  refine wc_region ?_
  refine ow_loadA (l := rfV x rows) rfl (tyAt rfl) rfl rfl rfl (H.cells (i := 3) (o := 0) (m := 2) rfl rfl) ?_
  (apply ow_move; (· rfl); (· ((conv => lhs; whnf) <;> rfl)))
  refine ow_loadA (l := bdV bd) rfl (tyAt rfl) rfl rfl rfl (H.cells (i := 4) (o := 0) (m := 2) rfl rfl) ?_
  refine ow_call rfl rfl (ent (by kernel_rfl)) (CallsV.mono (hrp _ (hRf H) (H.oldSl hs)) ?_) rfl
  rintro v w ⟨q9, c9, L2, rfl, hbl, hB, H'⟩
  replace H : St Pu w0 w ([.app q8 part.length c8 3 1 (ints .i64 (passL (tb ms) g.ws bd part).1), .app q1 (xs.take k15).length c1 3 1 (ints .i64 ((xs.take k15).map (·.1))), .app q4 xs.length c4 3 1 (ints .i64 (xs.map (·.1)))] ++ L2) [] := (H.call H').perm List.perm_append_comm |>.sub (by
    refine List.Sublist.append ?_ (List.Sublist.refl _)
    exact .cons₂ _ (.cons₂ _ (.cons₂ _ (List.nil_sublist _))))
  clear H'
  obtain ⟨PA, hPA⟩ : ∃ PA, (passL (tb ms) g.ws bd part).1 = PA := ⟨_, rfl⟩
  obtain ⟨GA, hGA⟩ : ∃ GA, (passL (tb ms) g.ws bd part).2 = GA := ⟨_, rfl⟩
  rw [hPA] at H hB hbl
  rw [hGA]
  have hu := (appOk.sl (H.cap (i := 2) rfl)).subP (cap := c4) (sz := 1) (by simp; omega) 0 (min k15 xs.length)
  rw [Nat.zero_mul, List.drop_zero, show (ints .i64 (xs.map (·.1))).take (min k15 xs.length) = ints .i64 ((xs.take k15).map (·.1)) by rw [List.map_take, ← hmin]; unfold ints; rw [List.map_take]] at hu
  have htl : ((xs.take k15).map (·.1)).length = min k15 xs.length := by rw [List.length_map, List.length_take]
  (apply ow_move; (· rfl); (· ((conv => lhs; whnf) <;> rfl)))
  refine ow_extract rfl rfl rfl ?_
  refine ow_extract rfl rfl rfl ?_
  (apply ow_assign; (· rfl); (· ((conv => lhs; whnf) <;> rfl)))
  (apply ow_assign; (· rfl); (· ((conv => lhs; whnf) <;> rfl)))
  refine ow_nil ?_
  refine wc_seq ?_
  refine wc_region ?_
  (apply ow_move; (· rfl); (· ((conv => lhs; whnf) <;> rfl)))
  (apply ow_move; (· rfl); (· ((conv => lhs; whnf) <;> rfl)))
  (apply ow_move; (· rfl); (· ((conv => lhs; whnf) <;> rfl)))
  refine ow_sliceHi (m := min (k15 : Int) (xs.length : Int)) rfl (tyAt rfl) rfl (tyAt rfl) rfl rfl (by omega) (by omega) ?_
  rw [hml]
  refine ow_call rfl rfl (ent (by kernel_rfl)) (CallsV.mono (sameInts_spec q1 (subP q4 c4 0 1) _ _ _ _ ((xs.take k15).map fun (y : Int × Int) => y.1) ((xs.take k15).map fun (y : Int × Int) => y.1) (by rw [List.length_map]) htl.symm (by omega) (by omega) _ (appOk.sl (H.cap (i := 1) rfl)) hu) ?_) rfl
  rintro v w ⟨rfl, H'⟩
  replace H := H.call H'
  rw [List.nil_append] at H
  clear H' hu
  rw [decide_eq_true (rfl : ((xs.take k15).map fun (y : Int × Int) => y.1) = ((xs.take k15).map fun (y : Int × Int) => y.1))]
  (apply ow_move; (· rfl); (· ((conv => lhs; whnf) <;> rfl)))
  refine ow_guard_yes rfl rfl rfl rfl ?_
  (apply ow_move; (· rfl); (· ((conv => lhs; whnf) <;> rfl)))
  refine ow_guard_yes rfl rfl rfl rfl ?_
  (apply ow_move; (· rfl); (· ((conv => lhs; whnf) <;> rfl)))
  refine ow_guard_yes rfl rfl rfl rfl ?_
  refine ow_call rfl rfl (ent (by kernel_rfl)) (CallsV.mono (sameInts_spec q8 q9 _ _ _ _ PA PA hbl.symm hbl.symm (by omega) (by omega) _ (appOk.sl (H.cap (i := 0) rfl)) (PartQ.sl hB hs H)) ?_) rfl
  rintro v w ⟨rfl, H'⟩
  replace H := H.call H'
  clear H'
  rw [decide_eq_true (rfl : PA = PA)]
  (apply ow_pick_t; (· rfl); (· rfl); (· ((conv => lhs; whnf) <;> rfl)))
  (apply ow_move; (· rfl); (· ((conv => lhs; whnf) <;> rfl)))
  refine ow_guard_yes rfl rfl rfl rfl ?_
  (apply ow_move; (· rfl); (· ((conv => lhs; whnf) <;> rfl)))
  refine ow_guard_yes rfl rfl rfl rfl ?_
  (apply ow_move; (· rfl); (· ((conv => lhs; whnf) <;> rfl)))
  refine ow_guard_yes rfl rfl rfl rfl ?_
  refine ow_eql rfl rfl rfl ?_
  (apply ow_pick_t; (· rfl); (· rfl); (· ((conv => lhs; whnf) <;> rfl)))
  (apply ow_assign; (· rfl); (· ((conv => lhs; whnf) <;> rfl)))
  refine ow_nil ?_
  refine wc_ret ?_
  obtain ⟨w, hT, H⟩ := H.takes Try.prog
  refine ⟨.inr rfl, w, hT, _, .tmp .nil, ?_⟩
  exact ⟨congrArg Value.bool (decide_eq_true rfl), H.none⟩
end Go.Proofs.Ytpbknokakooekaa

