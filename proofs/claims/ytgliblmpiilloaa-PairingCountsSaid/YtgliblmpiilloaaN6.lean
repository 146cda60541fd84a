/- The statement's function 'sandtablelaw10.PairingCounts' returns true at every input, and changes nothing that was there. -/
import Derived.Test.YtgliblmpiilloaaN5
import Derived.Test.YtgliblmpiilloaaQP
namespace Go.Proofs.Ytgliblmpiilloaa
set_option linter.all false
open Go Go.Sx Go.Proofs
set_option maxRecDepth 100000
set_option maxHeartbeats 2000000
theorem pf_at {ps : List (Int × Int)} {i : Nat} {x : Int × Int} (h : ps[i]? = some x) : (ints .i64 (ps.map (·.1)))[i]? = some (.int .i64 x.1) := by unfold ints; rw [List.getElem?_map, List.getElem?_map, h]; rfl
theorem ps_at {ps : List (Int × Int)} {i : Nat} {x : Int × Int} (h : ps[i]? = some x) : (ints .i64 (ps.map (·.2)))[i]? = some (.int .i64 x.2) := by unfold ints; rw [List.getElem?_map, List.getElem?_map, h]; rfl
theorem law10Counts (p : Option Addr) (c : Nat) (m : List Int) (hm : m.length ≤ 9223372036854775807) (w0 : World) (hs : SlH (hp w0) p (ints .i64 m)) :
    CallsV Try.prog 15 #[.slice p m.length c] w0 fun v w => v = .bool true ∧ St Pu w0 w [] [] := by
  refine callsV_of Try.func15 rfl rfl ?_
  refine wc_seq ?_
  refine wc_region ?_
  (apply ow_assign; (· rfl); (· ((conv => lhs; whnf) <;> rfl)))
  refine ow_nil ?_
  refine wc_seq ?_
  refine wc_seq ?_
  refine wc_region ?_
  refine ow_call rfl rfl (ent (by kernel_rfl)) (CallsV.mono (alive10 w0) ?_) rfl
  rintro v w ⟨rfl, H⟩
  refine ow_not rfl rfl ?_
  refine ow_nil ?_
  refine wc_cond_false rfl ?_
  refine wc_skip ?_
  refine wc_seq ?_
  refine wc_seq ?_
  refine wc_region ?_
  (apply ow_move; (· rfl); (· ((conv => lhs; whnf) <;> rfl)))
  refine ow_len rfl rfl (tyAt rfl) rfl ?_
  refine ow_gtr rfl rfl rfl ?_
  refine ow_nil ?_
  refine wc_cond_dec rfl (fun h => ?_) (fun h => ?_) <;> try dsimp only at h
  · refine wc_seq ?_
    refine wc_region ?_
    (apply ow_assign; (· rfl); (· ((conv => lhs; whnf) <;> rfl)))
    refine ow_nil ?_
    refine wc_ret ?_
    obtain ⟨w, hT, H⟩ := H.takes Try.prog
    refine ⟨.inr rfl, w, hT, _, .tmp .nil, ?_⟩
    exact ⟨rfl, H⟩
  have h60 : m.length ≤ 60 := by omega
  clear h
  have hpl : (prL m).length ≤ m.length := prU_len m m.length
  have htk : (prL m).take (1000 : Int).toNat = prL m := List.take_of_length_le (by rw [show (1000 : Int).toNat = 1000 from rfl]; omega)
  refine wc_skip ?_
  refine wc_seq ?_
  refine wc_region ?_
  (apply ow_move; (· rfl); (· ((conv => lhs; whnf) <;> rfl)))
  refine ow_call rfl rfl (ent (by kernel_rfl)) (CallsV.mono (pairsW_spec p c m 1000 (by omega) w (H.oldSl hs)) ?_) rfl
  rintro v w ⟨q1, c1, q2, c2, rfl, H'⟩
  replace H := H.call H'
  clear H'
  rw [htk] at H ⊢
  clear htk
  simp only [List.cons_append, List.nil_append] at H
  (apply ow_move; (· rfl); (· ((conv => lhs; whnf) <;> rfl)))
  refine ow_extract rfl rfl rfl ?_
  refine ow_extract rfl rfl rfl ?_
  (apply ow_assign; (· rfl); (· ((conv => lhs; whnf) <;> rfl)))
  (apply ow_assign; (· rfl); (· ((conv => lhs; whnf) <;> rfl)))
  refine ow_nil ?_
  refine wc_seq ?_
  refine wc_seq ?_
  refine wc_region ?_
  (apply ow_move; (· rfl); (· ((conv => lhs; whnf) <;> rfl)))
  refine ow_call rfl rfl (ent (by kernel_rfl)) (CallsV.mono (right_spec p c m hm w (H.oldSl hs)) ?_) rfl
  rintro v w' ⟨rfl, rfl⟩
  by_cases hR : ¬ RightP m
  · have hps : prL m = [] := by
      have : ∀ k, prU m k = [] := by
        intro k
        induction k with
        | zero => rfl
        | succ k ih => rw [prU_no (fun h => hR h.1), ih]
      exact this _
    have hct : cntM m = 0 := if_neg hR
    rw [decide_eq_false hR, hps] at *
    refine ow_not rfl rfl ?_
    refine ow_nil ?_
    refine wc_cond_true rfl ?_
    refine wc_seq ?_
    refine wc_region ?_
    (apply ow_move; (· rfl); (· ((conv => lhs; whnf) <;> rfl)))
    refine ow_len rfl rfl (tyAt rfl) rfl ?_
    refine ow_eql rfl rfl rfl ?_
    (apply ow_move; (· rfl); (· ((conv => lhs; whnf) <;> rfl)))
    refine ow_guard_yes rfl rfl rfl rfl ?_
    (apply ow_move; (· rfl); (· ((conv => lhs; whnf) <;> rfl)))
    refine ow_guard_yes rfl rfl rfl rfl ?_
    refine ow_len rfl rfl (tyAt rfl) rfl ?_
    refine ow_guard_yes rfl rfl rfl rfl ?_
    refine ow_eql rfl rfl rfl ?_
    (apply ow_pick_t; (· rfl); (· rfl); (· ((conv => lhs; whnf) <;> rfl)))
    (apply ow_move; (· rfl); (· ((conv => lhs; whnf) <;> rfl)))
    refine ow_guard_yes rfl rfl rfl rfl ?_
    (apply ow_move; (· rfl); (· ((conv => lhs; whnf) <;> rfl)))
    refine ow_guard_yes rfl rfl rfl rfl ?_
    refine ow_call rfl rfl (ent (by kernel_rfl)) (CallsV.mono (count_spec p c m (by omega) _ (H.oldSl hs)) ?_) rfl
    rintro v w ⟨rfl, H'⟩
    replace H := H.call H'
    rw [List.nil_append] at H
    clear H'
    rw [hct]
    refine ow_guard_yes rfl rfl rfl rfl ?_
    refine ow_eql rfl rfl rfl ?_
    (apply ow_pick_t; (· rfl); (· rfl); (· ((conv => lhs; whnf) <;> rfl)))
    (apply ow_assign; (· rfl); (· ((conv => lhs; whnf) <;> rfl)))
    refine ow_nil ?_
    refine wc_ret ?_
    obtain ⟨w, hT, H⟩ := H.takes Try.prog
    refine ⟨.inr rfl, w, hT, _, .tmp .nil, ?_⟩
    exact ⟨rfl, H.none⟩
  replace hR := Decidable.of_not_not hR
  have hct : cntM m = (m.length : Int) - ((prL m).length : Int) := if_pos hR
  have hhalf := half hR
  have hall := prU_all m m.length
  rw [decide_eq_true hR]
  change (∀ x ∈ prL m, _) ∧ (prL m).Pairwise _ at hall
  generalize prL m = ps at *
  refine ow_not rfl rfl ?_
  refine ow_nil ?_
  refine wc_cond_false rfl ?_
  refine wc_skip ?_
  refine wc_seq ?_
  refine wc_region ?_
  (apply ow_assign; (· rfl); (· ((conv => lhs; whnf) <;> rfl)))
  refine ow_nil ?_
  refine wc_seq ?_
  refine wc_seq ?_
  refine wc_region ?_
  (apply ow_move; (· rfl); (· ((conv => lhs; whnf) <;> rfl)))
  refine ow_len rfl rfl (tyAt rfl) rfl ?_
  (apply ow_move; (· rfl); (· ((conv => lhs; whnf) <;> rfl)))
  refine ow_nil ?_
  refine wc_blockJ [5, 6, 7, 37, 38, 39, 40, 41, 42, 43, 44, 45, 46, 47] (fun (_ : Unit) e => upd e 5 (.int .i64 (cntA m m.length))) (fun _ D w => D = [] ∧ St Pu w0 w [.app q2 ps.length c2 3 1 (ints .i64 (ps.map (·.2))), .app q1 ps.length c1 3 1 (ints .i64 (ps.map (·.1)))] []) ?_ ?_
  · refine wc_loopS [5, 6, 7, 37, 38, 39, 40, 41, 42, 43, 44, 45, 46, 47] (fun (s : Nat) e => upd (upd e 5 (.int .i64 (cntA m s))) 37 (.int .i64 s)) (fun s D w => D = [] ∧ s ≤ m.length ∧ St Pu w0 w [.app q2 ps.length c2 3 1 (ints .i64 (ps.map (·.2))), .app q1 ps.length c1 3 1 (ints .i64 (ps.map (·.1)))] []) (fun s _ => m.length - s) 0 (by first | exact rfl | exact upd_self' rfl rfl | exact upd_self' rfl (upd_self' rfl rfl) | exact upd_self' rfl (upd_self' rfl (upd_self' rfl rfl)) | exact upd_self' rfl (upd_self' rfl (upd_self' rfl (upd_self' rfl rfl)))) ⟨rfl, Nat.zero_le _, H⟩ ?_
    clear H
    rintro i j D w ⟨rfl, hi, H⟩
    have hci := cntA_in m i
    have hcs := cntA_succ m i
    refine wc_seq ?_
    refine wc_region ?_
    refine ow_lss rfl rfl rfl ?_
    refine ow_nil ?_
    refine wc_seq ?_
    refine wc_cond_dec rfl (fun h => ?_) (fun h => ?_) <;> try dsimp only at h
    · have hlt : i < m.length := by omega
      have hsx := hs
      obtain ⟨bq, oq, rfl⟩ := hs.some_of (by simp; omega)
      refine wc_skip ?_
      refine wc_seq ?_
      refine wc_block ?_
      refine wc_seq ?_
      refine wc_region ?_
      (apply ow_move; (· rfl); (· ((conv => lhs; whnf) <;> rfl)))
      refine ow_idx1 (j := i) rfl (tyAt rfl) rfl (tyAt rfl) rfl rfl rfl hlt rfl ?_
      refine ow_load rfl (tyAt rfl) rfl rfl ((H.oldSl hsx).int hlt) ?_
      (apply ow_assign; (· rfl); (· ((conv => lhs; whnf) <;> rfl)))
      (apply ow_assign; (· rfl); (· ((conv => lhs; whnf) <;> rfl)))
      refine ow_nil ?_
      refine wc_seq ?_
      refine wc_region ?_
      (apply ow_move; (· rfl); (· ((conv => lhs; whnf) <;> rfl)))
      (apply ow_move; (· rfl); (· ((conv => lhs; whnf) <;> rfl)))
      refine ow_eql rfl rfl rfl ?_
      refine ow_nil ?_
      refine wc_cond_dec rfl (fun h => ?_) (fun h => ?_) <;> try dsimp only at h
      · rw [show b01 (m.getD i 0 = (i : Int)) = 1 from if_pos h] at hcs
        refine wc_region ?_
        (apply ow_move; (· rfl); (· ((conv => lhs; whnf) <;> rfl)))
        refine ow_add rfl rfl rfl (by simp only [InK]; omega) ?_
        (apply ow_assign; (· rfl); (· ((conv => lhs; whnf) <;> rfl)))
        refine ow_nil ?_
        refine wc_region ?_
        refine ow_add rfl rfl rfl (by simp only [InK]; omega) ?_
        (apply ow_move; (· rfl); (· ((conv => lhs; whnf) <;> rfl)))
        refine ow_nil ?_
        refine ⟨i + 1, ?_, by repeat (first | with_reducible exact Off.mix | with_reducible exact Off.refl | ((with_reducible refine Off.upd ?_ ?_); (· rfl))), ⟨rfl, hlt, H⟩, by omega⟩
        rw [hcs]
        first | exact rfl | exact upd_self' rfl rfl | exact upd_self' rfl (upd_self' rfl rfl) | exact upd_self' rfl (upd_self' rfl (upd_self' rfl rfl)) | exact upd_self' rfl (upd_self' rfl (upd_self' rfl (upd_self' rfl rfl)))
      · rw [show b01 (m.getD i 0 = (i : Int)) = 0 from if_neg h, Int.add_zero] at hcs
        refine wc_skip ?_
        refine wc_region ?_
        refine ow_add rfl rfl rfl (by simp only [InK]; omega) ?_
        (apply ow_move; (· rfl); (· ((conv => lhs; whnf) <;> rfl)))
        refine ow_nil ?_
        refine ⟨i + 1, ?_, by repeat (first | with_reducible exact Off.mix | with_reducible exact Off.refl | ((with_reducible refine Off.upd ?_ ?_); (· rfl))), ⟨rfl, hlt, H⟩, by omega⟩
        rw [hcs]
        first | exact rfl | exact upd_self' rfl rfl | exact upd_self' rfl (upd_self' rfl rfl) | exact upd_self' rfl (upd_self' rfl (upd_self' rfl rfl)) | exact upd_self' rfl (upd_self' rfl (upd_self' rfl (upd_self' rfl rfl)))
    · have hi' : i = m.length := by omega
      subst hi'
      refine wc_exit ?_
      exact ⟨(), by first | exact rfl | exact upd_self' rfl rfl | exact upd_self' rfl (upd_self' rfl rfl) | exact upd_self' rfl (upd_self' rfl (upd_self' rfl rfl)) | exact upd_self' rfl (upd_self' rfl (upd_self' rfl (upd_self' rfl rfl))), by repeat (first | with_reducible exact Off.mix | with_reducible exact Off.refl | ((with_reducible refine Off.upd ?_ ?_); (· rfl)) | ((with_reducible refine Off.mixN ?_ ?_); (· rfl))), ⟨rfl, H⟩⟩
  clear H
  rintro _ j D w ⟨rfl, H⟩
  have hca := cntA_in m m.length
  refine wc_seq ?_
  refine wc_seq ?_
  refine wc_region ?_
  (apply ow_move; (· rfl); (· ((conv => lhs; whnf) <;> rfl)))
  refine ow_len rfl rfl (tyAt rfl) rfl ?_
  (apply ow_move; (· rfl); (· ((conv => lhs; whnf) <;> rfl)))
  refine ow_nil ?_
  refine wc_blockJ [2, 8, 50, 51, 52, 53, 54, 55, 56, 57, 58, 59, 60, 61, 62, 63, 64, 65, 66, 67, 68, 69, 70, 71, 72, 73, 74, 75, 76, 77, 78, 79, 80, 81, 82, 83, 84, 85, 86, 87, 88, 89, 90, 91, 92] (fun (_ : Unit) e => e) (fun _ D w => D = [] ∧ St Pu w0 w [] []) ?_ ?_
  · refine wc_loopS [2, 8, 50, 51, 52, 53, 54, 55, 56, 57, 58, 59, 60, 61, 62, 63, 64, 65, 66, 67, 68, 69, 70, 71, 72, 73, 74, 75, 76, 77, 78, 79, 80, 81, 82, 83, 84, 85, 86, 87, 88, 89, 90, 91, 92] (fun (s : Nat) e => upd e 50 (.int .i64 s)) (fun s D w => D = [] ∧ s ≤ ps.length ∧ St Pu w0 w [.app q2 ps.length c2 3 1 (ints .i64 (ps.map (·.2))), .app q1 ps.length c1 3 1 (ints .i64 (ps.map (·.1)))] []) (fun s _ => ps.length - s) 0 (by first | exact rfl | exact upd_self' rfl rfl | exact upd_self' rfl (upd_self' rfl rfl) | exact upd_self' rfl (upd_self' rfl (upd_self' rfl rfl)) | exact upd_self' rfl (upd_self' rfl (upd_self' rfl (upd_self' rfl rfl)))) ⟨rfl, Nat.zero_le _, H⟩ ?_
    clear H
    rintro i j D w ⟨rfl, hi, H⟩
    refine wc_seq ?_
    refine wc_region ?_
    refine ow_lss rfl rfl rfl ?_
    refine ow_nil ?_
    refine wc_seq ?_
    refine wc_cond_dec rfl (fun h => ?_) (fun h => ?_) <;> try dsimp only at h
    · have hlt : i < ps.length := by omega
      obtain ⟨x, hx⟩ : ∃ x, ps[i]? = some x := ⟨_, List.getElem?_eq_getElem hlt⟩
      have hxx := hall.1 x (List.mem_of_getElem? hx)
      have hsx := hs
      obtain ⟨bq, oq, rfl⟩ := hs.some_of (by simp; omega)
      obtain ⟨b1, rfl⟩ : ∃ g, q1 = some ⟨g, 0, none⟩ := appOk.some (H.cap (i := 1) rfl) (by simp; omega)
      obtain ⟨b2, rfl⟩ : ∃ g, q2 = some ⟨g, 0, none⟩ := appOk.some (H.cap (i := 0) rfl) (by simp; omega)
      have hal : x.1.toNat < m.length := by omega
      refine wc_skip ?_
      refine wc_seq ?_
      refine wc_block ?_
      refine wc_seq ?_
      refine wc_region ?_
      (apply ow_move; (· rfl); (· ((conv => lhs; whnf) <;> rfl)))
      (apply ow_assign; (· rfl); (· ((conv => lhs; whnf) <;> rfl)))
      refine ow_nil ?_
      refine wc_seq ?_
      refine wc_drawK (fun w => St Pu w0 w [.app (some ⟨b2, 0, none⟩) ps.length c2 3 1 (ints .i64 (ps.map (·.2))), .app (some ⟨b1, 0, none⟩) ps.length c1 3 1 (ints .i64 (ps.map (·.1)))] []) 99 (by kernel_rfl) (by kernel_rfl) (by intro c e D w h; first | exact h.elim | (rcases h with ⟨h | h, _⟩ <;> cases h)) ?_
      replace H := H.drew
      apply ak_take (i := 0) rfl rfl rfl rfl (by kernel_rfl) (by with_reducible first | exact H | rfl)
      · intro w Q' HS hq; replace H := HS; clear HS; (apply ow_move; (· rfl); (· ((conv => lhs; whnf) <;> rfl))); exact ow_nil hq
      apply ak_take (i := 1) rfl rfl rfl rfl (by kernel_rfl) (by with_reducible first | exact H | rfl)
      · intro w Q' HS hq; replace H := HS; clear HS; (apply ow_move; (· rfl); (· ((conv => lhs; whnf) <;> rfl))); exact ow_nil hq
      apply ak_take (i := 2) rfl rfl rfl rfl (by kernel_rfl) (by with_reducible first | exact H | rfl)
      · intro w Q' HS hq; replace H := HS; clear HS; refine ow_idx1 (j := i) rfl (tyAt rfl) rfl (tyAt rfl) rfl rfl rfl hlt rfl ?_; exact ow_nil hq
      apply ak_take (i := 3) rfl rfl rfl rfl (by kernel_rfl) (by with_reducible first | exact H | rfl)
      · intro w Q' HS hq; replace H := HS; clear HS; refine ow_load rfl (tyAt rfl) rfl rfl (SlH.cell (appOk.sl (H.cap (i := 1) rfl)) (pf_at hx)) ?_; exact ow_nil hq
      apply ak_take (i := 4) rfl rfl rfl rfl (by kernel_rfl) (by with_reducible first | exact H | rfl)
      · intro w Q' HS hq; replace H := HS; clear HS; (apply ow_move; (· rfl); (· ((conv => lhs; whnf) <;> rfl))); exact ow_nil hq
      apply ak_take (i := 5) rfl rfl rfl rfl (by kernel_rfl) (by with_reducible first | exact H | rfl)
      · intro w Q' HS hq; replace H := HS; clear HS; (apply ow_move; (· rfl); (· ((conv => lhs; whnf) <;> rfl))); exact ow_nil hq
      apply ak_take (i := 6) rfl rfl rfl rfl (by kernel_rfl) (by with_reducible first | exact H | rfl)
      · intro w Q' HS hq; replace H := HS; clear HS; refine ow_idx1 (j := i) rfl (tyAt rfl) rfl (tyAt rfl) rfl rfl rfl hlt rfl ?_; exact ow_nil hq
      apply ak_take (i := 7) rfl rfl rfl rfl (by kernel_rfl) (by with_reducible first | exact H | rfl)
      · intro w Q' HS hq; replace H := HS; clear HS; refine ow_load rfl (tyAt rfl) rfl rfl (SlH.cell (appOk.sl (H.cap (i := 0) rfl)) (ps_at hx)) ?_; exact ow_nil hq
      apply ak_take (i := 8) rfl rfl rfl rfl (by kernel_rfl) (by with_reducible first | exact H | rfl)
      · intro w Q' HS hq; replace H := HS; clear HS; refine ow_geq rfl rfl rfl ?_; exact ow_nil hq
      apply ak_take (i := 9) rfl rfl rfl rfl (by kernel_rfl) (by with_reducible first | exact H | rfl)
      · intro w Q' HS hq; replace H := HS; clear HS; (apply ow_move; (· rfl); (· ((conv => lhs; whnf) <;> rfl))); exact ow_nil hq
      refine ak_guard_dec (dj := 62) rfl (fun h => (show False by omega).elim) (fun _ => ?_)
      apply ak_take (i := 10) rfl rfl rfl rfl (by kernel_rfl) (by with_reducible first | exact H | rfl)
      · intro w Q' HS hq; replace H := HS; clear HS; refine ow_guard_yes rfl rfl rfl rfl ?_; (apply ow_move; (· rfl); (· ((conv => lhs; whnf) <;> rfl))); exact ow_nil hq
      apply ak_take (i := 11) rfl rfl rfl rfl (by kernel_rfl) (by with_reducible first | exact H | rfl)
      · intro w Q' HS hq; replace H := HS; clear HS; refine ow_guard_yes rfl rfl rfl rfl ?_; (apply ow_move; (· rfl); (· ((conv => lhs; whnf) <;> rfl))); exact ow_nil hq
      apply ak_take (i := 12) rfl rfl rfl rfl (by kernel_rfl) (by with_reducible first | exact H | rfl)
      · intro w Q' HS hq; replace H := HS; clear HS; refine ow_guard_yes rfl rfl rfl rfl ?_; (apply ow_move; (· rfl); (· ((conv => lhs; whnf) <;> rfl))); exact ow_nil hq
      apply ak_take (i := 13) rfl rfl rfl rfl (by kernel_rfl) (by with_reducible first | exact H | rfl)
      · intro w Q' HS hq; replace H := HS; clear HS; refine ow_guard_yes rfl rfl rfl rfl ?_; refine ow_idx1 (j := i) rfl (tyAt rfl) rfl (tyAt rfl) rfl rfl rfl hlt rfl ?_; exact ow_nil hq
      apply ak_take (i := 14) rfl rfl rfl rfl (by kernel_rfl) (by with_reducible first | exact H | rfl)
      · intro w Q' HS hq; replace H := HS; clear HS; refine ow_guard_yes rfl rfl rfl rfl ?_; refine ow_load rfl (tyAt rfl) rfl rfl (SlH.cell (appOk.sl (H.cap (i := 1) rfl)) (pf_at hx)) ?_; exact ow_nil hq
      apply ak_take (i := 15) rfl rfl rfl rfl (by kernel_rfl) (by with_reducible first | exact H | rfl)
      · intro w Q' HS hq; replace H := HS; clear HS; refine ow_guard_yes rfl rfl rfl rfl ?_; refine ow_idx1 (j := x.1.toNat) rfl (tyAt rfl) rfl (tyAt rfl) rfl rfl (by omega) hal rfl ?_; exact ow_nil hq
      apply ak_take (i := 16) rfl rfl rfl rfl (by kernel_rfl) (by with_reducible first | exact H | rfl)
      · intro w Q' HS hq; replace H := HS; clear HS; refine ow_guard_yes rfl rfl rfl rfl ?_; refine ow_load rfl (tyAt rfl) rfl rfl ((H.oldSl hsx).int hal) ?_; exact ow_nil hq
      apply ak_take (i := 17) rfl rfl rfl rfl (by kernel_rfl) (by with_reducible first | exact H | rfl)
      · intro w Q' HS hq; replace H := HS; clear HS; refine ow_guard_yes rfl rfl rfl rfl ?_; (apply ow_move; (· rfl); (· ((conv => lhs; whnf) <;> rfl))); exact ow_nil hq
      apply ak_take (i := 18) rfl rfl rfl rfl (by kernel_rfl) (by with_reducible first | exact H | rfl)
      · intro w Q' HS hq; replace H := HS; clear HS; refine ow_guard_yes rfl rfl rfl rfl ?_; (apply ow_move; (· rfl); (· ((conv => lhs; whnf) <;> rfl))); exact ow_nil hq
      apply ak_take (i := 19) rfl rfl rfl rfl (by kernel_rfl) (by with_reducible first | exact H | rfl)
      · intro w Q' HS hq; replace H := HS; clear HS; refine ow_guard_yes rfl rfl rfl rfl ?_; refine ow_idx1 (j := i) rfl (tyAt rfl) rfl (tyAt rfl) rfl rfl rfl hlt rfl ?_; exact ow_nil hq
      apply ak_take (i := 20) rfl rfl rfl rfl (by kernel_rfl) (by with_reducible first | exact H | rfl)
      · intro w Q' HS hq; replace H := HS; clear HS; refine ow_guard_yes rfl rfl rfl rfl ?_; refine ow_load rfl (tyAt rfl) rfl rfl (SlH.cell (appOk.sl (H.cap (i := 0) rfl)) (ps_at hx)) ?_; exact ow_nil hq
      apply ak_take (i := 21) rfl rfl rfl rfl (by kernel_rfl) (by with_reducible first | exact H | rfl)
      · intro w Q' HS hq; replace H := HS; clear HS; refine ow_guard_yes rfl rfl rfl rfl ?_; refine ow_neq rfl rfl rfl ?_; exact ow_nil hq
      apply ak_take (i := 22) rfl rfl rfl rfl (by kernel_rfl) (by with_reducible first | exact H | rfl)
      · intro w Q' HS hq; replace H := HS; clear HS; (apply ow_pick_f; (· rfl); (· rfl); (· ((conv => lhs; whnf) <;> rfl))); exact ow_nil hq
      apply ak_take (i := 23) rfl rfl rfl rfl (by kernel_rfl) (by with_reducible first | exact H | rfl)
      · intro w Q' HS hq; replace H := HS; clear HS; (apply ow_move; (· rfl); (· ((conv => lhs; whnf) <;> rfl))); exact ow_nil hq
      refine ak_guard_dec (dj := 76) rfl (fun h => (show False by exact h hxx.2.2.2).elim) (fun _ => ?_)
      apply ak_take (i := 24) rfl rfl rfl rfl (by kernel_rfl) (by with_reducible first | exact H | rfl)
      · intro w Q' HS hq; replace H := HS; clear HS; refine ow_guard_yes rfl rfl rfl rfl ?_; (apply ow_move; (· rfl); (· ((conv => lhs; whnf) <;> rfl))); exact ow_nil hq
      apply ak_take (i := 25) rfl rfl rfl rfl (by kernel_rfl) (by with_reducible first | exact H | rfl)
      · intro w Q' HS hq; replace H := HS; clear HS; refine ow_guard_yes rfl rfl rfl rfl ?_; refine ow_gtr rfl rfl rfl ?_; exact ow_nil hq
      apply ak_take (i := 26) rfl rfl rfl rfl (by kernel_rfl) (by with_reducible first | exact H | rfl)
      · intro w Q' HS hq; replace H := HS; clear HS; refine ow_guard_yes rfl rfl rfl rfl ?_; (apply ow_move; (· rfl); (· ((conv => lhs; whnf) <;> rfl))); exact ow_nil hq
      refine ak_guard_dec (dj := 79) rfl (fun h => ?_) (fun h => ?_) <;> try dsimp only at h
      · obtain ⟨y, hy⟩ : ∃ y, ps[i - 1]? = some y := ⟨_, List.getElem?_eq_getElem (by omega)⟩
        have hlt2 : i - 1 < ps.length := by omega
        have hyx : y.1 < x.1 := by
          have := List.pairwise_iff_getElem.1 hall.2 (i - 1) i hlt2 hlt (by omega)
          rw [(List.getElem?_eq_some_iff.1 hx).2, (List.getElem?_eq_some_iff.1 hy).2] at this
          exact this
        apply ak_take (i := 27) rfl rfl rfl rfl (by kernel_rfl) (by with_reducible first | exact H | rfl)
        · intro w Q' HS hq; replace H := HS; clear HS; refine ow_guard_yes rfl rfl rfl rfl ?_; (apply ow_move; (· rfl); (· ((conv => lhs; whnf) <;> rfl))); exact ow_nil hq
        apply ak_take (i := 28) rfl rfl rfl rfl (by kernel_rfl) (by with_reducible first | exact H | rfl)
        · intro w Q' HS hq; replace H := HS; clear HS; refine ow_guard_yes rfl rfl rfl rfl ?_; (apply ow_move; (· rfl); (· ((conv => lhs; whnf) <;> rfl))); exact ow_nil hq
        apply ak_take (i := 29) rfl rfl rfl rfl (by kernel_rfl) (by with_reducible first | exact H | rfl)
        · intro w Q' HS hq; replace H := HS; clear HS; refine ow_guard_yes rfl rfl rfl rfl ?_; refine ow_idx1 (j := i) rfl (tyAt rfl) rfl (tyAt rfl) rfl rfl rfl hlt rfl ?_; exact ow_nil hq
        apply ak_take (i := 30) rfl rfl rfl rfl (by kernel_rfl) (by with_reducible first | exact H | rfl)
        · intro w Q' HS hq; replace H := HS; clear HS; refine ow_guard_yes rfl rfl rfl rfl ?_; refine ow_load rfl (tyAt rfl) rfl rfl (SlH.cell (appOk.sl (H.cap (i := 1) rfl)) (pf_at hx)) ?_; exact ow_nil hq
        apply ak_take (i := 31) rfl rfl rfl rfl (by kernel_rfl) (by with_reducible first | exact H | rfl)
        · intro w Q' HS hq; replace H := HS; clear HS; refine ow_guard_yes rfl rfl rfl rfl ?_; (apply ow_move; (· rfl); (· ((conv => lhs; whnf) <;> rfl))); exact ow_nil hq
        apply ak_take (i := 32) rfl rfl rfl rfl (by kernel_rfl) (by with_reducible first | exact H | rfl)
        · intro w Q' HS hq; replace H := HS; clear HS; refine ow_guard_yes rfl rfl rfl rfl ?_; (apply ow_move; (· rfl); (· ((conv => lhs; whnf) <;> rfl))); exact ow_nil hq
        apply ak_take (i := 33) rfl rfl rfl rfl (by kernel_rfl) (by with_reducible first | exact H | rfl)
        · intro w Q' HS hq; replace H := HS; clear HS; refine ow_guard_yes rfl rfl rfl rfl ?_; refine ow_sub rfl rfl rfl (by simp only [InK]; omega) ?_; exact ow_nil hq
        apply ak_take (i := 34) rfl rfl rfl rfl (by kernel_rfl) (by with_reducible first | exact H | rfl)
        · intro w Q' HS hq; replace H := HS; clear HS; refine ow_guard_yes rfl rfl rfl rfl ?_; refine ow_idx1 (j := i - 1) rfl (tyAt rfl) rfl (tyAt rfl) rfl rfl (by omega) hlt2 rfl ?_; exact ow_nil hq
        apply ak_take (i := 35) rfl rfl rfl rfl (by kernel_rfl) (by with_reducible first | exact H | rfl)
        · intro w Q' HS hq; replace H := HS; clear HS; refine ow_guard_yes rfl rfl rfl rfl ?_; refine ow_load rfl (tyAt rfl) rfl rfl (SlH.cell (appOk.sl (H.cap (i := 1) rfl)) (pf_at hy)) ?_; exact ow_nil hq
        apply ak_take (i := 36) rfl rfl rfl rfl (by kernel_rfl) (by with_reducible first | exact H | rfl)
        · intro w Q' HS hq; replace H := HS; clear HS; refine ow_guard_yes rfl rfl rfl rfl ?_; refine ow_leq rfl rfl rfl ?_; exact ow_nil hq
        apply ak_take (i := 37) rfl rfl rfl rfl (by kernel_rfl) (by with_reducible first | exact H | rfl)
        · intro w Q' HS hq; replace H := HS; clear HS; refine ow_guard_yes rfl rfl rfl rfl ?_; (apply ow_pick_t; (· rfl); (· rfl); (· ((conv => lhs; whnf) <;> rfl))); exact ow_nil hq
        apply ak_take (i := 38) rfl rfl rfl rfl (by kernel_rfl) (by with_reducible first | exact H | rfl)
        · intro w Q' HS hq; replace H := HS; clear HS; (apply ow_pick_f; (· rfl); (· rfl); (· ((conv => lhs; whnf) <;> rfl))); exact ow_nil hq
        refine ak_done (by kernel_rfl) ?_
        rw [decide_eq_false (show ¬ x.1 ≤ y.1 by omega)]
        refine wc_cond_false rfl ?_
        refine wc_skip ?_
        refine wc_region ?_
        refine ow_add rfl rfl rfl (by simp only [InK]; omega) ?_
        (apply ow_move; (· rfl); (· ((conv => lhs; whnf) <;> rfl)))
        refine ow_nil ?_
        exact ⟨i + 1, by first | exact rfl | exact upd_self' rfl rfl | exact upd_self' rfl (upd_self' rfl rfl) | exact upd_self' rfl (upd_self' rfl (upd_self' rfl rfl)) | exact upd_self' rfl (upd_self' rfl (upd_self' rfl (upd_self' rfl rfl))), by repeat (first | with_reducible exact Off.mix | with_reducible exact Off.refl | ((with_reducible refine Off.upd ?_ ?_); (· rfl))), ⟨rfl, hlt, H⟩, by omega⟩
      · apply ak_take (i := 27) rfl rfl rfl rfl (by kernel_rfl) (by with_reducible first | exact H | rfl)
        · intro w Q' HS hq; replace H := HS; clear HS; refine ow_guard_no rfl rfl rfl rfl rfl rfl rfl ?_; exact ow_nil hq
        apply ak_take (i := 28) rfl rfl rfl rfl (by kernel_rfl) (by with_reducible first | exact H | rfl)
        · intro w Q' HS hq; replace H := HS; clear HS; refine ow_guard_no rfl rfl rfl rfl rfl rfl rfl ?_; exact ow_nil hq
        apply ak_take (i := 29) rfl rfl rfl rfl (by kernel_rfl) (by with_reducible first | exact H | rfl)
        · intro w Q' HS hq; replace H := HS; clear HS; refine ow_guard_no rfl rfl rfl rfl rfl rfl rfl ?_; exact ow_nil hq
        apply ak_take (i := 30) rfl rfl rfl rfl (by kernel_rfl) (by with_reducible first | exact H | rfl)
        · intro w Q' HS hq; replace H := HS; clear HS; refine ow_guard_no rfl rfl rfl rfl rfl rfl rfl ?_; exact ow_nil hq
        apply ak_take (i := 31) rfl rfl rfl rfl (by kernel_rfl) (by with_reducible first | exact H | rfl)
        · intro w Q' HS hq; replace H := HS; clear HS; refine ow_guard_no rfl rfl rfl rfl rfl rfl rfl ?_; exact ow_nil hq
        apply ak_take (i := 32) rfl rfl rfl rfl (by kernel_rfl) (by with_reducible first | exact H | rfl)
        · intro w Q' HS hq; replace H := HS; clear HS; refine ow_guard_no rfl rfl rfl rfl rfl rfl rfl ?_; exact ow_nil hq
        apply ak_take (i := 33) rfl rfl rfl rfl (by kernel_rfl) (by with_reducible first | exact H | rfl)
        · intro w Q' HS hq; replace H := HS; clear HS; refine ow_guard_no rfl rfl rfl rfl rfl rfl rfl ?_; exact ow_nil hq
        apply ak_take (i := 34) rfl rfl rfl rfl (by kernel_rfl) (by with_reducible first | exact H | rfl)
        · intro w Q' HS hq; replace H := HS; clear HS; refine ow_guard_no rfl rfl rfl rfl rfl rfl rfl ?_; exact ow_nil hq
        apply ak_take (i := 35) rfl rfl rfl rfl (by kernel_rfl) (by with_reducible first | exact H | rfl)
        · intro w Q' HS hq; replace H := HS; clear HS; refine ow_guard_no rfl rfl rfl rfl rfl rfl rfl ?_; exact ow_nil hq
        apply ak_take (i := 36) rfl rfl rfl rfl (by kernel_rfl) (by with_reducible first | exact H | rfl)
        · intro w Q' HS hq; replace H := HS; clear HS; refine ow_guard_no rfl rfl rfl rfl rfl rfl rfl ?_; exact ow_nil hq
        apply ak_take (i := 37) rfl rfl rfl rfl (by kernel_rfl) (by with_reducible first | exact H | rfl)
        · intro w Q' HS hq; replace H := HS; clear HS; refine ow_guard_yes rfl rfl rfl rfl ?_; (apply ow_pick_f; (· rfl); (· rfl); (· ((conv => lhs; whnf) <;> rfl))); exact ow_nil hq
        apply ak_take (i := 38) rfl rfl rfl rfl (by kernel_rfl) (by with_reducible first | exact H | rfl)
        · intro w Q' HS hq; replace H := HS; clear HS; (apply ow_pick_f; (· rfl); (· rfl); (· ((conv => lhs; whnf) <;> rfl))); exact ow_nil hq
        refine ak_done (by kernel_rfl) ?_
        refine wc_cond_false rfl ?_
        refine wc_skip ?_
        refine wc_region ?_
        refine ow_add rfl rfl rfl (by simp only [InK]; omega) ?_
        (apply ow_move; (· rfl); (· ((conv => lhs; whnf) <;> rfl)))
        refine ow_nil ?_
        exact ⟨i + 1, by first | exact rfl | exact upd_self' rfl rfl | exact upd_self' rfl (upd_self' rfl rfl) | exact upd_self' rfl (upd_self' rfl (upd_self' rfl rfl)) | exact upd_self' rfl (upd_self' rfl (upd_self' rfl (upd_self' rfl rfl))), by repeat (first | with_reducible exact Off.mix | with_reducible exact Off.refl | ((with_reducible refine Off.upd ?_ ?_); (· rfl))), ⟨rfl, hlt, H⟩, by omega⟩
    · have hi' : i = ps.length := by omega
      subst hi'
      refine wc_exit ?_
      exact ⟨(), rfl, by repeat (first | with_reducible exact Off.mix | with_reducible exact Off.refl | ((with_reducible refine Off.upd ?_ ?_); (· rfl))), ⟨rfl, H.none⟩⟩
  clear H
  rintro _ j D w ⟨rfl, H⟩
  refine wc_seq ?_
  refine wc_region ?_
  (apply ow_move; (· rfl); (· ((conv => lhs; whnf) <;> rfl)))
  (apply ow_move; (· rfl); (· ((conv => lhs; whnf) <;> rfl)))
  refine ow_len rfl rfl (tyAt rfl) rfl ?_
  refine ow_mul rfl rfl rfl (by simp only [InK]; omega) ?_
  refine ow_add rfl rfl rfl (by simp only [InK]; omega) ?_
  (apply ow_move; (· rfl); (· ((conv => lhs; whnf) <;> rfl)))
  refine ow_len rfl rfl (tyAt rfl) rfl ?_
  refine ow_eql rfl rfl rfl ?_
  (apply ow_move; (· rfl); (· ((conv => lhs; whnf) <;> rfl)))
  refine ow_guard_dec rfl rfl rfl (fun _ => ?_) (fun h => (h (by omega)).elim)
  refine ow_guard_yes rfl rfl rfl rfl ?_
  (apply ow_move; (· rfl); (· ((conv => lhs; whnf) <;> rfl)))
  refine ow_guard_yes rfl rfl rfl rfl ?_
  refine ow_call rfl rfl (ent (by kernel_rfl)) (CallsV.mono (count_spec p c m (by omega) _ (H.oldSl hs)) ?_) rfl
  rintro v w ⟨rfl, H'⟩
  replace H := H.call H'
  rw [List.nil_append] at H
  clear H'
  rw [hct]
  refine ow_guard_yes rfl rfl rfl rfl ?_
  (apply ow_move; (· rfl); (· ((conv => lhs; whnf) <;> rfl)))
  refine ow_guard_yes rfl rfl rfl rfl ?_
  refine ow_len rfl rfl (tyAt rfl) rfl ?_
  refine ow_guard_yes rfl rfl rfl rfl ?_
  (apply ow_move; (· rfl); (· ((conv => lhs; whnf) <;> rfl)))
  refine ow_guard_yes rfl rfl rfl rfl ?_
  refine ow_len rfl rfl (tyAt rfl) rfl ?_
  refine ow_guard_yes rfl rfl rfl rfl ?_
  refine ow_sub rfl rfl rfl (by simp only [InK]; omega) ?_
  refine ow_guard_yes rfl rfl rfl rfl ?_
  refine ow_eql rfl rfl rfl ?_
  (apply ow_pick_t; (· rfl); (· rfl); (· ((conv => lhs; whnf) <;> rfl)))
  (apply ow_assign; (· rfl); (· ((conv => lhs; whnf) <;> rfl)))
  refine ow_nil ?_
  refine wc_ret ?_
  obtain ⟨w, hT, H⟩ := H.takes Try.prog
  refine ⟨.inr rfl, w, hT, _, .tmp .nil, ?_⟩
  exact ⟨congrArg Value.bool (decide_eq_true rfl), H⟩
end Go.Proofs.Ytgliblmpiilloaa
