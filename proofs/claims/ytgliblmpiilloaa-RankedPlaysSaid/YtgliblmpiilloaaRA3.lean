/- The statement's function 'sandtablelaw07.RankedPlays' returns true at every input, and changes nothing that was there. -/
import Derived.Test.YtgliblmpiilloaaRA2
import Derived.Test.YtgliblmpiilloaaRO
namespace Go.Proofs.Ytgliblmpiilloaa
set_option linter.all false
open Go Go.Sx Go.Proofs
set_option maxRecDepth 100000
set_option maxHeartbeats 2000000
theorem flatA_drop (es : IE) {r : Nat} (h : r ≤ es.length) : (es.flatMap entA).drop (r * 2) = (es.drop r).flatMap entA := by
  conv => lhs; rw [← List.take_append_drop r es, List.flatMap_append]
  exact List.drop_left' (by rw [flat_len entA_len, List.length_take, Nat.min_eq_left h])
theorem at_out {es : IE} {z : Int} (h : ¬ (0 ≤ z ∧ z < (es.length : Int))) : atA es z = ((0, 0), false) := by
  unfold atA
  split
  · rw [List.getElem?_eq_none (by omega)]
  · rfl
theorem law07Plays (q : Option Addr) (cap : Nat) (ops : List OpA) (hm : ops.length ≤ 9223372036854775807) (w0 : World) (hq : SlH (hp w0) q (ops.flatMap opA)) :
    CallsV Try.prog 3 #[.slice q ops.length cap] w0 fun v w => v = .bool true ∧ St Pu w0 w [] [] := by
  refine callsV_of Try.func3 rfl rfl ?_
  refine wc_seq ?_
  refine wc_region ?_
  (apply ow_assign; (· rfl); (· ((conv => lhs; whnf) <;> rfl)))
  refine ow_nil ?_
  refine wc_seq ?_
  refine wc_seq ?_
  refine wc_region ?_
  refine ow_call rfl rfl (ent (by kernel_rfl)) (CallsV.mono (alive07 w0) ?_) rfl
  rintro v w ⟨rfl, H⟩
  refine ow_not rfl rfl ?_
  refine ow_nil ?_
  refine wc_cond_false rfl ?_
  refine wc_skip ?_
  refine wc_seq ?_
  refine wc_seq ?_
  refine wc_region ?_
  (apply ow_move; (· rfl); (· ((conv => lhs; whnf) <;> rfl)))
  refine ow_len rfl rfl (tyAt rfl) rfl ?_
  refine ow_gtr rfl rfl rfl ?_
  refine ow_nil ?_
  refine wc_cond_dec rfl (fun h => ?_) (fun h => ?_) <;> try dsimp only at h
  · refine wc_seq ?_
    refine wc_region ?_
    (apply ow_assign; (· rfl); (· ((conv => lhs; whnf) <;> rfl)))
    refine ow_nil ?_
    refine wc_ret ?_
    obtain ⟨w, hT, H⟩ := H.takes Try.prog
    refine ⟨.inr rfl, w, hT, _, .tmp .nil, ?_⟩
    exact ⟨rfl, H⟩
  have h100 : ops.length ≤ 100 := by omega
  clear h
  refine wc_skip ?_
  refine wc_seq ?_
  refine wc_region ?_
  refine ow_alloc (l := [.slice none 0 0]) H rfl (tyAt rfl) rfl (fun b w H => ?_)
  replace H : St Pu w0 w (mpA b none 0 []) [] := (H.nilApp 122 2).perm (List.Perm.swap _ _ _)
  refine ow_nil ?_
  refine wc_seq ?_
  refine wc_region ?_
  refine ow_buildSlice0 H rfl (tyAt rfl) rfl (tyAt rfl) (fun b1 w H => ?_)
  replace H := H.rowApp (i := 0) (len := 0) (sz := 2) rfl rfl (by omega)
  replace H : St Pu w0 w (mpA b none 0 [] ++ [.app (some ⟨b1, 0, none⟩) 0 0 42 2 []]) [] := H.perm (List.perm_append_comm (l₁ := [_]) (l₂ := [_, _]))
  (apply ow_assign; (· rfl); (· ((conv => lhs; whnf) <;> rfl)))
  refine ow_nil ?_
  refine wc_seq ?_
  refine wc_seq ?_
  refine wc_region ?_
  (apply ow_move; (· rfl); (· ((conv => lhs; whnf) <;> rfl)))
  refine ow_len rfl rfl (tyAt rfl) rfl ?_
  (apply ow_move; (· rfl); (· ((conv => lhs; whnf) <;> rfl)))
  refine ow_nil ?_
  refine wc_block ?_
  refine wc_loopS [2, 4, 6, 7, 8, 9, 10, 11, 12, 13, 14, 15, 16, 17, 26, 27, 28, 29, 30, 31, 32, 33, 34, 35, 36, 37, 38, 39, 40, 41, 42, 43, 44, 45, 46, 47, 48, 49, 50, 51, 52, 53, 54, 55, 56, 57, 58, 59, 60, 61, 62, 63, 64, 65, 66, 67, 68, 69, 70, 71, 72, 73, 74, 75, 76, 77, 78, 79, 80, 81, 82, 83, 84, 85, 86, 87, 88, 89, 90, 91, 92, 93, 94, 95, 96, 97, 98, 99, 100, 101, 102, 103, 104, 105, 106, 107, 108, 109, 110, 111, 112, 113, 114, 115, 116, 117, 118, 119, 120, 121, 122, 123, 124, 125, 126, 127, 128, 129, 130, 131, 132, 133, 134, 135, 136, 137, 138, 139, 140, 141, 142, 143, 144, 145, 146, 147, 148, 149, 150, 151, 152, 153, 154, 155, 156, 157, 158, 159, 160, 161, 162, 163, 164, 165, 166, 167, 168, 169, 170, 171, 172, 173, 174, 175, 176, 177, 178, 179, 180, 181, 182, 183, 184, 185, 186, 187, 188, 189, 190, 191, 192] (fun (s : Nat × IE × Option Addr × Nat × Option Addr × Nat) e => upd (upd e 4 (.slice s.2.2.2.2.1 s.2.1.length s.2.2.2.2.2)) 26 (.int .i64 s.1))
    (fun s D w => D = [] ∧ s.1 ≤ ops.length ∧ s.2.1.length ≤ s.1 ∧ Asc ltI s.2.1 ∧ St Pu w0 w (mpA b s.2.2.1 s.2.2.2.1 s.2.1 ++ [.app s.2.2.2.2.1 s.2.1.length s.2.2.2.2.2 42 2 (s.2.1.flatMap entA)]) [])
    (fun s _ => ops.length - s.1) (0, [], none, 0, some ⟨b1, 0, none⟩, 0) (by first | exact rfl | exact upd_self' rfl rfl | exact upd_self' rfl (upd_self' rfl rfl) | exact upd_self' rfl (upd_self' rfl (upd_self' rfl rfl)) | exact upd_self' rfl (upd_self' rfl (upd_self' rfl (upd_self' rfl rfl)))) ⟨rfl, Nat.zero_le _, Nat.le_refl _, List.Pairwise.nil, H⟩ ?_
  clear H w
  rintro ⟨i, es, p, c, pr, cr⟩ j D w ⟨rfl, hi, hel, ha, H⟩
  dsimp only at hi hel ha H ⊢
  refine wc_seq ?_
  refine wc_region ?_
  refine ow_lss rfl rfl rfl ?_
  refine ow_nil ?_
  refine wc_seq ?_
  refine wc_cond_dec rfl (fun h => ?_) (fun h => ?_) <;> try dsimp only at h
  · have hlt : i < ops.length := by omega
    obtain ⟨x, hx⟩ : ∃ x, ops[i]? = some x := ⟨_, List.getElem?_eq_getElem hlt⟩
    have hq' := H.oldSl hq
    obtain ⟨bq, oq, rfl⟩ := hq'.some_of (by rw [flat_len opA_len]; omega)
    refine wc_skip ?_
    refine wc_seq ?_
    refine wc_block ?_
    refine wc_seq ?_
    refine wc_region ?_
    refine ow_idxK (j := i) (sz := 3) rfl (tyAt rfl) rfl (tyAt rfl) rfl rfl rfl hlt rfl ?_
    refine ow_loadA (l := opA x) rfl (tyAt rfl) rfl rfl rfl (hq'.elem opA_len hx) ?_
    refine ow_alloc (l := [.int .i64 0, .int .i64 0, .int .i64 0]) H rfl (tyAt rfl) rfl (fun bo w H => ?_)
    refine ow_storeA (i := 0) (o := 0) (l' := opA x) H (tyAt rfl) rfl rfl rfl rfl (by simp [opA, Value.oneCell']) (by simp [opA]) (fun w H => ?_)
    replace H : St Pu w0 w (mpA b p c es ++ [.app pr es.length cr 42 2 (es.flatMap entA), .row bo 29 (opA x)]) [] := H.perm (List.perm_append_comm (l₁ := [_]) (l₂ := [_, _, _]))
    refine ow_nil ?_
    refine wc_seq ?_
    refine wc_region ?_
    (apply ow_move; (· rfl); (· ((conv => lhs; whnf) <;> rfl)))
    refine ow_fieldAddr rfl (tyAt rfl) rfl rfl rfl (tyAt rfl) rfl rfl ?_
    refine ow_load rfl (tyAt rfl) rfl rfl (H.cell (i := 3) rfl rfl) ?_
    refine ow_call rfl rfl (ent (by kernel_rfl)) (CallsV.mono (refGet_spec pr _ cr es x.2.1 rfl (by omega) _ (appOk.sl (H.cap (i := 2) rfl))) ?_) rfl
    rintro v w' ⟨rfl, rfl⟩
    (apply ow_move; (· rfl); (· ((conv => lhs; whnf) <;> rfl)))
    refine ow_extract rfl rfl rfl ?_
    refine ow_extract rfl rfl rfl ?_
    (apply ow_assign; (· rfl); (· ((conv => lhs; whnf) <;> rfl)))
    (apply ow_assign; (· rfl); (· ((conv => lhs; whnf) <;> rfl)))
    refine ow_nil ?_
    refine wc_seq ?_
    refine wc_region ?_
    (apply ow_move; (· rfl); (· ((conv => lhs; whnf) <;> rfl)))
    refine ow_fieldAddr rfl (tyAt rfl) rfl rfl rfl (tyAt rfl) rfl rfl ?_
    refine ow_load rfl (tyAt rfl) rfl rfl (H.cell (i := 3) rfl rfl) ?_
    refine ow_call rfl rfl (ent (by kernel_rfl)) (CallsV.mono (refRank_spec pr _ cr es x.2.1 rfl (by omega) _ (appOk.sl (H.cap (i := 2) rfl))) ?_) rfl
    rintro v w' ⟨rfl, rfl⟩
    (apply ow_assign; (· rfl); (· ((conv => lhs; whnf) <;> rfl)))
    refine ow_nil ?_
    refine wc_seq ?_
    refine wc_region ?_
    refine ow_fieldAddr rfl (tyAt rfl) rfl rfl rfl (tyAt rfl) rfl rfl ?_
    refine ow_load rfl (tyAt rfl) rfl rfl (H.cell (i := 3) rfl rfl) ?_
    refine ow_call rfl rfl (ent (by kernel_rfl)) (CallsV.mono (rankA_spec b p c es x.2.1 (by omega) ha _ (mpA_at H (i := 0) (j := 1) rfl rfl)) ?_) rfl
    rintro v w ⟨rfl, H'⟩
    replace H : St Pu w0 w (mpA b p c es ++ [.app pr es.length cr 42 2 (es.flatMap entA), .row bo 29 (opA x)]) [] := H.call H'
    clear H'
    (apply ow_move; (· rfl); (· ((conv => lhs; whnf) <;> rfl)))
    refine ow_eql rfl rfl rfl ?_
    (apply ow_assign; (· rfl); (· ((conv => lhs; whnf) <;> rfl)))
    refine ow_nil ?_
    refine wc_seq ?_
    refine wc_seq ?_
    refine wc_region ?_
    refine ow_fieldAddr rfl (tyAt rfl) rfl rfl rfl (tyAt rfl) rfl rfl ?_
    rw [decide_eq_true (rfl : ((rkE ltI es x.2.1 : Nat) : Int) = ((rkE ltI es x.2.1 : Nat) : Int))]
    skip
    refine ow_load rfl (tyAt rfl) rfl rfl (H.cell (i := 3) rfl rfl) ?_
    refine ow_nil ?_
    refine wc_blockJ [4, 10, 11, 12, 13, 14, 15, 16, 17, 48, 49, 50, 51, 52, 53, 54, 55, 56, 57, 58, 59, 60, 61, 62, 63, 64, 65, 66, 67, 68, 69, 70, 71, 72, 73, 74, 75, 76, 77, 78, 79, 80, 81, 82, 83, 84, 85, 86, 87, 88, 89, 90, 91, 92, 93, 94, 95, 96, 97, 98, 99, 100, 101, 102, 103, 104, 105, 106, 107, 108, 109, 110, 111, 112, 113, 114, 115, 116, 117, 118, 119, 120, 121, 122, 123, 124, 125, 126, 127, 128, 129, 130, 131, 132, 133, 134, 135, 136, 137, 138, 139, 140, 141, 142, 143, 144, 145, 146, 147, 148, 149, 150, 151, 152, 153, 154, 155, 156, 157, 158, 159, 160, 161, 162, 163, 164, 165, 166, 167, 168, 169, 170, 171, 172, 173, 174, 175, 176, 177] (fun (s : IE × Option Addr × Nat × Option Addr × Nat) e => upd (upd e 4 (.slice s.2.2.2.1 s.1.length s.2.2.2.2)) 10 (.bool true))
      (fun s D w => D = [] ∧ Asc ltI s.1 ∧ s.1.length ≤ i + 1 ∧ St Pu w0 w (mpA b s.2.1 s.2.2.1 s.1 ++ [.app s.2.2.2.1 s.1.length s.2.2.2.2 42 2 (s.1.flatMap entA)]) []) ?_ ?_
    · refine wc_seq ?_
      refine wc_seq ?_
      refine wc_region ?_
      refine ow_eql rfl rfl rfl ?_
      (apply ow_assign; (· rfl); (· ((conv => lhs; whnf) <;> rfl)))
      refine ow_nil ?_
      refine wc_cond_dec rfl (fun h => ?_) (fun h => ?_) <;> try dsimp only at h
      · refine wc_skip ?_
        refine wc_cond_dec rfl (fun _ => ?_) (fun h2 => (h2 h).elim)
        refine wc_seq ?_
        refine wc_region ?_
        (apply ow_move; (· rfl); (· ((conv => lhs; whnf) <;> rfl)))
        (apply ow_move; (· rfl); (· ((conv => lhs; whnf) <;> rfl)))
        refine ow_guard_yes rfl rfl rfl rfl ?_
        refine ow_fieldAddr rfl (tyAt rfl) rfl rfl rfl (tyAt rfl) rfl rfl ?_
        refine ow_guard_yes rfl rfl rfl rfl ?_
        refine ow_load rfl (tyAt rfl) rfl rfl (H.cell (i := 3) rfl rfl) ?_
        refine ow_guard_yes rfl rfl rfl rfl ?_
        refine ow_fieldAddr rfl (tyAt rfl) rfl rfl rfl (tyAt rfl) rfl rfl ?_
        refine ow_guard_yes rfl rfl rfl rfl ?_
        refine ow_load rfl (tyAt rfl) rfl rfl (H.cell (i := 3) rfl rfl) ?_
        refine ow_guard_yes rfl rfl rfl rfl ?_
        refine ow_call rfl rfl (ent (by kernel_rfl)) (CallsV.mono (putA_spec b p c es x.2.1 x.2.2 (by omega) ha _ H.begin) ?_) rfl
        rintro u w ⟨rfl, p2, c2, H'⟩
        replace H := H.callC (fun _ h => h) H'
        clear H'
        refine ow_guard_yes rfl rfl rfl rfl ?_
        (apply ow_move; (· rfl); (· ((conv => lhs; whnf) <;> rfl)))
        refine ow_guard_yes rfl rfl rfl rfl ?_
        refine ow_not rfl rfl ?_
        refine ow_guard_yes rfl rfl rfl rfl ?_
        refine ow_eqlb rfl rfl rfl (tyAt rfl) rfl ?_
        rw [show ((!thereE es x.2.1) == (!thereE es x.2.1)) = true by cases thereE es x.2.1 <;> rfl]
        (apply ow_pick_t; (· rfl); (· rfl); (· ((conv => lhs; whnf) <;> rfl)))
        (apply ow_assign; (· rfl); (· ((conv => lhs; whnf) <;> rfl)))
        refine ow_nil ?_
        refine wc_region ?_
        (apply ow_move; (· rfl); (· ((conv => lhs; whnf) <;> rfl)))
        refine ow_fieldAddr rfl (tyAt rfl) rfl rfl rfl (tyAt rfl) rfl rfl ?_
        refine ow_load rfl (tyAt rfl) rfl rfl (H.cell (i := 3) rfl rfl) ?_
        refine ow_fieldAddr rfl (tyAt rfl) rfl rfl rfl (tyAt rfl) rfl rfl ?_
        refine ow_load rfl (tyAt rfl) rfl rfl (H.cell (i := 3) rfl rfl) ?_
        skip
        refine ow_call rfl rfl (ent (by kernel_rfl)) (CallsV.mono (refPut_spec pr _ cr es x.2.1 x.2.2 rfl (by omega) ha _ (appOk.sl (H.cap (i := 2) rfl))) ?_) rfl
        rintro u w ⟨p3, c3, rfl, H'⟩
        replace H : St Pu w0 w ([.app p3 (putE ltI es x.2.1 x.2.2).length c3 42 2 ((putE ltI es x.2.1 x.2.2).flatMap entA)] ++ mpA b p2 c2 (putE ltI es x.2.1 x.2.2)) [] := (H.call H').sub (List.Sublist.append_left (List.sublist_append_left _ _) [_])
        clear H'
        (apply ow_assign; (· rfl); (· ((conv => lhs; whnf) <;> rfl)))
        refine ow_nil ?_
        refine ⟨(putE ltI es x.2.1 x.2.2, p2, c2, p3, c3), by first | exact rfl | exact upd_self' rfl rfl | exact upd_self' rfl (upd_self' rfl rfl) | exact upd_self' rfl (upd_self' rfl (upd_self' rfl rfl)) | exact upd_self' rfl (upd_self' rfl (upd_self' rfl (upd_self' rfl rfl))), by repeat (first | with_reducible exact Off.mix | with_reducible exact Off.refl | ((with_reducible refine Off.upd ?_ ?_); (· rfl))), ⟨rfl, asc_put ltI_ok ha _ _, ?_, H.perm List.perm_append_comm⟩⟩
        have := put_len_le (k := x.2.1) (v := x.2.2) ltI_ok ha
        dsimp only
        omega
      refine wc_region ?_
      refine ow_eql rfl rfl rfl ?_
      (apply ow_assign; (· rfl); (· ((conv => lhs; whnf) <;> rfl)))
      refine ow_nil ?_
      refine wc_cond_dec rfl (fun h => ?_) (fun h => ?_) <;> try dsimp only at h
      · refine wc_seq ?_
        refine wc_region ?_
        (apply ow_move; (· rfl); (· ((conv => lhs; whnf) <;> rfl)))
        (apply ow_move; (· rfl); (· ((conv => lhs; whnf) <;> rfl)))
        refine ow_guard_yes rfl rfl rfl rfl ?_
        refine ow_fieldAddr rfl (tyAt rfl) rfl rfl rfl (tyAt rfl) rfl rfl ?_
        refine ow_guard_yes rfl rfl rfl rfl ?_
        refine ow_load rfl (tyAt rfl) rfl rfl (H.cell (i := 3) rfl rfl) ?_
        refine ow_guard_yes rfl rfl rfl rfl ?_
        refine ow_fieldAddr rfl (tyAt rfl) rfl rfl rfl (tyAt rfl) rfl rfl ?_
        refine ow_guard_yes rfl rfl rfl rfl ?_
        refine ow_load rfl (tyAt rfl) rfl rfl (H.cell (i := 3) rfl rfl) ?_
        refine ow_guard_yes rfl rfl rfl rfl ?_
        refine ow_call rfl rfl (ent (by kernel_rfl)) (CallsV.mono (putA_spec b p c es x.2.1 x.2.2 (by omega) ha _ H.begin) ?_) rfl
        rintro u w ⟨rfl, p2, c2, H'⟩
        replace H := H.callC (fun _ h => h) H'
        clear H'
        refine ow_guard_yes rfl rfl rfl rfl ?_
        (apply ow_move; (· rfl); (· ((conv => lhs; whnf) <;> rfl)))
        refine ow_guard_yes rfl rfl rfl rfl ?_
        refine ow_not rfl rfl ?_
        refine ow_guard_yes rfl rfl rfl rfl ?_
        refine ow_eqlb rfl rfl rfl (tyAt rfl) rfl ?_
        rw [show ((!thereE es x.2.1) == (!thereE es x.2.1)) = true by cases thereE es x.2.1 <;> rfl]
        (apply ow_pick_t; (· rfl); (· rfl); (· ((conv => lhs; whnf) <;> rfl)))
        (apply ow_assign; (· rfl); (· ((conv => lhs; whnf) <;> rfl)))
        refine ow_nil ?_
        refine wc_region ?_
        (apply ow_move; (· rfl); (· ((conv => lhs; whnf) <;> rfl)))
        refine ow_fieldAddr rfl (tyAt rfl) rfl rfl rfl (tyAt rfl) rfl rfl ?_
        refine ow_load rfl (tyAt rfl) rfl rfl (H.cell (i := 3) rfl rfl) ?_
        refine ow_fieldAddr rfl (tyAt rfl) rfl rfl rfl (tyAt rfl) rfl rfl ?_
        refine ow_load rfl (tyAt rfl) rfl rfl (H.cell (i := 3) rfl rfl) ?_
        skip
        refine ow_call rfl rfl (ent (by kernel_rfl)) (CallsV.mono (refPut_spec pr _ cr es x.2.1 x.2.2 rfl (by omega) ha _ (appOk.sl (H.cap (i := 2) rfl))) ?_) rfl
        rintro u w ⟨p3, c3, rfl, H'⟩
        replace H : St Pu w0 w ([.app p3 (putE ltI es x.2.1 x.2.2).length c3 42 2 ((putE ltI es x.2.1 x.2.2).flatMap entA)] ++ mpA b p2 c2 (putE ltI es x.2.1 x.2.2)) [] := (H.call H').sub (List.Sublist.append_left (List.sublist_append_left _ _) [_])
        clear H'
        (apply ow_assign; (· rfl); (· ((conv => lhs; whnf) <;> rfl)))
        refine ow_nil ?_
        refine ⟨(putE ltI es x.2.1 x.2.2, p2, c2, p3, c3), by first | exact rfl | exact upd_self' rfl rfl | exact upd_self' rfl (upd_self' rfl rfl) | exact upd_self' rfl (upd_self' rfl (upd_self' rfl rfl)) | exact upd_self' rfl (upd_self' rfl (upd_self' rfl (upd_self' rfl rfl))), by repeat (first | with_reducible exact Off.mix | with_reducible exact Off.refl | ((with_reducible refine Off.upd ?_ ?_); (· rfl))), ⟨rfl, asc_put ltI_ok ha _ _, ?_, H.perm List.perm_append_comm⟩⟩
        have := put_len_le (k := x.2.1) (v := x.2.2) ltI_ok ha
        dsimp only
        omega
      refine wc_seq ?_
      refine wc_region ?_
      refine ow_eql rfl rfl rfl ?_
      (apply ow_assign; (· rfl); (· ((conv => lhs; whnf) <;> rfl)))
      refine ow_nil ?_
      refine wc_cond_dec rfl (fun h => ?_) (fun h => ?_) <;> try dsimp only at h
      · refine wc_seq ?_
        refine wc_region ?_
        (apply ow_move; (· rfl); (· ((conv => lhs; whnf) <;> rfl)))
        (apply ow_move; (· rfl); (· ((conv => lhs; whnf) <;> rfl)))
        refine ow_guard_yes rfl rfl rfl rfl ?_
        refine ow_fieldAddr rfl (tyAt rfl) rfl rfl rfl (tyAt rfl) rfl rfl ?_
        refine ow_guard_yes rfl rfl rfl rfl ?_
        refine ow_load rfl (tyAt rfl) rfl rfl (H.cell (i := 3) rfl rfl) ?_
        refine ow_guard_yes rfl rfl rfl rfl ?_
        refine ow_call rfl rfl (ent (by kernel_rfl)) (CallsV.mono (dropA_spec b p c es x.2.1 (by omega) ha _ H.begin) ?_) rfl
        rintro u w ⟨rfl, p2, c2, H'⟩
        replace H := H.callC (fun _ h => h) H'
        clear H'
        refine ow_guard_yes rfl rfl rfl rfl ?_
        (apply ow_move; (· rfl); (· ((conv => lhs; whnf) <;> rfl)))
        refine ow_guard_yes rfl rfl rfl rfl ?_
        refine ow_eqlb rfl rfl rfl (tyAt rfl) rfl ?_
        rw [show (thereE es x.2.1 == thereE es x.2.1) = true by cases thereE es x.2.1 <;> rfl]
        (apply ow_pick_t; (· rfl); (· rfl); (· ((conv => lhs; whnf) <;> rfl)))
        (apply ow_assign; (· rfl); (· ((conv => lhs; whnf) <;> rfl)))
        refine ow_nil ?_
        refine wc_region ?_
        (apply ow_move; (· rfl); (· ((conv => lhs; whnf) <;> rfl)))
        refine ow_fieldAddr rfl (tyAt rfl) rfl rfl rfl (tyAt rfl) rfl rfl ?_
        refine ow_load rfl (tyAt rfl) rfl rfl (H.cell (i := 3) rfl rfl) ?_
        skip
        refine ow_call rfl rfl (ent (by kernel_rfl)) (CallsV.mono (refDrop_spec pr _ cr es x.2.1 rfl (by omega) _ (appOk.sl (H.cap (i := 2) rfl))) ?_) rfl
        rintro u w ⟨p3, c3, rfl, H'⟩
        replace H : St Pu w0 w ([.app p3 (dropE es x.2.1).length c3 42 2 ((dropE es x.2.1).flatMap entA)] ++ mpA b p2 c2 (dropE es x.2.1)) [] := (H.call H').sub (List.Sublist.append_left (List.sublist_append_left _ _) [_])
        clear H'
        (apply ow_assign; (· rfl); (· ((conv => lhs; whnf) <;> rfl)))
        refine ow_nil ?_
        refine ⟨(dropE es x.2.1, p2, c2, p3, c3), by first | exact rfl | exact upd_self' rfl rfl | exact upd_self' rfl (upd_self' rfl rfl) | exact upd_self' rfl (upd_self' rfl (upd_self' rfl rfl)) | exact upd_self' rfl (upd_self' rfl (upd_self' rfl (upd_self' rfl rfl))), by repeat (first | with_reducible exact Off.mix | with_reducible exact Off.refl | ((with_reducible refine Off.upd ?_ ?_); (· rfl))), ⟨rfl, asc_drop ha _, ?_, H.perm List.perm_append_comm⟩⟩
        have := drop_len_le (es := es) (k := x.2.1)
        dsimp only
        omega
      refine wc_seq ?_
      refine wc_region ?_
      refine ow_eql rfl rfl rfl ?_
      (apply ow_assign; (· rfl); (· ((conv => lhs; whnf) <;> rfl)))
      refine ow_nil ?_
      refine wc_cond_dec rfl (fun h => ?_) (fun h => ?_) <;> try dsimp only at h
      · refine wc_seq ?_
        refine wc_region ?_
        refine ow_fieldAddr rfl (tyAt rfl) rfl rfl rfl (tyAt rfl) rfl rfl ?_
        refine ow_load rfl (tyAt rfl) rfl rfl (H.cell (i := 3) rfl rfl) ?_
        skip
        refine ow_call rfl rfl (ent (by kernel_rfl)) (CallsV.mono (getA_spec b p c es x.2.1 (by omega) ha _ (mpA_at H (i := 0) (j := 1) rfl rfl)) ?_) rfl
        rintro u w ⟨rfl, H'⟩
        replace H : St Pu w0 w (mpA b p c es ++ [.app pr es.length cr 42 2 (es.flatMap entA)]) [] := (H.call H').sub (L' := mpA b p c es ++ [.app pr es.length cr 42 2 (es.flatMap entA)]) (List.Sublist.append_left (List.sublist_append_left [_] _) (mpA b p c es))
        clear H'
        (apply ow_move; (· rfl); (· ((conv => lhs; whnf) <;> rfl)))
        refine ow_extract rfl rfl rfl ?_
        refine ow_extract rfl rfl rfl ?_
        (apply ow_assign; (· rfl); (· ((conv => lhs; whnf) <;> rfl)))
        (apply ow_assign; (· rfl); (· ((conv => lhs; whnf) <;> rfl)))
        refine ow_nil ?_
        refine wc_region ?_
        (apply ow_move; (· rfl); (· ((conv => lhs; whnf) <;> rfl)))
        (apply ow_move; (· rfl); (· ((conv => lhs; whnf) <;> rfl)))
        refine ow_guard_yes rfl rfl rfl rfl ?_
        (apply ow_move; (· rfl); (· ((conv => lhs; whnf) <;> rfl)))
        refine ow_guard_yes rfl rfl rfl rfl ?_
        (apply ow_move; (· rfl); (· ((conv => lhs; whnf) <;> rfl)))
        refine ow_guard_yes rfl rfl rfl rfl ?_
        refine ow_eql rfl rfl rfl ?_
        (apply ow_pick_t; (· rfl); (· rfl); (· ((conv => lhs; whnf) <;> rfl)))
        (apply ow_move; (· rfl); (· ((conv => lhs; whnf) <;> rfl)))
        refine ow_guard_dec rfl rfl rfl (fun _ => ?_) (fun h => (h (by with_reducible rfl)).elim)
        refine ow_guard_yes rfl rfl rfl rfl ?_
        (apply ow_move; (· rfl); (· ((conv => lhs; whnf) <;> rfl)))
        refine ow_guard_yes rfl rfl rfl rfl ?_
        (apply ow_move; (· rfl); (· ((conv => lhs; whnf) <;> rfl)))
        refine ow_guard_yes rfl rfl rfl rfl ?_
        rw [decide_eq_true (rfl : (getE es x.2.1).getD 0 = (getE es x.2.1).getD 0)]
        skip
        refine ow_eqlb rfl rfl rfl (tyAt rfl) rfl ?_
        rw [show (thereE es x.2.1 == thereE es x.2.1) = true by cases thereE es x.2.1 <;> rfl]
        (apply ow_pick_t; (· rfl); (· rfl); (· ((conv => lhs; whnf) <;> rfl)))
        (apply ow_assign; (· rfl); (· ((conv => lhs; whnf) <;> rfl)))
        refine ow_nil ?_
        exact ⟨(es, p, c, pr, cr), by first | exact rfl | exact upd_self' rfl rfl | exact upd_self' rfl (upd_self' rfl rfl) | exact upd_self' rfl (upd_self' rfl (upd_self' rfl rfl)) | exact upd_self' rfl (upd_self' rfl (upd_self' rfl (upd_self' rfl rfl))), by repeat (first | with_reducible exact Off.mix | with_reducible exact Off.refl | ((with_reducible refine Off.upd ?_ ?_); (· rfl))), ⟨rfl, ha, by dsimp only; omega, H⟩⟩
      refine wc_seq ?_
      refine wc_region ?_
      refine ow_eql rfl rfl rfl ?_
      (apply ow_assign; (· rfl); (· ((conv => lhs; whnf) <;> rfl)))
      refine ow_nil ?_
      refine wc_cond_dec rfl (fun h => ?_) (fun h => ?_) <;> try dsimp only at h
      · refine wc_seq ?_
        refine wc_region ?_
        refine ow_fieldAddr rfl (tyAt rfl) rfl rfl rfl (tyAt rfl) rfl rfl ?_
        refine ow_load rfl (tyAt rfl) rfl rfl (H.cell (i := 3) rfl rfl) ?_
        skip
        refine ow_call rfl rfl (ent (by kernel_rfl)) (CallsV.mono (atA_spec b p c es x.2.2 (by omega) _ (mpA_at H (i := 0) (j := 1) rfl rfl)) ?_) rfl
        rintro u w ⟨rfl, H'⟩
        replace H : St Pu w0 w (mpA b p c es ++ [.app pr es.length cr 42 2 (es.flatMap entA), .row bo 29 (opA x)]) [] := H.call H'
        clear H'
        (apply ow_move; (· rfl); (· ((conv => lhs; whnf) <;> rfl)))
        refine ow_extract rfl rfl rfl ?_
        refine ow_extract rfl rfl rfl ?_
        refine ow_extract rfl rfl rfl ?_
        (apply ow_assign; (· rfl); (· ((conv => lhs; whnf) <;> rfl)))
        (apply ow_assign; (· rfl); (· ((conv => lhs; whnf) <;> rfl)))
        (apply ow_assign; (· rfl); (· ((conv => lhs; whnf) <;> rfl)))
        refine ow_nil ?_
        refine wc_seq ?_
        refine wc_region ?_
        refine ow_fieldAddr rfl (tyAt rfl) rfl rfl rfl (tyAt rfl) rfl rfl ?_
        refine ow_load rfl (tyAt rfl) rfl rfl (H.cell (i := 3) rfl rfl) ?_
        refine ow_geq rfl rfl rfl ?_
        (apply ow_move; (· rfl); (· ((conv => lhs; whnf) <;> rfl)))
        by_cases hin : 0 ≤ x.2.2 ∧ x.2.2 < (es.length : Int)
        · obtain ⟨y, hy⟩ : ∃ y, es[x.2.2.toNat]? = some y := ⟨_, List.getElem?_eq_getElem (by omega)⟩
          rw [show atA es x.2.2 = (y, true) by unfold atA; rw [if_pos hin.1, hy]]
          refine ow_guard_dec rfl rfl rfl (fun _ => ?_) (fun h => (h (by omega)).elim)
          refine ow_guard_yes rfl rfl rfl rfl ?_
          refine ow_fieldAddr rfl (tyAt rfl) rfl rfl rfl (tyAt rfl) rfl rfl ?_
          refine ow_guard_yes rfl rfl rfl rfl ?_
          refine ow_load rfl (tyAt rfl) rfl rfl (H.cell (i := 3) rfl rfl) ?_
          refine ow_guard_yes rfl rfl rfl rfl ?_
          (apply ow_move; (· rfl); (· ((conv => lhs; whnf) <;> rfl)))
          refine ow_guard_yes rfl rfl rfl rfl ?_
          refine ow_len rfl rfl (tyAt rfl) rfl ?_
          refine ow_guard_yes rfl rfl rfl rfl ?_
          refine ow_lss rfl rfl rfl ?_
          (apply ow_pick_t; (· rfl); (· rfl); (· ((conv => lhs; whnf) <;> rfl)))
          (apply ow_assign; (· rfl); (· ((conv => lhs; whnf) <;> rfl)))
          refine ow_nil ?_
          refine wc_region ?_
          (apply ow_move; (· rfl); (· ((conv => lhs; whnf) <;> rfl)))
          (apply ow_move; (· rfl); (· ((conv => lhs; whnf) <;> rfl)))
          refine ow_guard_yes rfl rfl rfl rfl ?_
          (apply ow_move; (· rfl); (· ((conv => lhs; whnf) <;> rfl)))
          refine ow_guard_yes rfl rfl rfl rfl ?_
          (apply ow_move; (· rfl); (· ((conv => lhs; whnf) <;> rfl)))
          refine ow_guard_yes rfl rfl rfl rfl ?_
          rw [decide_eq_true hin.2]
          refine ow_eqlb rfl rfl rfl (tyAt rfl) rfl ?_
          (apply ow_pick_t; (· rfl); (· rfl); (· ((conv => lhs; whnf) <;> rfl)))
          (apply ow_move; (· rfl); (· ((conv => lhs; whnf) <;> rfl)))
          refine ow_guard_yes rfl rfl rfl rfl ?_
          (apply ow_move; (· rfl); (· ((conv => lhs; whnf) <;> rfl)))
          refine ow_guard_yes rfl rfl rfl rfl ?_
          (apply ow_move; (· rfl); (· ((conv => lhs; whnf) <;> rfl)))
          refine ow_guard_yes rfl rfl rfl rfl ?_
          (apply ow_move; (· rfl); (· ((conv => lhs; whnf) <;> rfl)))
          refine ow_guard_yes rfl rfl rfl rfl ?_
          refine ow_fieldAddr rfl (tyAt rfl) rfl rfl rfl (tyAt rfl) rfl rfl ?_
          refine ow_guard_yes rfl rfl rfl rfl ?_
          refine ow_load rfl (tyAt rfl) rfl rfl (H.cell (i := 3) rfl rfl) ?_
          refine ow_guard_yes rfl rfl rfl rfl ?_
          obtain ⟨g, rfl⟩ := appOk.some (H.cap (i := 2) rfl) (by rw [flat_len entA_len]; omega)
          refine ow_idxK (j := x.2.2.toNat) (sz := 2) rfl (tyAt rfl) rfl (tyAt rfl) rfl rfl (by omega) (by omega) rfl ?_
          refine ow_guard_yes rfl rfl rfl rfl ?_
          refine ow_loadA (l := entA y) rfl (tyAt rfl) rfl rfl rfl ((appOk.sl (H.cap (i := 2) rfl)).elem entA_len hy) ?_
          refine ow_guard_yes rfl rfl rfl rfl ?_
          (apply ow_move; (· rfl); (· ((conv => lhs; whnf) <;> rfl)))
          refine ow_guard_yes rfl rfl rfl rfl ?_
          (apply ow_move; (· rfl); (· ((conv => lhs; whnf) <;> rfl)))
          refine ow_guard_yes rfl rfl rfl rfl ?_
          refine ow_build (l := entA y) (vs := [(0, .int .i64 y.1), (1, .int .i64 y.2)]) rfl (tyAt rfl) rfl (.cons (tyAt rfl) (.cons (tyAt rfl) .nil)) rfl rfl ?_
          refine ow_guard_yes rfl rfl rfl rfl ?_
          refine ow_eqlF rfl rfl rfl (tyAt rfl) rfl (by kernel_rfl) (by kernel_rfl) (.int (by decide) (tyAt rfl) rfl rfl rfl rfl (.int (by decide) (tyAt rfl) rfl rfl rfl rfl .nil)) ?_
          rw [decide_eq_true (rfl : y.1 = y.1), decide_eq_true (rfl : y.2 = y.2)]
          refine ow_guard_yes rfl rfl rfl rfl ?_
          (apply ow_pick_t; (· rfl); (· rfl); (· ((conv => lhs; whnf) <;> rfl)))
          refine ow_guard_yes rfl rfl rfl rfl ?_
          (apply ow_move; (· rfl); (· ((conv => lhs; whnf) <;> rfl)))
          refine ow_guard_no rfl rfl rfl rfl rfl rfl rfl ?_
          refine ow_guard_no rfl rfl rfl rfl rfl rfl rfl ?_
          refine ow_guard_no rfl rfl rfl rfl rfl rfl rfl ?_
          refine ow_guard_un rfl rfl rfl rfl rfl rfl ?_
          refine ow_guard_un rfl rfl rfl rfl rfl rfl ?_
          refine ow_guard_no rfl rfl rfl rfl rfl rfl rfl ?_
          refine ow_guard_no rfl rfl rfl rfl rfl rfl rfl ?_
          refine ow_guard_un rfl rfl rfl rfl rfl rfl ?_
          refine ow_guard_un rfl rfl rfl rfl rfl rfl ?_
          refine ow_guard_no rfl rfl rfl rfl rfl rfl rfl ?_
          refine ow_guard_yes rfl rfl rfl rfl ?_
          (apply ow_pick_t; (· rfl); (· rfl); (· ((conv => lhs; whnf) <;> rfl)))
          (apply ow_pick_t; (· rfl); (· rfl); (· ((conv => lhs; whnf) <;> rfl)))
          (apply ow_assign; (· rfl); (· ((conv => lhs; whnf) <;> rfl)))
          refine ow_nil ?_
          exact ⟨(es, p, c, some ⟨g, 0, none⟩, cr), by first | exact rfl | exact upd_self' rfl rfl | exact upd_self' rfl (upd_self' rfl rfl) | exact upd_self' rfl (upd_self' rfl (upd_self' rfl rfl)) | exact upd_self' rfl (upd_self' rfl (upd_self' rfl (upd_self' rfl rfl))), by repeat (first | with_reducible exact Off.mix | with_reducible exact Off.refl | ((with_reducible refine Off.upd ?_ ?_); (· rfl))), ⟨rfl, ha, by dsimp only; omega, H.sub (L' := mpA b p c es ++ [.app (some ⟨g, 0, none⟩) es.length cr 42 2 (es.flatMap entA)]) (List.Sublist.append_left (List.sublist_append_left [_] _) (mpA b p c es))⟩⟩
        · rw [at_out hin]
          refine ow_guard_dec rfl rfl rfl (fun h => ?_) (fun h => ?_) <;> try dsimp only at h
          · refine ow_guard_yes rfl rfl rfl rfl ?_
            refine ow_fieldAddr rfl (tyAt rfl) rfl rfl rfl (tyAt rfl) rfl rfl ?_
            refine ow_guard_yes rfl rfl rfl rfl ?_
            refine ow_load rfl (tyAt rfl) rfl rfl (H.cell (i := 3) rfl rfl) ?_
            refine ow_guard_yes rfl rfl rfl rfl ?_
            (apply ow_move; (· rfl); (· ((conv => lhs; whnf) <;> rfl)))
            refine ow_guard_yes rfl rfl rfl rfl ?_
            refine ow_len rfl rfl (tyAt rfl) rfl ?_
            refine ow_guard_yes rfl rfl rfl rfl ?_
            refine ow_lss rfl rfl rfl ?_
            (apply ow_pick_t; (· rfl); (· rfl); (· ((conv => lhs; whnf) <;> rfl)))
            (apply ow_assign; (· rfl); (· ((conv => lhs; whnf) <;> rfl)))
            refine ow_nil ?_
            refine wc_region ?_
            (apply ow_move; (· rfl); (· ((conv => lhs; whnf) <;> rfl)))
            (apply ow_move; (· rfl); (· ((conv => lhs; whnf) <;> rfl)))
            refine ow_guard_yes rfl rfl rfl rfl ?_
            (apply ow_move; (· rfl); (· ((conv => lhs; whnf) <;> rfl)))
            refine ow_guard_yes rfl rfl rfl rfl ?_
            (apply ow_move; (· rfl); (· ((conv => lhs; whnf) <;> rfl)))
            refine ow_guard_yes rfl rfl rfl rfl ?_
            rw [decide_eq_false (show ¬ (x.2.2 < (es.length : Int)) by omega)]
            refine ow_eqlb rfl rfl rfl (tyAt rfl) rfl ?_
            (apply ow_pick_t; (· rfl); (· rfl); (· ((conv => lhs; whnf) <;> rfl)))
            (apply ow_move; (· rfl); (· ((conv => lhs; whnf) <;> rfl)))
            refine ow_guard_yes rfl rfl rfl rfl ?_
            (apply ow_move; (· rfl); (· ((conv => lhs; whnf) <;> rfl)))
            refine ow_guard_yes rfl rfl rfl rfl ?_
            (apply ow_move; (· rfl); (· ((conv => lhs; whnf) <;> rfl)))
            refine ow_guard_no rfl rfl rfl rfl rfl rfl rfl ?_
            refine ow_guard_no rfl rfl rfl rfl rfl rfl rfl ?_
            refine ow_guard_no rfl rfl rfl rfl rfl rfl rfl ?_
            refine ow_guard_no rfl rfl rfl rfl rfl rfl rfl ?_
            refine ow_guard_no rfl rfl rfl rfl rfl rfl rfl ?_
            refine ow_guard_no rfl rfl rfl rfl rfl rfl rfl ?_
            refine ow_guard_no rfl rfl rfl rfl rfl rfl rfl ?_
            refine ow_guard_no rfl rfl rfl rfl rfl rfl rfl ?_
            refine ow_guard_no rfl rfl rfl rfl rfl rfl rfl ?_
            refine ow_guard_yes rfl rfl rfl rfl ?_
            (apply ow_pick_f; (· rfl); (· rfl); (· ((conv => lhs; whnf) <;> rfl)))
            refine ow_guard_yes rfl rfl rfl rfl ?_
            (apply ow_move; (· rfl); (· ((conv => lhs; whnf) <;> rfl)))
            refine ow_guard_yes rfl rfl rfl rfl ?_
            (apply ow_move; (· rfl); (· ((conv => lhs; whnf) <;> rfl)))
            refine ow_guard_yes rfl rfl rfl rfl ?_
            refine ow_not rfl rfl ?_
            refine ow_guard_yes rfl rfl rfl rfl ?_
            (apply ow_move; (· rfl); (· ((conv => lhs; whnf) <;> rfl)))
            refine ow_guard_yes rfl rfl rfl rfl ?_
            (apply ow_move; (· rfl); (· ((conv => lhs; whnf) <;> rfl)))
            refine ow_guard_yes rfl rfl rfl rfl ?_
            refine ow_eql rfl rfl rfl ?_
            refine ow_guard_yes rfl rfl rfl rfl ?_
            (apply ow_pick_t; (· rfl); (· rfl); (· ((conv => lhs; whnf) <;> rfl)))
            refine ow_guard_yes rfl rfl rfl rfl ?_
            (apply ow_move; (· rfl); (· ((conv => lhs; whnf) <;> rfl)))
            refine ow_guard_yes rfl rfl rfl rfl ?_
            (apply ow_move; (· rfl); (· ((conv => lhs; whnf) <;> rfl)))
            refine ow_guard_yes rfl rfl rfl rfl ?_
            refine ow_eql rfl rfl rfl ?_
            refine ow_guard_yes rfl rfl rfl rfl ?_
            (apply ow_pick_t; (· rfl); (· rfl); (· ((conv => lhs; whnf) <;> rfl)))
            refine ow_guard_yes rfl rfl rfl rfl ?_
            (apply ow_pick_f; (· rfl); (· rfl); (· ((conv => lhs; whnf) <;> rfl)))
            (apply ow_pick_t; (· rfl); (· rfl); (· ((conv => lhs; whnf) <;> rfl)))
            (apply ow_assign; (· rfl); (· ((conv => lhs; whnf) <;> rfl)))
            refine ow_nil ?_
            exact ⟨(es, p, c, pr, cr), by first | exact rfl | exact upd_self' rfl rfl | exact upd_self' rfl (upd_self' rfl rfl) | exact upd_self' rfl (upd_self' rfl (upd_self' rfl rfl)) | exact upd_self' rfl (upd_self' rfl (upd_self' rfl (upd_self' rfl rfl))), by repeat (first | with_reducible exact Off.mix | with_reducible exact Off.refl | ((with_reducible refine Off.upd ?_ ?_); (· rfl))), ⟨rfl, ha, by dsimp only; omega, H.sub (L' := mpA b p c es ++ [.app pr es.length cr 42 2 (es.flatMap entA)]) (List.Sublist.append_left (List.sublist_append_left [_] _) (mpA b p c es))⟩⟩
          · refine ow_guard_no rfl rfl rfl rfl rfl rfl rfl ?_
            refine ow_guard_no rfl rfl rfl rfl rfl rfl rfl ?_
            refine ow_guard_no rfl rfl rfl rfl rfl rfl rfl ?_
            refine ow_guard_no rfl rfl rfl rfl rfl rfl rfl ?_
            refine ow_guard_no rfl rfl rfl rfl rfl rfl rfl ?_
            (apply ow_pick_f; (· rfl); (· rfl); (· ((conv => lhs; whnf) <;> rfl)))
            (apply ow_assign; (· rfl); (· ((conv => lhs; whnf) <;> rfl)))
            refine ow_nil ?_
            refine wc_region ?_
            (apply ow_move; (· rfl); (· ((conv => lhs; whnf) <;> rfl)))
            (apply ow_move; (· rfl); (· ((conv => lhs; whnf) <;> rfl)))
            refine ow_guard_yes rfl rfl rfl rfl ?_
            (apply ow_move; (· rfl); (· ((conv => lhs; whnf) <;> rfl)))
            refine ow_guard_yes rfl rfl rfl rfl ?_
            (apply ow_move; (· rfl); (· ((conv => lhs; whnf) <;> rfl)))
            refine ow_guard_yes rfl rfl rfl rfl ?_
            refine ow_eqlb rfl rfl rfl (tyAt rfl) rfl ?_
            (apply ow_pick_t; (· rfl); (· rfl); (· ((conv => lhs; whnf) <;> rfl)))
            (apply ow_move; (· rfl); (· ((conv => lhs; whnf) <;> rfl)))
            refine ow_guard_yes rfl rfl rfl rfl ?_
            (apply ow_move; (· rfl); (· ((conv => lhs; whnf) <;> rfl)))
            refine ow_guard_yes rfl rfl rfl rfl ?_
            (apply ow_move; (· rfl); (· ((conv => lhs; whnf) <;> rfl)))
            refine ow_guard_no rfl rfl rfl rfl rfl rfl rfl ?_
            refine ow_guard_no rfl rfl rfl rfl rfl rfl rfl ?_
            refine ow_guard_no rfl rfl rfl rfl rfl rfl rfl ?_
            refine ow_guard_no rfl rfl rfl rfl rfl rfl rfl ?_
            refine ow_guard_no rfl rfl rfl rfl rfl rfl rfl ?_
            refine ow_guard_no rfl rfl rfl rfl rfl rfl rfl ?_
            refine ow_guard_no rfl rfl rfl rfl rfl rfl rfl ?_
            refine ow_guard_no rfl rfl rfl rfl rfl rfl rfl ?_
            refine ow_guard_no rfl rfl rfl rfl rfl rfl rfl ?_
            refine ow_guard_yes rfl rfl rfl rfl ?_
            (apply ow_pick_f; (· rfl); (· rfl); (· ((conv => lhs; whnf) <;> rfl)))
            refine ow_guard_yes rfl rfl rfl rfl ?_
            (apply ow_move; (· rfl); (· ((conv => lhs; whnf) <;> rfl)))
            refine ow_guard_yes rfl rfl rfl rfl ?_
            (apply ow_move; (· rfl); (· ((conv => lhs; whnf) <;> rfl)))
            refine ow_guard_yes rfl rfl rfl rfl ?_
            refine ow_not rfl rfl ?_
            refine ow_guard_yes rfl rfl rfl rfl ?_
            (apply ow_move; (· rfl); (· ((conv => lhs; whnf) <;> rfl)))
            refine ow_guard_yes rfl rfl rfl rfl ?_
            (apply ow_move; (· rfl); (· ((conv => lhs; whnf) <;> rfl)))
            refine ow_guard_yes rfl rfl rfl rfl ?_
            refine ow_eql rfl rfl rfl ?_
            refine ow_guard_yes rfl rfl rfl rfl ?_
            (apply ow_pick_t; (· rfl); (· rfl); (· ((conv => lhs; whnf) <;> rfl)))
            refine ow_guard_yes rfl rfl rfl rfl ?_
            (apply ow_move; (· rfl); (· ((conv => lhs; whnf) <;> rfl)))
            refine ow_guard_yes rfl rfl rfl rfl ?_
            (apply ow_move; (· rfl); (· ((conv => lhs; whnf) <;> rfl)))
            refine ow_guard_yes rfl rfl rfl rfl ?_
            refine ow_eql rfl rfl rfl ?_
            refine ow_guard_yes rfl rfl rfl rfl ?_
            (apply ow_pick_t; (· rfl); (· rfl); (· ((conv => lhs; whnf) <;> rfl)))
            refine ow_guard_yes rfl rfl rfl rfl ?_
            (apply ow_pick_f; (· rfl); (· rfl); (· ((conv => lhs; whnf) <;> rfl)))
            (apply ow_pick_t; (· rfl); (· rfl); (· ((conv => lhs; whnf) <;> rfl)))
            (apply ow_assign; (· rfl); (· ((conv => lhs; whnf) <;> rfl)))
            refine ow_nil ?_
            exact ⟨(es, p, c, pr, cr), by first | exact rfl | exact upd_self' rfl rfl | exact upd_self' rfl (upd_self' rfl rfl) | exact upd_self' rfl (upd_self' rfl (upd_self' rfl rfl)) | exact upd_self' rfl (upd_self' rfl (upd_self' rfl (upd_self' rfl rfl))), by repeat (first | with_reducible exact Off.mix | with_reducible exact Off.refl | ((with_reducible refine Off.upd ?_ ?_); (· rfl))), ⟨rfl, ha, by dsimp only; omega, H.sub (L' := mpA b p c es ++ [.app pr es.length cr 42 2 (es.flatMap entA)]) (List.Sublist.append_left (List.sublist_append_left [_] _) (mpA b p c es))⟩⟩
      refine wc_seq ?_
      refine wc_region ?_
      refine ow_eql rfl rfl rfl ?_
      (apply ow_assign; (· rfl); (· ((conv => lhs; whnf) <;> rfl)))
      refine ow_nil ?_
      refine wc_cond_dec rfl (fun h => ?_) (fun h => ?_) <;> try dsimp only at h
      · obtain ⟨k, hk, hck⟩ := and_mask x.2.2 (m := 7) (by decide)
        have hrl := rkE_le ltI es x.2.1
        have hcr := appOk.le (H.cap (i := 2) rfl)
        refine wc_seq ?_
        refine wc_region ?_
        refine ow_fieldAddr rfl (tyAt rfl) rfl rfl rfl (tyAt rfl) rfl rfl ?_
        refine ow_load rfl (tyAt rfl) rfl rfl (H.cell (i := 3) rfl rfl) ?_
        refine ow_and rfl rfl rfl ?_
        (apply ow_move; (· rfl); (· ((conv => lhs; whnf) <;> rfl)))
        refine ow_len rfl rfl (tyAt rfl) rfl ?_
        (apply ow_move; (· rfl); (· ((conv => lhs; whnf) <;> rfl)))
        refine ow_sub rfl rfl rfl (by simp only [InK]; omega) ?_
        refine ow_min rfl rfl rfl ?_
        (apply ow_assign; (· rfl); (· ((conv => lhs; whnf) <;> rfl)))
        refine ow_nil ?_
        rw [show bw .and .i64 x.2.2 7 = (k : Int) from hck]
        skip
        refine wc_drawK (fun w => St Pu w0 w [.row bo 29 (opA x)] []) 99 (by kernel_rfl) (by kernel_rfl) (by intro c e D w h; first | exact h.elim | (rcases h with ⟨h | h, _⟩ <;> cases h)) ?_
        replace H := H.drew
        have G := H
        replace H := H.only (i := 3) rfl
        apply ak_take (i := 0) rfl rfl rfl rfl (by kernel_rfl) (by with_reducible first | exact H | rfl)
        · intro w Q' HS hq; replace H := HS; clear HS; (apply ow_move; (· rfl); (· ((conv => lhs; whnf) <;> rfl))); exact ow_nil hq
        apply ak_take (i := 1) rfl rfl rfl rfl (by kernel_rfl) (by with_reducible first | exact H | rfl)
        · intro w Q' HS hq; replace H := HS; clear HS; (apply ow_move; (· rfl); (· ((conv => lhs; whnf) <;> rfl))); exact ow_nil hq
        apply ak_take (i := 2) rfl rfl rfl rfl (by kernel_rfl) (by with_reducible first | exact H | rfl)
        · intro w Q' HS hq; replace H := HS; clear HS; refine ow_guard_yes rfl rfl rfl rfl ?_; refine ow_fieldAddr rfl (tyAt rfl) rfl rfl rfl (tyAt rfl) rfl rfl ?_; exact ow_nil hq
        apply ak_take (i := 3) rfl rfl rfl rfl (by kernel_rfl) (by with_reducible first | exact H | rfl)
        · intro w Q' HS hq; replace H := HS; clear HS; refine ow_guard_yes rfl rfl rfl rfl ?_; refine ow_load rfl (tyAt rfl) rfl rfl (H.cell (i := 0) rfl rfl) ?_; exact ow_nil hq
        apply ak_take (i := 4) rfl rfl rfl rfl (by kernel_rfl) (by with_reducible first | exact H | rfl)
        · intro w Q' HS hq; replace H := HS; clear HS; refine ow_guard_yes rfl rfl rfl rfl ?_; refine ow_fieldAddr rfl (tyAt rfl) rfl rfl rfl (tyAt rfl) rfl rfl ?_; exact ow_nil hq
        apply ak_take (i := 5) rfl rfl rfl rfl (by kernel_rfl) (by with_reducible first | exact H | rfl)
        · intro w Q' HS hq; replace H := HS; clear HS; refine ow_guard_yes rfl rfl rfl rfl ?_; refine ow_load rfl (tyAt rfl) rfl rfl (H.cell (i := 0) rfl rfl) ?_; exact ow_nil hq
        apply ak_take (i := 6) rfl rfl rfl rfl (by kernel_rfl) (by with_reducible first | exact H | rfl)
        · intro w Q' HS hq; replace H := HS; clear HS; refine ow_guard_yes rfl rfl rfl rfl ?_; refine ow_and rfl rfl rfl ?_; exact ow_nil hq
        rw [show bw .and .i64 x.2.2 7 = (k : Int) from hck]
        apply ak_take (i := 8) rfl rfl rfl rfl (by kernel_rfl) (by with_reducible first | exact H | rfl)
        · intro w Q' HS hq; replace H := HS; clear HS; refine ow_guard_yes rfl rfl rfl rfl ?_; (apply ow_move; (· rfl); (· ((conv => lhs; whnf) <;> rfl))); exact ow_nil hq
        apply ak_take (i := 9) rfl rfl rfl rfl (by kernel_rfl) (by with_reducible first | exact H | rfl)
        · intro w Q' HS hq; replace H := HS; clear HS; refine ow_guard_yes rfl rfl rfl rfl ?_; (apply ow_move; (· rfl); (· ((conv => lhs; whnf) <;> rfl))); exact ow_nil hq
        apply ak_take (i := 10) rfl rfl rfl rfl (by kernel_rfl) (by with_reducible first | exact H | rfl)
        · intro w Q' HS hq; replace H := HS; clear HS; refine ow_guard_yes rfl rfl rfl rfl ?_; (apply ow_move; (· rfl); (· ((conv => lhs; whnf) <;> rfl))); exact ow_nil hq
        apply ak_take (i := 11) rfl rfl rfl rfl (by kernel_rfl) (by with_reducible first | exact H | rfl)
        · intro w Q' HS hq; replace H := HS; clear HS; refine ow_guard_yes rfl rfl rfl rfl ?_; (apply ow_move; (· rfl); (· ((conv => lhs; whnf) <;> rfl))); exact ow_nil hq
        apply ak_take (i := 12) rfl rfl rfl rfl (by kernel_rfl) (by with_reducible first | exact H | rfl)
        · intro w Q' HS hq; replace H := HS; clear HS; refine ow_guard_yes rfl rfl rfl rfl ?_; refine ow_add rfl rfl rfl (by simp only [InK]; omega) ?_; exact ow_nil hq
        apply ak_take (i := 13) rfl rfl rfl rfl (by kernel_rfl) (by with_reducible first | exact H | rfl)
        · intro w Q' HS hq; replace H := HS; clear HS; refine ow_guard_yes rfl rfl rfl rfl ?_; refine ow_sliceLoHi (m := ((rkE ltI es x.2.1 : Nat) : Int)) (m' := ((rkE ltI es x.2.1 : Nat) : Int) + min (k : Int) ((es.length : Int) - ((rkE ltI es x.2.1 : Nat) : Int))) rfl (tyAt rfl) rfl (tyAt rfl) rfl rfl rfl (by omega) (by omega) (by omega) ?_; exact ow_nil hq
        replace H := G
        clear G
        apply ak_one (i := 7)
        · kernel_rfl
        · rfl
        · rfl
        refine ow_guard_yes rfl rfl rfl rfl ?_
        refine ow_call rfl rfl (ent (by kernel_rfl)) (CallsV.mono (lawFrom_spec b p c es x.2.1 (k : Int) (by omega) ha _ (mpA_at H (i := 0) (j := 1) rfl rfl)) ?_) rfl
        rintro u w ⟨p3, c3, rfl, H'⟩
        replace H : St Pu w0 w (.app p3 (fromE es x.2.1 (k : Int)).length c3 42 2 ((fromE es x.2.1 (k : Int)).flatMap entA) :: (mpA b p c es ++ [.app pr es.length cr 42 2 (es.flatMap entA), .row bo 29 (opA x)])) [] := H.call H'
        clear H'
        refine ow_nil ⟨fun _ => H.only (i := 4) rfl, ?_⟩
        have hfl : (fromE es x.2.1 (k : Int)).length = min k (es.length - rkE ltI es x.2.1) := by unfold fromE; rw [List.length_take, List.length_drop, Int.toNat_natCast]
        have hs2 : SlH (hp w) (subP pr cr (rkE ltI es x.2.1) 2) ((fromE es x.2.1 (k : Int)).flatMap entA) := by
          have h2 := (appOk.sl (H.cap (i := 3) rfl)).subP (cap := cr) (sz := 2) (by rw [flat_len entA_len]; omega) (rkE ltI es x.2.1) ((fromE es x.2.1 (k : Int)).flatMap entA).length
          have e1 := flatA_drop es hrl
          have e2 : ((es.drop (rkE ltI es x.2.1)).flatMap entA).take ((fromE es x.2.1 (k : Int)).flatMap entA).length = (fromE es x.2.1 (k : Int)).flatMap entA := by
            unfold fromE
            rw [Int.toNat_natCast]
            conv => lhs; rw [← List.take_append_drop k (es.drop (rkE ltI es x.2.1)), List.flatMap_append, List.take_append_drop]
            exact List.take_left
          rwa [e1, e2] at h2
        apply ak_one (i := 14)
        · kernel_rfl
        · rfl
        · rfl
        refine ow_guard_yes rfl rfl rfl rfl ?_
        refine ow_call rfl rfl (ent (by kernel_rfl)) (CallsV.mono (refSame_spec p3 (subP pr cr (rkE ltI es x.2.1) 2) _ ((((rkE ltI es x.2.1 : Nat) : Int) + min (k : Int) ((es.length : Int) - ((rkE ltI es x.2.1 : Nat) : Int))).toNat - ((rkE ltI es x.2.1 : Nat) : Int).toNat) c3 _ (fromE es x.2.1 (k : Int)) (fromE es x.2.1 (k : Int)) rfl (by omega) (by omega) (by omega) _ (appOk.sl (H.cap (i := 0) rfl)) hs2) ?_) rfl
        rintro u w ⟨rfl, H'⟩
        replace H : St Pu w0 w (.app p3 (fromE es x.2.1 (k : Int)).length c3 42 2 ((fromE es x.2.1 (k : Int)).flatMap entA) :: (mpA b p c es ++ [.app pr es.length cr 42 2 (es.flatMap entA), .row bo 29 (opA x)])) [] := H.call H'
        clear H'
        rw [decide_eq_true (rfl : fromE es x.2.1 (k : Int) = fromE es x.2.1 (k : Int))]
        refine ow_nil ⟨fun _ => H.only (i := 4) rfl, ?_⟩
        have G := H
        replace H := H.only (i := 4) rfl
        apply ak_take (i := 15) rfl rfl rfl rfl (by kernel_rfl) (by with_reducible first | exact H | rfl)
        · intro w Q' HS hq; replace H := HS; clear HS; (apply ow_pick_t; (· rfl); (· rfl); (· ((conv => lhs; whnf) <;> rfl))); exact ow_nil hq
        apply ak_take (i := 16) rfl rfl rfl rfl (by kernel_rfl) (by with_reducible first | exact H | rfl)
        · intro w Q' HS hq; replace H := HS; clear HS; (apply ow_assign; (· rfl); (· ((conv => lhs; whnf) <;> rfl))); exact ow_nil hq
        refine ak_done (by kernel_rfl) ?_
        replace H := G.drop
        clear G
        skip
        exact ⟨(es, p, c, pr, cr), by first | exact rfl | exact upd_self' rfl rfl | exact upd_self' rfl (upd_self' rfl rfl) | exact upd_self' rfl (upd_self' rfl (upd_self' rfl rfl)) | exact upd_self' rfl (upd_self' rfl (upd_self' rfl (upd_self' rfl rfl))), by repeat (first | with_reducible exact Off.mix | with_reducible exact Off.refl | ((with_reducible refine Off.upd ?_ ?_); (· rfl))), ⟨rfl, ha, by dsimp only; omega, H.sub (L' := mpA b p c es ++ [.app pr es.length cr 42 2 (es.flatMap entA)]) (List.Sublist.append_left (List.sublist_append_left [_] _) (mpA b p c es))⟩⟩
      refine wc_skip ?_
      exact ⟨(es, p, c, pr, cr), by first | exact rfl | exact upd_self' rfl rfl | exact upd_self' rfl (upd_self' rfl rfl) | exact upd_self' rfl (upd_self' rfl (upd_self' rfl rfl)) | exact upd_self' rfl (upd_self' rfl (upd_self' rfl (upd_self' rfl rfl))), by repeat (first | with_reducible exact Off.mix | with_reducible exact Off.refl | ((with_reducible refine Off.upd ?_ ?_); (· rfl))), ⟨rfl, ha, by dsimp only; omega, H.sub (L' := mpA b p c es ++ [.app pr es.length cr 42 2 (es.flatMap entA)]) (List.Sublist.append_left (List.sublist_append_left [_] _) (mpA b p c es))⟩⟩
    clear H
    rintro ⟨es, p, c, pr, cr⟩ j D w ⟨rfl, ha, hel, H⟩
    dsimp only at ha hel H ⊢
    refine wc_seq ?_
    refine wc_region ?_
    (apply ow_move; (· rfl); (· ((conv => lhs; whnf) <;> rfl)))
    refine ow_not rfl rfl ?_
    (apply ow_move; (· rfl); (· ((conv => lhs; whnf) <;> rfl)))
    refine ow_guard_yes rfl rfl rfl rfl ?_
    refine ow_call rfl rfl (ent (by kernel_rfl)) (CallsV.mono (lenA_spec b p c es _ (H.rowSl (i := 0) rfl)) ?_) rfl
    rintro u w' ⟨rfl, rfl⟩
    refine ow_guard_yes rfl rfl rfl rfl ?_
    (apply ow_move; (· rfl); (· ((conv => lhs; whnf) <;> rfl)))
    refine ow_guard_yes rfl rfl rfl rfl ?_
    refine ow_len rfl rfl (tyAt rfl) rfl ?_
    refine ow_guard_yes rfl rfl rfl rfl ?_
    refine ow_neq rfl rfl rfl ?_
    (apply ow_pick_f; (· rfl); (· rfl); (· ((conv => lhs; whnf) <;> rfl)))
    (apply ow_move; (· rfl); (· ((conv => lhs; whnf) <;> rfl)))
    refine ow_guard_dec rfl rfl rfl (fun h => (h (by with_reducible rfl)).elim) (fun _ => ?_)
    refine ow_guard_yes rfl rfl rfl rfl ?_
    rw [show decide (¬ (((es.length : Nat) : Int) = ((es.length : Nat) : Int))) = false from decide_eq_false (fun h => h rfl)]
    skip
    refine ow_call rfl rfl (ent (by kernel_rfl)) (CallsV.mono (lawAll_spec b p c es (by omega) _ (mpA_at H (i := 0) (j := 1) rfl rfl)) ?_) rfl
    rintro u w ⟨p4, c4, rfl, H'⟩
    replace H : St Pu w0 w (.app p4 es.length c4 42 2 (es.flatMap entA) :: (mpA b p c es ++ [.app pr es.length cr 42 2 (es.flatMap entA)])) [] := H.call H'
    clear H'
    refine ow_guard_yes rfl rfl rfl rfl ?_
    (apply ow_move; (· rfl); (· ((conv => lhs; whnf) <;> rfl)))
    refine ow_guard_yes rfl rfl rfl rfl ?_
    refine ow_call rfl rfl (ent (by kernel_rfl)) (CallsV.mono (refSame_spec p4 pr _ _ c4 cr es es rfl rfl (by omega) (by omega) _ (appOk.sl (H.cap (i := 0) rfl)) (appOk.sl (H.cap (i := 3) rfl))) ?_) rfl
    rintro u w ⟨rfl, H'⟩
    replace H : St Pu w0 w (mpA b p c es ++ [.app pr es.length cr 42 2 (es.flatMap entA)]) [] := (H.call H').drop
    clear H'
    rw [decide_eq_true (rfl : es = es)]
    refine ow_guard_yes rfl rfl rfl rfl ?_
    refine ow_not rfl rfl ?_
    (apply ow_pick_f; (· rfl); (· rfl); (· ((conv => lhs; whnf) <;> rfl)))
    refine ow_nil ?_
    refine wc_cond_false rfl ?_
    refine wc_skip ?_
    refine wc_region ?_
    refine ow_add rfl rfl rfl (by simp only [InK]; omega) ?_
    (apply ow_move; (· rfl); (· ((conv => lhs; whnf) <;> rfl)))
    refine ow_nil ?_
    exact ⟨(i + 1, es, p, c, pr, cr), by first | exact rfl | exact upd_self' rfl rfl | exact upd_self' rfl (upd_self' rfl rfl) | exact upd_self' rfl (upd_self' rfl (upd_self' rfl rfl)) | exact upd_self' rfl (upd_self' rfl (upd_self' rfl (upd_self' rfl rfl))), by repeat (first | with_reducible exact Off.mix | with_reducible exact Off.refl | ((with_reducible refine Off.upd ?_ ?_); (· rfl)) | ((with_reducible refine Off.mixN ?_ ?_); (· rfl))), ⟨rfl, hlt, hel, ha, H⟩, by dsimp only; omega⟩
  · refine wc_exit ?_
    refine wc_seq ?_
    refine wc_region ?_
    (apply ow_assign; (· rfl); (· ((conv => lhs; whnf) <;> rfl)))
    refine ow_nil ?_
    refine wc_ret ?_
    obtain ⟨w, hT, H⟩ := H.takes Try.prog
    refine ⟨.inr rfl, w, hT, _, .tmp .nil, ?_⟩
    exact ⟨rfl, H.none⟩
end Go.Proofs.Ytgliblmpiilloaa
