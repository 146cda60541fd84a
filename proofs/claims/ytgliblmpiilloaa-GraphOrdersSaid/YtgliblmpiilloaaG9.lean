/- The statement's function 'sandtablelaw08.GraphOrders' returns true at every input, and changes nothing that was there. -/
import Derived.Test.YtgliblmpiilloaaG8
namespace Go.Proofs.Ytgliblmpiilloaa
set_option linter.all false
open Go Go.Sx Go.Proofs
set_option maxRecDepth 100000
set_option maxHeartbeats 2000000
theorem btw_nilQ (n : Nat) (a b : Int) : btw (List.replicate n []) a b = 0 := by
  unfold btw rowT
  split
  · rw [List.getD_eq_getElem?_getD, List.getElem?_replicate]; split <;> rfl
  · rfl
def ctrS (l : List OpA) (x y : Int) : Int := (l.map fun o => ctr o x y).sum
theorem ctrS_snoc (l : List OpA) (o : OpA) (x y : Int) : ctrS (l ++ [o]) x y = ctrS l x y + ctr o x y := by unfold ctrS; rw [List.map_append, List.sum_append]; simp
theorem ctrS_cons (l : List OpA) (o : OpA) (x y : Int) : ctrS (o :: l) x y = ctr o x y + ctrS l x y := by unfold ctrS; rw [List.map_cons, List.sum_cons]
theorem law08Orders (q q2 : Option Addr) (cap cap2 : Nat) (ws : List Int) (ops : List OpA) (hm : ws.length ≤ 9223372036854775807) (hm2 : ops.length ≤ 9223372036854775807) (w0 : World) (hq : SlH (hp w0) q (ints .i64 ws)) (hq2 : SlH (hp w0) q2 (ops.flatMap opA)) :
    CallsV Try.prog 9 #[.slice q ws.length cap, .slice q2 ops.length cap2] w0 fun v w => v = .bool true ∧ St Pu w0 w [] [] := by
  refine callsV_of Try.func9 rfl rfl ?_
  refine wc_seq ?_
  refine wc_region ?_
  (apply ow_assign; (· rfl); (· ((conv => lhs; whnf) <;> rfl)))
  refine ow_nil ?_
  refine wc_seq ?_
  refine wc_seq ?_
  refine wc_region ?_
  refine ow_call rfl rfl (ent (by kernel_rfl)) (CallsV.mono (alive08 w0) ?_) rfl
  rintro v w ⟨rfl, H⟩
  refine ow_not rfl rfl ?_
  refine ow_nil ?_
  refine wc_cond_false rfl ?_
  refine wc_skip ?_
  refine wc_seq ?_
  refine wc_seq ?_
  refine wc_region ?_
  (apply ow_move; (· rfl); (· ((conv => lhs; whnf) <;> rfl)))
  refine ow_len rfl rfl (tyAt rfl) rfl ?_
  refine ow_gtr rfl rfl rfl ?_
  (apply ow_move; (· rfl); (· ((conv => lhs; whnf) <;> rfl)))
  refine ow_guard_dec rfl rfl rfl (fun h => ?_) (fun h => ?_) <;> try dsimp only at h
  · refine ow_guard_no rfl rfl rfl rfl rfl rfl rfl ?_
    refine ow_guard_no rfl rfl rfl rfl rfl rfl rfl ?_
    refine ow_guard_no rfl rfl rfl rfl rfl rfl rfl ?_
    (apply ow_pick_t; (· rfl); (· rfl); (· ((conv => lhs; whnf) <;> rfl)))
    refine ow_nil ?_
    refine wc_cond_true rfl ?_
    refine wc_seq ?_
    refine wc_region ?_
    (apply ow_assign; (· rfl); (· ((conv => lhs; whnf) <;> rfl)))
    refine ow_nil ?_
    refine wc_ret ?_
    obtain ⟨w, hT, H⟩ := H.takes Try.prog
    refine ⟨.inr rfl, w, hT, _, .tmp .nil, ?_⟩
    exact ⟨rfl, H⟩
  have h30 : ws.length ≤ 30 := by omega
  clear h
  refine ow_guard_yes rfl rfl rfl rfl ?_
  (apply ow_move; (· rfl); (· ((conv => lhs; whnf) <;> rfl)))
  refine ow_guard_yes rfl rfl rfl rfl ?_
  refine ow_len rfl rfl (tyAt rfl) rfl ?_
  refine ow_guard_yes rfl rfl rfl rfl ?_
  refine ow_gtr rfl rfl rfl ?_
  (apply ow_pick_f; (· rfl); (· rfl); (· ((conv => lhs; whnf) <;> rfl)))
  refine ow_nil ?_
  refine wc_cond_dec rfl (fun h => ?_) (fun h => ?_) <;> try dsimp only at h
  · refine wc_seq ?_
    refine wc_region ?_
    (apply ow_assign; (· rfl); (· ((conv => lhs; whnf) <;> rfl)))
    refine ow_nil ?_
    refine wc_ret ?_
    obtain ⟨w, hT, H⟩ := H.takes Try.prog
    refine ⟨.inr rfl, w, hT, _, .tmp .nil, ?_⟩
    exact ⟨rfl, H⟩
  have h60 : ops.length ≤ 60 := by omega
  clear h
  refine wc_skip ?_
  refine wc_seq ?_
  refine wc_region ?_
  (apply ow_move; (· rfl); (· ((conv => lhs; whnf) <;> rfl)))
  refine ow_call rfl rfl (ent (by kernel_rfl)) (CallsV.mono (new_spec q cap ws hm w (H.oldSl hq)) ?_) rfl
  rintro v w (⟨_, h, _⟩ | ⟨rfl, _, hno, H'⟩ | ⟨g, ms, rfl, rfl, h4, hmay, htb, H'⟩)
  · omega
  · replace H := H.call H'
    rw [List.nil_append] at H
    clear H'
    (apply ow_move; (· rfl); (· ((conv => lhs; whnf) <;> rfl)))
    refine ow_extract rfl rfl rfl ?_
    refine ow_extract rfl rfl rfl ?_
    (apply ow_assign; (· rfl); (· ((conv => lhs; whnf) <;> rfl)))
    (apply ow_assign; (· rfl); (· ((conv => lhs; whnf) <;> rfl)))
    refine ow_nil ?_
    refine wc_seq ?_
    refine wc_region ?_
    (apply ow_move; (· rfl); (· ((conv => lhs; whnf) <;> rfl)))
    refine ow_call rfl rfl (ent (by kernel_rfl)) (CallsV.mono (new_spec q cap ws hm w (H.oldSl hq)) ?_) rfl
    rintro v w (⟨_, h, _⟩ | ⟨rfl, _, _, H'⟩ | ⟨_, _, _, _, _, h, _⟩)
    · omega
    · replace H := H.call H'
      rw [List.nil_append] at H
      (apply ow_move; (· rfl); (· ((conv => lhs; whnf) <;> rfl)))
      refine ow_extract rfl rfl rfl ?_
      refine ow_extract rfl rfl rfl ?_
      (apply ow_assign; (· rfl); (· ((conv => lhs; whnf) <;> rfl)))
      (apply ow_assign; (· rfl); (· ((conv => lhs; whnf) <;> rfl)))
      refine ow_nil ?_
      refine wc_seq ?_
      refine wc_seq ?_
      refine wc_region ?_
      (apply ow_move; (· rfl); (· ((conv => lhs; whnf) <;> rfl)))
      refine ow_neq rfl rfl rfl ?_
      refine ow_nil ?_
      refine wc_cond_true rfl ?_
      refine wc_seq ?_
      refine wc_region ?_
      (apply ow_move; (· rfl); (· ((conv => lhs; whnf) <;> rfl)))
      refine ow_eqlPn rfl rfl rfl (tyAt rfl) rfl ?_
      (apply ow_move; (· rfl); (· ((conv => lhs; whnf) <;> rfl)))
      refine ow_guard_yes rfl rfl rfl rfl ?_
      (apply ow_move; (· rfl); (· ((conv => lhs; whnf) <;> rfl)))
      refine ow_guard_yes rfl rfl rfl rfl ?_
      refine ow_eqlPn rfl rfl rfl (tyAt rfl) rfl ?_
      (apply ow_pick_t; (· rfl); (· rfl); (· ((conv => lhs; whnf) <;> rfl)))
      (apply ow_assign; (· rfl); (· ((conv => lhs; whnf) <;> rfl)))
      refine ow_nil ?_
      refine wc_ret ?_
      obtain ⟨w, hT, H⟩ := H.takes Try.prog
      refine ⟨.inr rfl, w, hT, _, .tmp .nil, ?_⟩
      exact ⟨rfl, H⟩
    · obtain ⟨x, hx, hn⟩ := hno
      exact absurd (h x hx) hn
  replace H := H.call H'
  rw [List.append_nil] at H
  clear H'
  (apply ow_move; (· rfl); (· ((conv => lhs; whnf) <;> rfl)))
  refine ow_extract rfl rfl rfl ?_
  refine ow_extract rfl rfl rfl ?_
  (apply ow_assign; (· rfl); (· ((conv => lhs; whnf) <;> rfl)))
  (apply ow_assign; (· rfl); (· ((conv => lhs; whnf) <;> rfl)))
  refine ow_nil ?_
  refine wc_seq ?_
  refine wc_region ?_
  (apply ow_move; (· rfl); (· ((conv => lhs; whnf) <;> rfl)))
  refine ow_call rfl rfl (ent (by kernel_rfl)) (CallsV.mono (new_spec q cap g.ws hm w (H.oldSl hq)) ?_) rfl
  rintro v w (⟨_, h, _⟩ | ⟨_, _, ⟨x, hx, h⟩, _⟩ | ⟨k, mk, rfl, hkw, _, _, htk, H'⟩)
  · omega
  · exact absurd (hmay x hx) h
  replace H : St Pu w0 w (grC g ms ++ grC k mk) [] := (H.call H').perm List.perm_append_comm
  clear H'
  have hW : Wf (tb ms) := by rw [htb]; exact wf_nil _
  have hWk : Wf (tb mk) := by rw [htk]; exact wf_nil _
  have hn : ms.length = g.ws.length := ms_len (by rw [htb, List.length_replicate])
  have hnk : mk.length = k.ws.length := ms_len (by rw [htk, List.length_replicate, hkw])
  have hk4 : k.ws.length ≤ 4096 := by rw [hkw]; exact h4
  (apply ow_move; (· rfl); (· ((conv => lhs; whnf) <;> rfl)))
  refine ow_extract rfl rfl rfl ?_
  refine ow_extract rfl rfl rfl ?_
  (apply ow_assign; (· rfl); (· ((conv => lhs; whnf) <;> rfl)))
  (apply ow_assign; (· rfl); (· ((conv => lhs; whnf) <;> rfl)))
  refine ow_nil ?_
  refine wc_seq ?_
  refine wc_seq ?_
  refine wc_region ?_
  (apply ow_move; (· rfl); (· ((conv => lhs; whnf) <;> rfl)))
  refine ow_neq rfl rfl rfl ?_
  refine ow_nil ?_
  refine wc_cond_false rfl ?_
  refine wc_skip ?_
  refine wc_seq ?_
  refine wc_region ?_
  (apply ow_assign; (· rfl); (· ((conv => lhs; whnf) <;> rfl)))
  refine ow_nil ?_
  refine wc_seq ?_
  refine wc_seq ?_
  refine wc_region ?_
  (apply ow_move; (· rfl); (· ((conv => lhs; whnf) <;> rfl)))
  refine ow_len rfl rfl (tyAt rfl) rfl ?_
  (apply ow_move; (· rfl); (· ((conv => lhs; whnf) <;> rfl)))
  refine ow_nil ?_
  refine wc_blockJ [9, 10, 11, 12, 13, 14, 46, 47, 48, 49, 50, 51, 52, 53, 54, 55, 56, 57, 58, 59, 60, 61, 62, 63, 64, 65, 66, 67, 68, 69, 70, 71, 72, 73, 74, 75, 76, 77, 78, 79, 80, 81, 82, 83, 84, 85, 86] (fun (s : Bool) e => upd e 9 (.bool s)) (fun s D w => D = [] ∧ ∃ ms mk, Wf (tb ms) ∧ Wf (tb mk) ∧ ms.length = g.ws.length ∧ mk.length = k.ws.length ∧ (s = true → ∀ x y, btw (tb ms) x y = btw (tb mk) x y) ∧ St Pu w0 w (grC g ms ++ grC k mk) []) ?_ ?_
  · refine wc_loopS [9, 10, 11, 12, 13, 14, 46, 47, 48, 49, 50, 51, 52, 53, 54, 55, 56, 57, 58, 59, 60, 61, 62, 63, 64, 65, 66, 67, 68, 69, 70, 71, 72, 73, 74, 75, 76, 77, 78, 79, 80, 81, 82, 83, 84, 85, 86] (fun (s : Nat × Bool) e => upd (upd e 9 (.bool s.2)) 46 (.int .i64 s.1)) (fun s D w => D = [] ∧ s.1 ≤ ops.length ∧ ∃ ms mk, Wf (tb ms) ∧ Wf (tb mk) ∧ ms.length = g.ws.length ∧ mk.length = k.ws.length ∧
        (s.2 = true → ∀ x y, btw (tb ms) x y = ctrS (ops.take s.1) x y ∧ btw (tb mk) x y = ctrS (ops.drop (ops.length - s.1)) x y) ∧ St Pu w0 w (grC g ms ++ grC k mk) []) (fun s _ => ops.length - s.1) (0, true) (by first | exact rfl | exact upd_self' rfl rfl | exact upd_self' rfl (upd_self' rfl rfl) | exact upd_self' rfl (upd_self' rfl (upd_self' rfl rfl)) | exact upd_self' rfl (upd_self' rfl (upd_self' rfl (upd_self' rfl rfl))))
      ⟨rfl, Nat.zero_le _, ms, mk, hW, hWk, hn, hnk, fun _ x y => ⟨by rw [htb, btw_nilQ]; rfl, by rw [htk, btw_nilQ, Nat.sub_zero, List.drop_length]; rfl⟩, H⟩ ?_
    clear H hW hWk hn hnk htb htk
    rintro ⟨i, all⟩ j D w ⟨rfl, hi, ms, mk, hW, hWk, hn, hnk, hall, H⟩
    dsimp only at hi hall H ⊢
    refine wc_seq ?_
    refine wc_region ?_
    refine ow_lss rfl rfl rfl ?_
    refine ow_nil ?_
    refine wc_seq ?_
    refine wc_cond_dec rfl (fun h => ?_) (fun h => ?_) <;> try dsimp only at h
    · have hlt : i < ops.length := by omega
      obtain ⟨x, hx⟩ : ∃ x, ops[i]? = some x := ⟨_, List.getElem?_eq_getElem hlt⟩
      obtain ⟨z, hz⟩ : ∃ z, ops[ops.length - 1 - i]? = some z := ⟨_, List.getElem?_eq_getElem (by omega)⟩
      have hz0 : ops.drop (ops.length - (i + 1)) = z :: ops.drop (ops.length - i) := by
        rw [drop_snoc (show ops[ops.length - (i + 1)]? = some z by rw [← hz]; congr 1; omega)]
        congr 2; omega
      obtain ⟨bq, oq, rfl⟩ := hq2.some_of (by rw [flat_len opA_len]; omega)
      refine wc_skip ?_
      refine wc_seq ?_
      refine wc_block ?_
      refine wc_seq ?_
      refine wc_region ?_
      (apply ow_move; (· rfl); (· ((conv => lhs; whnf) <;> rfl)))
      (apply ow_assign; (· rfl); (· ((conv => lhs; whnf) <;> rfl)))
      refine ow_nil ?_
      refine wc_seq ?_
      refine wc_drawK (fun w => St Pu w0 w [] []) 99 (by kernel_rfl) (by kernel_rfl) (by intro c e D w h; first | exact h.elim | (rcases h with ⟨h | h, _⟩ <;> cases h)) ?_
      replace H := H.drew
      have G := H
      replace H := H.none
      apply ak_take (i := 0) rfl rfl rfl rfl (by kernel_rfl) (by with_reducible first | exact H | rfl)
      · intro w Q' HS hq; replace H := HS; clear HS; (apply ow_move; (· rfl); (· ((conv => lhs; whnf) <;> rfl))); exact ow_nil hq
      apply ak_take (i := 1) rfl rfl rfl rfl (by kernel_rfl) (by with_reducible first | exact H | rfl)
      · intro w Q' HS hq; replace H := HS; clear HS; (apply ow_move; (· rfl); (· ((conv => lhs; whnf) <;> rfl))); exact ow_nil hq
      apply ak_take (i := 2) rfl rfl rfl rfl (by kernel_rfl) (by with_reducible first | exact H | rfl)
      · intro w Q' HS hq; replace H := HS; clear HS; refine ow_idxK (j := i) (sz := 3) rfl (tyAt rfl) rfl (tyAt rfl) rfl rfl rfl hlt rfl ?_; exact ow_nil hq
      apply ak_take (i := 3) rfl rfl rfl rfl (by kernel_rfl) (by with_reducible first | exact H | rfl)
      · intro w Q' HS hq; replace H := HS; clear HS; refine ow_loadA (l := opA x) rfl (tyAt rfl) rfl rfl rfl ((H.oldSl hq2).elem opA_len hx) ?_; exact ow_nil hq
      apply ak_take (i := 4) rfl rfl rfl rfl (by kernel_rfl) (by with_reducible first | exact H | rfl)
      · intro w Q' HS hq; replace H := HS; clear HS; (apply ow_move; (· rfl); (· ((conv => lhs; whnf) <;> rfl))); exact ow_nil hq
      apply ak_take (i := 5) rfl rfl rfl rfl (by kernel_rfl) (by with_reducible first | exact H | rfl)
      · intro w Q' HS hq; replace H := HS; clear HS; (apply ow_move; (· rfl); (· ((conv => lhs; whnf) <;> rfl))); exact ow_nil hq
      apply ak_take (i := 6) rfl rfl rfl rfl (by kernel_rfl) (by with_reducible first | exact H | rfl)
      · intro w Q' HS hq; replace H := HS; clear HS; refine ow_len rfl rfl (tyAt rfl) rfl ?_; exact ow_nil hq
      apply ak_take (i := 7) rfl rfl rfl rfl (by kernel_rfl) (by with_reducible first | exact H | rfl)
      · intro w Q' HS hq; replace H := HS; clear HS; refine ow_sub rfl rfl rfl (by simp only [InK]; omega) ?_; exact ow_nil hq
      apply ak_take (i := 8) rfl rfl rfl rfl (by kernel_rfl) (by with_reducible first | exact H | rfl)
      · intro w Q' HS hq; replace H := HS; clear HS; (apply ow_move; (· rfl); (· ((conv => lhs; whnf) <;> rfl))); exact ow_nil hq
      apply ak_take (i := 9) rfl rfl rfl rfl (by kernel_rfl) (by with_reducible first | exact H | rfl)
      · intro w Q' HS hq; replace H := HS; clear HS; refine ow_sub rfl rfl rfl (by simp only [InK]; omega) ?_; exact ow_nil hq
      apply ak_take (i := 10) rfl rfl rfl rfl (by kernel_rfl) (by with_reducible first | exact H | rfl)
      · intro w Q' HS hq; replace H := HS; clear HS; refine ow_idxK (j := ops.length - 1 - i) (sz := 3) rfl (tyAt rfl) rfl (tyAt rfl) rfl rfl (by omega) (by omega) rfl ?_; exact ow_nil hq
      apply ak_take (i := 11) rfl rfl rfl rfl (by kernel_rfl) (by with_reducible first | exact H | rfl)
      · intro w Q' HS hq; replace H := HS; clear HS; refine ow_loadA (l := opA z) rfl (tyAt rfl) rfl rfl rfl ((H.oldSl hq2).elem opA_len hz) ?_; exact ow_nil hq
      replace H := G
      clear G
      apply ak_two (i := 12) (j := 13)
      · kernel_rfl
      · rfl
      · rfl
      · rfl
      · rfl
      · refine ow_alloc (l := [.int .i64 0, .int .i64 0, .int .i64 0]) H rfl (tyAt rfl) rfl (fun b11 w H => ?_)
        refine ow_nil ⟨fun _ => H.none, ?_⟩
        apply ak_one (i := 13)
        · kernel_rfl
        · rfl
        · rfl
        refine ow_alloc (l := [.int .i64 0, .int .i64 0, .int .i64 0]) H rfl (tyAt rfl) rfl (fun b12 w H => ?_)
        refine ow_nil ⟨fun _ => H.none, ?_⟩
        replace H : St Pu w0 w (.row b11 81 [.int .i64 0, .int .i64 0, .int .i64 0] :: .row b12 81 [.int .i64 0, .int .i64 0, .int .i64 0] :: (grC g ms ++ grC k mk)) [] := H.perm (List.Perm.swap _ _ _)
        obtain ⟨R, hR⟩ : ∃ R, ([.row b11 81 (opA x), .row b12 81 (opA z)] : List Cap) = R := ⟨_, rfl⟩
        apply ak_one (i := 14)
        · kernel_rfl
        · rfl
        · rfl
        refine ow_storeA (i := 0) (o := 0) (l' := opA x) H (tyAt rfl) rfl rfl rfl rfl (opA_one x) (by simp [opA]) (fun w H => ?_)
        refine ow_nil ⟨fun _ => H.none, ?_⟩
        apply ak_one (i := 15)
        · kernel_rfl
        · rfl
        · rfl
        refine ow_storeA (i := 1) (o := 0) (l' := opA z) H (tyAt rfl) rfl rfl rfl rfl (opA_one z) (by simp [opA]) (fun w H => ?_)
        refine ow_nil ⟨fun _ => H.none, ?_⟩
        refine ak_done (by kernel_rfl) ?_
        replace H : St Pu w0 w ([.row b11 81 (opA x), .row b12 81 (opA z)] ++ (grC g ms ++ grC k mk)) [] := H
        refine wc_seq ?_
        refine wc_drawK (fun w => St Pu w0 w [.row b11 81 (opA x), .row b12 81 (opA z)] []) 99 (by kernel_rfl) (by kernel_rfl) (by intro c e D w h; first | exact h.elim | (rcases h with ⟨h | h, _⟩ <;> cases h)) ?_
        replace H := H.drew
        have G := H
        replace H := H.sub (List.sublist_append_left _ _)
        apply ak_take (i := 0) rfl rfl rfl rfl (by kernel_rfl) (by with_reducible first | exact H | rfl)
        · intro w Q' HS hq; replace H := HS; clear HS; (apply ow_move; (· rfl); (· ((conv => lhs; whnf) <;> rfl))); exact ow_nil hq
        apply ak_take (i := 1) rfl rfl rfl rfl (by kernel_rfl) (by with_reducible first | exact H | rfl)
        · intro w Q' HS hq; replace H := HS; clear HS; refine ow_fieldAddr rfl (tyAt rfl) rfl rfl rfl (tyAt rfl) rfl rfl ?_; exact ow_nil hq
        apply ak_take (i := 2) rfl rfl rfl rfl (by kernel_rfl) (by with_reducible first | exact H | rfl)
        · intro w Q' HS hq; replace H := HS; clear HS; refine ow_load rfl (tyAt rfl) rfl rfl (H.cell (i := 0) rfl rfl) ?_; exact ow_nil hq
        apply ak_take (i := 3) rfl rfl rfl rfl (by kernel_rfl) (by with_reducible first | exact H | rfl)
        · intro w Q' HS hq; replace H := HS; clear HS; refine ow_fieldAddr rfl (tyAt rfl) rfl rfl rfl (tyAt rfl) rfl rfl ?_; exact ow_nil hq
        apply ak_take (i := 4) rfl rfl rfl rfl (by kernel_rfl) (by with_reducible first | exact H | rfl)
        · intro w Q' HS hq; replace H := HS; clear HS; refine ow_load rfl (tyAt rfl) rfl rfl (H.cell (i := 0) rfl rfl) ?_; exact ow_nil hq
        apply ak_take (i := 5) rfl rfl rfl rfl (by kernel_rfl) (by with_reducible first | exact H | rfl)
        · intro w Q' HS hq; replace H := HS; clear HS; refine ow_fieldAddr rfl (tyAt rfl) rfl rfl rfl (tyAt rfl) rfl rfl ?_; exact ow_nil hq
        apply ak_take (i := 6) rfl rfl rfl rfl (by kernel_rfl) (by with_reducible first | exact H | rfl)
        · intro w Q' HS hq; replace H := HS; clear HS; refine ow_load rfl (tyAt rfl) rfl rfl (H.cell (i := 0) rfl rfl) ?_; exact ow_nil hq
        apply ak_take (i := 8) rfl rfl rfl rfl (by kernel_rfl) (by with_reducible first | exact H | rfl)
        · intro w Q' HS hq; replace H := HS; clear HS; (apply ow_move; (· rfl); (· ((conv => lhs; whnf) <;> rfl))); exact ow_nil hq
        apply ak_take (i := 9) rfl rfl rfl rfl (by kernel_rfl) (by with_reducible first | exact H | rfl)
        · intro w Q' HS hq; replace H := HS; clear HS; refine ow_fieldAddr rfl (tyAt rfl) rfl rfl rfl (tyAt rfl) rfl rfl ?_; exact ow_nil hq
        apply ak_take (i := 10) rfl rfl rfl rfl (by kernel_rfl) (by with_reducible first | exact H | rfl)
        · intro w Q' HS hq; replace H := HS; clear HS; refine ow_load rfl (tyAt rfl) rfl rfl (H.cell (i := 1) rfl rfl) ?_; exact ow_nil hq
        apply ak_take (i := 11) rfl rfl rfl rfl (by kernel_rfl) (by with_reducible first | exact H | rfl)
        · intro w Q' HS hq; replace H := HS; clear HS; refine ow_fieldAddr rfl (tyAt rfl) rfl rfl rfl (tyAt rfl) rfl rfl ?_; exact ow_nil hq
        apply ak_take (i := 12) rfl rfl rfl rfl (by kernel_rfl) (by with_reducible first | exact H | rfl)
        · intro w Q' HS hq; replace H := HS; clear HS; refine ow_load rfl (tyAt rfl) rfl rfl (H.cell (i := 1) rfl rfl) ?_; exact ow_nil hq
        apply ak_take (i := 13) rfl rfl rfl rfl (by kernel_rfl) (by with_reducible first | exact H | rfl)
        · intro w Q' HS hq; replace H := HS; clear HS; refine ow_fieldAddr rfl (tyAt rfl) rfl rfl rfl (tyAt rfl) rfl rfl ?_; exact ow_nil hq
        apply ak_take (i := 14) rfl rfl rfl rfl (by kernel_rfl) (by with_reducible first | exact H | rfl)
        · intro w Q' HS hq; replace H := HS; clear HS; refine ow_load rfl (tyAt rfl) rfl rfl (H.cell (i := 1) rfl rfl) ?_; exact ow_nil hq
        have H2 := G.perm (List.perm_append_comm_assoc [.row b11 81 (opA x), .row b12 81 (opA z)] (grC g ms) (grC k mk))
        rw [hR] at H2
        replace H := H2
        clear H2 G
        have hjb := fun h0 => joinN_btw hW (n := g.ws.length) (by rw [tb_len]; exact hn) x.1 x.2.1 x.2.2 h0
        have hW' := joinN_wf hW (n := g.ws.length) (by rw [tb_len]; exact hn) x.1 x.2.1 x.2.2
        have hjk := fun h0 => joinN_btw hWk (n := k.ws.length) (by rw [tb_len]; exact hnk) z.2.1 z.1 z.2.2 h0
        have hWk' := joinN_wf hWk (n := k.ws.length) (by rw [tb_len]; exact hnk) z.2.1 z.1 z.2.2
        apply ak_one (i := 7)
        · kernel_rfl
        · rfl
        · rfl
        refine ow_call rfl rfl (ent (by kernel_rfl)) (CallsV.mono (join_gspec g ms x.1 x.2.1 x.2.2 hn h4 hW _ H.begin) ?_) rfl
        rintro v w ⟨rfl, ms', htb', H'⟩
        replace H := H.callC (fun _ h => h) H'
        clear H'
        subst hR
        refine ow_nil ⟨fun _ => H.sub ((List.sublist_append_left _ _).trans (List.sublist_append_right _ _)), ?_⟩
        replace H : St Pu w0 w (grC k mk ++ ([.row b11 81 (opA x), .row b12 81 (opA z)] ++ grC g ms')) [] := H.perm ((List.perm_append_comm).trans (by rw [List.append_assoc]; exact (List.perm_append_comm_assoc _ _ _)))
        apply ak_one (i := 15)
        · kernel_rfl
        · rfl
        · rfl
        refine ow_call rfl rfl (ent (by kernel_rfl)) (CallsV.mono (join_gspec k mk z.2.1 z.1 z.2.2 hnk hk4 hWk _ H.begin) ?_) rfl
        rintro v w ⟨rfl, mk', htk', H'⟩
        replace H := H.callC (fun _ h => h) H'
        clear H'
        refine ow_nil ⟨fun _ => H.sub ((List.sublist_append_left _ _).trans (List.sublist_append_right _ _)), ?_⟩
        rw [← htb'] at hjb hW'
        rw [← htk'] at hjk hWk'
        obtain ⟨f, hf⟩ : ∃ f, (joinN (tb ms) g.ws.length x.1 x.2.1 x.2.2).1 = f := ⟨_, rfl⟩
        obtain ⟨f2, hf2⟩ : ∃ f2, (joinN (tb mk) k.ws.length z.2.1 z.1 z.2.2).1 = f2 := ⟨_, rfl⟩
        rw [hf] at hjb ⊢
        rw [hf2] at hjk ⊢
        have hn' : ms'.length = g.ws.length := ms_len hW'.2
        have hnk' : mk'.length = k.ws.length := ms_len hWk'.2
        have G := H
        replace H := H.sub ((List.sublist_append_left _ _).trans (List.sublist_append_right _ _))
        apply ak_take (i := 16) rfl rfl rfl rfl (by kernel_rfl) (by with_reducible first | exact H | rfl)
        · intro w Q' HS hq; replace H := HS; clear HS; (apply ow_assign; (· rfl); (· ((conv => lhs; whnf) <;> rfl))); exact ow_nil hq
        apply ak_take (i := 17) rfl rfl rfl rfl (by kernel_rfl) (by with_reducible first | exact H | rfl)
        · intro w Q' HS hq; replace H := HS; clear HS; (apply ow_assign; (· rfl); (· ((conv => lhs; whnf) <;> rfl))); exact ow_nil hq
        refine ak_done (by kernel_rfl) ?_
        replace H : St Pu w0 w (grC g ms' ++ grC k mk') [] := (G.sub ((List.sublist_append_right _ _).append_left _)).perm List.perm_append_comm
        clear G
        refine wc_region ?_
        (apply ow_move; (· rfl); (· ((conv => lhs; whnf) <;> rfl)))
        (apply ow_move; (· rfl); (· ((conv => lhs; whnf) <;> rfl)))
        cases all with
        | false =>
          refine ow_guard_no rfl rfl rfl rfl rfl rfl rfl ?_
          refine ow_guard_no rfl rfl rfl rfl rfl rfl rfl ?_
          (apply ow_pick_f; (· rfl); (· rfl); (· ((conv => lhs; whnf) <;> rfl)))
          (apply ow_move; (· rfl); (· ((conv => lhs; whnf) <;> rfl)))
          refine ow_guard_no rfl rfl rfl rfl rfl rfl rfl ?_
          refine ow_guard_no rfl rfl rfl rfl rfl rfl rfl ?_
          (apply ow_pick_f; (· rfl); (· rfl); (· ((conv => lhs; whnf) <;> rfl)))
          (apply ow_assign; (· rfl); (· ((conv => lhs; whnf) <;> rfl)))
          refine ow_nil ?_
          refine wc_region ?_
          refine ow_add rfl rfl rfl (by simp only [InK]; omega) ?_
          (apply ow_move; (· rfl); (· ((conv => lhs; whnf) <;> rfl)))
          refine ow_nil ?_
          exact ⟨(i + 1, false), by first | exact rfl | exact upd_self' rfl rfl | exact upd_self' rfl (upd_self' rfl rfl) | exact upd_self' rfl (upd_self' rfl (upd_self' rfl rfl)) | exact upd_self' rfl (upd_self' rfl (upd_self' rfl (upd_self' rfl rfl))), by repeat (first | with_reducible exact Off.mix | with_reducible exact Off.refl | ((with_reducible refine Off.upd ?_ ?_); (· rfl))), ⟨rfl, hlt, ms', mk', hW'.1, hWk'.1, hn', hnk', fun h => (by cases h), H⟩, by dsimp only; omega⟩
        | true =>
          by_cases hf0 : f = 0
          · subst hf0
            refine ow_guard_yes rfl rfl rfl rfl ?_
            (apply ow_move; (· rfl); (· ((conv => lhs; whnf) <;> rfl)))
            refine ow_guard_yes rfl rfl rfl rfl ?_
            refine ow_eql rfl rfl rfl ?_
            (apply ow_pick_t; (· rfl); (· rfl); (· ((conv => lhs; whnf) <;> rfl)))
            (apply ow_move; (· rfl); (· ((conv => lhs; whnf) <;> rfl)))
            refine ow_guard_yes rfl rfl rfl rfl ?_
            (apply ow_move; (· rfl); (· ((conv => lhs; whnf) <;> rfl)))
            refine ow_guard_yes rfl rfl rfl rfl ?_
            refine ow_eql rfl rfl rfl ?_
            (apply ow_pick_t; (· rfl); (· rfl); (· ((conv => lhs; whnf) <;> rfl)))
            (apply ow_assign; (· rfl); (· ((conv => lhs; whnf) <;> rfl)))
            refine ow_nil ?_
            refine wc_region ?_
            refine ow_add rfl rfl rfl (by simp only [InK]; omega) ?_
            (apply ow_move; (· rfl); (· ((conv => lhs; whnf) <;> rfl)))
            refine ow_nil ?_
            by_cases hf20 : f2 = 0
            · subst hf20
              skip
              refine ⟨(i + 1, true), by first | exact rfl | exact upd_self' rfl rfl | exact upd_self' rfl (upd_self' rfl rfl) | exact upd_self' rfl (upd_self' rfl (upd_self' rfl rfl)) | exact upd_self' rfl (upd_self' rfl (upd_self' rfl (upd_self' rfl rfl))), by repeat (first | with_reducible exact Off.mix | with_reducible exact Off.refl | ((with_reducible refine Off.upd ?_ ?_); (· rfl))), ⟨rfl, hlt, ms', mk', hW'.1, hWk'.1, hn', hnk', fun _ a b => ?_, H⟩, by dsimp only; omega⟩
              dsimp only
              rw [hjb rfl, hjk rfl, take_snoc hx, ctrS_snoc, hz0, ctrS_cons, (hall rfl a b).1, (hall rfl a b).2, ctr_swap]
              exact ⟨rfl, Int.add_comm _ _⟩
            · rw [decide_eq_false (show ¬ ((f2 : Int) = 0) by omega)]
              skip
              exact ⟨(i + 1, false), by first | exact rfl | exact upd_self' rfl rfl | exact upd_self' rfl (upd_self' rfl rfl) | exact upd_self' rfl (upd_self' rfl (upd_self' rfl rfl)) | exact upd_self' rfl (upd_self' rfl (upd_self' rfl (upd_self' rfl rfl))), by repeat (first | with_reducible exact Off.mix | with_reducible exact Off.refl | ((with_reducible refine Off.upd ?_ ?_); (· rfl))), ⟨rfl, hlt, ms', mk', hW'.1, hWk'.1, hn', hnk', fun h => (by cases h), H⟩, by dsimp only; omega⟩
          · refine ow_guard_yes rfl rfl rfl rfl ?_
            (apply ow_move; (· rfl); (· ((conv => lhs; whnf) <;> rfl)))
            refine ow_guard_yes rfl rfl rfl rfl ?_
            refine ow_eql rfl rfl rfl ?_
            (apply ow_pick_t; (· rfl); (· rfl); (· ((conv => lhs; whnf) <;> rfl)))
            (apply ow_move; (· rfl); (· ((conv => lhs; whnf) <;> rfl)))
            rw [decide_eq_false (show ¬ ((f : Int) = 0) by omega)]
            refine ow_guard_no rfl rfl rfl rfl rfl rfl rfl ?_
            refine ow_guard_no rfl rfl rfl rfl rfl rfl rfl ?_
            (apply ow_pick_f; (· rfl); (· rfl); (· ((conv => lhs; whnf) <;> rfl)))
            (apply ow_assign; (· rfl); (· ((conv => lhs; whnf) <;> rfl)))
            refine ow_nil ?_
            refine wc_region ?_
            refine ow_add rfl rfl rfl (by simp only [InK]; omega) ?_
            (apply ow_move; (· rfl); (· ((conv => lhs; whnf) <;> rfl)))
            refine ow_nil ?_
            exact ⟨(i + 1, false), by first | exact rfl | exact upd_self' rfl rfl | exact upd_self' rfl (upd_self' rfl rfl) | exact upd_self' rfl (upd_self' rfl (upd_self' rfl rfl)) | exact upd_self' rfl (upd_self' rfl (upd_self' rfl (upd_self' rfl rfl))), by repeat (first | with_reducible exact Off.mix | with_reducible exact Off.refl | ((with_reducible refine Off.upd ?_ ?_); (· rfl))), ⟨rfl, hlt, ms', mk', hW'.1, hWk'.1, hn', hnk', fun h => (by cases h), H⟩, by dsimp only; omega⟩
      · refine ow_alloc (l := [.int .i64 0, .int .i64 0, .int .i64 0]) H rfl (tyAt rfl) rfl (fun b12 w H => ?_)
        refine ow_nil ⟨fun _ => H.none, ?_⟩
        apply ak_one (i := 12)
        · kernel_rfl
        · rfl
        · rfl
        refine ow_alloc (l := [.int .i64 0, .int .i64 0, .int .i64 0]) H rfl (tyAt rfl) rfl (fun b11 w H => ?_)
        refine ow_nil ⟨fun _ => H.none, ?_⟩
        obtain ⟨R, hR⟩ : ∃ R, ([.row b11 81 (opA x), .row b12 81 (opA z)] : List Cap) = R := ⟨_, rfl⟩
        apply ak_one (i := 14)
        · kernel_rfl
        · rfl
        · rfl
        refine ow_storeA (i := 0) (o := 0) (l' := opA x) H (tyAt rfl) rfl rfl rfl rfl (opA_one x) (by simp [opA]) (fun w H => ?_)
        refine ow_nil ⟨fun _ => H.none, ?_⟩
        apply ak_one (i := 15)
        · kernel_rfl
        · rfl
        · rfl
        refine ow_storeA (i := 1) (o := 0) (l' := opA z) H (tyAt rfl) rfl rfl rfl rfl (opA_one z) (by simp [opA]) (fun w H => ?_)
        refine ow_nil ⟨fun _ => H.none, ?_⟩
        refine ak_done (by kernel_rfl) ?_
        replace H : St Pu w0 w ([.row b11 81 (opA x), .row b12 81 (opA z)] ++ (grC g ms ++ grC k mk)) [] := H
        refine wc_seq ?_
        refine wc_drawK (fun w => St Pu w0 w [.row b11 81 (opA x), .row b12 81 (opA z)] []) 99 (by kernel_rfl) (by kernel_rfl) (by intro c e D w h; first | exact h.elim | (rcases h with ⟨h | h, _⟩ <;> cases h)) ?_
        replace H := H.drew
        have G := H
        replace H := H.sub (List.sublist_append_left _ _)
        apply ak_take (i := 0) rfl rfl rfl rfl (by kernel_rfl) (by with_reducible first | exact H | rfl)
        · intro w Q' HS hq; replace H := HS; clear HS; (apply ow_move; (· rfl); (· ((conv => lhs; whnf) <;> rfl))); exact ow_nil hq
        apply ak_take (i := 1) rfl rfl rfl rfl (by kernel_rfl) (by with_reducible first | exact H | rfl)
        · intro w Q' HS hq; replace H := HS; clear HS; refine ow_fieldAddr rfl (tyAt rfl) rfl rfl rfl (tyAt rfl) rfl rfl ?_; exact ow_nil hq
        apply ak_take (i := 2) rfl rfl rfl rfl (by kernel_rfl) (by with_reducible first | exact H | rfl)
        · intro w Q' HS hq; replace H := HS; clear HS; refine ow_load rfl (tyAt rfl) rfl rfl (H.cell (i := 0) rfl rfl) ?_; exact ow_nil hq
        apply ak_take (i := 3) rfl rfl rfl rfl (by kernel_rfl) (by with_reducible first | exact H | rfl)
        · intro w Q' HS hq; replace H := HS; clear HS; refine ow_fieldAddr rfl (tyAt rfl) rfl rfl rfl (tyAt rfl) rfl rfl ?_; exact ow_nil hq
        apply ak_take (i := 4) rfl rfl rfl rfl (by kernel_rfl) (by with_reducible first | exact H | rfl)
        · intro w Q' HS hq; replace H := HS; clear HS; refine ow_load rfl (tyAt rfl) rfl rfl (H.cell (i := 0) rfl rfl) ?_; exact ow_nil hq
        apply ak_take (i := 5) rfl rfl rfl rfl (by kernel_rfl) (by with_reducible first | exact H | rfl)
        · intro w Q' HS hq; replace H := HS; clear HS; refine ow_fieldAddr rfl (tyAt rfl) rfl rfl rfl (tyAt rfl) rfl rfl ?_; exact ow_nil hq
        apply ak_take (i := 6) rfl rfl rfl rfl (by kernel_rfl) (by with_reducible first | exact H | rfl)
        · intro w Q' HS hq; replace H := HS; clear HS; refine ow_load rfl (tyAt rfl) rfl rfl (H.cell (i := 0) rfl rfl) ?_; exact ow_nil hq
        apply ak_take (i := 8) rfl rfl rfl rfl (by kernel_rfl) (by with_reducible first | exact H | rfl)
        · intro w Q' HS hq; replace H := HS; clear HS; (apply ow_move; (· rfl); (· ((conv => lhs; whnf) <;> rfl))); exact ow_nil hq
        apply ak_take (i := 9) rfl rfl rfl rfl (by kernel_rfl) (by with_reducible first | exact H | rfl)
        · intro w Q' HS hq; replace H := HS; clear HS; refine ow_fieldAddr rfl (tyAt rfl) rfl rfl rfl (tyAt rfl) rfl rfl ?_; exact ow_nil hq
        apply ak_take (i := 10) rfl rfl rfl rfl (by kernel_rfl) (by with_reducible first | exact H | rfl)
        · intro w Q' HS hq; replace H := HS; clear HS; refine ow_load rfl (tyAt rfl) rfl rfl (H.cell (i := 1) rfl rfl) ?_; exact ow_nil hq
        apply ak_take (i := 11) rfl rfl rfl rfl (by kernel_rfl) (by with_reducible first | exact H | rfl)
        · intro w Q' HS hq; replace H := HS; clear HS; refine ow_fieldAddr rfl (tyAt rfl) rfl rfl rfl (tyAt rfl) rfl rfl ?_; exact ow_nil hq
        apply ak_take (i := 12) rfl rfl rfl rfl (by kernel_rfl) (by with_reducible first | exact H | rfl)
        · intro w Q' HS hq; replace H := HS; clear HS; refine ow_load rfl (tyAt rfl) rfl rfl (H.cell (i := 1) rfl rfl) ?_; exact ow_nil hq
        apply ak_take (i := 13) rfl rfl rfl rfl (by kernel_rfl) (by with_reducible first | exact H | rfl)
        · intro w Q' HS hq; replace H := HS; clear HS; refine ow_fieldAddr rfl (tyAt rfl) rfl rfl rfl (tyAt rfl) rfl rfl ?_; exact ow_nil hq
        apply ak_take (i := 14) rfl rfl rfl rfl (by kernel_rfl) (by with_reducible first | exact H | rfl)
        · intro w Q' HS hq; replace H := HS; clear HS; refine ow_load rfl (tyAt rfl) rfl rfl (H.cell (i := 1) rfl rfl) ?_; exact ow_nil hq
        have H2 := G.perm (List.perm_append_comm_assoc [.row b11 81 (opA x), .row b12 81 (opA z)] (grC g ms) (grC k mk))
        rw [hR] at H2
        replace H := H2
        clear H2 G
        have hjb := fun h0 => joinN_btw hW (n := g.ws.length) (by rw [tb_len]; exact hn) x.1 x.2.1 x.2.2 h0
        have hW' := joinN_wf hW (n := g.ws.length) (by rw [tb_len]; exact hn) x.1 x.2.1 x.2.2
        have hjk := fun h0 => joinN_btw hWk (n := k.ws.length) (by rw [tb_len]; exact hnk) z.2.1 z.1 z.2.2 h0
        have hWk' := joinN_wf hWk (n := k.ws.length) (by rw [tb_len]; exact hnk) z.2.1 z.1 z.2.2
        apply ak_one (i := 7)
        · kernel_rfl
        · rfl
        · rfl
        refine ow_call rfl rfl (ent (by kernel_rfl)) (CallsV.mono (join_gspec g ms x.1 x.2.1 x.2.2 hn h4 hW _ H.begin) ?_) rfl
        rintro v w ⟨rfl, ms', htb', H'⟩
        replace H := H.callC (fun _ h => h) H'
        clear H'
        subst hR
        refine ow_nil ⟨fun _ => H.sub ((List.sublist_append_left _ _).trans (List.sublist_append_right _ _)), ?_⟩
        replace H : St Pu w0 w (grC k mk ++ ([.row b11 81 (opA x), .row b12 81 (opA z)] ++ grC g ms')) [] := H.perm ((List.perm_append_comm).trans (by rw [List.append_assoc]; exact (List.perm_append_comm_assoc _ _ _)))
        apply ak_one (i := 15)
        · kernel_rfl
        · rfl
        · rfl
        refine ow_call rfl rfl (ent (by kernel_rfl)) (CallsV.mono (join_gspec k mk z.2.1 z.1 z.2.2 hnk hk4 hWk _ H.begin) ?_) rfl
        rintro v w ⟨rfl, mk', htk', H'⟩
        replace H := H.callC (fun _ h => h) H'
        clear H'
        refine ow_nil ⟨fun _ => H.sub ((List.sublist_append_left _ _).trans (List.sublist_append_right _ _)), ?_⟩
        rw [← htb'] at hjb hW'
        rw [← htk'] at hjk hWk'
        obtain ⟨f, hf⟩ : ∃ f, (joinN (tb ms) g.ws.length x.1 x.2.1 x.2.2).1 = f := ⟨_, rfl⟩
        obtain ⟨f2, hf2⟩ : ∃ f2, (joinN (tb mk) k.ws.length z.2.1 z.1 z.2.2).1 = f2 := ⟨_, rfl⟩
        rw [hf] at hjb ⊢
        rw [hf2] at hjk ⊢
        have hn' : ms'.length = g.ws.length := ms_len hW'.2
        have hnk' : mk'.length = k.ws.length := ms_len hWk'.2
        have G := H
        replace H := H.sub ((List.sublist_append_left _ _).trans (List.sublist_append_right _ _))
        apply ak_take (i := 16) rfl rfl rfl rfl (by kernel_rfl) (by with_reducible first | exact H | rfl)
        · intro w Q' HS hq; replace H := HS; clear HS; (apply ow_assign; (· rfl); (· ((conv => lhs; whnf) <;> rfl))); exact ow_nil hq
        apply ak_take (i := 17) rfl rfl rfl rfl (by kernel_rfl) (by with_reducible first | exact H | rfl)
        · intro w Q' HS hq; replace H := HS; clear HS; (apply ow_assign; (· rfl); (· ((conv => lhs; whnf) <;> rfl))); exact ow_nil hq
        refine ak_done (by kernel_rfl) ?_
        replace H : St Pu w0 w (grC g ms' ++ grC k mk') [] := (G.sub ((List.sublist_append_right _ _).append_left _)).perm List.perm_append_comm
        clear G
        refine wc_region ?_
        (apply ow_move; (· rfl); (· ((conv => lhs; whnf) <;> rfl)))
        (apply ow_move; (· rfl); (· ((conv => lhs; whnf) <;> rfl)))
        cases all with
        | false =>
          refine ow_guard_no rfl rfl rfl rfl rfl rfl rfl ?_
          refine ow_guard_no rfl rfl rfl rfl rfl rfl rfl ?_
          (apply ow_pick_f; (· rfl); (· rfl); (· ((conv => lhs; whnf) <;> rfl)))
          (apply ow_move; (· rfl); (· ((conv => lhs; whnf) <;> rfl)))
          refine ow_guard_no rfl rfl rfl rfl rfl rfl rfl ?_
          refine ow_guard_no rfl rfl rfl rfl rfl rfl rfl ?_
          (apply ow_pick_f; (· rfl); (· rfl); (· ((conv => lhs; whnf) <;> rfl)))
          (apply ow_assign; (· rfl); (· ((conv => lhs; whnf) <;> rfl)))
          refine ow_nil ?_
          refine wc_region ?_
          refine ow_add rfl rfl rfl (by simp only [InK]; omega) ?_
          (apply ow_move; (· rfl); (· ((conv => lhs; whnf) <;> rfl)))
          refine ow_nil ?_
          exact ⟨(i + 1, false), by first | exact rfl | exact upd_self' rfl rfl | exact upd_self' rfl (upd_self' rfl rfl) | exact upd_self' rfl (upd_self' rfl (upd_self' rfl rfl)) | exact upd_self' rfl (upd_self' rfl (upd_self' rfl (upd_self' rfl rfl))), by repeat (first | with_reducible exact Off.mix | with_reducible exact Off.refl | ((with_reducible refine Off.upd ?_ ?_); (· rfl))), ⟨rfl, hlt, ms', mk', hW'.1, hWk'.1, hn', hnk', fun h => (by cases h), H⟩, by dsimp only; omega⟩
        | true =>
          by_cases hf0 : f = 0
          · subst hf0
            refine ow_guard_yes rfl rfl rfl rfl ?_
            (apply ow_move; (· rfl); (· ((conv => lhs; whnf) <;> rfl)))
            refine ow_guard_yes rfl rfl rfl rfl ?_
            refine ow_eql rfl rfl rfl ?_
            (apply ow_pick_t; (· rfl); (· rfl); (· ((conv => lhs; whnf) <;> rfl)))
            (apply ow_move; (· rfl); (· ((conv => lhs; whnf) <;> rfl)))
            refine ow_guard_yes rfl rfl rfl rfl ?_
            (apply ow_move; (· rfl); (· ((conv => lhs; whnf) <;> rfl)))
            refine ow_guard_yes rfl rfl rfl rfl ?_
            refine ow_eql rfl rfl rfl ?_
            (apply ow_pick_t; (· rfl); (· rfl); (· ((conv => lhs; whnf) <;> rfl)))
            (apply ow_assign; (· rfl); (· ((conv => lhs; whnf) <;> rfl)))
            refine ow_nil ?_
            refine wc_region ?_
            refine ow_add rfl rfl rfl (by simp only [InK]; omega) ?_
            (apply ow_move; (· rfl); (· ((conv => lhs; whnf) <;> rfl)))
            refine ow_nil ?_
            by_cases hf20 : f2 = 0
            · subst hf20
              skip
              refine ⟨(i + 1, true), by first | exact rfl | exact upd_self' rfl rfl | exact upd_self' rfl (upd_self' rfl rfl) | exact upd_self' rfl (upd_self' rfl (upd_self' rfl rfl)) | exact upd_self' rfl (upd_self' rfl (upd_self' rfl (upd_self' rfl rfl))), by repeat (first | with_reducible exact Off.mix | with_reducible exact Off.refl | ((with_reducible refine Off.upd ?_ ?_); (· rfl))), ⟨rfl, hlt, ms', mk', hW'.1, hWk'.1, hn', hnk', fun _ a b => ?_, H⟩, by dsimp only; omega⟩
              dsimp only
              rw [hjb rfl, hjk rfl, take_snoc hx, ctrS_snoc, hz0, ctrS_cons, (hall rfl a b).1, (hall rfl a b).2, ctr_swap]
              exact ⟨rfl, Int.add_comm _ _⟩
            · rw [decide_eq_false (show ¬ ((f2 : Int) = 0) by omega)]
              skip
              exact ⟨(i + 1, false), by first | exact rfl | exact upd_self' rfl rfl | exact upd_self' rfl (upd_self' rfl rfl) | exact upd_self' rfl (upd_self' rfl (upd_self' rfl rfl)) | exact upd_self' rfl (upd_self' rfl (upd_self' rfl (upd_self' rfl rfl))), by repeat (first | with_reducible exact Off.mix | with_reducible exact Off.refl | ((with_reducible refine Off.upd ?_ ?_); (· rfl))), ⟨rfl, hlt, ms', mk', hW'.1, hWk'.1, hn', hnk', fun h => (by cases h), H⟩, by dsimp only; omega⟩
          · refine ow_guard_yes rfl rfl rfl rfl ?_
            (apply ow_move; (· rfl); (· ((conv => lhs; whnf) <;> rfl)))
            refine ow_guard_yes rfl rfl rfl rfl ?_
            refine ow_eql rfl rfl rfl ?_
            (apply ow_pick_t; (· rfl); (· rfl); (· ((conv => lhs; whnf) <;> rfl)))
            (apply ow_move; (· rfl); (· ((conv => lhs; whnf) <;> rfl)))
            rw [decide_eq_false (show ¬ ((f : Int) = 0) by omega)]
            refine ow_guard_no rfl rfl rfl rfl rfl rfl rfl ?_
            refine ow_guard_no rfl rfl rfl rfl rfl rfl rfl ?_
            (apply ow_pick_f; (· rfl); (· rfl); (· ((conv => lhs; whnf) <;> rfl)))
            (apply ow_assign; (· rfl); (· ((conv => lhs; whnf) <;> rfl)))
            refine ow_nil ?_
            refine wc_region ?_
            refine ow_add rfl rfl rfl (by simp only [InK]; omega) ?_
            (apply ow_move; (· rfl); (· ((conv => lhs; whnf) <;> rfl)))
            refine ow_nil ?_
            exact ⟨(i + 1, false), by first | exact rfl | exact upd_self' rfl rfl | exact upd_self' rfl (upd_self' rfl rfl) | exact upd_self' rfl (upd_self' rfl (upd_self' rfl rfl)) | exact upd_self' rfl (upd_self' rfl (upd_self' rfl (upd_self' rfl rfl))), by repeat (first | with_reducible exact Off.mix | with_reducible exact Off.refl | ((with_reducible refine Off.upd ?_ ?_); (· rfl))), ⟨rfl, hlt, ms', mk', hW'.1, hWk'.1, hn', hnk', fun h => (by cases h), H⟩, by dsimp only; omega⟩
    · have hi' : i = ops.length := by omega
      subst hi'
      rw [Nat.sub_self, List.drop_zero, List.take_length] at hall
      refine wc_exit ?_
      exact ⟨all, by first | exact rfl | exact upd_self' rfl rfl | exact upd_self' rfl (upd_self' rfl rfl) | exact upd_self' rfl (upd_self' rfl (upd_self' rfl rfl)) | exact upd_self' rfl (upd_self' rfl (upd_self' rfl (upd_self' rfl rfl))), by repeat (first | with_reducible exact Off.mix | with_reducible exact Off.refl | ((with_reducible refine Off.upd ?_ ?_); (· rfl))), ⟨rfl, ms, mk, hW, hWk, hn, hnk, fun h x y => by rw [(hall h x y).1, (hall h x y).2], H⟩⟩
  clear H hW hWk hn hnk htb htk
  rintro all j D w ⟨rfl, ms, mk, hW, hWk, hn, hnk, hall, H⟩
  cases all with
  | false =>
    refine wc_seq ?_
    refine wc_seq ?_
    refine wc_region ?_
    (apply ow_move; (· rfl); (· ((conv => lhs; whnf) <;> rfl)))
    refine ow_not rfl rfl ?_
    refine ow_nil ?_
    refine wc_cond_true rfl ?_
    refine wc_seq ?_
    refine wc_region ?_
    (apply ow_assign; (· rfl); (· ((conv => lhs; whnf) <;> rfl)))
    refine ow_nil ?_
    refine wc_ret ?_
    obtain ⟨w, hT, H⟩ := H.takes Try.prog
    refine ⟨.inr rfl, w, hT, _, .tmp .nil, ?_⟩
    exact ⟨rfl, H.none⟩
  | true =>
  have hnk2 : mk.length = g.ws.length := by rw [hnk, hkw]
  have hT : tb mk = tb ms := (btw_ext hW hWk (by rw [tb_len, tb_len, hn, hnk2]) (hall rfl)).symm
  clear hall
  have hel := edges_len hW (tb ms).length
  have hTl : (tb ms).length = g.ws.length := by rw [tb_len, hn]
  have hel2 : (tb ms).length * (tb ms).length ≤ 900 := by rw [hTl]; exact Nat.mul_le_mul h30 h30
  have hE : (edgesT (tb ms)).length ≤ 900 := by unfold edgesT; omega
  have hkk : ∀ x ∈ k.ws, mayW x := by rw [hkw]; exact hmay
  refine wc_seq ?_
  refine wc_seq ?_
  refine wc_region ?_
  (apply ow_move; (· rfl); (· ((conv => lhs; whnf) <;> rfl)))
  refine ow_not rfl rfl ?_
  refine ow_nil ?_
  refine wc_cond_false rfl ?_
  refine wc_skip ?_
  refine wc_seq ?_
  refine wc_seq ?_
  refine wc_region ?_
  (apply ow_move; (· rfl); (· ((conv => lhs; whnf) <;> rfl)))
  refine ow_len rfl rfl (tyAt rfl) rfl ?_
  (apply ow_move; (· rfl); (· ((conv => lhs; whnf) <;> rfl)))
  refine ow_nil ?_
  refine wc_blockJ [4, 15, 91, 92, 93, 94, 95, 96, 97, 98, 99, 100, 101, 102, 103, 104, 105, 106, 107, 108, 109, 110, 111] (fun (_ : Unit) e => e) (fun _ D w => D = [] ∧ St Pu w0 w (grC g ms ++ grC k mk) []) ?_ ?_
  · refine wc_loopS [4, 15, 91, 92, 93, 94, 95, 96, 97, 98, 99, 100, 101, 102, 103, 104, 105, 106, 107, 108, 109, 110, 111] (fun (s : Nat) e => upd e 91 (.int .i64 s)) (fun s D w => D = [] ∧ s ≤ g.ws.length ∧ St Pu w0 w (grC g ms ++ grC k mk) []) (fun s _ => g.ws.length - s) 0 (by first | exact rfl | exact upd_self' rfl rfl | exact upd_self' rfl (upd_self' rfl rfl) | exact upd_self' rfl (upd_self' rfl (upd_self' rfl rfl)) | exact upd_self' rfl (upd_self' rfl (upd_self' rfl (upd_self' rfl rfl))))
      ⟨rfl, Nat.zero_le _, H⟩ ?_
    clear H
    rintro i jj D w ⟨rfl, hi, H⟩
    refine wc_seq ?_
    refine wc_region ?_
    refine ow_lss rfl rfl rfl ?_
    refine ow_nil ?_
    refine wc_seq ?_
    refine wc_cond_dec rfl (fun h => ?_) (fun h => ?_) <;> try dsimp only at h
    · have hlt : i < g.ws.length := by omega
      have hnl : (nearN (tb ms) (i : Int)).length ≤ 30 := by unfold nearN; rw [List.length_map]; have := hW.rlen (i : Int); omega
      refine wc_skip ?_
      refine wc_seq ?_
      refine wc_block ?_
      refine wc_seq ?_
      refine wc_region ?_
      (apply ow_move; (· rfl); (· ((conv => lhs; whnf) <;> rfl)))
      (apply ow_assign; (· rfl); (· ((conv => lhs; whnf) <;> rfl)))
      refine ow_nil ?_
      refine wc_seq ?_
      refine wc_region ?_
      (apply ow_move; (· rfl); (· ((conv => lhs; whnf) <;> rfl)))
      (apply ow_move; (· rfl); (· ((conv => lhs; whnf) <;> rfl)))
      refine ow_call rfl rfl (ent (by kernel_rfl)) (CallsV.mono (lawNear_spec g ms (i : Int) hn h4 hW _ (gr_at H)) ?_) rfl
      rintro v w ⟨p1, c1, rfl, H'⟩
      replace H := H.call H'
      clear H'
      (apply ow_move; (· rfl); (· ((conv => lhs; whnf) <;> rfl)))
      (apply ow_move; (· rfl); (· ((conv => lhs; whnf) <;> rfl)))
      refine ow_call rfl rfl (ent (by kernel_rfl)) (CallsV.mono (lawNear_spec k mk (i : Int) hnk hk4 hWk _ (gr_of_ok fun c hc => okAll H c (List.mem_append_right _ (List.mem_append_right _ hc)))) ?_) rfl
      rintro v w ⟨p2, c2, rfl, H'⟩
      replace H := H.call H'
      clear H'
      rw [hT] at H ⊢
      skip
      refine ow_call rfl rfl (ent (by kernel_rfl)) (CallsV.mono (lawSame_spec p1 p2 _ _ c1 c2 (nearN (tb ms) (i : Int)) (nearN (tb ms) (i : Int)) rfl rfl (by omega) (by omega) _ (appOk.sl (H.cap (i := 1) rfl)) (appOk.sl (H.cap (i := 0) rfl))) ?_) rfl
      rintro v w ⟨rfl, H'⟩
      replace H : St Pu w0 w (grC g ms ++ grC k mk) [] := (H.call H').drop.drop
      clear H'
      rw [decide_eq_true (rfl : nearN (tb ms) (i : Int) = nearN (tb ms) (i : Int))]
      refine ow_not rfl rfl ?_
      (apply ow_move; (· rfl); (· ((conv => lhs; whnf) <;> rfl)))
      refine ow_guard_yes rfl rfl rfl rfl ?_
      (apply ow_move; (· rfl); (· ((conv => lhs; whnf) <;> rfl)))
      refine ow_guard_yes rfl rfl rfl rfl ?_
      (apply ow_move; (· rfl); (· ((conv => lhs; whnf) <;> rfl)))
      refine ow_guard_yes rfl rfl rfl rfl ?_
      refine ow_call rfl rfl (ent (by kernel_rfl)) (CallsV.mono (degree_gspec g ms (i : Int) hn h4 hW _ (gr_at H)) ?_) rfl
      rintro v w ⟨rfl, H'⟩
      replace H := H.call H'
      rw [List.nil_append] at H
      clear H'
      refine ow_guard_yes rfl rfl rfl rfl ?_
      (apply ow_move; (· rfl); (· ((conv => lhs; whnf) <;> rfl)))
      refine ow_guard_yes rfl rfl rfl rfl ?_
      (apply ow_move; (· rfl); (· ((conv => lhs; whnf) <;> rfl)))
      refine ow_guard_yes rfl rfl rfl rfl ?_
      refine ow_call rfl rfl (ent (by kernel_rfl)) (CallsV.mono (degree_gspec k mk (i : Int) hnk hk4 hWk _ (gr_of_ok fun c hc => okAll H c (List.mem_append_right _ hc))) ?_) rfl
      rintro v w ⟨rfl, H'⟩
      replace H := H.call H'
      rw [List.nil_append] at H
      clear H'
      rw [hT]
      refine ow_guard_yes rfl rfl rfl rfl ?_
      refine ow_neq rfl rfl rfl ?_
      (apply ow_pick_f; (· rfl); (· rfl); (· ((conv => lhs; whnf) <;> rfl)))
      refine ow_nil ?_
      rw [decide_eq_false (show ¬ ¬ (degT (tb ms) (i : Int) = degT (tb ms) (i : Int)) from fun h => h rfl)]
      refine wc_cond_false rfl ?_
      refine wc_skip ?_
      refine wc_region ?_
      refine ow_add rfl rfl rfl (by simp only [InK]; omega) ?_
      (apply ow_move; (· rfl); (· ((conv => lhs; whnf) <;> rfl)))
      refine ow_nil ?_
      exact ⟨i + 1, by first | exact rfl | exact upd_self' rfl rfl | exact upd_self' rfl (upd_self' rfl rfl) | exact upd_self' rfl (upd_self' rfl (upd_self' rfl rfl)) | exact upd_self' rfl (upd_self' rfl (upd_self' rfl (upd_self' rfl rfl))), by repeat (first | with_reducible exact Off.mix | with_reducible exact Off.refl | ((with_reducible refine Off.upd ?_ ?_); (· rfl))), ⟨rfl, hlt, H⟩, by omega⟩
    · have hi' : i = g.ws.length := by omega
      subst hi'
      refine wc_exit ?_
      exact ⟨(), rfl, by repeat (first | with_reducible exact Off.mix | with_reducible exact Off.refl | ((with_reducible refine Off.upd ?_ ?_); (· rfl))), ⟨rfl, H⟩⟩
  clear H
  rintro _ jj D w ⟨rfl, H⟩
  have htl : ((edgesT (tb ms)).take (10000 : Int).toNat).length ≤ 900 := by rw [List.length_take]; omega
  refine wc_seq ?_
  refine wc_region ?_
  (apply ow_move; (· rfl); (· ((conv => lhs; whnf) <;> rfl)))
  refine ow_call rfl rfl (ent (by kernel_rfl)) (CallsV.mono (lawEdges_spec g ms 10000 hn h4 hW (by omega) _ (gr_at H)) ?_) rfl
  rintro v w ⟨p1, c1, rfl, H'⟩
  replace H := H.call H'
  clear H'
  (apply ow_move; (· rfl); (· ((conv => lhs; whnf) <;> rfl)))
  refine ow_call rfl rfl (ent (by kernel_rfl)) (CallsV.mono (lawEdges_spec k mk 10000 hnk hk4 hWk (by rw [hT]; omega) _ (gr_of_ok fun c hc => okAll H c (List.mem_append_right _ (List.mem_append_right _ hc)))) ?_) rfl
  rintro v w ⟨p2, c2, rfl, H'⟩
  replace H := H.call H'
  clear H'
  rw [hT] at H ⊢
  skip
  refine ow_call rfl rfl (ent (by kernel_rfl)) (CallsV.mono (lawSame_spec p1 p2 _ _ c1 c2 ((edgesT (tb ms)).take (10000 : Int).toNat) ((edgesT (tb ms)).take (10000 : Int).toNat) rfl rfl (by omega) (by omega) _ (appOk.sl (H.cap (i := 1) rfl)) (appOk.sl (H.cap (i := 0) rfl))) ?_) rfl
  rintro v w ⟨rfl, H'⟩
  replace H : St Pu w0 w (grC g ms ++ grC k mk) [] := (H.call H').drop.drop
  clear H'
  rw [decide_eq_true (rfl : (edgesT (tb ms)).take (10000 : Int).toNat = (edgesT (tb ms)).take (10000 : Int).toNat)]
  (apply ow_move; (· rfl); (· ((conv => lhs; whnf) <;> rfl)))
  refine ow_guard_yes rfl rfl rfl rfl ?_
  (apply ow_move; (· rfl); (· ((conv => lhs; whnf) <;> rfl)))
  refine ow_guard_yes rfl rfl rfl rfl ?_
  refine ow_call rfl rfl (ent (by kernel_rfl)) (CallsV.mono (total_spec g ms h4 hmay _ (gr_at H)) ?_) rfl
  rintro v w' ⟨rfl, rfl⟩
  refine ow_guard_yes rfl rfl rfl rfl ?_
  (apply ow_move; (· rfl); (· ((conv => lhs; whnf) <;> rfl)))
  refine ow_guard_yes rfl rfl rfl rfl ?_
  refine ow_call rfl rfl (ent (by kernel_rfl)) (CallsV.mono (total_spec k mk hk4 hkk _ (gr_of_ok fun c hc => okAll H c (List.mem_append_right _ hc))) ?_) rfl
  rintro v w' ⟨rfl, rfl⟩
  rw [hkw]
  refine ow_guard_yes rfl rfl rfl rfl ?_
  refine ow_eql rfl rfl rfl ?_
  (apply ow_pick_t; (· rfl); (· rfl); (· ((conv => lhs; whnf) <;> rfl)))
  (apply ow_assign; (· rfl); (· ((conv => lhs; whnf) <;> rfl)))
  refine ow_nil ?_
  rw [decide_eq_true (rfl : g.ws.sum = g.ws.sum)]
  skip
  refine wc_ret ?_
  obtain ⟨w, hT, H⟩ := H.takes Try.prog
  refine ⟨.inr rfl, w, hT, _, .tmp .nil, ?_⟩
  exact ⟨rfl, H.none⟩
end Go.Proofs.Ytgliblmpiilloaa
