/- The statement's function 'sandtablelaw08.GraphPlays' returns true at every input, and changes nothing that was there. -/
import Derived.Test.YtgliblmpiilloaaH4
namespace Go.Proofs.Ytgliblmpiilloaa
set_option linter.all false
open Go Go.Sx Go.Proofs
set_option maxRecDepth 100000
set_option maxHeartbeats 2000000
theorem flat_snoc (l : List OpA) (e : OpA) : (l ++ [e]).flatMap opA = l.flatMap opA ++ opA e := by rw [List.flatMap_append, List.flatMap_singleton]
theorem law08Plays (q q2 : Option Addr) (cap cap2 : Nat) (ws : List Int) (ops : List OpA) (most : Int) (hm : ws.length ≤ 9223372036854775807) (hm2 : ops.length ≤ 9223372036854775807) (w0 : World) (hq : SlH (hp w0) q (ints .i64 ws)) (hq2 : SlH (hp w0) q2 (ops.flatMap opA)) :
    CallsV Try.prog 7 #[.slice q ws.length cap, .slice q2 ops.length cap2, .int .i64 most] w0 fun v w => v = .bool true ∧ St Pu w0 w [] [] := by
  refine callsV_of Try.func7 rfl rfl ?_
  obtain ⟨k15, hk15, ek15⟩ := and_mask most (m := 15) (by decide)
  refine wc_seq ?_
  refine wc_region ?_
  (apply ow_assign; (· rfl); (· ((conv => lhs; whnf) <;> rfl)))
  refine ow_nil ?_
  refine wc_seq ?_
  refine wc_seq ?_
  refine wc_region ?_
  refine ow_call rfl rfl (ent (by kernel_rfl)) (CallsV.mono (alive08 w0) ?_) rfl
  rintro v w ⟨rfl, H⟩
  refine ow_not rfl rfl ?_
  refine ow_nil ?_
  refine wc_cond_false rfl ?_
  refine wc_skip ?_
  refine wc_seq ?_
  refine wc_seq ?_
  refine wc_region ?_
  (apply ow_move; (· rfl); (· ((conv => lhs; whnf) <;> rfl)))
  refine ow_len rfl rfl (tyAt rfl) rfl ?_
  refine ow_gtr rfl rfl rfl ?_
  (apply ow_move; (· rfl); (· ((conv => lhs; whnf) <;> rfl)))
  refine ow_guard_dec rfl rfl rfl (fun h => ?_) (fun h => ?_) <;> try dsimp only at h
  · refine ow_guard_yes rfl rfl rfl rfl ?_
    (apply ow_move; (· rfl); (· ((conv => lhs; whnf) <;> rfl)))
    refine ow_guard_yes rfl rfl rfl rfl ?_
    refine ow_len rfl rfl (tyAt rfl) rfl ?_
    refine ow_guard_yes rfl rfl rfl rfl ?_
    refine ow_leq rfl rfl rfl ?_
    (apply ow_pick_t; (· rfl); (· rfl); (· ((conv => lhs; whnf) <;> rfl)))
    (apply ow_move; (· rfl); (· ((conv => lhs; whnf) <;> rfl)))
    refine ow_guard_dec rfl rfl rfl (fun h => ?_) (fun h => ?_) <;> try dsimp only at h
    · refine ow_guard_no rfl rfl rfl rfl rfl rfl rfl ?_
      refine ow_guard_no rfl rfl rfl rfl rfl rfl rfl ?_
      refine ow_guard_no rfl rfl rfl rfl rfl rfl rfl ?_
      (apply ow_pick_t; (· rfl); (· rfl); (· ((conv => lhs; whnf) <;> rfl)))
      (apply ow_move; (· rfl); (· ((conv => lhs; whnf) <;> rfl)))
      refine ow_guard_no rfl rfl rfl rfl rfl rfl rfl ?_
      refine ow_guard_no rfl rfl rfl rfl rfl rfl rfl ?_
      refine ow_guard_no rfl rfl rfl rfl rfl rfl rfl ?_
      (apply ow_pick_t; (· rfl); (· rfl); (· ((conv => lhs; whnf) <;> rfl)))
      refine ow_nil ?_
      refine wc_cond_true rfl ?_
      refine wc_seq ?_
      refine wc_region ?_
      (apply ow_assign; (· rfl); (· ((conv => lhs; whnf) <;> rfl)))
      refine ow_nil ?_
      refine wc_ret ?_
      obtain ⟨w, hT, H⟩ := H.takes Try.prog
      refine ⟨.inr rfl, w, hT, _, .tmp .nil, ?_⟩
      exact ⟨rfl, H⟩
    · rename_i h1
      refine ow_guard_yes rfl rfl rfl rfl ?_
      (apply ow_move; (· rfl); (· ((conv => lhs; whnf) <;> rfl)))
      refine ow_guard_yes rfl rfl rfl rfl ?_
      refine ow_len rfl rfl (tyAt rfl) rfl ?_
      refine ow_guard_yes rfl rfl rfl rfl ?_
      refine ow_gtr rfl rfl rfl ?_
      (apply ow_pick_f; (· rfl); (· rfl); (· ((conv => lhs; whnf) <;> rfl)))
      (apply ow_move; (· rfl); (· ((conv => lhs; whnf) <;> rfl)))
      refine ow_guard_dec rfl rfl rfl (fun h => ?_) (fun h => ?_) <;> try dsimp only at h
      · refine ow_guard_no rfl rfl rfl rfl rfl rfl rfl ?_
        refine ow_guard_no rfl rfl rfl rfl rfl rfl rfl ?_
        refine ow_guard_no rfl rfl rfl rfl rfl rfl rfl ?_
        (apply ow_pick_t; (· rfl); (· rfl); (· ((conv => lhs; whnf) <;> rfl)))
        refine ow_nil ?_
        refine wc_cond_true rfl ?_
        refine wc_seq ?_
        refine wc_region ?_
        (apply ow_assign; (· rfl); (· ((conv => lhs; whnf) <;> rfl)))
        refine ow_nil ?_
        refine wc_ret ?_
        obtain ⟨w, hT, H⟩ := H.takes Try.prog
        refine ⟨.inr rfl, w, hT, _, .tmp .nil, ?_⟩
        exact ⟨rfl, H⟩
      · refine ow_guard_yes rfl rfl rfl rfl ?_
        (apply ow_move; (· rfl); (· ((conv => lhs; whnf) <;> rfl)))
        refine ow_guard_yes rfl rfl rfl rfl ?_
        refine ow_len rfl rfl (tyAt rfl) rfl ?_
        refine ow_guard_yes rfl rfl rfl rfl ?_
        refine ow_gtr rfl rfl rfl ?_
        (apply ow_pick_f; (· rfl); (· rfl); (· ((conv => lhs; whnf) <;> rfl)))
        refine ow_nil ?_
        refine wc_cond_dec rfl (fun h => ?_) (fun h => ?_) <;> try dsimp only at h
        · refine wc_seq ?_
          refine wc_region ?_
          (apply ow_assign; (· rfl); (· ((conv => lhs; whnf) <;> rfl)))
          refine ow_nil ?_
          refine wc_ret ?_
          obtain ⟨w, hT, H⟩ := H.takes Try.prog
          refine ⟨.inr rfl, w, hT, _, .tmp .nil, ?_⟩
          exact ⟨rfl, H⟩
        refine wc_skip ?_
        refine wc_seq ?_
        refine wc_region ?_
        (apply ow_move; (· rfl); (· ((conv => lhs; whnf) <;> rfl)))
        refine ow_call rfl rfl (ent (by kernel_rfl)) (CallsV.mono (new_spec q cap ws hm w (H.oldSl hq)) ?_) rfl
        rintro v w (⟨rfl, _, H'⟩ | ⟨_, h, _⟩ | ⟨_, _, _, _, h, _⟩)
        · replace H := H.call H'
          rw [List.nil_append] at H
          clear H'
          (apply ow_move; (· rfl); (· ((conv => lhs; whnf) <;> rfl)))
          refine ow_extract rfl rfl rfl ?_
          refine ow_extract rfl rfl rfl ?_
          (apply ow_assign; (· rfl); (· ((conv => lhs; whnf) <;> rfl)))
          (apply ow_assign; (· rfl); (· ((conv => lhs; whnf) <;> rfl)))
          refine ow_nil ?_
          refine wc_seq ?_
          refine wc_region ?_
          (apply ow_move; (· rfl); (· ((conv => lhs; whnf) <;> rfl)))
          refine ow_call rfl rfl (ent (by kernel_rfl)) (CallsV.mono (refNew_spec q cap ws hm w (H.oldSl hq)) ?_) rfl
          rintro v w (⟨rfl, _, H'⟩ | ⟨_, h, _⟩ | ⟨_, _, _, _, h, _⟩)
          · replace H := H.call H'
            rw [List.nil_append] at H
            clear H'
            (apply ow_move; (· rfl); (· ((conv => lhs; whnf) <;> rfl)))
            refine ow_extract rfl rfl rfl ?_
            refine ow_extract rfl rfl rfl ?_
            refine ow_alloc (l := [.slice none 0 0, .slice none 0 0]) H rfl (tyAt rfl) rfl (fun b9 w H => ?_)
            refine ow_storeA (i := 0) (o := 0) (l' := [.slice none 0 0, .slice none 0 0]) H (tyAt rfl) rfl rfl rfl rfl (by simp [Value.oneCell']) (by simp) (fun w H => ?_)
            (apply ow_assign; (· rfl); (· ((conv => lhs; whnf) <;> rfl)))
            refine ow_nil ?_
            refine wc_seq ?_
            refine wc_seq ?_
            refine wc_region ?_
            (apply ow_move; (· rfl); (· ((conv => lhs; whnf) <;> rfl)))
            refine ow_neq rfl rfl rfl ?_
            (apply ow_move; (· rfl); (· ((conv => lhs; whnf) <;> rfl)))
            refine ow_guard_no rfl rfl rfl rfl rfl rfl rfl ?_
            refine ow_guard_no rfl rfl rfl rfl rfl rfl rfl ?_
            (apply ow_pick_t; (· rfl); (· rfl); (· ((conv => lhs; whnf) <;> rfl)))
            refine ow_nil ?_
            refine wc_cond_true rfl ?_
            refine wc_seq ?_
            refine wc_region ?_
            (apply ow_move; (· rfl); (· ((conv => lhs; whnf) <;> rfl)))
            (apply ow_move; (· rfl); (· ((conv => lhs; whnf) <;> rfl)))
            refine ow_eql rfl rfl rfl ?_
            (apply ow_move; (· rfl); (· ((conv => lhs; whnf) <;> rfl)))
            refine ow_guard_yes rfl rfl rfl rfl ?_
            (apply ow_move; (· rfl); (· ((conv => lhs; whnf) <;> rfl)))
            refine ow_guard_yes rfl rfl rfl rfl ?_
            refine ow_eqlPn rfl rfl rfl (tyAt rfl) rfl ?_
            (apply ow_pick_t; (· rfl); (· rfl); (· ((conv => lhs; whnf) <;> rfl)))
            (apply ow_move; (· rfl); (· ((conv => lhs; whnf) <;> rfl)))
            refine ow_guard_yes rfl rfl rfl rfl ?_
            (apply ow_move; (· rfl); (· ((conv => lhs; whnf) <;> rfl)))
            refine ow_guard_yes rfl rfl rfl rfl ?_
            refine ow_neq rfl rfl rfl ?_
            (apply ow_pick_t; (· rfl); (· rfl); (· ((conv => lhs; whnf) <;> rfl)))
            (apply ow_assign; (· rfl); (· ((conv => lhs; whnf) <;> rfl)))
            refine ow_nil ?_
            refine wc_ret ?_
            obtain ⟨w, hT, H⟩ := H.takes Try.prog
            refine ⟨.inr rfl, w, hT, _, .tmp .nil, ?_⟩
            exact ⟨rfl, H.none⟩
          · omega
          · omega
        · omega
        · omega
  have h30 : ws.length ≤ 30 := by omega
  clear h
  refine ow_guard_no rfl rfl rfl rfl rfl rfl rfl ?_
  refine ow_guard_no rfl rfl rfl rfl rfl rfl rfl ?_
  refine ow_guard_no rfl rfl rfl rfl rfl rfl rfl ?_
  (apply ow_pick_f; (· rfl); (· rfl); (· ((conv => lhs; whnf) <;> rfl)))
  (apply ow_move; (· rfl); (· ((conv => lhs; whnf) <;> rfl)))
  refine ow_guard_yes rfl rfl rfl rfl ?_
  (apply ow_move; (· rfl); (· ((conv => lhs; whnf) <;> rfl)))
  refine ow_guard_yes rfl rfl rfl rfl ?_
  refine ow_len rfl rfl (tyAt rfl) rfl ?_
  refine ow_guard_yes rfl rfl rfl rfl ?_
  refine ow_gtr rfl rfl rfl ?_
  (apply ow_pick_f; (· rfl); (· rfl); (· ((conv => lhs; whnf) <;> rfl)))
  (apply ow_move; (· rfl); (· ((conv => lhs; whnf) <;> rfl)))
  refine ow_guard_dec rfl rfl rfl (fun h => ?_) (fun h => ?_) <;> try dsimp only at h
  · omega
  clear h
  refine ow_guard_yes rfl rfl rfl rfl ?_
  (apply ow_move; (· rfl); (· ((conv => lhs; whnf) <;> rfl)))
  refine ow_guard_yes rfl rfl rfl rfl ?_
  refine ow_len rfl rfl (tyAt rfl) rfl ?_
  refine ow_guard_yes rfl rfl rfl rfl ?_
  refine ow_gtr rfl rfl rfl ?_
  (apply ow_pick_f; (· rfl); (· rfl); (· ((conv => lhs; whnf) <;> rfl)))
  refine ow_nil ?_
  refine wc_cond_dec rfl (fun h => ?_) (fun h => ?_) <;> try dsimp only at h
  · refine wc_seq ?_
    refine wc_region ?_
    (apply ow_assign; (· rfl); (· ((conv => lhs; whnf) <;> rfl)))
    refine ow_nil ?_
    refine wc_ret ?_
    obtain ⟨w, hT, H⟩ := H.takes Try.prog
    refine ⟨.inr rfl, w, hT, _, .tmp .nil, ?_⟩
    exact ⟨rfl, H⟩
  have h60 : ops.length ≤ 60 := by omega
  clear h
  refine wc_skip ?_
  refine wc_seq ?_
  refine wc_region ?_
  (apply ow_move; (· rfl); (· ((conv => lhs; whnf) <;> rfl)))
  refine ow_call rfl rfl (ent (by kernel_rfl)) (CallsV.mono (new_spec q cap ws hm w (H.oldSl hq)) ?_) rfl
  rintro v w (⟨_, h, _⟩ | ⟨rfl, _, hno, H'⟩ | ⟨g, ms, rfl, rfl, h4, hmay, htb, H'⟩)
  · omega
  · replace H := H.call H'
    rw [List.nil_append] at H
    clear H'
    (apply ow_move; (· rfl); (· ((conv => lhs; whnf) <;> rfl)))
    refine ow_extract rfl rfl rfl ?_
    refine ow_extract rfl rfl rfl ?_
    (apply ow_assign; (· rfl); (· ((conv => lhs; whnf) <;> rfl)))
    (apply ow_assign; (· rfl); (· ((conv => lhs; whnf) <;> rfl)))
    refine ow_nil ?_
    refine wc_seq ?_
    refine wc_region ?_
    (apply ow_move; (· rfl); (· ((conv => lhs; whnf) <;> rfl)))
    refine ow_call rfl rfl (ent (by kernel_rfl)) (CallsV.mono (refNew_spec q cap ws hm w (H.oldSl hq)) ?_) rfl
    rintro v w (⟨_, h, _⟩ | ⟨rfl, _, _, H'⟩ | ⟨_, _, _, _, _, h, _⟩)
    · omega
    · replace H := H.call H'
      rw [List.nil_append] at H
      clear H'
      (apply ow_move; (· rfl); (· ((conv => lhs; whnf) <;> rfl)))
      refine ow_extract rfl rfl rfl ?_
      refine ow_extract rfl rfl rfl ?_
      refine ow_alloc (l := [.slice none 0 0, .slice none 0 0]) H rfl (tyAt rfl) rfl (fun b9 w H => ?_)
      refine ow_storeA (i := 0) (o := 0) (l' := [.slice none 0 0, .slice none 0 0]) H (tyAt rfl) rfl rfl rfl rfl (by simp [Value.oneCell']) (by simp) (fun w H => ?_)
      (apply ow_assign; (· rfl); (· ((conv => lhs; whnf) <;> rfl)))
      refine ow_nil ?_
      refine wc_seq ?_
      refine wc_seq ?_
      refine wc_region ?_
      (apply ow_move; (· rfl); (· ((conv => lhs; whnf) <;> rfl)))
      refine ow_neq rfl rfl rfl ?_
      (apply ow_move; (· rfl); (· ((conv => lhs; whnf) <;> rfl)))
      refine ow_guard_no rfl rfl rfl rfl rfl rfl rfl ?_
      refine ow_guard_no rfl rfl rfl rfl rfl rfl rfl ?_
      (apply ow_pick_t; (· rfl); (· rfl); (· ((conv => lhs; whnf) <;> rfl)))
      refine ow_nil ?_
      refine wc_cond_true rfl ?_
      refine wc_seq ?_
      refine wc_region ?_
      (apply ow_move; (· rfl); (· ((conv => lhs; whnf) <;> rfl)))
      (apply ow_move; (· rfl); (· ((conv => lhs; whnf) <;> rfl)))
      refine ow_eql rfl rfl rfl ?_
      (apply ow_move; (· rfl); (· ((conv => lhs; whnf) <;> rfl)))
      refine ow_guard_yes rfl rfl rfl rfl ?_
      (apply ow_move; (· rfl); (· ((conv => lhs; whnf) <;> rfl)))
      refine ow_guard_yes rfl rfl rfl rfl ?_
      refine ow_eqlPn rfl rfl rfl (tyAt rfl) rfl ?_
      (apply ow_pick_t; (· rfl); (· rfl); (· ((conv => lhs; whnf) <;> rfl)))
      (apply ow_move; (· rfl); (· ((conv => lhs; whnf) <;> rfl)))
      refine ow_guard_yes rfl rfl rfl rfl ?_
      (apply ow_move; (· rfl); (· ((conv => lhs; whnf) <;> rfl)))
      refine ow_guard_yes rfl rfl rfl rfl ?_
      refine ow_neq rfl rfl rfl ?_
      (apply ow_pick_t; (· rfl); (· rfl); (· ((conv => lhs; whnf) <;> rfl)))
      (apply ow_assign; (· rfl); (· ((conv => lhs; whnf) <;> rfl)))
      refine ow_nil ?_
      refine wc_ret ?_
      obtain ⟨w, hT, H⟩ := H.takes Try.prog
      refine ⟨.inr rfl, w, hT, _, .tmp .nil, ?_⟩
      exact ⟨rfl, H.none⟩
    · obtain ⟨x, hx, hn⟩ := hno
      exact absurd (h x hx) hn
  replace H := H.call H'
  rw [List.append_nil] at H
  clear H'
  (apply ow_move; (· rfl); (· ((conv => lhs; whnf) <;> rfl)))
  refine ow_extract rfl rfl rfl ?_
  refine ow_extract rfl rfl rfl ?_
  (apply ow_assign; (· rfl); (· ((conv => lhs; whnf) <;> rfl)))
  (apply ow_assign; (· rfl); (· ((conv => lhs; whnf) <;> rfl)))
  refine ow_nil ?_
  refine wc_seq ?_
  refine wc_region ?_
  (apply ow_move; (· rfl); (· ((conv => lhs; whnf) <;> rfl)))
  refine ow_call rfl rfl (ent (by kernel_rfl)) (CallsV.mono (refNew_spec q cap g.ws hm w (H.oldSl hq)) ?_) rfl
  rintro v w (⟨_, h, _⟩ | ⟨_, _, ⟨x, hx, h⟩, _⟩ | ⟨x, rows, rfl, hxw, _, _, hM0, H'⟩)
  · omega
  · exact absurd (hmay x hx) h
  replace H : St Pu w0 w (grC g ms ++ rfC x rows) [] := (H.call H').perm List.perm_append_comm
  clear H'
  have hW : Wf (tb ms) := by rw [htb]; exact wf_nil _
  have hn : ms.length = g.ws.length := ms_len (by rw [htb, List.length_replicate])
  have hM : Mx (tb ms) x.ws.length rows := by rw [htb, hxw]; exact hM0
  have hx4 : x.ws.length ≤ 4096 := by rw [hxw]; exact h4
  obtain ⟨V, hV⟩ : ∃ V, rfV x rows = V := ⟨_, rfl⟩
  (apply ow_move; (· rfl); (· ((conv => lhs; whnf) <;> rfl)))
  refine ow_extract rfl rfl rfl ?_
  refine ow_extract rfl rfl rfl ?_
  refine ow_alloc (l := [.slice none 0 0, .slice none 0 0]) H rfl (tyAt rfl) rfl (fun b9 w H => ?_)
  refine ow_storeA (i := 0) (o := 0) (l' := rfV x rows) H (tyAt rfl) rfl rfl rfl rfl (by simp [Value.oneCell']) (by simp) (fun w H => ?_)
  replace H : St Pu w0 w (.row b9 77 V :: (grC g ms ++ rfC x rows)) [] := by rw [← hV]; exact H
  (apply ow_assign; (· rfl); (· ((conv => lhs; whnf) <;> rfl)))
  refine ow_nil ?_
  refine wc_seq ?_
  refine wc_seq ?_
  refine wc_region ?_
  (apply ow_move; (· rfl); (· ((conv => lhs; whnf) <;> rfl)))
  refine ow_neq rfl rfl rfl ?_
  (apply ow_move; (· rfl); (· ((conv => lhs; whnf) <;> rfl)))
  refine ow_guard_yes rfl rfl rfl rfl ?_
  (apply ow_move; (· rfl); (· ((conv => lhs; whnf) <;> rfl)))
  refine ow_guard_yes rfl rfl rfl rfl ?_
  refine ow_eqlPn rfl rfl rfl (tyAt rfl) rfl ?_
  have hrl : rows.length = x.ws.length := hM.len
  clear htb hM0
  (apply ow_pick_f; (· rfl); (· rfl); (· ((conv => lhs; whnf) <;> rfl)))
  refine ow_nil ?_
  refine wc_cond_false rfl ?_
  refine wc_skip ?_
  refine wc_seq ?_
  refine wc_seq ?_
  refine wc_region ?_
  (apply ow_move; (· rfl); (· ((conv => lhs; whnf) <;> rfl)))
  refine ow_len rfl rfl (tyAt rfl) rfl ?_
  (apply ow_move; (· rfl); (· ((conv => lhs; whnf) <;> rfl)))
  refine ow_nil ?_
  refine wc_blockJ [6, 12, 67, 68, 69, 70, 71, 72, 73, 74, 75, 76, 77, 78, 79, 80, 81, 82, 83, 84, 85, 86, 87, 88] (fun (_ : Unit) e => e) (fun _ D w => D = [] ∧ ∃ ms rows, Wf (tb ms) ∧ ms.length = g.ws.length ∧ Mx (tb ms) x.ws.length rows ∧ rfV x rows = V ∧ St Pu w0 w (.row b9 77 V :: (grC g ms ++ rfC x rows)) []) ?_ ?_
  · refine wc_loopS [6, 12, 67, 68, 69, 70, 71, 72, 73, 74, 75, 76, 77, 78, 79, 80, 81, 82, 83, 84, 85, 86, 87, 88] (fun (s : Nat) e => upd e 67 (.int .i64 s)) (fun s D w => D = [] ∧ s ≤ ops.length ∧ ∃ ms rows, Wf (tb ms) ∧ ms.length = g.ws.length ∧ Mx (tb ms) x.ws.length rows ∧ rfV x rows = V ∧ St Pu w0 w (.row b9 77 V :: (grC g ms ++ rfC x rows)) []) (fun s _ => ops.length - s) 0 (by first | exact rfl | exact upd_self' rfl rfl | exact upd_self' rfl (upd_self' rfl rfl) | exact upd_self' rfl (upd_self' rfl (upd_self' rfl rfl)) | exact upd_self' rfl (upd_self' rfl (upd_self' rfl (upd_self' rfl rfl))))
      ⟨rfl, Nat.zero_le _, ms, rows, hW, hn, hM, hV, H⟩ ?_
    clear H hW hn hM hV hrl
    rintro i j D w ⟨rfl, hi, ms, rows, hW, hn, hM, hV, H⟩
    refine wc_seq ?_
    refine wc_region ?_
    refine ow_lss rfl rfl rfl ?_
    refine ow_nil ?_
    refine wc_seq ?_
    refine wc_cond_dec rfl (fun h => ?_) (fun h => ?_) <;> try dsimp only at h
    · have hlt : i < ops.length := by omega
      obtain ⟨o, hox⟩ : ∃ o, ops[i]? = some o := ⟨_, List.getElem?_eq_getElem hlt⟩
      obtain ⟨bq, oq, rfl⟩ := hq2.some_of (by rw [flat_len opA_len]; omega)
      refine wc_skip ?_
      refine wc_seq ?_
      refine wc_block ?_
      refine wc_seq ?_
      refine wc_region ?_
      refine ow_idxK (j := i) (sz := 3) rfl (tyAt rfl) rfl (tyAt rfl) rfl rfl rfl hlt rfl ?_
      refine ow_loadA (l := opA o) rfl (tyAt rfl) rfl rfl rfl ((H.oldSl hq2).elem opA_len hox) ?_
      refine ow_alloc (l := [.int .i64 0, .int .i64 0, .int .i64 0]) H rfl (tyAt rfl) rfl (fun bo w H => ?_)
      refine ow_storeA (i := 0) (o := 0) (l' := opA o) H (tyAt rfl) rfl rfl rfl rfl (opA_one o) (by simp [opA]) (fun w H => ?_)
      replace H : St Pu w0 w ([.row bo 81 (opA o), .row b9 77 V] ++ (grC g ms ++ rfC x rows)) [] := H
      have hWj := joinN_wf hW (n := g.ws.length) (by rw [tb_len]; exact hn) o.1 o.2.1 o.2.2
      refine ow_nil ?_
      refine wc_seq ?_
      refine wc_drawK (fun w => St Pu w0 w [.row bo 81 (opA o), .row b9 77 V] []) 99 (by kernel_rfl) (by kernel_rfl) (by intro c e D w h; first | exact h.elim | (rcases h with ⟨h | h, _⟩ <;> cases h)) ?_
      replace H := H.drew
      have G := H
      replace H := H.sub (List.sublist_append_left _ _)
      apply ak_take (i := 0) rfl rfl rfl rfl (by kernel_rfl) (by with_reducible first | exact H | rfl)
      · intro w Q' HS hq; replace H := HS; clear HS; (apply ow_move; (· rfl); (· ((conv => lhs; whnf) <;> rfl))); exact ow_nil hq
      apply ak_take (i := 1) rfl rfl rfl rfl (by kernel_rfl) (by with_reducible first | exact H | rfl)
      · intro w Q' HS hq; replace H := HS; clear HS; refine ow_fieldAddr rfl (tyAt rfl) rfl rfl rfl (tyAt rfl) rfl rfl ?_; exact ow_nil hq
      apply ak_take (i := 2) rfl rfl rfl rfl (by kernel_rfl) (by with_reducible first | exact H | rfl)
      · intro w Q' HS hq; replace H := HS; clear HS; refine ow_load rfl (tyAt rfl) rfl rfl (H.cell (i := 0) rfl rfl) ?_; exact ow_nil hq
      apply ak_take (i := 3) rfl rfl rfl rfl (by kernel_rfl) (by with_reducible first | exact H | rfl)
      · intro w Q' HS hq; replace H := HS; clear HS; refine ow_fieldAddr rfl (tyAt rfl) rfl rfl rfl (tyAt rfl) rfl rfl ?_; exact ow_nil hq
      apply ak_take (i := 4) rfl rfl rfl rfl (by kernel_rfl) (by with_reducible first | exact H | rfl)
      · intro w Q' HS hq; replace H := HS; clear HS; refine ow_load rfl (tyAt rfl) rfl rfl (H.cell (i := 0) rfl rfl) ?_; exact ow_nil hq
      apply ak_take (i := 5) rfl rfl rfl rfl (by kernel_rfl) (by with_reducible first | exact H | rfl)
      · intro w Q' HS hq; replace H := HS; clear HS; refine ow_fieldAddr rfl (tyAt rfl) rfl rfl rfl (tyAt rfl) rfl rfl ?_; exact ow_nil hq
      apply ak_take (i := 6) rfl rfl rfl rfl (by kernel_rfl) (by with_reducible first | exact H | rfl)
      · intro w Q' HS hq; replace H := HS; clear HS; refine ow_load rfl (tyAt rfl) rfl rfl (H.cell (i := 0) rfl rfl) ?_; exact ow_nil hq
      apply ak_take (i := 8) rfl rfl rfl rfl (by kernel_rfl) (by with_reducible first | exact H | rfl)
      · intro w Q' HS hq; replace H := HS; clear HS; refine ow_loadA (l := V) rfl (tyAt rfl) rfl rfl (by rw [← hV]; rfl) (H.cells (i := 1) (o := 0) (m := 2) rfl (by rw [← hV]; rfl)) ?_; exact ow_nil hq
      apply ak_take (i := 9) rfl rfl rfl rfl (by kernel_rfl) (by with_reducible first | exact H | rfl)
      · intro w Q' HS hq; replace H := HS; clear HS; refine ow_fieldAddr rfl (tyAt rfl) rfl rfl rfl (tyAt rfl) rfl rfl ?_; exact ow_nil hq
      apply ak_take (i := 10) rfl rfl rfl rfl (by kernel_rfl) (by with_reducible first | exact H | rfl)
      · intro w Q' HS hq; replace H := HS; clear HS; refine ow_load rfl (tyAt rfl) rfl rfl (H.cell (i := 0) rfl rfl) ?_; exact ow_nil hq
      apply ak_take (i := 11) rfl rfl rfl rfl (by kernel_rfl) (by with_reducible first | exact H | rfl)
      · intro w Q' HS hq; replace H := HS; clear HS; refine ow_fieldAddr rfl (tyAt rfl) rfl rfl rfl (tyAt rfl) rfl rfl ?_; exact ow_nil hq
      apply ak_take (i := 12) rfl rfl rfl rfl (by kernel_rfl) (by with_reducible first | exact H | rfl)
      · intro w Q' HS hq; replace H := HS; clear HS; refine ow_load rfl (tyAt rfl) rfl rfl (H.cell (i := 0) rfl rfl) ?_; exact ow_nil hq
      apply ak_take (i := 13) rfl rfl rfl rfl (by kernel_rfl) (by with_reducible first | exact H | rfl)
      · intro w Q' HS hq; replace H := HS; clear HS; refine ow_fieldAddr rfl (tyAt rfl) rfl rfl rfl (tyAt rfl) rfl rfl ?_; exact ow_nil hq
      apply ak_take (i := 14) rfl rfl rfl rfl (by kernel_rfl) (by with_reducible first | exact H | rfl)
      · intro w Q' HS hq; replace H := HS; clear HS; refine ow_load rfl (tyAt rfl) rfl rfl (H.cell (i := 0) rfl rfl) ?_; exact ow_nil hq
      replace H := G.perm (List.perm_append_comm_assoc [.row bo 81 (opA o), .row b9 77 V] (grC g ms) (rfC x rows))
      clear G
      apply ak_one (i := 7)
      · kernel_rfl
      · rfl
      · rfl
      refine ow_call rfl rfl (ent (by kernel_rfl)) (CallsV.mono (join_gspec g ms o.1 o.2.1 o.2.2 hn h4 hW _ H.begin) ?_) rfl
      rintro v w ⟨rfl, ms', htb', H'⟩
      replace H := H.callC (fun _ h => h) H'
      clear H'
      refine ow_nil ⟨fun _ => H.sub ((List.sublist_append_left _ _).trans (List.sublist_append_right _ _)), ?_⟩
      replace H : St Pu w0 w (rfC x rows ++ ([.row bo 81 (opA o), .row b9 77 V] ++ grC g ms')) [] := H.perm ((List.perm_append_comm).trans (by rw [List.append_assoc]; exact (List.perm_append_comm_assoc _ _ _)))
      apply ak_one (i := 15)
      · kernel_rfl
      · rfl
      · rfl
      rw [← hV]
      refine ow_call rfl rfl (ent (by kernel_rfl)) (CallsV.mono (refJoin_spec (tb ms) x rows o.1 o.2.1 o.2.2 hW (by rw [tb_len, hn, hxw]) hx4 hM _ H.begin) ?_) rfl
      rintro v w ⟨rfl, rows', hrl', hM', H'⟩
      rw [hV]
      replace H := H.callC (fun _ h => h) H'
      clear H'
      refine ow_nil ⟨fun _ => H.sub ((List.sublist_append_left _ _).trans (List.sublist_append_right _ _)), ?_⟩
      rw [hxw]
      rw [hxw, ← htb', ← hxw] at hM'
      rw [← htb'] at hWj
      obtain ⟨f, hf⟩ : ∃ f, (joinN (tb ms) g.ws.length o.1 o.2.1 o.2.2).1 = f := ⟨_, rfl⟩
      rw [hf]
      have hn' : ms'.length = g.ws.length := ms_len hWj.2
      have hV' : rfV x rows' = V := by rw [← hV]; unfold rfV; rw [hrl']
      have G := H
      replace H := H.sub ((List.sublist_append_left _ _).trans (List.sublist_append_right _ _))
      apply ak_take (i := 16) rfl rfl rfl rfl (by kernel_rfl) (by with_reducible first | exact H | rfl)
      · intro w Q' HS hq; replace H := HS; clear HS; refine ow_neq rfl rfl rfl ?_; exact ow_nil hq
      refine ak_done (by kernel_rfl) ?_
      replace H : St Pu w0 w (.row b9 77 V :: (grC g ms' ++ rfC x rows')) [] := (G.sub ((List.Sublist.cons _ (List.Sublist.refl _)).append_left _)).perm (List.perm_append_comm.trans (by exact List.Perm.refl _))
      clear G
      rw [decide_eq_false (show ¬ ¬ ((f : Int) = (f : Int)) from fun h => h rfl)]
      refine wc_cond_false rfl ?_
      refine wc_skip ?_
      refine wc_region ?_
      refine ow_add rfl rfl rfl (by simp only [InK]; omega) ?_
      (apply ow_move; (· rfl); (· ((conv => lhs; whnf) <;> rfl)))
      refine ow_nil ?_
      exact ⟨i + 1, by first | exact rfl | exact upd_self' rfl rfl | exact upd_self' rfl (upd_self' rfl rfl) | exact upd_self' rfl (upd_self' rfl (upd_self' rfl rfl)) | exact upd_self' rfl (upd_self' rfl (upd_self' rfl (upd_self' rfl rfl))), by repeat (first | with_reducible exact Off.mix | with_reducible exact Off.refl | ((with_reducible refine Off.upd ?_ ?_); (· rfl))), ⟨rfl, hlt, ms', rows', hWj.1, hn', (by rw [← hxw]; exact hM'), hV', H⟩, by omega⟩
    · have hi' : i = ops.length := by omega
      subst hi'
      refine wc_exit ?_
      exact ⟨(), rfl, by repeat (first | with_reducible exact Off.mix | with_reducible exact Off.refl | ((with_reducible refine Off.upd ?_ ?_); (· rfl))), ⟨rfl, ms, rows, hW, hn, hM, hV, H⟩⟩
  clear H hW hn hM hV hrl
  rintro _ j D w ⟨rfl, ms, rows, hW, hn, hM, hV, H⟩
  subst hV
  have hTl : (tb ms).length = g.ws.length := by rw [tb_len, hn]
  obtain ⟨R, hR⟩ : ∃ R, grC g ms ++ rfC x rows = R := ⟨_, rfl⟩
  have hGr : ∀ {w : World} {pre : List Cap}, St Pu w0 w (pre ++ R) [] → Gr (hp w) g ms := fun H => gr_of_ok fun c hc => okAll H c (List.mem_append_right _ (by rw [← hR]; exact List.mem_append_left _ hc))
  have hRf : ∀ {w : World} {pre : List Cap}, St Pu w0 w (pre ++ R) [] → Rf (hp w) x rows := fun H => rf_of_ok fun c hc => okAll H c (List.mem_append_right _ (by rw [← hR]; exact List.mem_append_right _ hc))
  rw [hR] at H
  clear hR
  have hml : ∀ a k : Nat, (mineU (tb ms) a k).length ≤ k := fun a k => mineU_len _ _ _
  have hwl : ∀ a k : Nat, (wantR (tb ms) a k).length ≤ k := fun a k => wantR_len _ _ _
  have hel : ∀ a : Nat, (edgesU (tb ms) a).length ≤ a * g.ws.length := fun a => by have := edges_len hW a; rwa [hTl] at this
  have hel2 : ∀ a : Nat, a ≤ g.ws.length → (edgesU (tb ms) a).length ≤ 900 := fun a ha => Nat.le_trans (hel a) (Nat.le_trans (Nat.mul_le_mul ha (Nat.le_refl _)) (Nat.mul_le_mul h30 h30))
  have hxl : (tb ms).length = x.ws.length := by rw [hTl, hxw]
  refine wc_seq ?_
  refine wc_region ?_
  refine ow_buildSlice0 H rfl (tyAt rfl) rfl (tyAt rfl) (fun b13 w H => ?_)
  replace H := H.rowApp (i := 0) (len := 0) (sz := 3) rfl rfl (by omega)
  replace H : St Pu w0 w (.row b9 77 (rfV x rows) :: .app (some ⟨b13, 0, none⟩) 0 0 87 3 [] :: R) [] := H.perm (List.Perm.swap _ _ _)
  (apply ow_assign; (· rfl); (· ((conv => lhs; whnf) <;> rfl)))
  refine ow_nil ?_
  refine wc_seq ?_
  refine wc_seq ?_
  refine wc_region ?_
  (apply ow_move; (· rfl); (· ((conv => lhs; whnf) <;> rfl)))
  refine ow_len rfl rfl (tyAt rfl) rfl ?_
  (apply ow_move; (· rfl); (· ((conv => lhs; whnf) <;> rfl)))
  refine ow_nil ?_
  refine wc_blockJ [6, 13, 14, 15, 16, 17, 92, 93, 94, 95, 96, 97, 98, 99, 100, 101, 102, 103, 104, 105, 106, 107, 108, 109, 110, 111, 112, 113, 114, 115, 116, 117, 118, 119, 120, 121, 122, 123, 124, 125, 126, 127, 128, 129, 130, 131, 132, 133, 134, 135, 136, 137, 138, 139, 140, 141, 142, 143, 144, 145, 146, 147, 148, 149, 150, 151, 152, 153, 154, 155, 156, 157, 158, 159, 160] (fun (s : Option Addr × Nat) e => upd e 13 (.slice s.1 (edgesU (tb ms) g.ws.length).length s.2)) (fun s D w => D = [] ∧ St Pu w0 w (.row b9 77 (rfV x rows) :: .app s.1 (edgesU (tb ms) g.ws.length).length s.2 87 3 ((edgesU (tb ms) g.ws.length).flatMap opA) :: R) []) ?_ ?_
  · refine wc_loopS [6, 13, 14, 15, 16, 17, 92, 93, 94, 95, 96, 97, 98, 99, 100, 101, 102, 103, 104, 105, 106, 107, 108, 109, 110, 111, 112, 113, 114, 115, 116, 117, 118, 119, 120, 121, 122, 123, 124, 125, 126, 127, 128, 129, 130, 131, 132, 133, 134, 135, 136, 137, 138, 139, 140, 141, 142, 143, 144, 145, 146, 147, 148, 149, 150, 151, 152, 153, 154, 155, 156, 157, 158, 159, 160] (fun (s : Nat × Option Addr × Nat) e => upd (upd e 13 (.slice s.2.1 (edgesU (tb ms) s.1).length s.2.2)) 92 (.int .i64 s.1)) (fun s D w => D = [] ∧ s.1 ≤ g.ws.length ∧ St Pu w0 w (.row b9 77 (rfV x rows) :: .app s.2.1 (edgesU (tb ms) s.1).length s.2.2 87 3 ((edgesU (tb ms) s.1).flatMap opA) :: R) []) (fun s _ => g.ws.length - s.1) (0, some ⟨b13, 0, none⟩, 0) (by first | exact rfl | exact upd_self' rfl rfl | exact upd_self' rfl (upd_self' rfl rfl) | exact upd_self' rfl (upd_self' rfl (upd_self' rfl rfl)) | exact upd_self' rfl (upd_self' rfl (upd_self' rfl (upd_self' rfl rfl))))
      ⟨rfl, Nat.zero_le _, H⟩ ?_
    clear H
    rintro ⟨a, p13, c13⟩ j D w ⟨rfl, ha, H⟩
    dsimp only at ha H ⊢
    refine wc_seq ?_
    refine wc_region ?_
    refine ow_lss rfl rfl rfl ?_
    refine ow_nil ?_
    refine wc_seq ?_
    refine wc_cond_dec rfl (fun h => ?_) (fun h => ?_) <;> try dsimp only at h
    · have hlt : a < g.ws.length := by omega
      have hea := hel2 a ha
      refine wc_skip ?_
      refine wc_seq ?_
      refine wc_block ?_
      refine wc_seq ?_
      refine wc_region ?_
      (apply ow_move; (· rfl); (· ((conv => lhs; whnf) <;> rfl)))
      (apply ow_assign; (· rfl); (· ((conv => lhs; whnf) <;> rfl)))
      refine ow_nil ?_
      refine wc_seq ?_
      refine wc_region ?_
      refine ow_buildSlice0 H rfl (tyAt rfl) rfl (tyAt rfl) (fun b15 w H => ?_)
      replace H := H.rowApp (i := 0) (len := 0) (sz := 3) rfl rfl (by omega)
      replace H : St Pu w0 w (.row b9 77 (rfV x rows) :: .app p13 (edgesU (tb ms) a ++ wantR (tb ms) a 0).length c13 87 3 ((edgesU (tb ms) a ++ wantR (tb ms) a 0).flatMap opA) :: .app (some ⟨b15, 0, none⟩) (mineU (tb ms) a 0).length 0 87 3 ((mineU (tb ms) a 0).flatMap opA) :: R) [] := by
        rw [show wantR (tb ms) a 0 = [] from rfl, List.append_nil]
        exact H.perm ((List.Perm.swap _ _ _).trans ((List.Perm.swap _ _ _).cons _))
      (apply ow_assign; (· rfl); (· ((conv => lhs; whnf) <;> rfl)))
      refine ow_nil ?_
      refine wc_seq ?_
      refine wc_seq ?_
      refine wc_region ?_
      (apply ow_move; (· rfl); (· ((conv => lhs; whnf) <;> rfl)))
      refine ow_len rfl rfl (tyAt rfl) rfl ?_
      (apply ow_move; (· rfl); (· ((conv => lhs; whnf) <;> rfl)))
      refine ow_nil ?_
      refine wc_blockJ [6, 13, 15, 16, 17, 98, 99, 100, 101, 102, 103, 104, 105, 106, 107, 108, 109, 110, 111, 112, 113, 114, 115, 116, 117, 118, 119, 120, 121, 122, 123, 124, 125, 126, 127, 128, 129, 130, 131, 132, 133, 134] (fun (s : (Option Addr × Nat) × Option Addr × Nat) e => upd (upd e 13 (.slice s.1.1 (edgesU (tb ms) (a + 1)).length s.1.2)) 15 (.slice s.2.1 (nearN (tb ms) (a : Int)).length s.2.2)) (fun s D w => D = [] ∧ St Pu w0 w (.row b9 77 (rfV x rows) :: .app s.1.1 (edgesU (tb ms) (a + 1)).length s.1.2 87 3 ((edgesU (tb ms) (a + 1)).flatMap opA) :: .app s.2.1 (nearN (tb ms) (a : Int)).length s.2.2 87 3 ((nearN (tb ms) (a : Int)).flatMap opA) :: R) []) ?_ ?_
      · refine wc_loopS [6, 13, 15, 16, 17, 98, 99, 100, 101, 102, 103, 104, 105, 106, 107, 108, 109, 110, 111, 112, 113, 114, 115, 116, 117, 118, 119, 120, 121, 122, 123, 124, 125, 126, 127, 128, 129, 130, 131, 132, 133, 134] (fun (s : Nat × (Option Addr × Nat) × Option Addr × Nat) e => upd (upd (upd e 13 (.slice s.2.1.1 (edgesU (tb ms) a ++ wantR (tb ms) a s.1).length s.2.1.2)) 15 (.slice s.2.2.1 (mineU (tb ms) a s.1).length s.2.2.2)) 98 (.int .i64 s.1)) (fun s D w => D = [] ∧ s.1 ≤ g.ws.length ∧ St Pu w0 w (.row b9 77 (rfV x rows) :: .app s.2.1.1 (edgesU (tb ms) a ++ wantR (tb ms) a s.1).length s.2.1.2 87 3 ((edgesU (tb ms) a ++ wantR (tb ms) a s.1).flatMap opA) :: .app s.2.2.1 (mineU (tb ms) a s.1).length s.2.2.2 87 3 ((mineU (tb ms) a s.1).flatMap opA) :: R) []) (fun s _ => g.ws.length - s.1) (0, (p13, c13), some ⟨b15, 0, none⟩, 0) ?lv0
          ⟨rfl, Nat.zero_le _, H⟩ ?_
        case lv0 =>
          dsimp only
          rw [show wantR (tb ms) a 0 = [] from rfl, List.append_nil]
          first | exact rfl | exact upd_self' rfl rfl | exact upd_self' rfl (upd_self' rfl rfl) | exact upd_self' rfl (upd_self' rfl (upd_self' rfl rfl)) | exact upd_self' rfl (upd_self' rfl (upd_self' rfl (upd_self' rfl rfl)))
        clear H
        rintro ⟨k, ⟨p13, c13⟩, p15, c15⟩ jj D w ⟨rfl, hk, H⟩
        dsimp only at hk H ⊢
        have hbw := hW.btw_le (a : Int) (k : Int)
        have hm1 := mineU_succ (tb ms) a k
        have hw1 := wantR_succ (tb ms) a k
        have hmlk := hml a k
        have hwlk := hwl a k
        refine wc_seq ?_
        refine wc_region ?_
        refine ow_lss rfl rfl rfl ?_
        refine ow_nil ?_
        refine wc_seq ?_
        refine wc_cond_dec rfl (fun h => ?_) (fun h => ?_) <;> try dsimp only at h
        · have hlk : k < g.ws.length := by omega
          refine wc_skip ?_
          refine wc_seq ?_
          refine wc_block ?_
          refine wc_seq ?_
          refine wc_region ?_
          (apply ow_move; (· rfl); (· ((conv => lhs; whnf) <;> rfl)))
          (apply ow_assign; (· rfl); (· ((conv => lhs; whnf) <;> rfl)))
          refine ow_nil ?_
          refine wc_seq ?_
          refine wc_region ?_
          refine ow_loadA (l := rfV x rows) rfl (tyAt rfl) rfl rfl rfl (H.cells (i := 0) (o := 0) (m := 2) rfl rfl) ?_
          (apply ow_move; (· rfl); (· ((conv => lhs; whnf) <;> rfl)))
          (apply ow_move; (· rfl); (· ((conv => lhs; whnf) <;> rfl)))
          refine ow_call rfl rfl (ent (by kernel_rfl)) (CallsV.mono (refBetween_spec (tb ms) x rows (a : Int) (k : Int) hW hxl hM _ (hRf (pre := [_, _, _]) H)) ?_) rfl
          rintro v w ⟨rfl, H'⟩
          replace H := H.call H'
          rw [List.nil_append] at H
          clear H'
          (apply ow_assign; (· rfl); (· ((conv => lhs; whnf) <;> rfl)))
          refine ow_nil ?_
          refine wc_seq ?_
          refine wc_seq ?_
          refine wc_region ?_
          (apply ow_move; (· rfl); (· ((conv => lhs; whnf) <;> rfl)))
          (apply ow_move; (· rfl); (· ((conv => lhs; whnf) <;> rfl)))
          (apply ow_move; (· rfl); (· ((conv => lhs; whnf) <;> rfl)))
          refine ow_call rfl rfl (ent (by kernel_rfl)) (CallsV.mono (between_spec g ms (a : Int) (k : Int) hn h4 hW _ (hGr (pre := [_, _, _]) H)) ?_) rfl
          rintro v w ⟨rfl, H'⟩
          replace H := H.call H'
          rw [List.nil_append] at H
          clear H'
          obtain ⟨bt, hbt⟩ : ∃ bt, btw (tb ms) (a : Int) (k : Int) = bt := ⟨_, rfl⟩
          rw [hbt] at hbw hm1 hw1 ⊢
          (apply ow_move; (· rfl); (· ((conv => lhs; whnf) <;> rfl)))
          refine ow_neq rfl rfl rfl ?_
          refine ow_nil ?_
          rw [decide_eq_false (show ¬ ¬ (bt = bt) from fun h => h rfl)]
          refine wc_cond_false rfl ?_
          refine wc_skip ?_
          refine wc_seq ?_
          refine wc_seq ?_
          refine wc_region ?_
          (apply ow_move; (· rfl); (· ((conv => lhs; whnf) <;> rfl)))
          refine ow_gtr rfl rfl rfl ?_
          refine ow_nil ?_
          by_cases hpos : 0 < bt
          · rw [if_pos hpos] at hm1
            rw [decide_eq_true hpos]
            refine wc_cond_true rfl ?_
            refine wc_region ?_
            (apply ow_move; (· rfl); (· ((conv => lhs; whnf) <;> rfl)))
            (apply ow_move; (· rfl); (· ((conv => lhs; whnf) <;> rfl)))
            (apply ow_move; (· rfl); (· ((conv => lhs; whnf) <;> rfl)))
            (apply ow_move; (· rfl); (· ((conv => lhs; whnf) <;> rfl)))
            refine ow_build (l := opA ((a : Int), (k : Int), bt)) (vs := [(0, .int .i64 (a : Int)), (1, .int .i64 (k : Int)), (2, .int .i64 bt)]) rfl (tyAt rfl) rfl (.cons (tyAt rfl) (.cons (tyAt rfl) (.cons (tyAt rfl) .nil))) rfl rfl ?_
            refine ow_buildSliceA (zs := [.int .i64 0, .int .i64 0, .int .i64 0]) (l := opA ((a : Int), (k : Int), bt)) (vs := [(0, .agg ⟨opA ((a : Int), (k : Int), bt)⟩)]) H rfl (tyAt rfl) rfl (tyAt rfl) rfl rfl rfl (by kernel_rfl) rfl (fun vb w H => ?_)
            refine ow_append (i := 3) H rfl rfl (tyAt rfl) rfl (tyAt rfl) rfl (by decide) rfl rfl (H.rowSl (i := 0) rfl) rfl (opA_one _) (by first | (dsimp only; omega) | omega | (simp only [List.length_append]; omega)) (by first | omega | (simp only [List.length_append]; omega)) (fun p15b c15b w H => ?_)
            dsimp only [List.set] at H
            replace H := H.drop
            have hm2 : (mineU (tb ms) a (k + 1)).length = (mineU (tb ms) a k).length + 1 := by rw [hm1, List.length_append]; rfl
            replace H : St Pu w0 w (.row b9 77 (rfV x rows) :: .app p13 (edgesU (tb ms) a ++ wantR (tb ms) a k).length c13 87 3 ((edgesU (tb ms) a ++ wantR (tb ms) a k).flatMap opA) :: .app p15b (mineU (tb ms) a (k + 1)).length c15b 87 3 ((mineU (tb ms) a (k + 1)).flatMap opA) :: R) [] := by
              rw [hm2, hm1, flat_snoc]
              exact H
            rw [← hm2]
            (apply ow_assign; (· rfl); (· ((conv => lhs; whnf) <;> rfl)))
            refine ow_nil ?_
            refine wc_seq ?_
            refine wc_region ?_
            (apply ow_move; (· rfl); (· ((conv => lhs; whnf) <;> rfl)))
            refine ow_gtr rfl rfl rfl ?_
            (apply ow_move; (· rfl); (· ((conv => lhs; whnf) <;> rfl)))
            rw [decide_eq_true hpos]
            refine ow_guard_yes rfl rfl rfl rfl ?_
            (apply ow_move; (· rfl); (· ((conv => lhs; whnf) <;> rfl)))
            refine ow_guard_yes rfl rfl rfl rfl ?_
            (apply ow_move; (· rfl); (· ((conv => lhs; whnf) <;> rfl)))
            refine ow_guard_yes rfl rfl rfl rfl ?_
            refine ow_lss rfl rfl rfl ?_
            (apply ow_pick_t; (· rfl); (· rfl); (· ((conv => lhs; whnf) <;> rfl)))
            refine ow_nil ?_
            by_cases hak : (a : Int) < (k : Int)
            · rw [if_pos ⟨hpos, hak⟩] at hw1
              rw [decide_eq_true hak]
              refine wc_cond_true rfl ?_
              refine wc_region ?_
              (apply ow_move; (· rfl); (· ((conv => lhs; whnf) <;> rfl)))
              (apply ow_move; (· rfl); (· ((conv => lhs; whnf) <;> rfl)))
              (apply ow_move; (· rfl); (· ((conv => lhs; whnf) <;> rfl)))
              (apply ow_move; (· rfl); (· ((conv => lhs; whnf) <;> rfl)))
              refine ow_build (l := opA ((a : Int), (k : Int), bt)) (vs := [(0, .int .i64 (a : Int)), (1, .int .i64 (k : Int)), (2, .int .i64 bt)]) rfl (tyAt rfl) rfl (.cons (tyAt rfl) (.cons (tyAt rfl) (.cons (tyAt rfl) .nil))) rfl rfl ?_
              refine ow_buildSliceA (zs := [.int .i64 0, .int .i64 0, .int .i64 0]) (l := opA ((a : Int), (k : Int), bt)) (vs := [(0, .agg ⟨opA ((a : Int), (k : Int), bt)⟩)]) H rfl (tyAt rfl) rfl (tyAt rfl) rfl rfl rfl (by kernel_rfl) rfl (fun vb w H => ?_)
              refine ow_append (i := 2) H rfl rfl (tyAt rfl) rfl (tyAt rfl) rfl (by decide) rfl rfl (H.rowSl (i := 0) rfl) rfl (opA_one _) (by first | (dsimp only; omega) | omega | (simp only [List.length_append]; omega)) (by first | omega | (simp only [List.length_append]; omega)) (fun p13b c13b w H => ?_)
              dsimp only [List.set] at H
              replace H := H.drop
              have hw2 : (edgesU (tb ms) a ++ wantR (tb ms) a (k + 1)).length = (edgesU (tb ms) a ++ wantR (tb ms) a k).length + 1 := by rw [hw1, ← List.append_assoc, List.length_append]; rfl
              replace H : St Pu w0 w (.row b9 77 (rfV x rows) :: .app p13b (edgesU (tb ms) a ++ wantR (tb ms) a (k + 1)).length c13b 87 3 ((edgesU (tb ms) a ++ wantR (tb ms) a (k + 1)).flatMap opA) :: .app p15b (mineU (tb ms) a (k + 1)).length c15b 87 3 ((mineU (tb ms) a (k + 1)).flatMap opA) :: R) [] := by
                rw [hw2, hw1, ← List.append_assoc, flat_snoc]
                exact H
              rw [← hw2]
              (apply ow_assign; (· rfl); (· ((conv => lhs; whnf) <;> rfl)))
              refine ow_nil ?_
              refine wc_region ?_
              refine ow_add rfl rfl rfl (by simp only [InK]; omega) ?_
              (apply ow_move; (· rfl); (· ((conv => lhs; whnf) <;> rfl)))
              refine ow_nil ?_
              exact ⟨(k + 1, (p13b, c13b), p15b, c15b), by first | exact rfl | exact upd_self' rfl rfl | exact upd_self' rfl (upd_self' rfl rfl) | exact upd_self' rfl (upd_self' rfl (upd_self' rfl rfl)) | exact upd_self' rfl (upd_self' rfl (upd_self' rfl (upd_self' rfl rfl))), by repeat (first | with_reducible exact Off.mix | with_reducible exact Off.refl | ((with_reducible refine Off.upd ?_ ?_); (· rfl))), ⟨rfl, hlk, H⟩, by dsimp only; omega⟩
            · rw [if_neg (fun h => hak h.2), List.append_nil] at hw1
              rw [decide_eq_false hak]
              rw [← hw1] at H ⊢
              refine wc_cond_false rfl ?_
              refine wc_skip ?_
              refine wc_region ?_
              refine ow_add rfl rfl rfl (by simp only [InK]; omega) ?_
              (apply ow_move; (· rfl); (· ((conv => lhs; whnf) <;> rfl)))
              refine ow_nil ?_
              exact ⟨(k + 1, (p13, c13), p15b, c15b), by first | exact rfl | exact upd_self' rfl rfl | exact upd_self' rfl (upd_self' rfl rfl) | exact upd_self' rfl (upd_self' rfl (upd_self' rfl rfl)) | exact upd_self' rfl (upd_self' rfl (upd_self' rfl (upd_self' rfl rfl))), by repeat (first | with_reducible exact Off.mix | with_reducible exact Off.refl | ((with_reducible refine Off.upd ?_ ?_); (· rfl))), ⟨rfl, hlk, H⟩, by dsimp only; omega⟩
          · rw [if_neg hpos, List.append_nil] at hm1
            rw [if_neg (fun h => hpos h.1), List.append_nil] at hw1
            rw [decide_eq_false hpos]
            rw [← hw1, ← hm1] at H ⊢
            refine wc_cond_false rfl ?_
            refine wc_skip ?_
            refine wc_seq ?_
            refine wc_region ?_
            (apply ow_move; (· rfl); (· ((conv => lhs; whnf) <;> rfl)))
            refine ow_gtr rfl rfl rfl ?_
            (apply ow_move; (· rfl); (· ((conv => lhs; whnf) <;> rfl)))
            rw [decide_eq_false hpos]
            refine ow_guard_no rfl rfl rfl rfl rfl rfl rfl ?_
            refine ow_guard_no rfl rfl rfl rfl rfl rfl rfl ?_
            refine ow_guard_no rfl rfl rfl rfl rfl rfl rfl ?_
            (apply ow_pick_f; (· rfl); (· rfl); (· ((conv => lhs; whnf) <;> rfl)))
            refine ow_nil ?_
            refine wc_cond_false rfl ?_
            refine wc_skip ?_
            refine wc_region ?_
            refine ow_add rfl rfl rfl (by simp only [InK]; omega) ?_
            (apply ow_move; (· rfl); (· ((conv => lhs; whnf) <;> rfl)))
            refine ow_nil ?_
            exact ⟨(k + 1, (p13, c13), p15, c15), by first | exact rfl | exact upd_self' rfl rfl | exact upd_self' rfl (upd_self' rfl rfl) | exact upd_self' rfl (upd_self' rfl (upd_self' rfl rfl)) | exact upd_self' rfl (upd_self' rfl (upd_self' rfl (upd_self' rfl rfl))), by repeat (first | with_reducible exact Off.mix | with_reducible exact Off.refl | ((with_reducible refine Off.upd ?_ ?_); (· rfl))), ⟨rfl, hlk, H⟩, by dsimp only; omega⟩
        · have hk' : k = g.ws.length := by omega
          subst hk'
          have e1 : edgesU (tb ms) a ++ wantR (tb ms) a g.ws.length = edgesU (tb ms) (a + 1) := by rw [edgesU_succ, ← want_all hW, hTl]
          have e2 : mineU (tb ms) a g.ws.length = nearN (tb ms) (a : Int) := by rw [← mine_all hW, hTl]
          rw [e1, e2] at H ⊢
          refine wc_exit ?_
          exact ⟨((p13, c13), p15, c15), by first | exact rfl | exact upd_self' rfl rfl | exact upd_self' rfl (upd_self' rfl rfl) | exact upd_self' rfl (upd_self' rfl (upd_self' rfl rfl)) | exact upd_self' rfl (upd_self' rfl (upd_self' rfl (upd_self' rfl rfl))), by repeat (first | with_reducible exact Off.mix | with_reducible exact Off.refl | ((with_reducible refine Off.upd ?_ ?_); (· rfl))), ⟨rfl, H⟩⟩
      clear H
      rintro ⟨⟨p13, c13⟩, p15, c15⟩ jj D w ⟨rfl, H⟩
      dsimp only at H ⊢
      obtain ⟨bq0, oq0, rfl⟩ := hq.some_of (by simp; omega)
      have hqq := hq
      have hnl : (nearN (tb ms) (a : Int)).length ≤ 30 := by rw [← mine_all hW, hTl]; exact Nat.le_trans (hml _ _) h30
      have hwt : wtG g.ws (a : Int) = g.ws.getD a 0 := by unfold wtG; rw [if_pos ⟨by omega, by omega⟩, Int.toNat_natCast]
      refine wc_seq ?_
      refine wc_drawK (fun w => St Pu w0 w [.row b9 77 (rfV x rows)] []) 99 (by kernel_rfl) (by kernel_rfl) (by intro c e D w h; first | exact h.elim | (rcases h with ⟨h | h, _⟩ <;> cases h)) ?_
      replace H := H.drew
      have G := H
      replace H := H.only (i := 0) rfl
      apply ak_take (i := 0) rfl rfl rfl rfl (by kernel_rfl) (by with_reducible first | exact H | rfl)
      · intro w Q' HS hq; replace H := HS; clear HS; (apply ow_move; (· rfl); (· ((conv => lhs; whnf) <;> rfl))); exact ow_nil hq
      apply ak_take (i := 1) rfl rfl rfl rfl (by kernel_rfl) (by with_reducible first | exact H | rfl)
      · intro w Q' HS hq; replace H := HS; clear HS; (apply ow_move; (· rfl); (· ((conv => lhs; whnf) <;> rfl))); exact ow_nil hq
      replace H := G
      clear G
      have G := H
      replace H := H.only (i := 0) rfl
      apply ak_take (i := 3) rfl rfl rfl rfl (by kernel_rfl) (by with_reducible first | exact H | rfl)
      · intro w Q' HS hq; replace H := HS; clear HS; (apply ow_move; (· rfl); (· ((conv => lhs; whnf) <;> rfl))); exact ow_nil hq
      replace H := G
      clear G
      apply ak_one (i := 2)
      · kernel_rfl
      · rfl
      · rfl
      refine ow_call rfl rfl (ent (by kernel_rfl)) (CallsV.mono (lawNear_spec g ms (a : Int) hn h4 hW _ (hGr (pre := [_, _, _]) H)) ?_) rfl
      rintro v w ⟨p1, c1, rfl, H'⟩
      replace H : St Pu w0 w (.app p1 (nearN (tb ms) (a : Int)).length c1 87 3 ((nearN (tb ms) (a : Int)).flatMap opA) :: .row b9 77 (rfV x rows) :: .app p13 (edgesU (tb ms) (a + 1)).length c13 87 3 ((edgesU (tb ms) (a + 1)).flatMap opA) :: .app p15 (nearN (tb ms) (a : Int)).length c15 87 3 ((nearN (tb ms) (a : Int)).flatMap opA) :: R) [] := H.call H'
      clear H'
      refine ow_nil ⟨fun _ => H.only (i := 1) rfl, ?_⟩
      apply ak_one (i := 4)
      · kernel_rfl
      · rfl
      · rfl
      refine ow_call rfl rfl (ent (by kernel_rfl)) (CallsV.mono (lawSame_spec p1 p15 _ _ c1 c15 (nearN (tb ms) (a : Int)) (nearN (tb ms) (a : Int)) rfl rfl (by omega) (by omega) _ (appOk.sl (H.cap (i := 0) rfl)) (appOk.sl (H.cap (i := 3) rfl))) ?_) rfl
      rintro v w ⟨rfl, H'⟩
      replace H : St Pu w0 w (.row b9 77 (rfV x rows) :: .app p13 (edgesU (tb ms) (a + 1)).length c13 87 3 ((edgesU (tb ms) (a + 1)).flatMap opA) :: .app p15 (nearN (tb ms) (a : Int)).length c15 87 3 ((nearN (tb ms) (a : Int)).flatMap opA) :: R) [] := (H.call H').drop
      clear H'
      rw [decide_eq_true (rfl : nearN (tb ms) (a : Int) = nearN (tb ms) (a : Int))]
      refine ow_nil ⟨fun _ => H.only (i := 0) rfl, ?_⟩
      have G := H
      replace H := H.only (i := 0) rfl
      apply ak_take (i := 5) rfl rfl rfl rfl (by kernel_rfl) (by with_reducible first | exact H | rfl)
      · intro w Q' HS hq; replace H := HS; clear HS; refine ow_not rfl rfl ?_; exact ow_nil hq
      apply ak_take (i := 6) rfl rfl rfl rfl (by kernel_rfl) (by with_reducible first | exact H | rfl)
      · intro w Q' HS hq; replace H := HS; clear HS; (apply ow_move; (· rfl); (· ((conv => lhs; whnf) <;> rfl))); exact ow_nil hq
      apply ak_take (i := 7) rfl rfl rfl rfl (by kernel_rfl) (by with_reducible first | exact H | rfl)
      · intro w Q' HS hq; replace H := HS; clear HS; refine ow_guard_yes rfl rfl rfl rfl ?_; (apply ow_move; (· rfl); (· ((conv => lhs; whnf) <;> rfl))); exact ow_nil hq
      apply ak_take (i := 8) rfl rfl rfl rfl (by kernel_rfl) (by with_reducible first | exact H | rfl)
      · intro w Q' HS hq; replace H := HS; clear HS; refine ow_guard_yes rfl rfl rfl rfl ?_; (apply ow_move; (· rfl); (· ((conv => lhs; whnf) <;> rfl))); exact ow_nil hq
      replace H := G
      clear G
      have G := H
      replace H := H.only (i := 0) rfl
      apply ak_take (i := 10) rfl rfl rfl rfl (by kernel_rfl) (by with_reducible first | exact H | rfl)
      · intro w Q' HS hq; replace H := HS; clear HS; refine ow_guard_yes rfl rfl rfl rfl ?_; (apply ow_move; (· rfl); (· ((conv => lhs; whnf) <;> rfl))); exact ow_nil hq
      apply ak_take (i := 11) rfl rfl rfl rfl (by kernel_rfl) (by with_reducible first | exact H | rfl)
      · intro w Q' HS hq; replace H := HS; clear HS; refine ow_guard_yes rfl rfl rfl rfl ?_; (apply ow_move; (· rfl); (· ((conv => lhs; whnf) <;> rfl))); exact ow_nil hq
      apply ak_take (i := 12) rfl rfl rfl rfl (by kernel_rfl) (by with_reducible first | exact H | rfl)
      · intro w Q' HS hq; replace H := HS; clear HS; refine ow_guard_yes rfl rfl rfl rfl ?_; refine ow_idx1 (j := a) rfl (tyAt rfl) rfl (tyAt rfl) rfl rfl rfl hlt rfl ?_; exact ow_nil hq
      apply ak_take (i := 13) rfl rfl rfl rfl (by kernel_rfl) (by with_reducible first | exact H | rfl)
      · intro w Q' HS hq; replace H := HS; clear HS; refine ow_guard_yes rfl rfl rfl rfl ?_; refine ow_load rfl (tyAt rfl) rfl rfl ((H.oldSl hqq).int hlt) ?_; exact ow_nil hq
      replace H := G
      clear G
      apply ak_one (i := 9)
      · kernel_rfl
      · rfl
      · rfl
      refine ow_guard_yes rfl rfl rfl rfl ?_
      refine ow_call rfl rfl (ent (by kernel_rfl)) (CallsV.mono (weight_spec g ms (a : Int) _ (hGr (pre := [_, _, _]) H)) ?_) rfl
      rintro v w' ⟨rfl, rfl⟩
      rw [hwt]
      refine ow_nil ⟨fun _ => H.only (i := 0) rfl, ?_⟩
      have G := H
      replace H := H.only (i := 0) rfl
      apply ak_take (i := 14) rfl rfl rfl rfl (by kernel_rfl) (by with_reducible first | exact H | rfl)
      · intro w Q' HS hq; replace H := HS; clear HS; refine ow_guard_yes rfl rfl rfl rfl ?_; refine ow_neq rfl rfl rfl ?_; exact ow_nil hq
      replace H := G
      clear G
      rw [decide_eq_false (show ¬ ¬ (g.ws.getD a 0 = g.ws.getD a 0) from fun h => h rfl)]
      have G := H
      replace H := H.only (i := 0) rfl
      apply ak_take (i := 15) rfl rfl rfl rfl (by kernel_rfl) (by with_reducible first | exact H | rfl)
      · intro w Q' HS hq; replace H := HS; clear HS; (apply ow_pick_f; (· rfl); (· rfl); (· ((conv => lhs; whnf) <;> rfl))); exact ow_nil hq
      apply ak_take (i := 16) rfl rfl rfl rfl (by kernel_rfl) (by with_reducible first | exact H | rfl)
      · intro w Q' HS hq; replace H := HS; clear HS; (apply ow_move; (· rfl); (· ((conv => lhs; whnf) <;> rfl))); exact ow_nil hq
      apply ak_take (i := 17) rfl rfl rfl rfl (by kernel_rfl) (by with_reducible first | exact H | rfl)
      · intro w Q' HS hq; replace H := HS; clear HS; refine ow_guard_yes rfl rfl rfl rfl ?_; (apply ow_move; (· rfl); (· ((conv => lhs; whnf) <;> rfl))); exact ow_nil hq
      apply ak_take (i := 18) rfl rfl rfl rfl (by kernel_rfl) (by with_reducible first | exact H | rfl)
      · intro w Q' HS hq; replace H := HS; clear HS; refine ow_guard_yes rfl rfl rfl rfl ?_; (apply ow_move; (· rfl); (· ((conv => lhs; whnf) <;> rfl))); exact ow_nil hq
      replace H := G
      clear G
      have G := H
      replace H := H.only (i := 0) rfl
      apply ak_take (i := 20) rfl rfl rfl rfl (by kernel_rfl) (by with_reducible first | exact H | rfl)
      · intro w Q' HS hq; replace H := HS; clear HS; refine ow_guard_yes rfl rfl rfl rfl ?_; refine ow_loadA (l := rfV x rows) rfl (tyAt rfl) rfl rfl rfl (H.cells (i := 0) (o := 0) (m := 2) rfl rfl) ?_; exact ow_nil hq
      apply ak_take (i := 21) rfl rfl rfl rfl (by kernel_rfl) (by with_reducible first | exact H | rfl)
      · intro w Q' HS hq; replace H := HS; clear HS; refine ow_guard_yes rfl rfl rfl rfl ?_; (apply ow_move; (· rfl); (· ((conv => lhs; whnf) <;> rfl))); exact ow_nil hq
      replace H := G
      clear G
      apply ak_one (i := 19)
      · kernel_rfl
      · rfl
      · rfl
      refine ow_guard_yes rfl rfl rfl rfl ?_
      refine ow_call rfl rfl (ent (by kernel_rfl)) (CallsV.mono (degree_gspec g ms (a : Int) hn h4 hW _ (hGr (pre := [_, _, _]) H)) ?_) rfl
      rintro v w ⟨rfl, H'⟩
      replace H := H.call H'
      rw [List.nil_append] at H
      clear H'
      refine ow_nil ⟨fun _ => H.only (i := 0) rfl, ?_⟩
      apply ak_one (i := 22)
      · kernel_rfl
      · rfl
      · rfl
      refine ow_guard_yes rfl rfl rfl rfl ?_
      refine ow_call rfl rfl (ent (by kernel_rfl)) (CallsV.mono (refDegree_spec (tb ms) x rows (a : Int) hW hxl hx4 hM _ (hRf (pre := [_, _, _]) H)) ?_) rfl
      rintro v w ⟨rfl, H'⟩
      replace H := H.call H'
      rw [List.nil_append] at H
      clear H'
      refine ow_nil ⟨fun _ => H.only (i := 0) rfl, ?_⟩
      have G := H
      replace H := H.only (i := 0) rfl
      apply ak_take (i := 23) rfl rfl rfl rfl (by kernel_rfl) (by with_reducible first | exact H | rfl)
      · intro w Q' HS hq; replace H := HS; clear HS; refine ow_guard_yes rfl rfl rfl rfl ?_; refine ow_neq rfl rfl rfl ?_; exact ow_nil hq
      replace H := G
      clear G
      rw [decide_eq_false (show ¬ ¬ (degT (tb ms) (a : Int) = degT (tb ms) (a : Int)) from fun h => h rfl)]
      have G := H
      replace H := H.only (i := 0) rfl
      apply ak_take (i := 24) rfl rfl rfl rfl (by kernel_rfl) (by with_reducible first | exact H | rfl)
      · intro w Q' HS hq; replace H := HS; clear HS; (apply ow_pick_f; (· rfl); (· rfl); (· ((conv => lhs; whnf) <;> rfl))); exact ow_nil hq
      replace H := G
      clear G
      refine ak_done (by kernel_rfl) ?_
      refine wc_cond_false rfl ?_
      refine wc_skip ?_
      refine wc_region ?_
      refine ow_add rfl rfl rfl (by simp only [InK]; omega) ?_
      (apply ow_move; (· rfl); (· ((conv => lhs; whnf) <;> rfl)))
      refine ow_nil ?_
      exact ⟨(a + 1, p13, c13), by first | exact rfl | exact upd_self' rfl rfl | exact upd_self' rfl (upd_self' rfl rfl) | exact upd_self' rfl (upd_self' rfl (upd_self' rfl rfl)) | exact upd_self' rfl (upd_self' rfl (upd_self' rfl (upd_self' rfl rfl))), by repeat (first | with_reducible exact Off.mix | with_reducible exact Off.refl | ((with_reducible refine Off.upd ?_ ?_); (· rfl)) | ((with_reducible refine Off.mixN ?_ ?_); (· rfl))), ⟨rfl, hlt, H.sub ((((List.Sublist.refl R).cons _).cons_cons _).cons_cons _)⟩, by dsimp only; omega⟩
    · have ha' : a = g.ws.length := by omega
      subst ha'
      refine wc_exit ?_
      exact ⟨(p13, c13), by first | exact rfl | exact upd_self' rfl rfl | exact upd_self' rfl (upd_self' rfl rfl) | exact upd_self' rfl (upd_self' rfl (upd_self' rfl rfl)) | exact upd_self' rfl (upd_self' rfl (upd_self' rfl (upd_self' rfl rfl))), by repeat (first | with_reducible exact Off.mix | with_reducible exact Off.refl | ((with_reducible refine Off.upd ?_ ?_); (· rfl)) | ((with_reducible refine Off.mixN ?_ ?_); (· rfl))), ⟨rfl, H⟩⟩
  clear H
  rintro ⟨p13, c13⟩ j D w ⟨rfl, H⟩
  dsimp only at H ⊢
  have hE : edgesU (tb ms) g.ws.length = edgesT (tb ms) := by unfold edgesT; rw [hTl]
  have hel3 := hel2 g.ws.length (Nat.le_refl _)
  rw [hE] at H hel3 ⊢
  have htk : (edgesT (tb ms)).take (10000 : Int).toNat = edgesT (tb ms) := List.take_of_length_le (by rw [show (10000 : Int).toNat = 10000 from rfl]; omega)
  have hc13 := appOk.le (H.cap (i := 1) rfl)
  have hxx : ∀ z ∈ x.ws, mayW z := by rw [hxw]; exact hmay
  have e1 : wtG g.ws (-1) = 0 := by unfold wtG; rw [if_neg (fun h => absurd h.1 (by decide))]
  have e2 : wtG g.ws (g.ws.length : Int) = 0 := by unfold wtG; rw [if_neg (fun h => absurd h.2 (by omega))]
  have e3 : btw (tb ms) (-1) 0 = 0 := btw_out hW hTl (fun h => absurd h.1.1 (by decide))
  have e4 : btw (tb ms) 0 (g.ws.length : Int) = 0 := btw_out hW hTl (fun h => absurd h.2.2 (by omega))
  refine wc_seq ?_
  refine wc_region ?_
  (apply ow_move; (· rfl); (· ((conv => lhs; whnf) <;> rfl)))
  refine ow_and rfl rfl rfl ?_
  (apply ow_assign; (· rfl); (· ((conv => lhs; whnf) <;> rfl)))
  refine ow_nil ?_
  refine wc_seq ?_
  rw [show bw .and .i64 most 15 = (k15 : Int) from ek15]
  skip
  refine wc_drawK (fun w => St Pu w0 w [.row b9 77 (rfV x rows)] []) 99 (by kernel_rfl) (by kernel_rfl) (by intro c e D w h; first | exact h.elim | (rcases h with ⟨h | h, _⟩ <;> cases h)) ?_
  replace H := H.drew
  have G := H
  replace H := H.only (i := 0) rfl
  apply ak_take (i := 0) rfl rfl rfl rfl (by kernel_rfl) (by with_reducible first | exact H | rfl)
  · intro w Q' HS hq; replace H := HS; clear HS; (apply ow_move; (· rfl); (· ((conv => lhs; whnf) <;> rfl))); exact ow_nil hq
  apply ak_take (i := 1) rfl rfl rfl rfl (by kernel_rfl) (by with_reducible first | exact H | rfl)
  · intro w Q' HS hq; replace H := HS; clear HS; refine ow_eql rfl rfl rfl ?_; exact ow_nil hq
  apply ak_take (i := 2) rfl rfl rfl rfl (by kernel_rfl) (by with_reducible first | exact H | rfl)
  · intro w Q' HS hq; replace H := HS; clear HS; (apply ow_move; (· rfl); (· ((conv => lhs; whnf) <;> rfl))); exact ow_nil hq
  apply ak_take (i := 3) rfl rfl rfl rfl (by kernel_rfl) (by with_reducible first | exact H | rfl)
  · intro w Q' HS hq; replace H := HS; clear HS; refine ow_guard_yes rfl rfl rfl rfl ?_; (apply ow_move; (· rfl); (· ((conv => lhs; whnf) <;> rfl))); exact ow_nil hq
  replace H := G
  clear G
  have G := H
  replace H := H.only (i := 0) rfl
  apply ak_take (i := 5) rfl rfl rfl rfl (by kernel_rfl) (by with_reducible first | exact H | rfl)
  · intro w Q' HS hq; replace H := HS; clear HS; refine ow_guard_yes rfl rfl rfl rfl ?_; (apply ow_move; (· rfl); (· ((conv => lhs; whnf) <;> rfl))); exact ow_nil hq
  replace H := G
  clear G
  apply ak_one (i := 4)
  · kernel_rfl
  · rfl
  · rfl
  refine ow_guard_yes rfl rfl rfl rfl ?_
  refine ow_call rfl rfl (ent (by kernel_rfl)) (CallsV.mono (lawEdges_spec g ms 10000 hn h4 hW (by omega) _ (hGr (pre := [_, _]) H)) ?_) rfl
  rintro v w ⟨p1, c1, rfl, H'⟩
  replace H := H.call H'
  clear H'
  rw [htk] at H ⊢
  refine ow_nil ⟨fun _ => H.only (i := 1) rfl, ?_⟩
  apply ak_one (i := 6)
  · kernel_rfl
  · rfl
  · rfl
  refine ow_guard_yes rfl rfl rfl rfl ?_
  refine ow_call rfl rfl (ent (by kernel_rfl)) (CallsV.mono (lawSame_spec p1 p13 _ _ c1 c13 (edgesT (tb ms)) (edgesT (tb ms)) rfl rfl (by omega) (by omega) _ (appOk.sl (H.cap (i := 0) rfl)) (appOk.sl (H.cap (i := 2) rfl))) ?_) rfl
  rintro v w ⟨rfl, H'⟩
  replace H : St Pu w0 w (.row b9 77 (rfV x rows) :: .app p13 (edgesT (tb ms)).length c13 87 3 ((edgesT (tb ms)).flatMap opA) :: R) [] := (H.call H').drop
  clear H'
  rw [decide_eq_true (rfl : edgesT (tb ms) = edgesT (tb ms))]
  refine ow_nil ⟨fun _ => H.only (i := 0) rfl, ?_⟩
  have G := H
  replace H := H.only (i := 0) rfl
  apply ak_take (i := 7) rfl rfl rfl rfl (by kernel_rfl) (by with_reducible first | exact H | rfl)
  · intro w Q' HS hq; replace H := HS; clear HS; (apply ow_pick_t; (· rfl); (· rfl); (· ((conv => lhs; whnf) <;> rfl))); exact ow_nil hq
  apply ak_take (i := 8) rfl rfl rfl rfl (by kernel_rfl) (by with_reducible first | exact H | rfl)
  · intro w Q' HS hq; replace H := HS; clear HS; (apply ow_move; (· rfl); (· ((conv => lhs; whnf) <;> rfl))); exact ow_nil hq
  apply ak_take (i := 9) rfl rfl rfl rfl (by kernel_rfl) (by with_reducible first | exact H | rfl)
  · intro w Q' HS hq; replace H := HS; clear HS; refine ow_guard_yes rfl rfl rfl rfl ?_; (apply ow_move; (· rfl); (· ((conv => lhs; whnf) <;> rfl))); exact ow_nil hq
  apply ak_take (i := 10) rfl rfl rfl rfl (by kernel_rfl) (by with_reducible first | exact H | rfl)
  · intro w Q' HS hq; replace H := HS; clear HS; refine ow_guard_yes rfl rfl rfl rfl ?_; (apply ow_move; (· rfl); (· ((conv => lhs; whnf) <;> rfl))); exact ow_nil hq
  replace H := G
  clear G
  have G := H
  replace H := H.only (i := 0) rfl
  apply ak_take (i := 12) rfl rfl rfl rfl (by kernel_rfl) (by with_reducible first | exact H | rfl)
  · intro w Q' HS hq; replace H := HS; clear HS; refine ow_guard_yes rfl rfl rfl rfl ?_; (apply ow_move; (· rfl); (· ((conv => lhs; whnf) <;> rfl))); exact ow_nil hq
  apply ak_take (i := 13) rfl rfl rfl rfl (by kernel_rfl) (by with_reducible first | exact H | rfl)
  · intro w Q' HS hq; replace H := HS; clear HS; refine ow_guard_yes rfl rfl rfl rfl ?_; (apply ow_move; (· rfl); (· ((conv => lhs; whnf) <;> rfl))); exact ow_nil hq
  apply ak_take (i := 14) rfl rfl rfl rfl (by kernel_rfl) (by with_reducible first | exact H | rfl)
  · intro w Q' HS hq; replace H := HS; clear HS; refine ow_guard_yes rfl rfl rfl rfl ?_; (apply ow_move; (· rfl); (· ((conv => lhs; whnf) <;> rfl))); exact ow_nil hq
  apply ak_take (i := 15) rfl rfl rfl rfl (by kernel_rfl) (by with_reducible first | exact H | rfl)
  · intro w Q' HS hq; replace H := HS; clear HS; refine ow_guard_yes rfl rfl rfl rfl ?_; refine ow_len rfl rfl (tyAt rfl) rfl ?_; exact ow_nil hq
  apply ak_take (i := 16) rfl rfl rfl rfl (by kernel_rfl) (by with_reducible first | exact H | rfl)
  · intro w Q' HS hq; replace H := HS; clear HS; refine ow_guard_yes rfl rfl rfl rfl ?_; refine ow_min rfl rfl rfl ?_; exact ow_nil hq
  apply ak_take (i := 17) rfl rfl rfl rfl (by kernel_rfl) (by with_reducible first | exact H | rfl)
  · intro w Q' HS hq; replace H := HS; clear HS; refine ow_guard_yes rfl rfl rfl rfl ?_; refine ow_sliceHi (m := min (k15 : Int) ((edgesT (tb ms)).length : Int)) rfl (tyAt rfl) rfl (tyAt rfl) rfl rfl (by omega) (by omega) ?_; exact ow_nil hq
  replace H := G
  clear G
  apply ak_one (i := 11)
  · kernel_rfl
  · rfl
  · rfl
  refine ow_guard_yes rfl rfl rfl rfl ?_
  refine ow_call rfl rfl (ent (by kernel_rfl)) (CallsV.mono (lawEdges_spec g ms (k15 : Int) hn h4 hW (by omega) _ (hGr (pre := [_, _]) H)) ?_) rfl
  rintro v w ⟨p2, c2, rfl, H'⟩
  replace H := H.call H'
  clear H'
  rw [Int.toNat_natCast k15] at H ⊢
  refine ow_nil ⟨fun _ => H.only (i := 1) rfl, ?_⟩
  have htl : ((edgesT (tb ms)).take k15).length ≤ 900 := by rw [List.length_take]; omega
  have hs2 : SlH (hp w) (subP p13 c13 0 3) (((edgesT (tb ms)).take k15).flatMap opA) := by
    have h2 := (appOk.sl (H.cap (i := 2) rfl)).subP (cap := c13) (sz := 3) (by rw [flat_len opA_len]; omega) 0 (((edgesT (tb ms)).take k15).flatMap opA).length
    rw [Nat.zero_mul, List.drop_zero] at h2
    have e : ((edgesT (tb ms)).flatMap opA).take (((edgesT (tb ms)).take k15).flatMap opA).length = ((edgesT (tb ms)).take k15).flatMap opA := by
      conv => lhs; rw [← List.take_append_drop k15 (edgesT (tb ms)), List.flatMap_append, List.take_append_drop]
      exact List.take_left
    rwa [e] at h2
  apply ak_one (i := 18)
  · kernel_rfl
  · rfl
  · rfl
  refine ow_guard_yes rfl rfl rfl rfl ?_
  refine ow_call rfl rfl (ent (by kernel_rfl)) (CallsV.mono (lawSame_spec p2 (subP p13 c13 0 3) _ (min (k15 : Int) ((edgesT (tb ms)).length : Int)).toNat c2 c13 ((edgesT (tb ms)).take k15) ((edgesT (tb ms)).take k15) rfl (by rw [List.length_take]; omega) (by omega) (by omega) _ (appOk.sl (H.cap (i := 0) rfl)) hs2) ?_) rfl
  rintro v w ⟨rfl, H'⟩
  replace H : St Pu w0 w (.row b9 77 (rfV x rows) :: .app p13 (edgesT (tb ms)).length c13 87 3 ((edgesT (tb ms)).flatMap opA) :: R) [] := (H.call H').drop
  clear H' hs2
  rw [decide_eq_true (rfl : (edgesT (tb ms)).take k15 = (edgesT (tb ms)).take k15)]
  refine ow_nil ⟨fun _ => H.only (i := 0) rfl, ?_⟩
  have G := H
  replace H := H.only (i := 0) rfl
  apply ak_take (i := 19) rfl rfl rfl rfl (by kernel_rfl) (by with_reducible first | exact H | rfl)
  · intro w Q' HS hq; replace H := HS; clear HS; (apply ow_pick_t; (· rfl); (· rfl); (· ((conv => lhs; whnf) <;> rfl))); exact ow_nil hq
  apply ak_take (i := 20) rfl rfl rfl rfl (by kernel_rfl) (by with_reducible first | exact H | rfl)
  · intro w Q' HS hq; replace H := HS; clear HS; (apply ow_move; (· rfl); (· ((conv => lhs; whnf) <;> rfl))); exact ow_nil hq
  apply ak_take (i := 21) rfl rfl rfl rfl (by kernel_rfl) (by with_reducible first | exact H | rfl)
  · intro w Q' HS hq; replace H := HS; clear HS; refine ow_guard_yes rfl rfl rfl rfl ?_; (apply ow_move; (· rfl); (· ((conv => lhs; whnf) <;> rfl))); exact ow_nil hq
  replace H := G
  clear G
  have G := H
  replace H := H.only (i := 0) rfl
  apply ak_take (i := 23) rfl rfl rfl rfl (by kernel_rfl) (by with_reducible first | exact H | rfl)
  · intro w Q' HS hq; replace H := HS; clear HS; refine ow_guard_yes rfl rfl rfl rfl ?_; refine ow_loadA (l := rfV x rows) rfl (tyAt rfl) rfl rfl rfl (H.cells (i := 0) (o := 0) (m := 2) rfl rfl) ?_; exact ow_nil hq
  replace H := G
  clear G
  apply ak_one (i := 22)
  · kernel_rfl
  · rfl
  · rfl
  refine ow_guard_yes rfl rfl rfl rfl ?_
  refine ow_call rfl rfl (ent (by kernel_rfl)) (CallsV.mono (total_spec g ms h4 hmay _ (hGr (pre := [_, _]) H)) ?_) rfl
  rintro v w' ⟨rfl, rfl⟩
  refine ow_nil ⟨fun _ => H.only (i := 0) rfl, ?_⟩
  apply ak_one (i := 24)
  · kernel_rfl
  · rfl
  · rfl
  refine ow_guard_yes rfl rfl rfl rfl ?_
  refine ow_call rfl rfl (ent (by kernel_rfl)) (CallsV.mono (refTotal_spec x rows hx4 hxx _ (hRf (pre := [_, _]) H)) ?_) rfl
  rintro v w ⟨rfl, H'⟩
  replace H := H.call H'
  rw [List.nil_append] at H
  clear H'
  rw [hxw]
  refine ow_nil ⟨fun _ => H.only (i := 0) rfl, ?_⟩
  have G := H
  replace H := H.only (i := 0) rfl
  apply ak_take (i := 25) rfl rfl rfl rfl (by kernel_rfl) (by with_reducible first | exact H | rfl)
  · intro w Q' HS hq; replace H := HS; clear HS; refine ow_guard_yes rfl rfl rfl rfl ?_; refine ow_eql rfl rfl rfl ?_; exact ow_nil hq
  replace H := G
  clear G
  rw [decide_eq_true (rfl : g.ws.sum = g.ws.sum)]
  have G := H
  replace H := H.only (i := 0) rfl
  apply ak_take (i := 26) rfl rfl rfl rfl (by kernel_rfl) (by with_reducible first | exact H | rfl)
  · intro w Q' HS hq; replace H := HS; clear HS; (apply ow_pick_t; (· rfl); (· rfl); (· ((conv => lhs; whnf) <;> rfl))); exact ow_nil hq
  apply ak_take (i := 27) rfl rfl rfl rfl (by kernel_rfl) (by with_reducible first | exact H | rfl)
  · intro w Q' HS hq; replace H := HS; clear HS; (apply ow_move; (· rfl); (· ((conv => lhs; whnf) <;> rfl))); exact ow_nil hq
  apply ak_take (i := 28) rfl rfl rfl rfl (by kernel_rfl) (by with_reducible first | exact H | rfl)
  · intro w Q' HS hq; replace H := HS; clear HS; refine ow_guard_yes rfl rfl rfl rfl ?_; (apply ow_move; (· rfl); (· ((conv => lhs; whnf) <;> rfl))); exact ow_nil hq
  replace H := G
  clear G
  have G := H
  replace H := H.only (i := 0) rfl
  apply ak_take (i := 30) rfl rfl rfl rfl (by kernel_rfl) (by with_reducible first | exact H | rfl)
  · intro w Q' HS hq; replace H := HS; clear HS; refine ow_guard_yes rfl rfl rfl rfl ?_; (apply ow_move; (· rfl); (· ((conv => lhs; whnf) <;> rfl))); exact ow_nil hq
  apply ak_take (i := 31) rfl rfl rfl rfl (by kernel_rfl) (by with_reducible first | exact H | rfl)
  · intro w Q' HS hq; replace H := HS; clear HS; refine ow_guard_yes rfl rfl rfl rfl ?_; refine ow_len rfl rfl (tyAt rfl) rfl ?_; exact ow_nil hq
  replace H := G
  clear G
  apply ak_one (i := 29)
  · kernel_rfl
  · rfl
  · rfl
  refine ow_guard_yes rfl rfl rfl rfl ?_
  refine ow_call rfl rfl (ent (by kernel_rfl)) (CallsV.mono (glen_spec g ms _ (hGr (pre := [_, _]) H)) ?_) rfl
  rintro v w' ⟨rfl, rfl⟩
  refine ow_nil ⟨fun _ => H.only (i := 0) rfl, ?_⟩
  have G := H
  replace H := H.only (i := 0) rfl
  apply ak_take (i := 32) rfl rfl rfl rfl (by kernel_rfl) (by with_reducible first | exact H | rfl)
  · intro w Q' HS hq; replace H := HS; clear HS; refine ow_guard_yes rfl rfl rfl rfl ?_; refine ow_eql rfl rfl rfl ?_; exact ow_nil hq
  replace H := G
  clear G
  rw [decide_eq_true (rfl : ((g.ws.length : Nat) : Int) = ((g.ws.length : Nat) : Int))]
  have G := H
  replace H := H.only (i := 0) rfl
  apply ak_take (i := 33) rfl rfl rfl rfl (by kernel_rfl) (by with_reducible first | exact H | rfl)
  · intro w Q' HS hq; replace H := HS; clear HS; (apply ow_pick_t; (· rfl); (· rfl); (· ((conv => lhs; whnf) <;> rfl))); exact ow_nil hq
  apply ak_take (i := 34) rfl rfl rfl rfl (by kernel_rfl) (by with_reducible first | exact H | rfl)
  · intro w Q' HS hq; replace H := HS; clear HS; (apply ow_move; (· rfl); (· ((conv => lhs; whnf) <;> rfl))); exact ow_nil hq
  apply ak_take (i := 35) rfl rfl rfl rfl (by kernel_rfl) (by with_reducible first | exact H | rfl)
  · intro w Q' HS hq; replace H := HS; clear HS; refine ow_guard_yes rfl rfl rfl rfl ?_; (apply ow_move; (· rfl); (· ((conv => lhs; whnf) <;> rfl))); exact ow_nil hq
  replace H := G
  clear G
  apply ak_one (i := 36)
  · kernel_rfl
  · rfl
  · rfl
  refine ow_guard_yes rfl rfl rfl rfl ?_
  refine ow_call rfl rfl (ent (by kernel_rfl)) (CallsV.mono (weight_spec g ms (-1) _ (hGr (pre := [_, _]) H)) ?_) rfl
  rintro v w' ⟨rfl, rfl⟩
  rw [e1]
  refine ow_nil ⟨fun _ => H.only (i := 0) rfl, ?_⟩
  have G := H
  replace H := H.only (i := 0) rfl
  apply ak_take (i := 37) rfl rfl rfl rfl (by kernel_rfl) (by with_reducible first | exact H | rfl)
  · intro w Q' HS hq; replace H := HS; clear HS; refine ow_guard_yes rfl rfl rfl rfl ?_; refine ow_eql rfl rfl rfl ?_; exact ow_nil hq
  apply ak_take (i := 38) rfl rfl rfl rfl (by kernel_rfl) (by with_reducible first | exact H | rfl)
  · intro w Q' HS hq; replace H := HS; clear HS; (apply ow_pick_t; (· rfl); (· rfl); (· ((conv => lhs; whnf) <;> rfl))); exact ow_nil hq
  apply ak_take (i := 39) rfl rfl rfl rfl (by kernel_rfl) (by with_reducible first | exact H | rfl)
  · intro w Q' HS hq; replace H := HS; clear HS; (apply ow_move; (· rfl); (· ((conv => lhs; whnf) <;> rfl))); exact ow_nil hq
  apply ak_take (i := 40) rfl rfl rfl rfl (by kernel_rfl) (by with_reducible first | exact H | rfl)
  · intro w Q' HS hq; replace H := HS; clear HS; refine ow_guard_yes rfl rfl rfl rfl ?_; (apply ow_move; (· rfl); (· ((conv => lhs; whnf) <;> rfl))); exact ow_nil hq
  apply ak_take (i := 41) rfl rfl rfl rfl (by kernel_rfl) (by with_reducible first | exact H | rfl)
  · intro w Q' HS hq; replace H := HS; clear HS; refine ow_guard_yes rfl rfl rfl rfl ?_; (apply ow_move; (· rfl); (· ((conv => lhs; whnf) <;> rfl))); exact ow_nil hq
  apply ak_take (i := 42) rfl rfl rfl rfl (by kernel_rfl) (by with_reducible first | exact H | rfl)
  · intro w Q' HS hq; replace H := HS; clear HS; refine ow_guard_yes rfl rfl rfl rfl ?_; refine ow_len rfl rfl (tyAt rfl) rfl ?_; exact ow_nil hq
  replace H := G
  clear G
  apply ak_one (i := 43)
  · kernel_rfl
  · rfl
  · rfl
  refine ow_guard_yes rfl rfl rfl rfl ?_
  refine ow_call rfl rfl (ent (by kernel_rfl)) (CallsV.mono (weight_spec g ms (g.ws.length : Int) _ (hGr (pre := [_, _]) H)) ?_) rfl
  rintro v w' ⟨rfl, rfl⟩
  rw [e2]
  refine ow_nil ⟨fun _ => H.only (i := 0) rfl, ?_⟩
  have G := H
  replace H := H.only (i := 0) rfl
  apply ak_take (i := 44) rfl rfl rfl rfl (by kernel_rfl) (by with_reducible first | exact H | rfl)
  · intro w Q' HS hq; replace H := HS; clear HS; refine ow_guard_yes rfl rfl rfl rfl ?_; refine ow_eql rfl rfl rfl ?_; exact ow_nil hq
  apply ak_take (i := 45) rfl rfl rfl rfl (by kernel_rfl) (by with_reducible first | exact H | rfl)
  · intro w Q' HS hq; replace H := HS; clear HS; (apply ow_pick_t; (· rfl); (· rfl); (· ((conv => lhs; whnf) <;> rfl))); exact ow_nil hq
  apply ak_take (i := 46) rfl rfl rfl rfl (by kernel_rfl) (by with_reducible first | exact H | rfl)
  · intro w Q' HS hq; replace H := HS; clear HS; (apply ow_move; (· rfl); (· ((conv => lhs; whnf) <;> rfl))); exact ow_nil hq
  apply ak_take (i := 47) rfl rfl rfl rfl (by kernel_rfl) (by with_reducible first | exact H | rfl)
  · intro w Q' HS hq; replace H := HS; clear HS; refine ow_guard_yes rfl rfl rfl rfl ?_; (apply ow_move; (· rfl); (· ((conv => lhs; whnf) <;> rfl))); exact ow_nil hq
  replace H := G
  clear G
  apply ak_one (i := 48)
  · kernel_rfl
  · rfl
  · rfl
  refine ow_guard_yes rfl rfl rfl rfl ?_
  refine ow_call rfl rfl (ent (by kernel_rfl)) (CallsV.mono (between_spec g ms (-1) 0 hn h4 hW _ (hGr (pre := [_, _]) H)) ?_) rfl
  rintro v w ⟨rfl, H'⟩
  replace H := H.call H'
  rw [List.nil_append] at H
  clear H'
  rw [e3]
  refine ow_nil ⟨fun _ => H.only (i := 0) rfl, ?_⟩
  have G := H
  replace H := H.only (i := 0) rfl
  apply ak_take (i := 49) rfl rfl rfl rfl (by kernel_rfl) (by with_reducible first | exact H | rfl)
  · intro w Q' HS hq; replace H := HS; clear HS; refine ow_guard_yes rfl rfl rfl rfl ?_; refine ow_eql rfl rfl rfl ?_; exact ow_nil hq
  apply ak_take (i := 50) rfl rfl rfl rfl (by kernel_rfl) (by with_reducible first | exact H | rfl)
  · intro w Q' HS hq; replace H := HS; clear HS; (apply ow_pick_t; (· rfl); (· rfl); (· ((conv => lhs; whnf) <;> rfl))); exact ow_nil hq
  apply ak_take (i := 51) rfl rfl rfl rfl (by kernel_rfl) (by with_reducible first | exact H | rfl)
  · intro w Q' HS hq; replace H := HS; clear HS; (apply ow_move; (· rfl); (· ((conv => lhs; whnf) <;> rfl))); exact ow_nil hq
  apply ak_take (i := 52) rfl rfl rfl rfl (by kernel_rfl) (by with_reducible first | exact H | rfl)
  · intro w Q' HS hq; replace H := HS; clear HS; refine ow_guard_yes rfl rfl rfl rfl ?_; (apply ow_move; (· rfl); (· ((conv => lhs; whnf) <;> rfl))); exact ow_nil hq
  apply ak_take (i := 53) rfl rfl rfl rfl (by kernel_rfl) (by with_reducible first | exact H | rfl)
  · intro w Q' HS hq; replace H := HS; clear HS; refine ow_guard_yes rfl rfl rfl rfl ?_; (apply ow_move; (· rfl); (· ((conv => lhs; whnf) <;> rfl))); exact ow_nil hq
  apply ak_take (i := 54) rfl rfl rfl rfl (by kernel_rfl) (by with_reducible first | exact H | rfl)
  · intro w Q' HS hq; replace H := HS; clear HS; refine ow_guard_yes rfl rfl rfl rfl ?_; refine ow_len rfl rfl (tyAt rfl) rfl ?_; exact ow_nil hq
  replace H := G
  clear G
  apply ak_one (i := 55)
  · kernel_rfl
  · rfl
  · rfl
  refine ow_guard_yes rfl rfl rfl rfl ?_
  refine ow_call rfl rfl (ent (by kernel_rfl)) (CallsV.mono (between_spec g ms 0 (g.ws.length : Int) hn h4 hW _ (hGr (pre := [_, _]) H)) ?_) rfl
  rintro v w ⟨rfl, H'⟩
  replace H := H.call H'
  rw [List.nil_append] at H
  clear H'
  rw [e4]
  refine ow_nil ⟨fun _ => H.only (i := 0) rfl, ?_⟩
  have G := H
  replace H := H.only (i := 0) rfl
  apply ak_take (i := 56) rfl rfl rfl rfl (by kernel_rfl) (by with_reducible first | exact H | rfl)
  · intro w Q' HS hq; replace H := HS; clear HS; refine ow_guard_yes rfl rfl rfl rfl ?_; refine ow_eql rfl rfl rfl ?_; exact ow_nil hq
  apply ak_take (i := 57) rfl rfl rfl rfl (by kernel_rfl) (by with_reducible first | exact H | rfl)
  · intro w Q' HS hq; replace H := HS; clear HS; (apply ow_pick_t; (· rfl); (· rfl); (· ((conv => lhs; whnf) <;> rfl))); exact ow_nil hq
  apply ak_take (i := 58) rfl rfl rfl rfl (by kernel_rfl) (by with_reducible first | exact H | rfl)
  · intro w Q' HS hq; replace H := HS; clear HS; (apply ow_assign; (· rfl); (· ((conv => lhs; whnf) <;> rfl))); exact ow_nil hq
  replace H := G
  clear G
  refine ak_done (by kernel_rfl) ?_
  skip
  refine wc_ret ?_
  obtain ⟨w, hT, H⟩ := H.takes Try.prog
  refine ⟨.inr rfl, w, hT, _, .tmp .nil, ?_⟩
  exact ⟨rfl, H.none⟩
end Go.Proofs.Ytgliblmpiilloaa
