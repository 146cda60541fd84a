/- The statement's function 'sandtablelaw03.WireStays' returns true at every input, and changes nothing that was there. -/
import Derived.Test.YtphmjdbdhhbdoaaV32
namespace Go.Proofs.Ytphmjdbdhhbdoaa
set_option linter.all false
open Go Go.Sx Go.Proofs
set_option maxRecDepth 100000
set_option maxHeartbeats 2000000
abbrev rF : Rd := (0, 20, 0)
theorem rTake_F (bs : List Nat) (n f : Nat) : rTake bs rF n f = (rF, []) := by unfold rTake; rw [if_pos (by decide)]
theorem rNumber_F (bs : List Nat) : rNumber bs rF = (rF, 0) := by unfold rNumber; rw [if_pos (by decide)]
theorem rLength_F (bs : List Nat) (m : Int) : rLength bs rF m = (rF, 0) := by
  unfold rLength; rw [rNumber_F, if_neg (by dsimp only; omega)]
theorem rFixed_F (bs : List Nat) : rFixed bs rF = (rF, 0) := by unfold rFixed; rw [rTake_F]; rfl
theorem rText_F (bs : List Nat) (m : Int) : rText bs rF m = (rF, []) := by unfold rText; rw [rLength_F, rTake_F]
theorem rRaw_F (bs : List Nat) (n : Int) : rRaw bs rF n = (rF, []) := by unfold rRaw; rw [rTake_F]
theorem rEnd_F (bs : List Nat) : rEnd bs rF = rF := by unfold rEnd rFail; split <;> rfl
theorem rF_ok (bs : List Nat) : rOk bs rF := ⟨Nat.zero_le _, by decide, Nat.zero_le _⟩
theorem law03Stays (q : Option Addr) (cap : Nat) (bs : List Nat) (hcap : bs.length ≤ cap) (hb : ∀ c ∈ bs, c < 256) (qo : Option Addr) (co : Nat) (ops : List Op3) (hmo : ops.length ≤ 9223372036854775807) (hw : ∀ o ∈ ops, op3W o) (w0 : World) (hq : SlH (hp w0) q (nats .u8 bs)) (ho : SlH (hp w0) qo (ops.flatMap op3C)) :
    CallsV Try.prog 18 #[.slice q bs.length cap, .slice qo ops.length co] w0 fun v w => v = .bool true ∧ St Pu w0 w [] [] := by
  refine callsV_of Try.func18 rfl rfl ?_
  refine wc_seq ?_
  refine wc_region ?_
  (apply ow_assign; (· rfl); (· ((conv => lhs; whnf) <;> rfl)))
  refine ow_nil ?_
  refine wc_seq ?_
  refine wc_seq ?_
  refine wc_region ?_
  refine ow_call rfl rfl (ent (by kernel_rfl)) (CallsV.mono (alive03 w0) ?_) rfl
  rintro v w ⟨rfl, H⟩
  refine ow_not rfl rfl ?_
  refine ow_nil ?_
  refine wc_cond_false rfl ?_
  refine wc_skip ?_
  refine wc_seq ?_
  refine wc_seq ?_
  refine wc_region ?_
  (apply ow_move; (· rfl); (· ((conv => lhs; whnf) <;> rfl)))
  refine ow_len rfl rfl (tyAt rfl) rfl ?_
  refine ow_gtr rfl rfl rfl ?_
  (apply ow_move; (· rfl); (· ((conv => lhs; whnf) <;> rfl)))
  refine ow_guard_dec rfl rfl rfl (fun h => ?_) (fun h => ?_) <;> try dsimp only at h
  · refine ow_guard_no rfl rfl rfl rfl rfl rfl rfl ?_
    refine ow_guard_no rfl rfl rfl rfl rfl rfl rfl ?_
    refine ow_guard_no rfl rfl rfl rfl rfl rfl rfl ?_
    (apply ow_pick_t; (· rfl); (· rfl); (· ((conv => lhs; whnf) <;> rfl)))
    refine ow_nil ?_
    refine wc_cond_true rfl ?_
    refine wc_seq ?_
    refine wc_region ?_
    (apply ow_assign; (· rfl); (· ((conv => lhs; whnf) <;> rfl)))
    refine ow_nil ?_
    refine wc_ret ?_
    obtain ⟨w, hT, H⟩ := H.takes Try.prog
    refine ⟨.inr rfl, w, hT, _, .tmp .nil, ?_⟩
    exact ⟨rfl, H⟩
  refine ow_guard_yes rfl rfl rfl rfl ?_
  (apply ow_move; (· rfl); (· ((conv => lhs; whnf) <;> rfl)))
  refine ow_guard_yes rfl rfl rfl rfl ?_
  refine ow_len rfl rfl (tyAt rfl) rfl ?_
  refine ow_guard_yes rfl rfl rfl rfl ?_
  refine ow_gtr rfl rfl rfl ?_
  (apply ow_pick_f; (· rfl); (· rfl); (· ((conv => lhs; whnf) <;> rfl)))
  refine ow_nil ?_
  refine wc_cond_dec rfl (fun h => ?_) (fun h => ?_) <;> try dsimp only at h
  · refine wc_seq ?_
    refine wc_region ?_
    (apply ow_assign; (· rfl); (· ((conv => lhs; whnf) <;> rfl)))
    refine ow_nil ?_
    refine wc_ret ?_
    obtain ⟨w, hT, H⟩ := H.takes Try.prog
    refine ⟨.inr rfl, w, hT, _, .tmp .nil, ?_⟩
    exact ⟨rfl, H⟩
  have h200 : bs.length ≤ 200 := by omega
  have h40 : ops.length ≤ 40 := by omega
  refine wc_skip ?_
  refine wc_seq ?_
  refine wc_region ?_
  (apply ow_move; (· rfl); (· ((conv => lhs; whnf) <;> rfl)))
  refine ow_call rfl rfl (ent (by kernel_rfl)) (CallsV.mono (ropen_spec q _ cap _) ?_) rfl
  rintro v w ⟨r, rfl, H'⟩
  replace H : St Pu w0 w (rdC r q bs.length cap (0, 0, 0) ++ []) [] := H.call H'
  (apply ow_assign; (· rfl); (· ((conv => lhs; whnf) <;> rfl)))
  refine ow_nil ?_
  refine wc_seq ?_
  refine wc_region ?_
  (apply ow_move; (· rfl); (· ((conv => lhs; whnf) <;> rfl)))
  (apply ow_move; (· rfl); (· ((conv => lhs; whnf) <;> rfl)))
  refine ow_len rfl rfl (tyAt rfl) rfl ?_
  refine ow_add rfl rfl rfl (by simp only [InK]; omega) ?_
  refine ow_call rfl rfl (ent (by kernel_rfl)) (CallsV.mono (rraw_spec r q _ cap (0, 0, 0) bs rfl (by omega) hcap ⟨Nat.zero_le _, Nat.zero_le _, Nat.zero_le _⟩ ((bs.length : Int) + 1) (by omega) (by omega) _ H.begin (St.old H hq)) ?_) rfl
  rintro v w ⟨p1, c1, rfl, H'⟩
  replace H := H.callC (fun _ h => h) H'
  have er : rRaw bs (0, 0, 0) ((bs.length : Int) + 1) = (rF, []) := by
    unfold rRaw rTake
    rw [if_neg (by decide), if_pos (by dsimp only; omega)]; rfl
  rw [er] at H ⊢
  replace H : St Pu w0 w (rdC r q bs.length cap rF) [] := H.drop
  refine ow_nil ?_
  refine wc_seq ?_
  refine wc_region ?_
  (apply ow_move; (· rfl); (· ((conv => lhs; whnf) <;> rfl)))
  refine ow_call rfl rfl (ent (by kernel_rfl)) (CallsV.mono (rfault_spec r q _ cap rF _ (H.rowSl (i := 0) rfl)) ?_) rfl
  rintro v w ⟨rfl, H'⟩
  replace H := H.call H'
  rw [List.nil_append] at H
  skip
  refine ow_alloc (l := [.int .i64 0, .int .i64 0]) H rfl (tyAt rfl) rfl (fun bf w H => ?_)
  refine ow_storeA (i := 0) (o := 0) (l' := [.int .i64 20, .int .i64 0]) H (tyAt rfl) rfl rfl rfl rfl (by simp [Value.oneCell']) (by simp) (fun w H => ?_)
  dsimp only [List.set] at H
  refine ow_nil ?_
  refine wc_seq ?_
  refine wc_seq ?_
  refine wc_region ?_
  refine ow_loadA (l := [.int .i64 20, .int .i64 0]) rfl (tyAt rfl) rfl rfl rfl (H.cells (i := 0) (o := 0) (m := 2) rfl rfl) ?_
  refine ow_build (l := [.int .i64 20, .int .i64 0]) (vs := [(0, .int .i64 20)]) rfl (tyAt rfl) rfl (.cons (tyAt rfl) (.cons (tyAt rfl) .nil)) rfl rfl ?_
  refine ow_neqF rfl rfl rfl (tyAt rfl) rfl (by kernel_rfl) (by kernel_rfl) (.int (by decide) (tyAt rfl) rfl rfl rfl rfl (.int (by decide) (tyAt rfl) rfl rfl rfl rfl .nil)) ?_
  (apply ow_move; (· rfl); (· ((conv => lhs; whnf) <;> rfl)))
  refine ow_guard_yes rfl rfl rfl rfl ?_
  (apply ow_move; (· rfl); (· ((conv => lhs; whnf) <;> rfl)))
  refine ow_guard_yes rfl rfl rfl rfl ?_
  refine ow_call rfl rfl (ent (by kernel_rfl)) (CallsV.mono (rat_spec r q _ cap rF _ (H.rowSl (i := 1) rfl)) ?_) rfl
  rintro v w ⟨rfl, rfl⟩
  refine ow_guard_yes rfl rfl rfl rfl ?_
  refine ow_neq rfl rfl rfl ?_
  (apply ow_pick_f; (· rfl); (· rfl); (· ((conv => lhs; whnf) <;> rfl)))
  refine ow_nil ?_
  refine wc_cond_false rfl ?_
  refine wc_skip ?_
  refine wc_seq ?_
  refine wc_seq ?_
  refine wc_region ?_
  (apply ow_move; (· rfl); (· ((conv => lhs; whnf) <;> rfl)))
  refine ow_len rfl rfl (tyAt rfl) rfl ?_
  (apply ow_move; (· rfl); (· ((conv => lhs; whnf) <;> rfl)))
  refine ow_nil ?_
  replace H : St Pu w0 w (rdC r q bs.length cap rF ++ [.row bf 83 [.int .i64 20, .int .i64 0]]) [] := H.perm (List.Perm.swap _ _ _)
  refine wc_blockJ [4, 8, 9, 39, 40, 41, 42, 43, 44, 45, 46, 47, 48, 49, 50, 51, 52, 53, 54, 55, 56, 57, 58, 59, 60, 61, 62, 63, 64, 65, 66, 67, 68, 69, 70, 71, 72, 73, 74, 75] (fun (s : Unit) e => e) (fun s D w => D = [] ∧ St Pu w0 w (rdC r q bs.length cap rF ++ [.row bf 83 [.int .i64 20, .int .i64 0]]) []) ?_ ?_
  · refine wc_loopS [4, 8, 9, 39, 40, 41, 42, 43, 44, 45, 46, 47, 48, 49, 50, 51, 52, 53, 54, 55, 56, 57, 58, 59, 60, 61, 62, 63, 64, 65, 66, 67, 68, 69, 70, 71, 72, 73, 74, 75] (fun (s : Nat) e => upd e 39 (.int .i64 s)) (fun s D w => D = [] ∧ s ≤ ops.length ∧ St Pu w0 w (rdC r q bs.length cap rF ++ [.row bf 83 [.int .i64 20, .int .i64 0]]) []) (fun s _ => ops.length - s) 0 (by first | exact rfl | exact upd_self' rfl rfl | exact upd_self' rfl (upd_self' rfl rfl) | exact upd_self' rfl (upd_self' rfl (upd_self' rfl rfl)) | exact upd_self' rfl (upd_self' rfl (upd_self' rfl (upd_self' rfl rfl)))) ⟨rfl, Nat.zero_le _, H⟩ ?_
    clear H' H w
    rintro i j D w ⟨rfl, hi, H⟩
    refine wc_seq ?_
    refine wc_region ?_
    refine ow_lss rfl rfl rfl ?_
    refine ow_nil ?_
    refine wc_seq ?_
    refine wc_cond_dec rfl (fun h => ?_) (fun h => ?_) <;> try dsimp only at h
    · have hlt : i < ops.length := by omega
      obtain ⟨x, hx⟩ : ∃ x, ops[i]? = some x := ⟨_, List.getElem?_eq_getElem hlt⟩
      obtain ⟨_, ⟨hn1, hn2⟩, _, _⟩ := hw x (List.mem_of_getElem? hx)
      have hq' := H.oldSl ho
      obtain ⟨bq, oq, rfl⟩ := hq'.some_of (by rw [flat_len op3_len]; omega)
      refine wc_skip ?_
      refine wc_seq ?_
      refine wc_block ?_
      refine wc_seq ?_
      refine wc_region ?_
      refine ow_idxK (j := i) (sz := 3) rfl (tyAt rfl) rfl (tyAt rfl) rfl rfl rfl hlt rfl ?_
      refine ow_loadA (l := op3C x) rfl (tyAt rfl) rfl rfl rfl (hq'.elem op3_len hx) ?_
      refine ow_alloc (l := [.int .i64 0, .int .i64 0, .string ⟨#[]⟩]) H rfl (tyAt rfl) rfl (fun bo w H => ?_)
      refine ow_storeA (i := 0) (o := 0) (l' := op3C x) H (tyAt rfl) rfl rfl rfl rfl (by simp [op3C, Value.oneCell']) (by simp [op3C]) (fun w H => ?_)
      dsimp only [List.set] at H
      refine ow_nil ?_
      refine wc_seq ?_
      refine wc_region ?_
      refine ow_fieldAddr rfl (tyAt rfl) rfl rfl rfl (tyAt rfl) rfl rfl ?_
      refine ow_load rfl (tyAt rfl) rfl rfl (H.cell (i := 0) rfl rfl) ?_
      replace H : St Pu w0 w (rdC r q bs.length cap rF ++ [.row bf 83 [.int .i64 20, .int .i64 0]]) [] := H.drop
      skip
      refine ow_call rfl rfl (ent (by kernel_rfl)) (CallsV.mono (held_spec x.2.1 (-5) 300 _) ?_) rfl
      rintro v w ⟨rfl, rfl⟩
      obtain ⟨n, hn, hn1, hn2⟩ : ∃ n : Int, (if (if x.2.1 > 300 then 300 else x.2.1) < -5 then -5 else if x.2.1 > 300 then 300 else x.2.1) = n ∧ -5 ≤ n ∧ n ≤ 300 := ⟨_, rfl, by split <;> split <;> omega, by split <;> split <;> omega⟩
      rw [hn]
      (apply ow_assign; (· rfl); (· ((conv => lhs; whnf) <;> rfl)))
      refine ow_nil ?_
      refine wc_seq ?_
      refine wc_seq ?_
      refine wc_region ?_
      (apply ow_move; (· rfl); (· ((conv => lhs; whnf) <;> rfl)))
      refine ow_call rfl rfl (ent (by kernel_rfl)) (CallsV.mono (rfixed_spec r q _ cap rF bs rfl (by omega) hb hcap (rF_ok bs) _ H.begin (St.old H hq)) ?_) rfl
      rintro v w ⟨rfl, H'⟩
      replace H := H.callC (fun _ h => h) H'
      rw [rFixed_F] at H ⊢
      refine ow_neq rfl rfl rfl ?_
      (apply ow_move; (· rfl); (· ((conv => lhs; whnf) <;> rfl)))
      refine ow_guard_yes rfl rfl rfl rfl ?_
      (apply ow_move; (· rfl); (· ((conv => lhs; whnf) <;> rfl)))
      refine ow_guard_yes rfl rfl rfl rfl ?_
      (apply ow_move; (· rfl); (· ((conv => lhs; whnf) <;> rfl)))
      refine ow_guard_yes rfl rfl rfl rfl ?_
      refine ow_call rfl rfl (ent (by kernel_rfl)) (CallsV.mono (rcount_spec r q _ cap rF bs rfl (by omega) hb hcap (rF_ok bs) n (by omega) (by omega) _ H.begin (St.old H hq)) ?_) rfl
      rintro v w ⟨rfl, H'⟩
      replace H := H.callC (fun _ h => h) H'
      rw [rLength_F] at H ⊢
      refine ow_guard_yes rfl rfl rfl rfl ?_
      refine ow_neq rfl rfl rfl ?_
      (apply ow_pick_f; (· rfl); (· rfl); (· ((conv => lhs; whnf) <;> rfl)))
      (apply ow_move; (· rfl); (· ((conv => lhs; whnf) <;> rfl)))
      refine ow_guard_yes rfl rfl rfl rfl ?_
      (apply ow_move; (· rfl); (· ((conv => lhs; whnf) <;> rfl)))
      refine ow_guard_yes rfl rfl rfl rfl ?_
      refine ow_call rfl rfl (ent (by kernel_rfl)) (CallsV.mono (rnum_spec r q _ cap rF bs rfl (by omega) hb hcap (rF_ok bs) _ H.begin (St.old H hq)) ?_) rfl
      rintro v w ⟨rfl, H'⟩
      replace H := H.callC (fun _ h => h) H'
      rw [rNumber_F] at H ⊢
      refine ow_guard_yes rfl rfl rfl rfl ?_
      refine ow_neq rfl rfl rfl ?_
      (apply ow_pick_f; (· rfl); (· rfl); (· ((conv => lhs; whnf) <;> rfl)))
      (apply ow_move; (· rfl); (· ((conv => lhs; whnf) <;> rfl)))
      refine ow_guard_yes rfl rfl rfl rfl ?_
      (apply ow_move; (· rfl); (· ((conv => lhs; whnf) <;> rfl)))
      refine ow_guard_yes rfl rfl rfl rfl ?_
      (apply ow_move; (· rfl); (· ((conv => lhs; whnf) <;> rfl)))
      refine ow_guard_yes rfl rfl rfl rfl ?_
      refine ow_call rfl rfl (ent (by kernel_rfl)) (CallsV.mono (rtext_spec r q _ cap rF bs rfl (by omega) hb hcap (rF_ok bs) n (by omega) (by omega) _ H.begin (St.old H hq)) ?_) rfl
      rintro v w ⟨rfl, H'⟩
      replace H := H.callC (fun _ h => h) H'
      rw [rText_F] at H ⊢
      refine ow_guard_yes rfl rfl rfl rfl ?_
      refine ow_strcmp (b := false) rfl rfl rfl (by decide +kernel) ?_
      (apply ow_pick_f; (· rfl); (· rfl); (· ((conv => lhs; whnf) <;> rfl)))
      (apply ow_move; (· rfl); (· ((conv => lhs; whnf) <;> rfl)))
      refine ow_guard_yes rfl rfl rfl rfl ?_
      (apply ow_move; (· rfl); (· ((conv => lhs; whnf) <;> rfl)))
      refine ow_guard_yes rfl rfl rfl rfl ?_
      (apply ow_move; (· rfl); (· ((conv => lhs; whnf) <;> rfl)))
      refine ow_guard_yes rfl rfl rfl rfl ?_
      refine ow_call rfl rfl (ent (by kernel_rfl)) (CallsV.mono (rraw_spec r q _ cap rF bs rfl (by omega) hcap (rF_ok bs) n (by omega) (by omega) _ H.begin (St.old H hq)) ?_) rfl
      rintro v w ⟨p2, c2, rfl, H'⟩
      replace H := H.callC (fun _ h => h) H'
      rw [rRaw_F] at H ⊢
      replace H : St Pu w0 w (rdC r q bs.length cap rF ++ [.row bf 83 [.int .i64 20, .int .i64 0]]) [] := H.drop
      refine ow_guard_yes rfl rfl rfl rfl ?_
      refine ow_len rfl rfl (tyAt rfl) rfl ?_
      refine ow_guard_yes rfl rfl rfl rfl ?_
      refine ow_neq rfl rfl rfl ?_
      (apply ow_pick_f; (· rfl); (· rfl); (· ((conv => lhs; whnf) <;> rfl)))
      refine ow_nil ?_
      refine wc_cond_false rfl ?_
      refine wc_skip ?_
      refine wc_region ?_
      (apply ow_move; (· rfl); (· ((conv => lhs; whnf) <;> rfl)))
      refine ow_call rfl rfl (ent (by kernel_rfl)) (CallsV.mono (rend_spec r q _ cap rF bs rfl _ H.begin) ?_) rfl
      rintro v w H'
      replace H := H.callC (fun _ h => h) H'
      rw [rEnd_F] at H
      refine ow_nil ?_
      refine wc_region ?_
      refine ow_add rfl rfl rfl (by simp only [InK]; omega) ?_
      (apply ow_move; (· rfl); (· ((conv => lhs; whnf) <;> rfl)))
      refine ow_nil ?_
      exact ⟨i + 1, by first | exact rfl | exact upd_self' rfl rfl | exact upd_self' rfl (upd_self' rfl rfl) | exact upd_self' rfl (upd_self' rfl (upd_self' rfl rfl)) | exact upd_self' rfl (upd_self' rfl (upd_self' rfl (upd_self' rfl rfl))), by repeat (first | with_reducible exact Off.mix | with_reducible exact Off.refl | ((with_reducible refine Off.upd ?_ ?_); (· rfl))), ⟨rfl, hlt, H⟩, by omega⟩
    · refine wc_exit ?_
      exact ⟨(), by first | exact rfl | exact upd_self' rfl rfl | exact upd_self' rfl (upd_self' rfl rfl) | exact upd_self' rfl (upd_self' rfl (upd_self' rfl rfl)) | exact upd_self' rfl (upd_self' rfl (upd_self' rfl (upd_self' rfl rfl))), by repeat (first | with_reducible exact Off.mix | with_reducible exact Off.refl | ((with_reducible refine Off.upd ?_ ?_); (· rfl))), rfl, H⟩
  clear H' H w
  rintro _ j D w ⟨rfl, H⟩
  refine wc_seq ?_
  have G := H.drew
  refine wc_drawK (fun w => St Pu w0 w (rdC r q bs.length cap rF ++ [.row bf 83 [.int .i64 20, .int .i64 0]]) []) 99 (by kernel_rfl) (by kernel_rfl) (by intro c e D w h; first | exact h.elim | (rcases h with ⟨h | h, _⟩ <;> cases h)) ?_
  replace H := H.drew
  apply ak_take (i := 0) rfl rfl rfl rfl (by kernel_rfl) (by with_reducible first | exact H | rfl)
  · intro w Q' HS hq; replace H := HS; clear HS; (apply ow_move; (· rfl); (· ((conv => lhs; whnf) <;> rfl))); exact ow_nil hq
  apply ak_take (i := 2) rfl rfl rfl rfl (by kernel_rfl) (by with_reducible first | exact H | rfl)
  · intro w Q' HS hq; replace H := HS; clear HS; refine ow_loadA (l := [.int .i64 20, .int .i64 0]) rfl (tyAt rfl) rfl rfl rfl (H.cells (i := 1) (o := 0) (m := 2) rfl rfl) ?_; exact ow_nil hq
  apply ak_one (i := 1)
  · kernel_rfl
  · rfl
  · rfl
  refine ow_call rfl rfl (ent (by kernel_rfl)) (CallsV.mono (rfault_spec r q _ cap rF _ (H.rowSl (i := 0) rfl)) ?_) rfl
  rintro v w ⟨rfl, H'⟩
  replace H := H.call H'
  rw [List.nil_append] at H
  refine ow_nil ⟨fun _ => H, ?_⟩
  apply ak_take (i := 3) rfl rfl rfl rfl (by kernel_rfl) (by with_reducible first | exact H | rfl)
  · intro w Q' HS hq; replace H := HS; clear HS; refine ow_eqlF rfl rfl rfl (tyAt rfl) rfl (by kernel_rfl) (by kernel_rfl) (.int (by decide) (tyAt rfl) rfl rfl rfl rfl (.int (by decide) (tyAt rfl) rfl rfl rfl rfl .nil)) ?_; exact ow_nil hq
  apply ak_take (i := 4) rfl rfl rfl rfl (by kernel_rfl) (by with_reducible first | exact H | rfl)
  · intro w Q' HS hq; replace H := HS; clear HS; (apply ow_move; (· rfl); (· ((conv => lhs; whnf) <;> rfl))); exact ow_nil hq
  apply ak_take (i := 5) rfl rfl rfl rfl (by kernel_rfl) (by with_reducible first | exact H | rfl)
  · intro w Q' HS hq; replace H := HS; clear HS; refine ow_guard_yes rfl rfl rfl rfl ?_; (apply ow_move; (· rfl); (· ((conv => lhs; whnf) <;> rfl))); exact ow_nil hq
  apply ak_one (i := 6)
  · kernel_rfl
  · rfl
  · rfl
  refine ow_guard_yes rfl rfl rfl rfl ?_
  refine ow_call rfl rfl (ent (by kernel_rfl)) (CallsV.mono (rat_spec r q _ cap rF _ (H.rowSl (i := 0) rfl)) ?_) rfl
  rintro v w ⟨rfl, rfl⟩
  refine ow_nil ⟨fun _ => H, ?_⟩
  apply ak_take (i := 7) rfl rfl rfl rfl (by kernel_rfl) (by with_reducible first | exact H | rfl)
  · intro w Q' HS hq; replace H := HS; clear HS; refine ow_guard_yes rfl rfl rfl rfl ?_; refine ow_eql rfl rfl rfl ?_; exact ow_nil hq
  apply ak_take (i := 8) rfl rfl rfl rfl (by kernel_rfl) (by with_reducible first | exact H | rfl)
  · intro w Q' HS hq; replace H := HS; clear HS; (apply ow_pick_t; (· rfl); (· rfl); (· ((conv => lhs; whnf) <;> rfl))); exact ow_nil hq
  apply ak_take (i := 9) rfl rfl rfl rfl (by kernel_rfl) (by with_reducible first | exact H | rfl)
  · intro w Q' HS hq; replace H := HS; clear HS; (apply ow_assign; (· rfl); (· ((conv => lhs; whnf) <;> rfl))); exact ow_nil hq
  refine ak_done (by kernel_rfl) ?_
  skip
  refine wc_ret ?_
  obtain ⟨w, hT, H⟩ := H.takes Try.prog
  refine ⟨.inr rfl, w, hT, _, .tmp .nil, ?_⟩
  exact ⟨rfl, H.none⟩
end Go.Proofs.Ytphmjdbdhhbdoaa
