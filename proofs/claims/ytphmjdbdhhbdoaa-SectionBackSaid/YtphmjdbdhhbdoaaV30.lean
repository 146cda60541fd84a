/- few and alive of the statements of layer 3: functions 55 and 54. -/
import Derived.Test.YtphmjdbdhhbdoaaV25
import Derived.Test.YtphmjdbdhhbdoaaO
namespace Go.Proofs.Ytphmjdbdhhbdoaa
set_option linter.all false
open Go Go.Sx Go.Proofs
set_option maxRecDepth 100000
set_option maxHeartbeats 2000000
def few3 (ops : List Op3) : Prop := (∀ o ∈ ops, o.2.2.length ≤ 60) ∧ ops.length ≤ 40
theorem few3_spec (q : Option Addr) (len cap : Nat) (ops : List Op3) (hl : len = ops.length) (hm : ops.length ≤ 9223372036854775807) (w0 : World) (hq : SlH (hp w0) q (ops.flatMap op3C)) :
    CallsV Try.prog 55 #[.slice q len cap] w0 fun v w => (v = .bool false ∨ v = .bool true ∧ few3 ops) ∧ St Pu w0 w [] [] := by
  subst hl
  refine callsV_of Try.func55 rfl rfl ?_
  have H := St.init w0
  refine wc_seq ?_
  refine wc_region ?_
  (apply ow_assign; (· rfl); (· ((conv => lhs; whnf) <;> rfl)))
  refine ow_nil ?_
  refine wc_seq ?_
  refine wc_seq ?_
  refine wc_region ?_
  (apply ow_move; (· rfl); (· ((conv => lhs; whnf) <;> rfl)))
  refine ow_len rfl rfl (tyAt rfl) rfl ?_
  (apply ow_move; (· rfl); (· ((conv => lhs; whnf) <;> rfl)))
  refine ow_nil ?_
  refine wc_block ?_
  refine wc_loopS [2, 4, 7, 8, 9, 10, 11, 12, 13, 14, 15] (fun (s : Nat) e => upd e 7 (.int .i64 s)) (fun s D w => D = [] ∧ s ≤ ops.length ∧ (∀ o ∈ ops.take s, o.2.2.length ≤ 60) ∧ St Pu w0 w [] []) (fun s _ => ops.length - s) 0 (by first | exact rfl | exact upd_self' rfl rfl | exact upd_self' rfl (upd_self' rfl rfl) | exact upd_self' rfl (upd_self' rfl (upd_self' rfl rfl)) | exact upd_self' rfl (upd_self' rfl (upd_self' rfl (upd_self' rfl rfl)))) ⟨rfl, Nat.zero_le _, by simp, H⟩ ?_
  clear H
  rintro i j D w ⟨rfl, hi, ht, H⟩
  refine wc_seq ?_
  refine wc_region ?_
  refine ow_lss rfl rfl rfl ?_
  refine ow_nil ?_
  refine wc_seq ?_
  refine wc_cond_dec rfl (fun h => ?_) (fun h => ?_) <;> try dsimp only at h
  · have hlt : i < ops.length := by omega
    obtain ⟨x, hx⟩ : ∃ x, ops[i]? = some x := ⟨_, List.getElem?_eq_getElem hlt⟩
    have hq' := H.oldSl hq
    obtain ⟨b, o, rfl⟩ := hq'.some_of (by rw [flat_len op3_len]; omega)
    refine wc_skip ?_
    refine wc_seq ?_
    refine wc_block ?_
    refine wc_seq ?_
    refine wc_region ?_
    refine ow_idxK (j := i) (sz := 3) rfl (tyAt rfl) rfl (tyAt rfl) rfl rfl rfl hlt rfl ?_
    refine ow_loadA (l := op3C x) rfl (tyAt rfl) rfl rfl rfl (hq'.elem op3_len hx) ?_
    refine ow_alloc (l := [.int .i64 0, .int .i64 0, .string ⟨#[]⟩]) H rfl (tyAt rfl) rfl (fun bo w H => ?_)
    refine ow_storeA (i := 0) (o := 0) (l' := op3C x) H (tyAt rfl) rfl rfl rfl rfl (by simp [op3C, Value.oneCell']) (by simp [op3C]) (fun w H => ?_)
    dsimp only [List.set] at H
    refine ow_nil ?_
    refine wc_seq ?_
    refine wc_region ?_
    refine ow_fieldAddr rfl (tyAt rfl) rfl rfl rfl (tyAt rfl) rfl rfl ?_
    refine ow_load rfl (tyAt rfl) rfl rfl (H.cell (i := 0) rfl rfl) ?_
    refine ow_lenStr rfl rfl (tyAt rfl) rfl ?_
    refine ow_gtr rfl rfl rfl ?_
    refine ow_nil ?_
    rw [strN_size]
    refine wc_cond_dec rfl (fun h => ?_) (fun h => ?_) <;> try dsimp only at h
    · refine wc_seq ?_
      refine wc_region ?_
      (apply ow_assign; (· rfl); (· ((conv => lhs; whnf) <;> rfl)))
      refine ow_nil ?_
      refine wc_ret ?_
      obtain ⟨w, hT, H⟩ := H.takes Try.prog
      refine ⟨.inr rfl, w, hT, _, .tmp .nil, ?_⟩
      exact ⟨.inl rfl, H.none⟩
    · refine wc_skip ?_
      refine wc_region ?_
      refine ow_add rfl rfl rfl (by simp only [InK]; omega) ?_
      (apply ow_move; (· rfl); (· ((conv => lhs; whnf) <;> rfl)))
      refine ow_nil ?_
      refine ⟨i + 1, by first | exact rfl | exact upd_self' rfl rfl | exact upd_self' rfl (upd_self' rfl rfl) | exact upd_self' rfl (upd_self' rfl (upd_self' rfl rfl)) | exact upd_self' rfl (upd_self' rfl (upd_self' rfl (upd_self' rfl rfl))), by repeat (first | with_reducible exact Off.mix | with_reducible exact Off.refl | ((with_reducible refine Off.upd ?_ ?_); (· rfl))), ⟨rfl, hlt, ?_, H.none⟩, by omega⟩
      intro o ho
      rw [take_snoc hx] at ho
      rcases List.mem_append.1 ho with h1 | h1
      · exact ht o h1
      · rw [List.mem_singleton.1 h1]; omega
  · have hi' : i = ops.length := by omega
    subst hi'
    rw [List.take_length] at ht
    refine wc_exit ?_
    refine wc_seq ?_
    refine wc_region ?_
    (apply ow_move; (· rfl); (· ((conv => lhs; whnf) <;> rfl)))
    refine ow_len rfl rfl (tyAt rfl) rfl ?_
    refine ow_leq rfl rfl rfl ?_
    (apply ow_assign; (· rfl); (· ((conv => lhs; whnf) <;> rfl)))
    refine ow_nil ?_
    refine wc_ret ?_
    obtain ⟨w, hT, H⟩ := H.takes Try.prog
    refine ⟨.inr rfl, w, hT, _, .tmp .nil, ?_⟩
    by_cases h40 : ops.length ≤ 40
    · exact ⟨.inr ⟨congrArg Value.bool (decide_eq_true (by omega)), ht, h40⟩, H⟩
    · exact ⟨.inl (congrArg Value.bool (decide_eq_false (by omega))), H⟩
def d8 : List Nat := [2, 97, 98, 1, 2, 1, 0, 0]
theorem alive03 (w0 : World) : CallsV Try.prog 54 #[] w0 fun v w => v = .bool true ∧ St Pu w0 w [] [] := by
  refine callsV_of Try.func54 rfl rfl ?_
  have hb8 : ∀ c ∈ d8, c < 256 := by decide
  have H := St.init w0
  refine wc_seq ?_
  refine wc_region ?_
  (apply ow_assign; (· rfl); (· ((conv => lhs; whnf) <;> rfl)))
  refine ow_nil ?_
  refine wc_seq ?_
  refine wc_region ?_
  refine ow_alloc (l := [.slice none 0 0]) H rfl (tyAt rfl) rfl (fun b w H => ?_)
  replace H : St Pu w0 w (wrC b none 0 [] ++ []) [] := (H.nilApp 5 1).perm (List.Perm.swap _ _ _)
  refine ow_nil ?_
  refine wc_seq ?_
  refine wc_region ?_
  refine ow_call rfl rfl (ent (by kernel_rfl)) (CallsV.mono (wtext_spec b none 0 [] (by simp) [97, 98] (by simp) (by decide) _ H.begin) ?_) rfl
  rintro v w ⟨p1, c1, H'⟩
  replace H := H.callC (fun _ h => h) H'
  rw [show [] ++ (putN [97, 98].length ++ [97, 98]) = [2, 97, 98] by rw [show putN [97, 98].length = [2] from putN_lt (by decide)]; rfl] at H
  refine ow_nil ?_
  refine wc_seq ?_
  refine wc_region ?_
  refine ow_call rfl rfl (ent (by kernel_rfl)) (CallsV.mono (wnum_spec b p1 c1 [2, 97, 98] (by simp) (-1) (by decide) _ (St.begin (C := wrC b p1 c1 [2, 97, 98]) (L := []) H)) ?_) rfl
  rintro v w ⟨p2, c2, H'⟩
  replace H := St.callC (C := wrC b p1 c1 [2, 97, 98]) (L := []) H (fun _ h => h) H'
  rw [show [2, 97, 98] ++ putN (foldN (-1)) = [2, 97, 98, 1] by rw [show foldN (-1) = 1 from rfl, show putN 1 = [1] from putN_lt (by decide)]; rfl] at H
  refine ow_nil ?_
  refine wc_seq ?_
  refine wc_region ?_
  refine ow_call rfl rfl (ent (by kernel_rfl)) (CallsV.mono (wfixed_spec b p2 c2 [2, 97, 98, 1] (by simp) 258 (by decide) _ (St.begin (C := wrC b p2 c2 [2, 97, 98, 1]) (L := []) H)) ?_) rfl
  rintro v w ⟨p3, c3, H'⟩
  replace H := St.callC (C := wrC b p2 c2 [2, 97, 98, 1]) (L := []) H (fun _ h => h) H'
  rw [show [2, 97, 98, 1] ++ leB 4 258 = d8 from rfl] at H
  refine ow_nil ?_
  refine wc_seq ?_
  refine wc_region ?_
  refine ow_call rfl rfl (ent (by kernel_rfl)) (CallsV.mono (wdone_spec b p3 c3 d8 (by decide) _ (H.rowSl (i := 0) rfl) (appOk.sl (H.cap (i := 1) rfl))) ?_) rfl
  rintro v w ⟨q, cq, rfl, H'⟩
  replace H := H.call H'
  replace H := H.only (i := 0) rfl
  have hcq := appOk.le (H.cap (i := 0) rfl)
  (apply ow_assign; (· rfl); (· ((conv => lhs; whnf) <;> rfl)))
  refine ow_nil ?_
  refine wc_seq ?_
  refine wc_region ?_
  (apply ow_move; (· rfl); (· ((conv => lhs; whnf) <;> rfl)))
  refine ow_call rfl rfl (ent (by kernel_rfl)) (CallsV.mono (ropen_spec q _ cq _) ?_) rfl
  rintro v w ⟨r, rfl, H'⟩
  replace H : St Pu w0 w (rdC r q d8.length cq (0, 0, 0) ++ [.app q d8.length cq 5 1 (nats .u8 d8)]) [] := H.call H'
  (apply ow_assign; (· rfl); (· ((conv => lhs; whnf) <;> rfl)))
  refine ow_nil ?_
  refine wc_seq ?_
  refine wc_seq ?_
  refine wc_region ?_
  (apply ow_move; (· rfl); (· ((conv => lhs; whnf) <;> rfl)))
  refine ow_eqlPn rfl rfl rfl (tyAt rfl) rfl ?_
  refine ow_nil ?_
  refine wc_cond_false rfl ?_
  refine wc_skip ?_
  refine wc_seq ?_
  refine wc_region ?_
  (apply ow_move; (· rfl); (· ((conv => lhs; whnf) <;> rfl)))
  have ok0 : rOk d8 (0, 0, 0) := ⟨by decide, by decide, by decide⟩
  have hsq : ∀ {w : World} {r0 : Rd}, St Pu w0 w (rdC r q d8.length cq r0 ++ [.app q d8.length cq 5 1 (nats .u8 d8)]) [] → SlH (msk (fps (rdC r q d8.length cq r0)) w) q (nats .u8 d8) := fun H => appOk.sl (H.capC (i := 0) rfl)
  refine ow_call rfl rfl (ent (by kernel_rfl)) (CallsV.mono (rtext_spec r q _ cq (0, 0, 0) d8 rfl (by decide) hb8 hcq ok0 2 (by decide) (by decide) _ H.begin (hsq H)) ?_) rfl
  rintro v w ⟨rfl, H'⟩
  replace H := H.callC (fun _ h => h) H'
  rw [show rText d8 (0, 0, 0) 2 = ((3, 0, 0), [97, 98]) by decide] at H ⊢
  (apply ow_move; (· rfl); (· ((conv => lhs; whnf) <;> rfl)))
  refine ow_call rfl rfl (ent (by kernel_rfl)) (CallsV.mono (rnum_spec r q _ cq (3, 0, 0) d8 rfl (by decide) hb8 hcq ⟨by decide, by decide, by decide⟩ _ H.begin (hsq H)) ?_) rfl
  rintro v w ⟨rfl, H'⟩
  replace H := H.callC (fun _ h => h) H'
  rw [show rNumber d8 (3, 0, 0) = ((4, 0, 0), 1) by decide] at H ⊢
  (apply ow_move; (· rfl); (· ((conv => lhs; whnf) <;> rfl)))
  refine ow_call rfl rfl (ent (by kernel_rfl)) (CallsV.mono (rfixed_spec r q _ cq (4, 0, 0) d8 rfl (by decide) hb8 hcq ⟨by decide, by decide, by decide⟩ _ H.begin (hsq H)) ?_) rfl
  rintro v w ⟨rfl, H'⟩
  replace H := H.callC (fun _ h => h) H'
  rw [show rFixed d8 (4, 0, 0) = ((8, 0, 0), 258) by decide] at H ⊢
  (apply ow_assign; (· rfl); (· ((conv => lhs; whnf) <;> rfl)))
  (apply ow_assign; (· rfl); (· ((conv => lhs; whnf) <;> rfl)))
  (apply ow_assign; (· rfl); (· ((conv => lhs; whnf) <;> rfl)))
  refine ow_nil ?_
  refine wc_seq ?_
  refine wc_region ?_
  (apply ow_move; (· rfl); (· ((conv => lhs; whnf) <;> rfl)))
  refine ow_call rfl rfl (ent (by kernel_rfl)) (CallsV.mono (rend_spec r q _ cq (8, 0, 0) d8 rfl _ H.begin) ?_) rfl
  rintro v w H'
  replace H := H.callC (fun _ h => h) H'
  rw [show rEnd d8 (8, 0, 0) = (8, 0, 0) by decide] at H
  refine ow_nil ?_
  refine wc_seq ?_
  refine wc_region ?_
  (apply ow_move; (· rfl); (· ((conv => lhs; whnf) <;> rfl)))
  refine ow_call rfl rfl (ent (by kernel_rfl)) (CallsV.mono (rfault_spec r q _ cq (8, 0, 0) _ (H.rowSl (i := 0) rfl)) ?_) rfl
  rintro v w ⟨rfl, H'⟩
  replace H := H.call H'
  rw [List.nil_append] at H
  skip
  refine ow_alloc (l := [.int .i64 0, .int .i64 0]) H rfl (tyAt rfl) rfl (fun bf w H => ?_)
  refine ow_storeA (i := 0) (o := 0) (l' := [.int .i64 0, .int .i64 0]) H (tyAt rfl) rfl rfl rfl rfl (by simp [Value.oneCell']) (by simp) (fun w H => ?_)
  dsimp only [List.set] at H
  refine ow_nil ?_
  refine wc_seq ?_
  refine wc_region ?_
  (apply ow_move; (· rfl); (· ((conv => lhs; whnf) <;> rfl)))
  refine ow_call rfl rfl (ent (by kernel_rfl)) (CallsV.mono (ropen_spec q _ cq _) ?_) rfl
  rintro v w ⟨x, rfl, H'⟩
  replace H : St Pu w0 w (rdC x q d8.length cq (0, 0, 0) ++ [.row bf 83 [.int .i64 0, .int .i64 0], .row r 148 [.slice q d8.length cq, .int .i64 8, .int .i64 0, .int .i64 0], .app q d8.length cq 5 1 (nats .u8 d8)]) [] := H.call H'
  (apply ow_assign; (· rfl); (· ((conv => lhs; whnf) <;> rfl)))
  refine ow_nil ?_
  refine wc_seq ?_
  refine wc_region ?_
  (apply ow_move; (· rfl); (· ((conv => lhs; whnf) <;> rfl)))
  refine ow_call rfl rfl (ent (by kernel_rfl)) (CallsV.mono (rtext_spec x q _ cq (0, 0, 0) d8 rfl (by decide) hb8 hcq ok0 1 (by decide) (by decide) _ H.begin (appOk.sl (H.capC (i := 2) rfl))) ?_) rfl
  rintro v w ⟨rfl, H'⟩
  replace H := H.callC (fun _ h => h) H'
  rw [show rText d8 (0, 0, 0) 1 = ((0, 2, 0), []) by decide] at H ⊢
  (apply ow_assign; (· rfl); (· ((conv => lhs; whnf) <;> rfl)))
  refine ow_nil ?_
  refine wc_seq ?_
  refine wc_region ?_
  (apply ow_move; (· rfl); (· ((conv => lhs; whnf) <;> rfl)))
  refine ow_toStr (bs := d8) rfl rfl rfl (appOk.sl (H.cap (i := 3) rfl)) (tyAt rfl) rfl (tyAt rfl) rfl (tyAt rfl) rfl ?_
  refine ow_strcmp (b := true) rfl rfl rfl (by decide +kernel) ?_
  (apply ow_move; (· rfl); (· ((conv => lhs; whnf) <;> rfl)))
  refine ow_guard_yes rfl rfl rfl rfl ?_
  (apply ow_move; (· rfl); (· ((conv => lhs; whnf) <;> rfl)))
  refine ow_guard_yes rfl rfl rfl rfl ?_
  refine ow_strcmp (b := true) rfl rfl rfl (by decide +kernel) ?_
  (apply ow_pick_t; (· rfl); (· rfl); (· ((conv => lhs; whnf) <;> rfl)))
  (apply ow_move; (· rfl); (· ((conv => lhs; whnf) <;> rfl)))
  refine ow_guard_yes rfl rfl rfl rfl ?_
  (apply ow_move; (· rfl); (· ((conv => lhs; whnf) <;> rfl)))
  refine ow_guard_yes rfl rfl rfl rfl ?_
  refine ow_eql rfl rfl rfl ?_
  (apply ow_pick_t; (· rfl); (· rfl); (· ((conv => lhs; whnf) <;> rfl)))
  (apply ow_move; (· rfl); (· ((conv => lhs; whnf) <;> rfl)))
  refine ow_guard_yes rfl rfl rfl rfl ?_
  (apply ow_move; (· rfl); (· ((conv => lhs; whnf) <;> rfl)))
  refine ow_guard_yes rfl rfl rfl rfl ?_
  refine ow_eql rfl rfl rfl ?_
  (apply ow_pick_t; (· rfl); (· rfl); (· ((conv => lhs; whnf) <;> rfl)))
  (apply ow_move; (· rfl); (· ((conv => lhs; whnf) <;> rfl)))
  refine ow_guard_yes rfl rfl rfl rfl ?_
  refine ow_loadA (l := [.int .i64 0, .int .i64 0]) rfl (tyAt rfl) rfl rfl rfl (H.cells (i := 1) (o := 0) (m := 2) rfl rfl) ?_
  refine ow_guard_yes rfl rfl rfl rfl ?_
  refine ow_build (l := [.int .i64 0, .int .i64 0]) (vs := []) rfl (tyAt rfl) rfl (.cons (tyAt rfl) (.cons (tyAt rfl) .nil)) rfl rfl ?_
  refine ow_guard_yes rfl rfl rfl rfl ?_
  refine ow_eqlF rfl rfl rfl (tyAt rfl) rfl (by kernel_rfl) (by kernel_rfl) (.int (by decide) (tyAt rfl) rfl rfl rfl rfl (.int (by decide) (tyAt rfl) rfl rfl rfl rfl .nil)) ?_
  (apply ow_pick_t; (· rfl); (· rfl); (· ((conv => lhs; whnf) <;> rfl)))
  (apply ow_move; (· rfl); (· ((conv => lhs; whnf) <;> rfl)))
  refine ow_guard_yes rfl rfl rfl rfl ?_
  (apply ow_move; (· rfl); (· ((conv => lhs; whnf) <;> rfl)))
  refine ow_guard_yes rfl rfl rfl rfl ?_
  have hr8 : SlH (hp w) (some ⟨r, 0, none⟩) [.slice q d8.length cq, .int .i64 ((8, 0, 0) : Rd).1, .int .i64 ((8, 0, 0) : Rd).2.1, .int .i64 ((8, 0, 0) : Rd).2.2] := H.rowSl (i := 2) rfl
  refine ow_call rfl rfl (ent (by kernel_rfl)) (CallsV.mono (rat_spec r q _ cq (8, 0, 0) _ hr8) ?_) rfl
  rintro v w' ⟨rfl, rfl⟩
  refine ow_guard_yes rfl rfl rfl rfl ?_
  refine ow_eql rfl rfl rfl ?_
  (apply ow_pick_t; (· rfl); (· rfl); (· ((conv => lhs; whnf) <;> rfl)))
  (apply ow_move; (· rfl); (· ((conv => lhs; whnf) <;> rfl)))
  refine ow_guard_yes rfl rfl rfl rfl ?_
  (apply ow_move; (· rfl); (· ((conv => lhs; whnf) <;> rfl)))
  refine ow_guard_yes rfl rfl rfl rfl ?_
  refine ow_strcmp (b := true) rfl rfl rfl (by decide +kernel) ?_
  (apply ow_pick_t; (· rfl); (· rfl); (· ((conv => lhs; whnf) <;> rfl)))
  (apply ow_move; (· rfl); (· ((conv => lhs; whnf) <;> rfl)))
  refine ow_guard_yes rfl rfl rfl rfl ?_
  (apply ow_move; (· rfl); (· ((conv => lhs; whnf) <;> rfl)))
  refine ow_guard_yes rfl rfl rfl rfl ?_
  refine ow_call rfl rfl (ent (by kernel_rfl)) (CallsV.mono (rfault_spec x q _ cq (0, 2, 0) _ (H.rowSl (i := 0) rfl)) ?_) rfl
  rintro v w ⟨rfl, H'⟩
  replace H := H.call H'
  rw [List.nil_append] at H
  refine ow_guard_yes rfl rfl rfl rfl ?_
  refine ow_build (l := [.int .i64 2, .int .i64 0]) (vs := [(0, .int .i64 2)]) rfl (tyAt rfl) rfl (.cons (tyAt rfl) (.cons (tyAt rfl) .nil)) rfl rfl ?_
  refine ow_guard_yes rfl rfl rfl rfl ?_
  refine ow_eqlF rfl rfl rfl (tyAt rfl) rfl (by kernel_rfl) (by kernel_rfl) (.int (by decide) (tyAt rfl) rfl rfl rfl rfl (.int (by decide) (tyAt rfl) rfl rfl rfl rfl .nil)) ?_
  (apply ow_pick_t; (· rfl); (· rfl); (· ((conv => lhs; whnf) <;> rfl)))
  (apply ow_move; (· rfl); (· ((conv => lhs; whnf) <;> rfl)))
  refine ow_guard_yes rfl rfl rfl rfl ?_
  (apply ow_move; (· rfl); (· ((conv => lhs; whnf) <;> rfl)))
  refine ow_guard_yes rfl rfl rfl rfl ?_
  refine ow_call rfl rfl (ent (by kernel_rfl)) (CallsV.mono (rat_spec x q _ cq (0, 2, 0) _ (H.rowSl (i := 0) rfl)) ?_) rfl
  rintro v w' ⟨rfl, rfl⟩
  refine ow_guard_yes rfl rfl rfl rfl ?_
  refine ow_eql rfl rfl rfl ?_
  (apply ow_pick_t; (· rfl); (· rfl); (· ((conv => lhs; whnf) <;> rfl)))
  (apply ow_assign; (· rfl); (· ((conv => lhs; whnf) <;> rfl)))
  refine ow_nil ?_
  refine wc_ret ?_
  obtain ⟨w, hT, H⟩ := H.takes Try.prog
  refine ⟨.inr rfl, w, hT, _, .tmp .nil, ?_⟩
  exact ⟨rfl, H.none⟩
end Go.Proofs.Ytphmjdbdhhbdoaa
