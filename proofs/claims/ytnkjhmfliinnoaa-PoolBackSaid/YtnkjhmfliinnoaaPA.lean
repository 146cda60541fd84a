/- Pool: alive of the statements of layer 21. -/
import Derived.Test.YtnkjhmfliinnoaaP4
import Derived.Test.YtnkjhmfliinnoaaPX
namespace Go.Proofs.Ytnkjhmfliinnoaa
set_option linter.all false
open Go Go.Sx Go.Proofs
set_option maxRecDepth 100000
set_option maxHeartbeats 2000000
theorem mpD_capC {M : Nat → Prop} {w0 w : World} {C L : List Cap} {D : List Nat} {b : Nat} {p : Option Addr} {c : Nat} {es : PE} {i j : Nat} (H : St M w0 w (C ++ L) D) (hi : L[i]? = some (.row b 122 [.slice p es.length c])) (hj : L[j]? = some (.app p es.length c 188 2 (es.flatMap entD))) : MapD (msk (fps C) w) b p c es :=
  ⟨row_slH (H.capC hi), appOk.sl (H.capC hj), appOk.le (H.capC hj)⟩
theorem makeNil_spec (w0 : World) : CallsV Try.prog 26 #[.nilFunc] w0 fun v w => ∃ b, v = .pointer (some ⟨b, 0, none⟩) ∧ St Pu w0 w (mpD b none 0 []) [] := by
  refine callsV_of Try.func26 rfl rfl ?_
  have H := St.init w0
  refine wc_seq ?_
  refine wc_region ?_
  (apply ow_assign; (· rfl); (· ((conv => lhs; whnf) <;> rfl)))
  refine ow_nil ?_
  refine wc_seq ?_
  refine wc_region ?_
  refine ow_build (l := [.slice none 0 0]) (vs := []) rfl (tyAt rfl) rfl (.cons (tyAt rfl) .nil) rfl rfl ?_
  refine ow_box (l := [.slice none 0 0]) H rfl rfl rfl (fun b w H => ?_)
  refine ow_alloc (l := [.pointer none]) H rfl (tyAt rfl) rfl (fun b3 w H => ?_)
  refine ow_store (i := 0) (o := 0) (v := .pointer (some ⟨b, 0, none⟩)) H (tyAt rfl) rfl rfl rfl rfl rfl (by simp) (fun w H => ?_)
  dsimp only [List.set] at H
  replace H : St Pu w0 w [.app none 0 0 188 2 (([] : PE).flatMap entD), .row b3 44 [.pointer (some ⟨b, 0, none⟩)], .row b 122 [.slice none 0 0]] [] := H.nilApp 188 2
  refine ow_nil ?_
  refine wc_seq ?_
  refine wc_seq ?_
  refine wc_region ?_
  (apply ow_move; (· rfl); (· ((conv => lhs; whnf) <;> rfl)))
  refine ow_eqlNn rfl rfl rfl (tyAt rfl) rfl ?_
  refine ow_nil ?_
  refine wc_cond_true rfl ?_
  refine wc_seq ?_
  refine wc_region ?_
  refine ow_load rfl (tyAt rfl) rfl rfl (H.cell (i := 1) rfl rfl) ?_
  (apply ow_assign; (· rfl); (· ((conv => lhs; whnf) <;> rfl)))
  refine ow_nil ?_
  refine wc_ret ?_
  obtain ⟨w, hT, H⟩ := H.takes Try.prog
  refine ⟨.inr rfl, w, hT, _, .tmp .nil, ?_⟩
  exact ⟨b, rfl, H.pick [2, 0] rfl (by decide)⟩
abbrev sA : ByteArray := ⟨#[97]⟩
abbrev sB : ByteArray := ⟨#[98]⟩
abbrev E21 : PE := [(sA, true), (sB, true)]
theorem lt21 : ltS sA sB = true := by decide +kernel
theorem pl21 : plE [sB, sA, sB] = E21 := by
  have h1 : ltS sB sA = false := ltS_ok.asym lt21
  have h2 := ltS_ok.irr sA
  have h3 := ltS_ok.irr sB
  simp [plE, putE, lt21, h1, h2, h3]
theorem as21 : Asc ltS E21 := pl21 ▸ plE_asc _
theorem tr21 : ∀ e ∈ E21, e.2 = true := pl21 ▸ plE_true _
theorem sz21 : ∀ e ∈ E21, e.1.size ≤ 64 := by
  intro e he
  simp only [List.mem_cons, List.not_mem_nil, or_false] at he
  rcases he with rfl | rfl <;> decide
theorem sk21 : ∀ s ∈ ksE E21, s.size ≤ 1000 := by
  intro e he
  simp only [ksE, List.map_cons, List.map_nil, List.mem_cons, List.not_mem_nil, or_false] at he
  rcases he with rfl | rfl <;> decide
theorem bA : bsN sA = [97] := by unfold bsN; rw [ByteArray.toList_mk]; rfl
theorem bB : bsN sB = [98] := by unfold bsN; rw [ByteArray.toList_mk]; rfl
theorem pb21 : plB (ksE E21) = [2, 1, 97, 1, 98] := by
  unfold plB tbB
  simp only [ksE, List.map_cons, List.map_nil, List.flatMap_cons, List.flatMap_nil, bA, bB, List.length_cons, List.length_nil]
  rw [show putN (0 + 1 + 1) = [2] from putN_lt (by decide), show putN (0 + 1) = [1] from putN_lt (by decide)]
  rfl
theorem th21 : thereE E21 sB = true := there_mem.2 (by simp [ksE])
theorem rk21 : rkE ltS E21 sB = 1 := by
  have h3 := ltS_ok.irr sB
  simp [rkE, lt21, h3]
theorem ord21 : (poolR [2, 1, 98, 1, 97] (0, 0, 0) 9).2 = .inr (46, 3) := by
  have h1 : rLength [2, 1, 98, 1, 97] (0, 0, 0) 9 = ((1, 0, 0), 2) := by decide
  have h2 : rText [2, 1, 98, 1, 97] (1, 0, 0) 64 = ((3, 0, 0), [98]) := by decide
  have h3 : rText [2, 1, 98, 1, 97] (3, 0, 0) 64 = ((5, 0, 0), [97]) := by decide
  have h4 : ltS (strN [98]) (strN [97]) = false := by decide +kernel
  unfold poolR
  rw [h1, rdF, h2, if_neg (by decide), if_neg (by decide), rdF, h3, if_neg (by decide), if_pos ⟨by decide, h4⟩]
theorem alive21 (w0 : World) : CallsV Try.prog 24 #[] w0 fun v w => v = .bool true ∧ St Pu w0 w [] [] := by
  refine callsV_of Try.func24 rfl rfl ?_
  have H := St.init w0
  refine wc_seq ?_
  refine wc_region ?_
  (apply ow_assign; (· rfl); (· ((conv => lhs; whnf) <;> rfl)))
  refine ow_nil ?_
  refine wc_seq ?_
  refine wc_region ?_
  refine ow_buildSlice1 (vs := [.string sB, .string sA, .string sB]) H rfl (tyAt rfl) rfl (tyAt rfl) rfl rfl rfl rfl rfl (by simp [Value.one]) (fun b0 w H => ?_)
  skip
  refine ow_call rfl rfl (ent (by kernel_rfl)) (CallsV.mono (values_spec (some ⟨b0, 0, none⟩) 3 3 w) ?_) rfl
  rintro v w ⟨bl, rfl, H'⟩
  replace H : St Pu w0 w [.row bl 42 [.slice (some ⟨b0, 0, none⟩) 3 3], .row b0 9 ([sB, sA, sB].flatMap txtS)] [] := H.call H'
  clear H'
  skip
  refine ow_call rfl rfl (ent (by kernel_rfl)) (CallsV.mono (make_spec bl (some ⟨b0, 0, none⟩) 3 [sB, sA, sB] (by decide) w ⟨H.rowSl (i := 0) rfl, H.rowSl (i := 1) rfl⟩) ?_) rfl
  rintro v w ⟨b, p, c, rfl, H'⟩
  rw [pl21] at H'
  replace H : St Pu w0 w (mpD b p c E21) [] := (H.call H').sub (List.sublist_append_left _ _)
  clear H'
  (apply ow_assign; (· rfl); (· ((conv => lhs; whnf) <;> rfl)))
  refine ow_nil ?_
  refine wc_seq ?_
  refine wc_seq ?_
  refine wc_region ?_
  (apply ow_move; (· rfl); (· ((conv => lhs; whnf) <;> rfl)))
  refine ow_eqlPn rfl rfl rfl (tyAt rfl) rfl ?_
  (apply ow_move; (· rfl); (· ((conv => lhs; whnf) <;> rfl)))
  refine ow_guard_yes rfl rfl rfl rfl ?_
  (apply ow_move; (· rfl); (· ((conv => lhs; whnf) <;> rfl)))
  refine ow_guard_yes rfl rfl rfl rfl ?_
  refine ow_call rfl rfl (ent (by kernel_rfl)) (CallsV.mono (plen_spec b p c E21 _ (mpD_at H (i := 0) (j := 1) rfl rfl)) ?_) rfl
  rintro v w' ⟨rfl, rfl⟩
  refine ow_guard_yes rfl rfl rfl rfl ?_
  refine ow_neq rfl rfl rfl ?_
  (apply ow_pick_f; (· rfl); (· rfl); (· ((conv => lhs; whnf) <;> rfl)))
  refine ow_nil ?_
  refine wc_cond_false rfl ?_
  refine wc_skip ?_
  refine wc_seq ?_
  refine wc_region ?_
  refine ow_alloc (l := [.slice none 0 0]) H rfl (tyAt rfl) rfl (fun bw w H => ?_)
  replace H : St Pu w0 w [.app none 0 0 5 1 (nats .u8 []), .row bw 58 [.slice none 0 0], .row b 122 [.slice p E21.length c], .app p E21.length c 188 2 (E21.flatMap entD)] [] := H.nilApp 5 1
  replace H : St Pu w0 w (wrC bw none 0 [] ++ mpD b p c E21) [] := H.pick [1, 0, 2, 3] rfl (by decide)
  refine ow_nil ?_
  refine wc_seq ?_
  refine wc_region ?_
  (apply ow_move; (· rfl); (· ((conv => lhs; whnf) <;> rfl)))
  refine ow_call rfl rfl (ent (by kernel_rfl)) (CallsV.mono (pwrite_spec b p c E21 (by decide) sk21 bw none 0 [] (by decide) _ H.begin (mpD_capC H (i := 0) (j := 1) rfl rfl)) ?_) rfl
  rintro v w ⟨pw, cw, H'⟩
  replace H := H.callC (fun _ h => h) H'
  clear H'
  rw [List.nil_append, pb21] at H
  obtain ⟨BS, hBS⟩ : ∃ BS, ([2, 1, 97, 1, 98] : List Nat) = BS := ⟨_, rfl⟩
  have hBb : ∀ c ∈ BS, c < 256 := by rw [← hBS]; decide
  have hBl : BS.length = 5 := by rw [← hBS]; rfl
  rw [hBS] at H
  refine ow_nil ?_
  refine wc_seq ?_
  refine wc_region ?_
  refine ow_call rfl rfl (ent (by kernel_rfl)) (CallsV.mono (wdone_spec bw pw cw BS (by omega) _ (H.rowSl (i := 0) rfl) (appOk.sl (H.cap (i := 1) rfl))) ?_) rfl
  rintro v w ⟨q, cq, rfl, H'⟩
  replace H : St Pu w0 w (.app q BS.length cq 5 1 (nats .u8 BS) :: (wrC bw pw cw BS ++ mpD b p c E21)) [] := H.call H'
  clear H'
  have hcq := appOk.le (H.cap (i := 0) rfl)
  skip
  refine ow_call rfl rfl (ent (by kernel_rfl)) (CallsV.mono (ropen_spec q _ cq _) ?_) rfl
  rintro v w ⟨r, rfl, H'⟩
  replace H : St Pu w0 w (rdC r q BS.length cq (0, 0, 0) ++ (.app q BS.length cq 5 1 (nats .u8 BS) :: (wrC bw pw cw BS ++ mpD b p c E21))) [] := H.call H'
  clear H'
  have hpr : poolR BS (0, 0, 0) 9 = ((BS.length, 0, 0), .inl E21) := by
    have := poolR_back as21 tr21 sz21 (most := 9) (by decide) (by decide) []
    rw [List.append_nil, pb21, hBS] at this
    exact this
  (apply ow_assign; (· rfl); (· ((conv => lhs; whnf) <;> rfl)))
  refine ow_nil ?_
  refine wc_seq ?_
  refine wc_region ?_
  (apply ow_move; (· rfl); (· ((conv => lhs; whnf) <;> rfl)))
  refine ow_call rfl rfl (ent (by kernel_rfl)) (CallsV.mono (read_spec r q _ cq (0, 0, 0) BS rfl (by omega) hBb hcq ⟨Nat.zero_le _, by decide, Nat.zero_le _⟩ 9 (by decide) (by decide) _ H.begin (appOk.sl (H.capC (i := 0) rfl))) ?_) rfl
  unfold ReadP
  rw [hpr]
  rintro v w ⟨_, _, qb, qp, qc, rfl, H'⟩
  replace H : St Pu w0 w (mpD qb qp qc E21 ++ (wrC bw pw cw BS ++ mpD b p c E21)) [] := (H.callC (fun _ h => h) H').pick [1, 2, 4, 5, 6, 7] rfl (by decide)
  clear H' hpr
  (apply ow_move; (· rfl); (· ((conv => lhs; whnf) <;> rfl)))
  refine ow_extract rfl rfl rfl ?_
  refine ow_extract rfl rfl rfl ?_
  refine ow_alloc (l := [.int .i64 0, .int .i64 0]) H rfl (tyAt rfl) rfl (fun b5 w H => ?_)
  (apply ow_assign; (· rfl); (· ((conv => lhs; whnf) <;> rfl)))
  refine ow_storeA (i := 0) (o := 0) (l' := [.int .i64 0, .int .i64 0]) H (tyAt rfl) rfl rfl rfl rfl (by simp [Value.oneCell']) (by simp) (fun w H => ?_)
  replace H : St Pu w0 w (.row b5 69 [.int .i64 0, .int .i64 0] :: (mpD qb qp qc E21 ++ (wrC bw pw cw BS ++ mpD b p c E21))) [] := H
  refine ow_nil ?_
  refine wc_seq ?_
  refine wc_region ?_
  refine ow_buildSlice1 (vs := [.int .u8 2, .int .u8 1, .int .u8 98, .int .u8 1, .int .u8 97]) H rfl (tyAt rfl) rfl (tyAt rfl) rfl rfl rfl rfl rfl (by simp [Value.one]) (fun b6 w H => ?_)
  replace H : St Pu w0 w (.row b6 5 (nats .u8 [2, 1, 98, 1, 97]) :: .row b5 69 [.int .i64 0, .int .i64 0] :: (mpD qb qp qc E21 ++ (wrC bw pw cw BS ++ mpD b p c E21))) [] := H
  skip
  refine ow_call rfl rfl (ent (by kernel_rfl)) (CallsV.mono (ropen_spec (some ⟨b6, 0, none⟩) 5 5 _) ?_) rfl
  rintro v w ⟨r2, rfl, H'⟩
  replace H : St Pu w0 w (rdC r2 (some ⟨b6, 0, none⟩) 5 5 (0, 0, 0) ++ (.row b6 5 (nats .u8 [2, 1, 98, 1, 97]) :: .row b5 69 [.int .i64 0, .int .i64 0] :: (mpD qb qp qc E21 ++ (wrC bw pw cw BS ++ mpD b p c E21)))) [] := H.call H'
  clear H'
  skip
  refine ow_call rfl rfl (ent (by kernel_rfl)) (CallsV.mono (read_spec r2 (some ⟨b6, 0, none⟩) 5 5 (0, 0, 0) [2, 1, 98, 1, 97] rfl (by decide) (by decide) (by decide) ⟨by decide, by decide, by decide⟩ 9 (by decide) (by decide) _ H.begin (row_slH (H.capC (i := 0) rfl))) ?_) rfl
  unfold ReadP
  rw [ord21]
  rintro v w ⟨rfl, H'⟩
  replace H : St Pu w0 w (.row b5 69 [.int .i64 0, .int .i64 0] :: (mpD qb qp qc E21 ++ (wrC bw pw cw BS ++ mpD b p c E21))) [] := (H.callC (fun _ h => h) H').pick [2, 3, 4, 5, 6, 7, 8] rfl (by decide)
  clear H'
  (apply ow_move; (· rfl); (· ((conv => lhs; whnf) <;> rfl)))
  refine ow_extract rfl rfl rfl ?_
  refine ow_extract rfl rfl rfl ?_
  refine ow_alloc (l := [.int .i64 0, .int .i64 0]) H rfl (tyAt rfl) rfl (fun b7 w H => ?_)
  (apply ow_assign; (· rfl); (· ((conv => lhs; whnf) <;> rfl)))
  refine ow_storeA (i := 0) (o := 0) (l' := [.int .i64 46, .int .i64 3]) H (tyAt rfl) rfl rfl rfl rfl (by simp [Value.oneCell']) (by simp) (fun w H => ?_)
  replace H : St Pu w0 w (.row b7 69 [.int .i64 46, .int .i64 3] :: .row b5 69 [.int .i64 0, .int .i64 0] :: (mpD qb qp qc E21 ++ (wrC bw pw cw BS ++ mpD b p c E21))) [] := H
  refine ow_nil ?_
  refine wc_seq ?_
  refine wc_region ?_
  (apply ow_move; (· rfl); (· ((conv => lhs; whnf) <;> rfl)))
  refine ow_call rfl rfl (ent (by kernel_rfl)) (CallsV.mono (pindex_spec b p c E21 sB (by decide) as21 _ (mpD_at H (i := 6) (j := 7) rfl rfl)) ?_) rfl
  rintro v w ⟨rfl, H'⟩
  replace H : St Pu w0 w (.row b7 69 [.int .i64 46, .int .i64 3] :: .row b5 69 [.int .i64 0, .int .i64 0] :: (mpD qb qp qc E21 ++ (wrC bw pw cw BS ++ mpD b p c E21))) [] := H.call H'
  clear H'
  rw [th21, if_pos rfl, rk21]
  (apply ow_move; (· rfl); (· ((conv => lhs; whnf) <;> rfl)))
  refine ow_extract rfl rfl rfl ?_
  refine ow_extract rfl rfl rfl ?_
  (apply ow_assign; (· rfl); (· ((conv => lhs; whnf) <;> rfl)))
  (apply ow_assign; (· rfl); (· ((conv => lhs; whnf) <;> rfl)))
  refine ow_nil ?_
  refine wc_seq ?_
  refine wc_region ?_
  (apply ow_move; (· rfl); (· ((conv => lhs; whnf) <;> rfl)))
  refine ow_call rfl rfl (ent (by kernel_rfl)) (CallsV.mono (pat_spec b p c E21 0 (by decide) _ (mpD_at H (i := 6) (j := 7) rfl rfl)) ?_) rfl
  rintro v w ⟨rfl, H'⟩
  replace H : St Pu w0 w (.row b7 69 [.int .i64 46, .int .i64 3] :: .row b5 69 [.int .i64 0, .int .i64 0] :: (mpD qb qp qc E21 ++ (wrC bw pw cw BS ++ mpD b p c E21))) [] := H.call H'
  clear H'
  rw [show atD E21 0 = ((sA, true), true) from rfl]
  (apply ow_move; (· rfl); (· ((conv => lhs; whnf) <;> rfl)))
  refine ow_extract rfl rfl rfl ?_
  refine ow_extract rfl rfl rfl ?_
  (apply ow_assign; (· rfl); (· ((conv => lhs; whnf) <;> rfl)))
  (apply ow_assign; (· rfl); (· ((conv => lhs; whnf) <;> rfl)))
  refine ow_nil ?_
  refine wc_seq ?_
  refine wc_region ?_
  refine ow_call rfl rfl (ent (by kernel_rfl)) (CallsV.mono (makeNil_spec _) ?_) rfl
  rintro v w ⟨nb, rfl, H'⟩
  replace H : St Pu w0 w (mpD nb none 0 [] ++ (.row b7 69 [.int .i64 46, .int .i64 3] :: .row b5 69 [.int .i64 0, .int .i64 0] :: (mpD qb qp qc E21 ++ (wrC bw pw cw BS ++ mpD b p c E21)))) [] := H.call H'
  clear H'
  (apply ow_assign; (· rfl); (· ((conv => lhs; whnf) <;> rfl)))
  refine ow_nil ?_
  refine wc_seq ?_
  refine wc_region ?_
  (apply ow_move; (· rfl); (· ((conv => lhs; whnf) <;> rfl)))
  refine ow_neqPn rfl rfl rfl (tyAt rfl) rfl ?_
  (apply ow_move; (· rfl); (· ((conv => lhs; whnf) <;> rfl)))
  refine ow_guard_yes rfl rfl rfl rfl ?_
  (apply ow_move; (· rfl); (· ((conv => lhs; whnf) <;> rfl)))
  refine ow_guard_yes rfl rfl rfl rfl ?_
  refine ow_call rfl rfl (ent (by kernel_rfl)) (CallsV.mono (plen_spec qb qp qc E21 _ (mpD_at H (i := 4) (j := 5) rfl rfl)) ?_) rfl
  rintro v w' ⟨rfl, rfl⟩
  refine ow_guard_yes rfl rfl rfl rfl ?_
  refine ow_eql rfl rfl rfl ?_
  (apply ow_pick_t; (· rfl); (· rfl); (· ((conv => lhs; whnf) <;> rfl)))
  (apply ow_move; (· rfl); (· ((conv => lhs; whnf) <;> rfl)))
  refine ow_guard_yes rfl rfl rfl rfl ?_
  refine ow_loadA (l := [.int .i64 0, .int .i64 0]) rfl (tyAt rfl) rfl rfl rfl (H.cells (i := 3) (o := 0) (m := 2) rfl rfl) ?_
  refine ow_guard_yes rfl rfl rfl rfl ?_
  refine ow_build (l := [.int .i64 0, .int .i64 0]) (vs := []) rfl (tyAt rfl) rfl (.cons (tyAt rfl) (.cons (tyAt rfl) .nil)) rfl rfl ?_
  refine ow_guard_yes rfl rfl rfl rfl ?_
  refine ow_eqlF rfl rfl rfl (tyAt rfl) rfl (by kernel_rfl) (by kernel_rfl) (.int (by decide) (tyAt rfl) rfl rfl rfl rfl (.int (by decide) (tyAt rfl) rfl rfl rfl rfl .nil)) ?_
  (apply ow_pick_t; (· rfl); (· rfl); (· ((conv => lhs; whnf) <;> rfl)))
  (apply ow_move; (· rfl); (· ((conv => lhs; whnf) <;> rfl)))
  refine ow_guard_yes rfl rfl rfl rfl ?_
  refine ow_loadA (l := [.int .i64 46, .int .i64 3]) rfl (tyAt rfl) rfl rfl rfl (H.cells (i := 2) (o := 0) (m := 2) rfl rfl) ?_
  refine ow_guard_yes rfl rfl rfl rfl ?_
  refine ow_build (l := [.int .i64 46, .int .i64 3]) (vs := [(0, .int .i64 46), (1, .int .i64 3)]) rfl (tyAt rfl) rfl (.cons (tyAt rfl) (.cons (tyAt rfl) .nil)) rfl rfl ?_
  refine ow_guard_yes rfl rfl rfl rfl ?_
  refine ow_eqlF rfl rfl rfl (tyAt rfl) rfl (by kernel_rfl) (by kernel_rfl) (.int (by decide) (tyAt rfl) rfl rfl rfl rfl (.int (by decide) (tyAt rfl) rfl rfl rfl rfl .nil)) ?_
  (apply ow_pick_t; (· rfl); (· rfl); (· ((conv => lhs; whnf) <;> rfl)))
  (apply ow_move; (· rfl); (· ((conv => lhs; whnf) <;> rfl)))
  refine ow_guard_yes rfl rfl rfl rfl ?_
  (apply ow_move; (· rfl); (· ((conv => lhs; whnf) <;> rfl)))
  refine ow_guard_yes rfl rfl rfl rfl ?_
  refine ow_eql rfl rfl rfl ?_
  (apply ow_pick_t; (· rfl); (· rfl); (· ((conv => lhs; whnf) <;> rfl)))
  (apply ow_move; (· rfl); (· ((conv => lhs; whnf) <;> rfl)))
  refine ow_guard_yes rfl rfl rfl rfl ?_
  (apply ow_move; (· rfl); (· ((conv => lhs; whnf) <;> rfl)))
  (apply ow_pick_t; (· rfl); (· rfl); (· ((conv => lhs; whnf) <;> rfl)))
  (apply ow_move; (· rfl); (· ((conv => lhs; whnf) <;> rfl)))
  refine ow_guard_yes rfl rfl rfl rfl ?_
  (apply ow_move; (· rfl); (· ((conv => lhs; whnf) <;> rfl)))
  refine ow_guard_yes rfl rfl rfl rfl ?_
  refine ow_strcmp (b := true) rfl rfl rfl (by decide +kernel) ?_
  (apply ow_pick_t; (· rfl); (· rfl); (· ((conv => lhs; whnf) <;> rfl)))
  (apply ow_move; (· rfl); (· ((conv => lhs; whnf) <;> rfl)))
  refine ow_guard_yes rfl rfl rfl rfl ?_
  (apply ow_move; (· rfl); (· ((conv => lhs; whnf) <;> rfl)))
  (apply ow_pick_t; (· rfl); (· rfl); (· ((conv => lhs; whnf) <;> rfl)))
  (apply ow_move; (· rfl); (· ((conv => lhs; whnf) <;> rfl)))
  refine ow_guard_yes rfl rfl rfl rfl ?_
  (apply ow_move; (· rfl); (· ((conv => lhs; whnf) <;> rfl)))
  refine ow_guard_yes rfl rfl rfl rfl ?_
  refine ow_neqPn rfl rfl rfl (tyAt rfl) rfl ?_
  (apply ow_pick_t; (· rfl); (· rfl); (· ((conv => lhs; whnf) <;> rfl)))
  (apply ow_move; (· rfl); (· ((conv => lhs; whnf) <;> rfl)))
  refine ow_guard_yes rfl rfl rfl rfl ?_
  (apply ow_move; (· rfl); (· ((conv => lhs; whnf) <;> rfl)))
  refine ow_guard_yes rfl rfl rfl rfl ?_
  refine ow_call rfl rfl (ent (by kernel_rfl)) (CallsV.mono (plen_spec nb none 0 [] _ (mpD_at H (i := 0) (j := 1) rfl rfl)) ?_) rfl
  rintro v w' ⟨rfl, rfl⟩
  refine ow_guard_yes rfl rfl rfl rfl ?_
  refine ow_eql rfl rfl rfl ?_
  (apply ow_pick_t; (· rfl); (· rfl); (· ((conv => lhs; whnf) <;> rfl)))
  (apply ow_move; (· rfl); (· ((conv => lhs; whnf) <;> rfl)))
  refine ow_guard_yes rfl rfl rfl rfl ?_
  (apply ow_move; (· rfl); (· ((conv => lhs; whnf) <;> rfl)))
  refine ow_guard_yes rfl rfl rfl rfl ?_
  refine ow_call rfl rfl (ent (by kernel_rfl)) (CallsV.mono (names_spec b p c E21 9 (by decide) _ (mpD_at H (i := 8) (j := 9) rfl rfl)) ?_) rfl
  rintro v w ⟨qo, co, rfl, H'⟩
  replace H : St Pu w0 w (mpD nb none 0 [] ++ (.row b7 69 [.int .i64 46, .int .i64 3] :: .row b5 69 [.int .i64 0, .int .i64 0] :: (mpD qb qp qc E21 ++ (wrC bw pw cw BS ++ mpD b p c E21)))) [] := (H.call H').drop
  clear H'
  refine ow_guard_yes rfl rfl rfl rfl ?_
  refine ow_len rfl rfl (tyAt rfl) rfl ?_
  refine ow_guard_yes rfl rfl rfl rfl ?_
  refine ow_eql rfl rfl rfl ?_
  (apply ow_pick_t; (· rfl); (· rfl); (· ((conv => lhs; whnf) <;> rfl)))
  (apply ow_move; (· rfl); (· ((conv => lhs; whnf) <;> rfl)))
  refine ow_guard_yes rfl rfl rfl rfl ?_
  refine ow_call rfl rfl (ent (by kernel_rfl)) (CallsV.mono (wdone_spec bw pw cw BS (by omega) _ (H.rowSl (i := 6) rfl) (appOk.sl (H.cap (i := 7) rfl))) ?_) rfl
  rintro v w ⟨q3, cq3, rfl, H'⟩
  replace H := H.call H'
  clear H'
  refine ow_guard_yes rfl rfl rfl rfl ?_
  refine ow_toStr (bs := BS) rfl rfl rfl (appOk.sl (H.cap (i := 0) rfl)) (tyAt rfl) rfl (tyAt rfl) rfl (tyAt rfl) rfl ?_
  refine ow_guard_yes rfl rfl rfl rfl ?_
  refine ow_strcmp (b := true) rfl rfl rfl (by rw [← hBS]; decide +kernel) ?_
  (apply ow_pick_t; (· rfl); (· rfl); (· ((conv => lhs; whnf) <;> rfl)))
  (apply ow_assign; (· rfl); (· ((conv => lhs; whnf) <;> rfl)))
  refine ow_nil ?_
  refine wc_ret ?_
  obtain ⟨w, hT, H⟩ := H.takes Try.prog
  refine ⟨.inr rfl, w, hT, _, .tmp .nil, ?_⟩
  exact ⟨rfl, H.none⟩
end Go.Proofs.Ytnkjhmfliinnoaa

