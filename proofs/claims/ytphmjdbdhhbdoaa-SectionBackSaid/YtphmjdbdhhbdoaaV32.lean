/- What put writes (function 69); the statement's function 'sandtablelaw03.WireJoins' returns true at every input, and changes nothing that was there. -/
import Derived.Test.YtphmjdbdhhbdoaaV31
import Derived.Test.YtphmjdbdhhbdoaaV28
namespace Go.Proofs.Ytphmjdbdhhbdoaa
set_option linter.all false
open Go Go.Sx Go.Proofs
set_option maxRecDepth 100000
set_option maxHeartbeats 2000000
/-- a step's bytes, as put writes them. -/
def opP (o : Op3) : List Nat :=
  if o.1 = 0 then leB 4 (u32N o.2.1) else if o.1 = 1 then putN (max o.2.1 0).toNat else if o.1 = 2 then putN (foldN o.2.1) else if o.1 = 3 then putN o.2.2.length ++ o.2.2 else o.2.2
def opsP (ops : List Op3) : List Nat := ops.flatMap opP
theorem opP_lt {o : Op3} (h : op3W o) : ∀ c ∈ opP o, c < 256 := by
  unfold opP
  intro c hc
  split at hc
  · exact leB_lt _ _ c hc
  · split at hc
    · exact putN_byte _ c hc
    · split at hc
      · exact putN_byte _ c hc
      · split at hc
        · exact (List.mem_append.1 hc).elim (putN_byte _ c) (h.2.2.1 c)
        · exact h.2.2.1 c hc
theorem opP_len {o : Op3} (h : op3W o) (h60 : o.2.2.length ≤ 60) : (opP o).length ≤ 80 := by
  unfold opP
  split
  · rw [leB_len]; decide
  · split
    · have := putN_len10 (n := (max o.2.1 0).toNat) (by have := h.2.1; omega); omega
    · split
      · have := putN_len10 (foldN_lt h.2.1.1 h.2.1.2); omega
      · split
        · have := putN_len10 (n := o.2.2.length) (by omega); rw [List.length_append]; omega
        · omega
theorem opsP_lt {ops : List Op3} (h : ∀ o ∈ ops, op3W o) : ∀ c ∈ opsP ops, c < 256 := by
  intro c hc
  obtain ⟨o, ho, h1⟩ := List.mem_flatMap.1 hc
  exact opP_lt (h o ho) c h1
theorem opsP_len : ∀ {ops : List Op3}, (∀ o ∈ ops, op3W o) → (∀ o ∈ ops, o.2.2.length ≤ 60) → (opsP ops).length ≤ 80 * ops.length
  | [], _, _ => Nat.le_refl _
  | o :: ops, h, h60 => by
    have h1 := opP_len (h o List.mem_cons_self) (h60 o List.mem_cons_self)
    have h2 := opsP_len (fun x hx => h x (List.mem_cons_of_mem _ hx)) (fun x hx => h60 x (List.mem_cons_of_mem _ hx))
    unfold opsP at *
    rw [List.flatMap_cons, List.length_append, List.length_cons]; omega
theorem opsP_snoc (ops : List Op3) (o : Op3) : opsP (ops ++ [o]) = opsP ops ++ opP o := by simp [opsP]
theorem put3_spec (bw : Nat) (p : Option Addr) (c : Nat) (bs : List Nat) (hbs : bs.length ≤ 100000) (q : Option Addr) (len cap : Nat) (ops : List Op3) (hl : len = ops.length) (hw : ∀ o ∈ ops, op3W o) (hf : few3 ops) (w0 : World)
    (H : St (fps (wrC bw p c bs)) w0 w0 (wrC bw p c bs) []) (hq : SlH (msk (fps (wrC bw p c bs)) w0) q (ops.flatMap op3C)) :
    CallsV Try.prog 69 #[.pointer (some ⟨bw, 0, none⟩), .slice q len cap] w0 fun _ w => ∃ p' c', St (fps (wrC bw p c bs)) w0 w (wrC bw p' c' (bs ++ opsP ops)) [] := by
  subst hl
  refine callsV_of Try.func69 rfl rfl ?_
  generalize hM : fps (wrC bw p c bs) = M at H hq ⊢
  clear hM
  obtain ⟨h60, h40⟩ := hf
  refine wc_seq ?_
  refine wc_region ?_
  (apply ow_move; (· rfl); (· ((conv => lhs; whnf) <;> rfl)))
  refine ow_len rfl rfl (tyAt rfl) rfl ?_
  (apply ow_move; (· rfl); (· ((conv => lhs; whnf) <;> rfl)))
  refine ow_nil ?_
  refine wc_block ?_
  refine wc_loopS [5, 8, 9, 10, 11, 12, 13, 14, 15, 16, 17, 18, 19, 20, 21, 22, 23, 24, 25, 26, 27, 28, 29, 30, 31, 32, 33, 34, 35, 36, 37, 38, 39, 40, 41, 42, 43, 44] (fun (s : Nat × Option Addr × Nat) e => upd e 8 (.int .i64 s.1))
    (fun s D w => D = [] ∧ s.1 ≤ ops.length ∧ St M w0 w (wrC bw s.2.1 s.2.2 (bs ++ opsP (ops.take s.1))) []) (fun s _ => ops.length - s.1) (0, p, c) (by first | exact rfl | exact upd_self' rfl rfl | exact upd_self' rfl (upd_self' rfl rfl) | exact upd_self' rfl (upd_self' rfl (upd_self' rfl rfl)) | exact upd_self' rfl (upd_self' rfl (upd_self' rfl (upd_self' rfl rfl)))) ⟨rfl, Nat.zero_le _, by simpa [opsP] using H⟩ ?_
  clear H
  rintro ⟨i, pw, cw⟩ j D w ⟨rfl, hi, H⟩
  dsimp only at hi H ⊢
  refine wc_seq ?_
  refine wc_region ?_
  refine ow_lss rfl rfl rfl ?_
  refine ow_nil ?_
  refine wc_seq ?_
  refine wc_cond_dec rfl (fun h => ?_) (fun h => ?_) <;> try dsimp only at h
  · have hlt : i < ops.length := by omega
    obtain ⟨x, hx⟩ : ∃ x, ops[i]? = some x := ⟨_, List.getElem?_eq_getElem hlt⟩
    have htk : ops.take (i + 1) = ops.take i ++ [x] := take_snoc hx
    have hxm := List.mem_of_getElem? hx
    have hxw := hw x hxm
    have hx60 := h60 x hxm
    have hal := opsP_len (ops := ops.take i) (fun o ho => hw o (List.mem_of_mem_take ho)) (fun o ho => h60 o (List.mem_of_mem_take ho))
    rw [List.length_take, Nat.min_eq_left hi] at hal
    have hq' := H.rd hq
    obtain ⟨bq, oq, rfl⟩ := hq'.some_of (by rw [flat_len op3_len]; omega)
    obtain ⟨acc, hacc⟩ : ∃ acc, bs ++ opsP (ops.take i) = acc := ⟨_, rfl⟩
    have hal2 : acc.length ≤ 110000 := by rw [← hacc, List.length_append]; omega
    rw [hacc] at H
    obtain ⟨⟨hk1, hk2⟩, ⟨hn1, hn2⟩, hs1, hs2⟩ := hxw
    refine wc_skip ?_
    refine wc_seq ?_
    refine wc_block ?_
    refine wc_seq ?_
    refine wc_region ?_
    refine ow_idxK (j := i) (sz := 3) rfl (tyAt rfl) rfl (tyAt rfl) rfl rfl rfl hlt rfl ?_
    refine ow_loadA (l := op3C x) rfl (tyAt rfl) rfl rfl rfl (hq'.elem op3_len hx) ?_
    refine ow_alloc (l := [.int .i64 0, .int .i64 0, .string ⟨#[]⟩]) H rfl (tyAt rfl) rfl (fun bo w H => ?_)
    refine ow_storeA (i := 0) (o := 0) (l' := op3C x) H (tyAt rfl) rfl rfl rfl rfl (by simp [op3C, Value.oneCell']) (by simp [op3C]) (fun w H => ?_)
    dsimp only [List.set] at H
    replace H : St M w0 w (wrC bw pw cw acc ++ [.row bo 70 (op3C x)]) [] := H.perm (List.perm_append_comm (l₁ := [_]) (l₂ := [_, _]))
    refine ow_nil ?_
    refine wc_seq ?_
    refine wc_region ?_
    refine ow_fieldAddr rfl (tyAt rfl) rfl rfl rfl (tyAt rfl) rfl rfl ?_
    refine ow_load rfl (tyAt rfl) rfl rfl (H.cell (i := 2) rfl rfl) ?_
    refine ow_nil ?_
    refine wc_block ?_
    refine wc_seq ?_
    refine wc_region ?_
    refine ow_eql rfl rfl rfl ?_
    (apply ow_assign; (· rfl); (· ((conv => lhs; whnf) <;> rfl)))
    refine ow_nil ?_
    refine wc_cond_dec rfl (fun h => ?_) (fun h => ?_) <;> try dsimp only at h
    · have eB : opP x = leB 4 (u32N x.2.1) := by unfold opP; rw [if_pos (by omega)]
      refine wc_region ?_
      (apply ow_move; (· rfl); (· ((conv => lhs; whnf) <;> rfl)))
      refine ow_fieldAddr rfl (tyAt rfl) rfl rfl rfl (tyAt rfl) rfl rfl ?_
      refine ow_load rfl (tyAt rfl) rfl rfl (H.cell (i := 2) rfl rfl) ?_
      refine ow_conv rfl rfl (tyAt rfl) (tyAt rfl) rfl ?_
      rw [wrap_u32Z]
      refine ow_call rfl rfl (ent (by kernel_rfl)) (CallsV.mono (wfixed_spec bw pw cw acc (by omega) (u32N x.2.1) (u32N_lt _) _ H.begin) ?_) rfl
      rintro v w ⟨pw2, cw2, H'⟩
      replace H := H.callC (fun _ h => h) H'
      rw [← eB] at H
      clear H'
      refine ow_nil ?_
      refine wc_region ?_
      refine ow_add rfl rfl rfl (by simp only [InK]; omega) ?_
      (apply ow_move; (· rfl); (· ((conv => lhs; whnf) <;> rfl)))
      refine ow_nil ?_
      refine ⟨(i + 1, pw2, cw2), by first | exact rfl | exact upd_self' rfl rfl | exact upd_self' rfl (upd_self' rfl rfl) | exact upd_self' rfl (upd_self' rfl (upd_self' rfl rfl)) | exact upd_self' rfl (upd_self' rfl (upd_self' rfl (upd_self' rfl rfl))), by repeat (first | with_reducible exact Off.mix | with_reducible exact Off.refl | ((with_reducible refine Off.upd ?_ ?_); (· rfl))), ⟨rfl, hlt, ?_⟩, by dsimp only; omega⟩
      dsimp only
      rw [htk, opsP_snoc, ← List.append_assoc, hacc]
      exact H.sub (List.sublist_append_left (wrC bw pw2 cw2 (acc ++ opP x)) _)
    refine wc_seq ?_
    refine wc_region ?_
    refine ow_eql rfl rfl rfl ?_
    (apply ow_assign; (· rfl); (· ((conv => lhs; whnf) <;> rfl)))
    refine ow_nil ?_
    refine wc_cond_dec rfl (fun h => ?_) (fun h => ?_) <;> try dsimp only at h
    · have eB : opP x = putN (max x.2.1 0).toNat := by unfold opP; rw [if_neg (by omega), if_pos (by omega)]
      refine wc_region ?_
      (apply ow_move; (· rfl); (· ((conv => lhs; whnf) <;> rfl)))
      refine ow_fieldAddr rfl (tyAt rfl) rfl rfl rfl (tyAt rfl) rfl rfl ?_
      refine ow_load rfl (tyAt rfl) rfl rfl (H.cell (i := 2) rfl rfl) ?_
      skip
      refine ow_call rfl rfl (ent (by kernel_rfl)) (CallsV.mono (wcount_spec bw pw cw acc (by omega) x.2.1 ⟨hn1, hn2⟩ _ H.begin) ?_) rfl
      rintro v w ⟨pw2, cw2, H'⟩
      replace H := H.callC (fun _ h => h) H'
      rw [← eB] at H
      clear H'
      refine ow_nil ?_
      refine wc_region ?_
      refine ow_add rfl rfl rfl (by simp only [InK]; omega) ?_
      (apply ow_move; (· rfl); (· ((conv => lhs; whnf) <;> rfl)))
      refine ow_nil ?_
      refine ⟨(i + 1, pw2, cw2), by first | exact rfl | exact upd_self' rfl rfl | exact upd_self' rfl (upd_self' rfl rfl) | exact upd_self' rfl (upd_self' rfl (upd_self' rfl rfl)) | exact upd_self' rfl (upd_self' rfl (upd_self' rfl (upd_self' rfl rfl))), by repeat (first | with_reducible exact Off.mix | with_reducible exact Off.refl | ((with_reducible refine Off.upd ?_ ?_); (· rfl))), ⟨rfl, hlt, ?_⟩, by dsimp only; omega⟩
      dsimp only
      rw [htk, opsP_snoc, ← List.append_assoc, hacc]
      exact H.sub (List.sublist_append_left (wrC bw pw2 cw2 (acc ++ opP x)) _)
    refine wc_seq ?_
    refine wc_region ?_
    refine ow_eql rfl rfl rfl ?_
    (apply ow_assign; (· rfl); (· ((conv => lhs; whnf) <;> rfl)))
    refine ow_nil ?_
    refine wc_cond_dec rfl (fun h => ?_) (fun h => ?_) <;> try dsimp only at h
    · have eB : opP x = putN (foldN x.2.1) := by unfold opP; rw [if_neg (by omega), if_neg (by omega), if_pos (by omega)]
      refine wc_region ?_
      (apply ow_move; (· rfl); (· ((conv => lhs; whnf) <;> rfl)))
      refine ow_fieldAddr rfl (tyAt rfl) rfl rfl rfl (tyAt rfl) rfl rfl ?_
      refine ow_load rfl (tyAt rfl) rfl rfl (H.cell (i := 2) rfl rfl) ?_
      skip
      refine ow_call rfl rfl (ent (by kernel_rfl)) (CallsV.mono (wnum_spec bw pw cw acc (by omega) x.2.1 ⟨hn1, hn2⟩ _ H.begin) ?_) rfl
      rintro v w ⟨pw2, cw2, H'⟩
      replace H := H.callC (fun _ h => h) H'
      rw [← eB] at H
      clear H'
      refine ow_nil ?_
      refine wc_region ?_
      refine ow_add rfl rfl rfl (by simp only [InK]; omega) ?_
      (apply ow_move; (· rfl); (· ((conv => lhs; whnf) <;> rfl)))
      refine ow_nil ?_
      refine ⟨(i + 1, pw2, cw2), by first | exact rfl | exact upd_self' rfl rfl | exact upd_self' rfl (upd_self' rfl rfl) | exact upd_self' rfl (upd_self' rfl (upd_self' rfl rfl)) | exact upd_self' rfl (upd_self' rfl (upd_self' rfl (upd_self' rfl rfl))), by repeat (first | with_reducible exact Off.mix | with_reducible exact Off.refl | ((with_reducible refine Off.upd ?_ ?_); (· rfl))), ⟨rfl, hlt, ?_⟩, by dsimp only; omega⟩
      dsimp only
      rw [htk, opsP_snoc, ← List.append_assoc, hacc]
      exact H.sub (List.sublist_append_left (wrC bw pw2 cw2 (acc ++ opP x)) _)
    refine wc_seq ?_
    refine wc_region ?_
    refine ow_eql rfl rfl rfl ?_
    (apply ow_assign; (· rfl); (· ((conv => lhs; whnf) <;> rfl)))
    refine ow_nil ?_
    refine wc_cond_dec rfl (fun h => ?_) (fun h => ?_) <;> try dsimp only at h
    · have eB : opP x = putN x.2.2.length ++ x.2.2 := by unfold opP; rw [if_neg (by omega), if_neg (by omega), if_neg (by omega), if_pos (by omega)]
      refine wc_region ?_
      (apply ow_move; (· rfl); (· ((conv => lhs; whnf) <;> rfl)))
      refine ow_fieldAddr rfl (tyAt rfl) rfl rfl rfl (tyAt rfl) rfl rfl ?_
      refine ow_load rfl (tyAt rfl) rfl rfl (H.cell (i := 2) rfl rfl) ?_
      skip
      refine ow_call rfl rfl (ent (by kernel_rfl)) (CallsV.mono (wtext_spec bw pw cw acc (by omega) x.2.2 (by omega) hs1 _ H.begin) ?_) rfl
      rintro v w ⟨pw2, cw2, H'⟩
      replace H := H.callC (fun _ h => h) H'
      rw [← eB] at H
      clear H'
      refine ow_nil ?_
      refine wc_region ?_
      refine ow_add rfl rfl rfl (by simp only [InK]; omega) ?_
      (apply ow_move; (· rfl); (· ((conv => lhs; whnf) <;> rfl)))
      refine ow_nil ?_
      refine ⟨(i + 1, pw2, cw2), by first | exact rfl | exact upd_self' rfl rfl | exact upd_self' rfl (upd_self' rfl rfl) | exact upd_self' rfl (upd_self' rfl (upd_self' rfl rfl)) | exact upd_self' rfl (upd_self' rfl (upd_self' rfl (upd_self' rfl rfl))), by repeat (first | with_reducible exact Off.mix | with_reducible exact Off.refl | ((with_reducible refine Off.upd ?_ ?_); (· rfl))), ⟨rfl, hlt, ?_⟩, by dsimp only; omega⟩
      dsimp only
      rw [htk, opsP_snoc, ← List.append_assoc, hacc]
      exact H.sub (List.sublist_append_left (wrC bw pw2 cw2 (acc ++ opP x)) _)
    · have eB : opP x = x.2.2 := by unfold opP; rw [if_neg (by omega), if_neg (by omega), if_neg (by omega), if_neg (by omega)]
      refine wc_region ?_
      (apply ow_move; (· rfl); (· ((conv => lhs; whnf) <;> rfl)))
      refine ow_fieldAddr rfl (tyAt rfl) rfl rfl rfl (tyAt rfl) rfl rfl ?_
      refine ow_load rfl (tyAt rfl) rfl rfl (H.cell (i := 2) rfl rfl) ?_
      skip
      refine ow_toBytes H rfl rfl hs1 (tyAt rfl) rfl (tyAt rfl) rfl (tyAt rfl) rfl (fun b2 c2 w H => ?_)
      replace H : St M w0 w (wrC bw pw cw acc ++ [.row bo 70 (op3C x), .sl (some ⟨b2, 0, none⟩) (nats .u8 x.2.2)]) [] := H.perm (List.perm_append_comm (l₁ := [_]) (l₂ := [_, _, _]))
      skip
      have hsl : SlH (msk (fps (wrC bw pw cw acc)) w) (some ⟨b2, 0, none⟩) (nats .u8 x.2.2) := H.capC (i := 1) rfl
      refine ow_call rfl rfl (ent (by kernel_rfl)) (CallsV.mono (wraw_spec bw pw cw acc (by omega) (some ⟨b2, 0, none⟩) _ c2 x.2.2 rfl (by omega) _ H.begin hsl) ?_) rfl
      rintro v w ⟨pw2, cw2, H'⟩
      replace H := H.callC (fun _ h => h) H'
      rw [← eB] at H
      clear H'
      refine ow_nil ?_
      refine wc_region ?_
      refine ow_add rfl rfl rfl (by simp only [InK]; omega) ?_
      (apply ow_move; (· rfl); (· ((conv => lhs; whnf) <;> rfl)))
      refine ow_nil ?_
      refine ⟨(i + 1, pw2, cw2), by first | exact rfl | exact upd_self' rfl rfl | exact upd_self' rfl (upd_self' rfl rfl) | exact upd_self' rfl (upd_self' rfl (upd_self' rfl rfl)) | exact upd_self' rfl (upd_self' rfl (upd_self' rfl (upd_self' rfl rfl))), by repeat (first | with_reducible exact Off.mix | with_reducible exact Off.refl | ((with_reducible refine Off.upd ?_ ?_); (· rfl))), ⟨rfl, hlt, ?_⟩, by dsimp only; omega⟩
      dsimp only
      rw [htk, opsP_snoc, ← List.append_assoc, hacc]
      exact H.sub (List.sublist_append_left (wrC bw pw2 cw2 (acc ++ opP x)) _)
  · refine wc_exit ?_
    have hi' : i = ops.length := by omega
    subst hi'
    rw [List.take_length] at H
    obtain ⟨w, hT, H⟩ := H.takes Try.prog
    refine ⟨.inl rfl, w, hT, _, .nil, ?_⟩
    exact ⟨pw, cw, H⟩
theorem law03Joins (qa : Option Addr) (ca : Nat) (xa : List Op3) (hma : xa.length ≤ 9223372036854775807) (hwa : ∀ o ∈ xa, op3W o) (qb : Option Addr) (cb : Nat) (xb : List Op3) (hmb : xb.length ≤ 9223372036854775807) (hwb : ∀ o ∈ xb, op3W o) (w0 : World) (ha : SlH (hp w0) qa (xa.flatMap op3C)) (hb : SlH (hp w0) qb (xb.flatMap op3C)) :
    CallsV Try.prog 17 #[.slice qa xa.length ca, .slice qb xb.length cb] w0 fun v w => v = .bool true ∧ St Pu w0 w [] [] := by
  refine callsV_of Try.func17 rfl rfl ?_
  refine wc_seq ?_
  refine wc_region ?_
  (apply ow_assign; (· rfl); (· ((conv => lhs; whnf) <;> rfl)))
  refine ow_nil ?_
  refine wc_seq ?_
  refine wc_seq ?_
  refine wc_region ?_
  refine ow_call rfl rfl (ent (by kernel_rfl)) (CallsV.mono (alive03 w0) ?_) rfl
  rintro v w ⟨rfl, H⟩
  refine ow_not rfl rfl ?_
  refine ow_nil ?_
  refine wc_cond_false rfl ?_
  refine wc_skip ?_
  refine wc_seq ?_
  refine wc_seq ?_
  refine wc_region ?_
  (apply ow_move; (· rfl); (· ((conv => lhs; whnf) <;> rfl)))
  refine ow_call rfl rfl (ent (by kernel_rfl)) (CallsV.mono (few3_spec qa _ ca xa rfl hma _ (H.oldSl ha)) ?_) rfl
  rintro v w ⟨hv, H'⟩
  replace H := H.call H'
  rw [List.nil_append] at H
  clear H'
  rcases hv with rfl | ⟨rfl, hfa⟩
  · refine ow_not rfl rfl ?_
    (apply ow_move; (· rfl); (· ((conv => lhs; whnf) <;> rfl)))
    refine ow_guard_no rfl rfl rfl rfl rfl rfl rfl ?_
    refine ow_guard_no rfl rfl rfl rfl rfl rfl rfl ?_
    refine ow_guard_no rfl rfl rfl rfl rfl rfl rfl ?_
    (apply ow_pick_t; (· rfl); (· rfl); (· ((conv => lhs; whnf) <;> rfl)))
    refine ow_nil ?_
    refine wc_cond_true rfl ?_
    refine wc_seq ?_
    refine wc_region ?_
    (apply ow_assign; (· rfl); (· ((conv => lhs; whnf) <;> rfl)))
    refine ow_nil ?_
    refine wc_ret ?_
    obtain ⟨w, hT, H⟩ := H.takes Try.prog
    refine ⟨.inr rfl, w, hT, _, .tmp .nil, ?_⟩
    exact ⟨rfl, H⟩
  refine ow_not rfl rfl ?_
  (apply ow_move; (· rfl); (· ((conv => lhs; whnf) <;> rfl)))
  refine ow_guard_yes rfl rfl rfl rfl ?_
  (apply ow_move; (· rfl); (· ((conv => lhs; whnf) <;> rfl)))
  refine ow_guard_yes rfl rfl rfl rfl ?_
  refine ow_call rfl rfl (ent (by kernel_rfl)) (CallsV.mono (few3_spec qb _ cb xb rfl hmb _ (H.oldSl hb)) ?_) rfl
  rintro v w ⟨hv, H'⟩
  replace H := H.call H'
  rw [List.nil_append] at H
  clear H'
  rcases hv with rfl | ⟨rfl, hfb⟩
  · refine ow_guard_yes rfl rfl rfl rfl ?_
    refine ow_not rfl rfl ?_
    (apply ow_pick_f; (· rfl); (· rfl); (· ((conv => lhs; whnf) <;> rfl)))
    refine ow_nil ?_
    refine wc_cond_true rfl ?_
    refine wc_seq ?_
    refine wc_region ?_
    (apply ow_assign; (· rfl); (· ((conv => lhs; whnf) <;> rfl)))
    refine ow_nil ?_
    refine wc_ret ?_
    obtain ⟨w, hT, H⟩ := H.takes Try.prog
    refine ⟨.inr rfl, w, hT, _, .tmp .nil, ?_⟩
    exact ⟨rfl, H⟩
  have hla := opsP_len hwa hfa.1
  have hlb := opsP_len hwb hfb.1
  have hba := opsP_lt hwa
  have hbb := opsP_lt hwb
  have h40a := hfa.2
  have h40b := hfb.2
  refine ow_guard_yes rfl rfl rfl rfl ?_
  refine ow_not rfl rfl ?_
  (apply ow_pick_f; (· rfl); (· rfl); (· ((conv => lhs; whnf) <;> rfl)))
  refine ow_nil ?_
  refine wc_cond_false rfl ?_
  refine wc_skip ?_
  refine wc_seq ?_
  refine wc_region ?_
  refine ow_alloc (l := [.slice none 0 0]) H rfl (tyAt rfl) rfl (fun b5 w H => ?_)
  replace H : St Pu w0 w (wrC b5 none 0 []) [] := (H.nilApp 5 1).perm (List.Perm.swap _ _ _)
  refine ow_alloc (l := [.slice none 0 0]) H rfl (tyAt rfl) rfl (fun b6 w H => ?_)
  replace H : St Pu w0 w (wrC b6 none 0 [] ++ wrC b5 none 0 []) [] := (H.nilApp 5 1).perm (List.Perm.swap _ _ _)
  refine ow_alloc (l := [.slice none 0 0]) H rfl (tyAt rfl) rfl (fun b7 w H => ?_)
  replace H : St Pu w0 w (wrC b7 none 0 [] ++ (wrC b6 none 0 [] ++ wrC b5 none 0 [])) [] := (H.nilApp 5 1).perm (List.Perm.swap _ _ _)
  replace H : St Pu w0 w (wrC b5 none 0 [] ++ (wrC b7 none 0 [] ++ wrC b6 none 0 [])) [] := H.perm (List.perm_append_comm (l₁ := wrC b7 none 0 [] ++ wrC b6 none 0 []) (l₂ := wrC b5 none 0 []))
  refine ow_nil ?_
  refine wc_seq ?_
  refine wc_region ?_
  (apply ow_move; (· rfl); (· ((conv => lhs; whnf) <;> rfl)))
  refine ow_call rfl rfl (ent (by kernel_rfl)) (CallsV.mono (put3_spec b5 none 0 [] (by simp) qa _ ca xa rfl hwa hfa _ H.begin (St.old H ha)) ?_) rfl
  rintro v w ⟨p5, c5, H'⟩
  replace H := H.callC (fun _ h => h) H'
  rw [List.nil_append] at H
  replace H : St Pu w0 w (wrC b6 none 0 [] ++ (wrC b5 p5 c5 (opsP xa) ++ wrC b7 none 0 [])) [] := H.perm (List.perm_append_comm (l₁ := wrC b5 p5 c5 (opsP xa) ++ wrC b7 none 0 []) (l₂ := wrC b6 none 0 []))
  refine ow_nil ?_
  refine wc_seq ?_
  refine wc_region ?_
  (apply ow_move; (· rfl); (· ((conv => lhs; whnf) <;> rfl)))
  refine ow_call rfl rfl (ent (by kernel_rfl)) (CallsV.mono (put3_spec b6 none 0 [] (by simp) qb _ cb xb rfl hwb hfb _ H.begin (St.old H hb)) ?_) rfl
  rintro v w ⟨p6, c6, H'⟩
  replace H := H.callC (fun _ h => h) H'
  rw [List.nil_append] at H
  replace H : St Pu w0 w (wrC b7 none 0 [] ++ (wrC b6 p6 c6 (opsP xb) ++ wrC b5 p5 c5 (opsP xa))) [] := H.perm (List.perm_append_comm (l₁ := wrC b6 p6 c6 (opsP xb) ++ wrC b5 p5 c5 (opsP xa)) (l₂ := wrC b7 none 0 []))
  refine ow_nil ?_
  refine wc_seq ?_
  refine wc_region ?_
  (apply ow_move; (· rfl); (· ((conv => lhs; whnf) <;> rfl)))
  refine ow_call rfl rfl (ent (by kernel_rfl)) (CallsV.mono (put3_spec b7 none 0 [] (by simp) qa _ ca xa rfl hwa hfa _ H.begin (St.old H ha)) ?_) rfl
  rintro v w ⟨p7, c7, H'⟩
  replace H := H.callC (fun _ h => h) H'
  rw [List.nil_append] at H
  refine ow_nil ?_
  refine wc_seq ?_
  refine wc_region ?_
  refine ow_call rfl rfl (ent (by kernel_rfl)) (CallsV.mono (wdone_spec b7 p7 c7 (opsP xa) (by omega) _ (H.rowSl (i := 0) rfl) (appOk.sl (H.cap (i := 1) rfl))) ?_) rfl
  rintro v w ⟨p8, c8, rfl, H'⟩
  replace H := H.call H'
  replace H : St Pu w0 w (wrC b7 p7 c7 (opsP xa) ++ (wrC b6 p6 c6 (opsP xb) ++ wrC b5 p5 c5 (opsP xa) ++ [.app p8 (opsP xa).length c8 5 1 (nats .u8 (opsP xa))])) [] := H.perm (List.perm_append_comm (l₁ := [_]) (l₂ := wrC b7 p7 c7 (opsP xa) ++ (wrC b6 p6 c6 (opsP xb) ++ wrC b5 p5 c5 (opsP xa))))
  (apply ow_assign; (· rfl); (· ((conv => lhs; whnf) <;> rfl)))
  refine ow_nil ?_
  refine wc_seq ?_
  refine wc_region ?_
  (apply ow_move; (· rfl); (· ((conv => lhs; whnf) <;> rfl)))
  refine ow_call rfl rfl (ent (by kernel_rfl)) (CallsV.mono (put3_spec b7 p7 c7 (opsP xa) (by omega) qb _ cb xb rfl hwb hfb _ H.begin (St.old H hb)) ?_) rfl
  rintro v w ⟨p9, c9, H'⟩
  replace H := H.callC (fun _ h => h) H'
  refine ow_nil ?_
  refine wc_seq ?_
  refine wc_seq ?_
  refine wc_region ?_
  (apply ow_move; (· rfl); (· ((conv => lhs; whnf) <;> rfl)))
  refine ow_len rfl rfl (tyAt rfl) rfl ?_
  (apply ow_move; (· rfl); (· ((conv => lhs; whnf) <;> rfl)))
  refine ow_nil ?_
  replace H : St Pu w0 w (.app p8 (opsP xa).length c8 5 1 (nats .u8 (opsP xa)) :: (wrC b7 p9 c9 (opsP xa ++ opsP xb) ++ (wrC b6 p6 c6 (opsP xb) ++ wrC b5 p5 c5 (opsP xa)))) [] := H.perm (List.perm_append_comm (l₁ := wrC b7 p9 c9 (opsP xa ++ opsP xb) ++ (wrC b6 p6 c6 (opsP xb) ++ wrC b5 p5 c5 (opsP xa))) (l₂ := [_]))
  refine wc_blockJ [9, 31, 32, 33, 34, 35, 36, 37, 38, 39, 40] (fun (s : Unit) e => e) (fun s D w => D = [] ∧ St Pu w0 w (wrC b7 p9 c9 (opsP xa ++ opsP xb) ++ (wrC b6 p6 c6 (opsP xb) ++ wrC b5 p5 c5 (opsP xa))) []) ?_ ?_
  · refine wc_loopS [9, 31, 32, 33, 34, 35, 36, 37, 38, 39, 40] (fun (s : Nat) e => upd e 31 (.int .i64 s))
      (fun s D w => D = [] ∧ s ≤ (opsP xa).length ∧ ∃ t, t.length = (opsP xa).length ∧ (∀ c ∈ t, c < 256) ∧ St Pu w0 w (.app p8 (opsP xa).length c8 5 1 (nats .u8 t) :: (wrC b7 p9 c9 (opsP xa ++ opsP xb) ++ (wrC b6 p6 c6 (opsP xb) ++ wrC b5 p5 c5 (opsP xa)))) [])
      (fun s _ => (opsP xa).length - s) 0 (by first | exact rfl | exact upd_self' rfl rfl | exact upd_self' rfl (upd_self' rfl rfl) | exact upd_self' rfl (upd_self' rfl (upd_self' rfl rfl)) | exact upd_self' rfl (upd_self' rfl (upd_self' rfl (upd_self' rfl rfl)))) ⟨rfl, Nat.zero_le _, _, rfl, hba, H⟩ ?_
    clear H' H w
    rintro i j D w ⟨rfl, hi, t, htl, htb, H⟩
    refine wc_seq ?_
    refine wc_region ?_
    refine ow_lss rfl rfl rfl ?_
    refine ow_nil ?_
    refine wc_seq ?_
    refine wc_cond_dec rfl (fun h => ?_) (fun h => ?_) <;> try dsimp only at h
    · have hlt : i < t.length := by omega
      obtain ⟨g, rfl⟩ := appOk.some (H.cap (i := 0) rfl) (by simp [nats]; omega)
      have hload := (appOk.sl (H.cap (i := 0) rfl)).nat hlt
      have hx := getD_lt htb hlt
      obtain ⟨x, hxd⟩ : ∃ x, t.getD i 0 = x := ⟨_, rfl⟩
      rw [hxd] at hx hload
      have ex : bw .xor .u8 (x : Int) 1 = ((x ^^^ 1 : Nat) : Int) := xor_u8 (y := 1) hx (by decide)
      refine wc_skip ?_
      refine wc_seq ?_
      refine wc_block ?_
      refine wc_seq ?_
      refine wc_region ?_
      (apply ow_move; (· rfl); (· ((conv => lhs; whnf) <;> rfl)))
      (apply ow_assign; (· rfl); (· ((conv => lhs; whnf) <;> rfl)))
      refine ow_nil ?_
      refine wc_region ?_
      (apply ow_move; (· rfl); (· ((conv => lhs; whnf) <;> rfl)))
      (apply ow_move; (· rfl); (· ((conv => lhs; whnf) <;> rfl)))
      refine ow_idx1 (j := i) rfl (tyAt rfl) rfl (tyAt rfl) rfl rfl (by first | rfl | omega) (by omega) rfl ?_
      refine ow_load rfl (tyAt rfl) rfl rfl (hload) ?_
      refine ow_xor rfl rfl rfl ?_
      refine ow_idx1 (j := i) rfl (tyAt rfl) rfl (tyAt rfl) rfl rfl rfl (by omega) rfl ?_
      rw [ex]
      refine ow_storeApp (i := 0) (o := 0 + i) (v := .int .u8 ((x ^^^ 1 : Nat) : Int)) H (tyAt rfl) rfl rfl rfl rfl rfl (by simp [nats]; omega) (fun w H => ?_)
      dsimp only [List.set] at H
      rw [Nat.zero_add, nats_set] at H
      refine ow_nil ?_
      refine wc_region ?_
      refine ow_add rfl rfl rfl (by simp only [InK]; omega) ?_
      (apply ow_move; (· rfl); (· ((conv => lhs; whnf) <;> rfl)))
      refine ow_nil ?_
      exact ⟨i + 1, by first | exact rfl | exact upd_self' rfl rfl | exact upd_self' rfl (upd_self' rfl rfl) | exact upd_self' rfl (upd_self' rfl (upd_self' rfl rfl)) | exact upd_self' rfl (upd_self' rfl (upd_self' rfl (upd_self' rfl rfl))), by repeat (first | with_reducible exact Off.mix | with_reducible exact Off.refl | ((with_reducible refine Off.upd ?_ ?_); (· rfl))), ⟨rfl, by omega, t.set i (x ^^^ 1), by simp [htl], set_lt htb (Nat.xor_lt_two_pow (n := 8) hx (by decide)), H⟩, by omega⟩
    · refine wc_exit ?_
      exact ⟨(), by first | exact rfl | exact upd_self' rfl rfl | exact upd_self' rfl (upd_self' rfl rfl) | exact upd_self' rfl (upd_self' rfl (upd_self' rfl rfl)) | exact upd_self' rfl (upd_self' rfl (upd_self' rfl (upd_self' rfl rfl))), by repeat (first | with_reducible exact Off.mix | with_reducible exact Off.refl | ((with_reducible refine Off.upd ?_ ?_); (· rfl))), rfl, H.drop⟩
  clear H' H w
  rintro _ j D w ⟨rfl, H⟩
  have hlab : (opsP xa ++ opsP xb).length ≤ 10000 := by rw [List.length_append]; omega
  refine wc_seq ?_
  refine wc_region ?_
  refine ow_call rfl rfl (ent (by kernel_rfl)) (CallsV.mono (wdone_spec b7 p9 c9 (opsP xa ++ opsP xb) (by omega) _ (H.rowSl (i := 0) rfl) (appOk.sl (H.cap (i := 1) rfl))) ?_) rfl
  rintro v w ⟨q1, d1, rfl, H'⟩
  replace H := H.call H'
  skip
  refine ow_call rfl rfl (ent (by kernel_rfl)) (CallsV.mono (wdone_spec b5 p5 c5 (opsP xa) (by omega) _ (H.rowSl (i := 5) rfl) (appOk.sl (H.cap (i := 6) rfl))) ?_) rfl
  rintro v w ⟨q2, d2, rfl, H'⟩
  replace H := H.call H'
  skip
  refine ow_call rfl rfl (ent (by kernel_rfl)) (CallsV.mono (wdone_spec b6 p6 c6 (opsP xb) (by omega) _ (H.rowSl (i := 4) rfl) (appOk.sl (H.cap (i := 5) rfl))) ?_) rfl
  rintro v w ⟨q3, d3, rfl, H'⟩
  replace H := H.call H'
  skip
  refine ow_buildSlice1 (vs := [.slice q2 (opsP xa).length d2, .slice q3 (opsP xb).length d3]) H rfl (tyAt rfl) rfl (tyAt rfl) rfl rfl rfl rfl rfl (by simp [Value.one]) (fun b w H => ?_)
  skip
  have hj : joinB [(q2, d2, opsP xa), (q3, d3, opsP xb)] = opsP xa ++ opsP xb := by simp [joinB]
  have hps : ∀ x ∈ [(q2, d2, opsP xa), (q3, d3, opsP xb)], SlH (hp w) x.1 (nats .u8 x.2.2) := by
    intro x hx
    simp only [List.mem_cons, List.not_mem_nil, or_false] at hx
    rcases hx with rfl | rfl
    · exact appOk.sl (H.cap (i := 2) rfl)
    · exact appOk.sl (H.cap (i := 1) rfl)
  refine ow_call rfl rfl (ent (by kernel_rfl)) (CallsV.mono (join_spec _ _ _ [(q2, d2, opsP xa), (q3, d3, opsP xb)] rfl (by simp) (by rw [hj]; omega) _ (H.rowSl (i := 0) rfl) hps) ?_) rfl
  rintro v w ⟨q4, d4, rfl, H'⟩
  replace H := H.call H'
  rw [hj] at H ⊢
  have hbab : ∀ c ∈ opsP xa ++ opsP xb, c < 256 := fun c h => (List.mem_append.1 h).elim (hba c) (hbb c)
  skip
  refine ow_call rfl rfl (ent (by kernel_rfl)) (CallsV.mono (same_spec' q1 q4 d1 d4 _ _ _ _ rfl rfl hbab hbab _ (appOk.sl (H.cap (i := 4) rfl)) (appOk.sl (H.cap (i := 0) rfl))) ?_) rfl
  rintro v w' ⟨rfl, rfl⟩
  rw [decide_eq_true (rfl : opsP xa ++ opsP xb = opsP xa ++ opsP xb)]
  (apply ow_assign; (· rfl); (· ((conv => lhs; whnf) <;> rfl)))
  refine ow_nil ?_
  refine wc_ret ?_
  obtain ⟨w, hT, H⟩ := H.takes Try.prog
  refine ⟨.inr rfl, w, hT, _, .tmp .nil, ?_⟩
  exact ⟨rfl, H.none⟩
end Go.Proofs.Ytphmjdbdhhbdoaa
