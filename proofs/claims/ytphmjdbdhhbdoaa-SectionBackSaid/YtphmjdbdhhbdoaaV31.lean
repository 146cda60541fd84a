/- The statements' functions 'sandtablelaw03.WireWrites' and '.WireJoins' return true at every input, and change nothing that was there; function 69, put. -/
import Derived.Test.YtphmjdbdhhbdoaaV30
namespace Go.Proofs.Ytphmjdbdhhbdoaa
set_option linter.all false
open Go Go.Sx Go.Proofs
set_option maxRecDepth 100000
set_option maxHeartbeats 2000000
def u32N (z : Int) : Nat := (z % 4294967296).toNat
theorem u32N_lt (z : Int) : u32N z < 4294967296 := by unfold u32N; omega
theorem wrap_u32Z (z : Int) : IntKind.u32.wrap z = (u32N z : Int) := by
  unfold u32N; simp [IntKind.wrap, IntKind.bits, IntKind.signed]; omega
/-- a step's bytes. -/
def opB (o : Op3) : List Nat :=
  if o.1 = 0 then leB 4 (u32N o.2.1) else if o.1 = 1 then putN (max o.2.1 0).toNat else if o.1 = 2 then putN (foldN o.2.1) else if o.1 = 3 then putN o.2.2.length ++ o.2.2 else if o.1 = 4 then o.2.2 else []
def opsB (ops : List Op3) : List Nat := ops.flatMap opB
theorem opB_lt {o : Op3} (h : op3W o) : ∀ c ∈ opB o, c < 256 := by
  unfold opB
  intro c hc
  split at hc
  · exact leB_lt _ _ c hc
  · split at hc
    · exact putN_byte _ c hc
    · split at hc
      · exact putN_byte _ c hc
      · split at hc
        · exact (List.mem_append.1 hc).elim (putN_byte _ c) (h.2.2.1 c)
        · split at hc
          · exact h.2.2.1 c hc
          · cases hc
theorem opB_len {o : Op3} (h : op3W o) (h60 : o.2.2.length ≤ 60) : (opB o).length ≤ 80 := by
  unfold opB
  split
  · rw [leB_len]; decide
  · split
    · have := putN_len10 (n := (max o.2.1 0).toNat) (by have := h.2.1; omega); omega
    · split
      · have := putN_len10 (foldN_lt h.2.1.1 h.2.1.2); omega
      · split
        · have := putN_len10 (n := o.2.2.length) (by omega); rw [List.length_append]; omega
        · split
          · omega
          · exact Nat.zero_le _
theorem opsB_lt {ops : List Op3} (h : ∀ o ∈ ops, op3W o) : ∀ c ∈ opsB ops, c < 256 := by
  intro c hc
  obtain ⟨o, ho, h1⟩ := List.mem_flatMap.1 hc
  exact opB_lt (h o ho) c h1
theorem opsB_len : ∀ {ops : List Op3}, (∀ o ∈ ops, op3W o) → (∀ o ∈ ops, o.2.2.length ≤ 60) → (opsB ops).length ≤ 80 * ops.length
  | [], _, _ => Nat.le_refl _
  | o :: ops, h, h60 => by
    have h1 := opB_len (h o List.mem_cons_self) (h60 o List.mem_cons_self)
    have h2 := opsB_len (fun x hx => h x (List.mem_cons_of_mem _ hx)) (fun x hx => h60 x (List.mem_cons_of_mem _ hx))
    unfold opsB at *
    rw [List.flatMap_cons, List.length_append, List.length_cons]; omega
theorem opsB_snoc (ops : List Op3) (o : Op3) : opsB (ops ++ [o]) = opsB ops ++ opB o := by simp [opsB]
theorem refText_spec (bs : List Nat) (hb : ∀ c ∈ bs, c < 256) (hm : bs.length ≤ 1000000) (w0 : World) :
    CallsV Try.prog 61 #[.string (strN bs)] w0 fun v w => ∃ p c, v = .slice p (putN bs.length ++ bs).length c ∧ St Pu w0 w [.app p (putN bs.length ++ bs).length c 5 1 (nats .u8 (putN bs.length ++ bs))] [] := by
  refine callsV_of Try.func61 rfl rfl ?_
  have hp10 := putN_len10 (n := bs.length) (by omega)
  refine wc_seq ?_
  refine wc_region ?_
  (apply ow_assign; (· rfl); (· ((conv => lhs; whnf) <;> rfl)))
  refine ow_nil ?_
  refine wc_seq ?_
  refine wc_region ?_
  (apply ow_move; (· rfl); (· ((conv => lhs; whnf) <;> rfl)))
  refine ow_lenStr rfl rfl (tyAt rfl) rfl ?_
  refine ow_conv rfl rfl (tyAt rfl) (tyAt rfl) rfl ?_
  rw [strN_size, wrap_in (k := .u64) (z := (bs.length : Int)) (by simp only [InK]; omega)]
  skip
  refine ow_call rfl rfl (ent (by kernel_rfl)) (CallsV.mono (refPut_spec bs.length (by omega) _) ?_) rfl
  rintro v w ⟨p1, c1, rfl, H⟩
  (apply ow_move; (· rfl); (· ((conv => lhs; whnf) <;> rfl)))
  refine ow_toBytes H rfl rfl hb (tyAt rfl) rfl (tyAt rfl) rfl (tyAt rfl) rfl (fun b2 c2 w H => ?_)
  refine ow_buildSlice1 (vs := [.slice p1 (putN bs.length).length c1, .slice (some ⟨b2, 0, none⟩) bs.length c2]) H rfl (tyAt rfl) rfl (tyAt rfl) rfl rfl rfl rfl rfl (by simp [Value.one]) (fun b w H => ?_)
  skip
  have hj : joinB [(p1, c1, putN bs.length), (some ⟨b2, 0, none⟩, c2, bs)] = putN bs.length ++ bs := by simp [joinB]
  have hps : ∀ x ∈ [(p1, c1, putN bs.length), (some ⟨b2, 0, none⟩, c2, bs)], SlH (hp w) x.1 (nats .u8 x.2.2) := by
    intro x hx
    simp only [List.mem_cons, List.not_mem_nil, or_false] at hx
    rcases hx with rfl | rfl
    · exact appOk.sl (H.cap (i := 2) rfl)
    · exact H.cap (i := 1) rfl
  refine ow_call rfl rfl (ent (by kernel_rfl)) (CallsV.mono (join_spec _ _ _ [(p1, c1, putN bs.length), (some ⟨b2, 0, none⟩, c2, bs)] rfl (by simp) (by rw [hj, List.length_append]; omega) _ (H.rowSl (i := 0) rfl) hps) ?_) rfl
  rintro v w ⟨p3, c3, rfl, H'⟩
  replace H := H.call H'
  simp only [List.cons_append, List.nil_append] at H
  clear H'
  rw [hj] at H ⊢
  (apply ow_assign; (· rfl); (· ((conv => lhs; whnf) <;> rfl)))
  refine ow_nil ?_
  refine wc_ret ?_
  obtain ⟨w, hT, H⟩ := H.takes Try.prog
  refine ⟨.inr rfl, w, hT, _, .tmp .nil, ?_⟩
  exact ⟨p3, c3, rfl, H.only (i := 0) rfl⟩
/-! ### WireWrites -/
theorem law03Writes (q : Option Addr) (cap : Nat) (ops : List Op3) (hm : ops.length ≤ 9223372036854775807) (hw : ∀ o ∈ ops, op3W o) (w0 : World) (hq : SlH (hp w0) q (ops.flatMap op3C)) :
    CallsV Try.prog 15 #[.slice q ops.length cap] w0 fun v w => v = .bool true ∧ St Pu w0 w [] [] := by
  refine callsV_of Try.func15 rfl rfl ?_
  refine wc_seq ?_
  refine wc_region ?_
  (apply ow_assign; (· rfl); (· ((conv => lhs; whnf) <;> rfl)))
  refine ow_nil ?_
  refine wc_seq ?_
  refine wc_seq ?_
  refine wc_region ?_
  refine ow_call rfl rfl (ent (by kernel_rfl)) (CallsV.mono (alive03 w0) ?_) rfl
  rintro v w ⟨rfl, H⟩
  refine ow_not rfl rfl ?_
  refine ow_nil ?_
  refine wc_cond_false rfl ?_
  refine wc_skip ?_
  refine wc_seq ?_
  refine wc_seq ?_
  refine wc_region ?_
  (apply ow_move; (· rfl); (· ((conv => lhs; whnf) <;> rfl)))
  refine ow_call rfl rfl (ent (by kernel_rfl)) (CallsV.mono (few3_spec q _ cap ops rfl hm _ (H.oldSl hq)) ?_) rfl
  rintro v w ⟨hv, H'⟩
  replace H := H.call H'
  rw [List.nil_append] at H
  clear H'
  rcases hv with rfl | ⟨rfl, h60, h40⟩
  · refine ow_not rfl rfl ?_
    refine ow_nil ?_
    refine wc_cond_true rfl ?_
    refine wc_seq ?_
    refine wc_region ?_
    (apply ow_assign; (· rfl); (· ((conv => lhs; whnf) <;> rfl)))
    refine ow_nil ?_
    refine wc_ret ?_
    obtain ⟨w, hT, H⟩ := H.takes Try.prog
    refine ⟨.inr rfl, w, hT, _, .tmp .nil, ?_⟩
    exact ⟨rfl, H⟩
  refine ow_not rfl rfl ?_
  refine ow_nil ?_
  refine wc_cond_false rfl ?_
  refine wc_skip ?_
  refine wc_seq ?_
  refine wc_region ?_
  refine ow_alloc (l := [.slice none 0 0]) H rfl (tyAt rfl) rfl (fun bw w H => ?_)
  replace H : St Pu w0 w (wrC bw none 0 [] ++ []) [] := (H.nilApp 5 1).perm (List.Perm.swap _ _ _)
  refine ow_nil ?_
  refine wc_seq ?_
  refine wc_region ?_
  refine ow_buildSlice1 (vs := []) H rfl (tyAt rfl) rfl (tyAt rfl) rfl rfl rfl rfl rfl (by simp [Value.one]) (fun b w H => ?_)
  replace H := H.rowApp (i := 0) (len := 0) (sz := 1) rfl rfl (by omega)
  dsimp only [List.set] at H
  (apply ow_assign; (· rfl); (· ((conv => lhs; whnf) <;> rfl)))
  refine ow_nil ?_
  refine wc_seq ?_
  refine wc_seq ?_
  refine wc_region ?_
  (apply ow_move; (· rfl); (· ((conv => lhs; whnf) <;> rfl)))
  refine ow_len rfl rfl (tyAt rfl) rfl ?_
  (apply ow_move; (· rfl); (· ((conv => lhs; whnf) <;> rfl)))
  refine ow_nil ?_
  replace H : St Pu w0 w (wrC bw none 0 [] ++ [.app (some ⟨b, 0, none⟩) 0 0 5 1 (nats .u8 [])]) [] := H.perm (List.perm_append_comm (l₁ := [_]) (l₂ := [_, _]))
  refine wc_blockJ [4, 6, 15, 16, 17, 18, 19, 20, 21, 22, 23, 24, 25, 26, 27, 28, 29, 30, 31, 32, 33, 34, 35, 36, 37, 38, 39, 40, 41, 42, 43, 44, 45, 46, 47, 48, 49, 50, 51, 52, 53, 54, 55, 56, 57, 58, 59, 60, 61, 62, 63, 64, 65, 66, 67, 68, 69, 70, 71, 72, 73, 74, 75, 76] (fun (s : Option Addr × Nat × Option Addr × Nat) e => upd e 4 (.slice s.2.2.1 (opsB ops).length s.2.2.2))
    (fun s D w => D = [] ∧ St Pu w0 w (wrC bw s.1 s.2.1 (opsB ops) ++ [.app s.2.2.1 (opsB ops).length s.2.2.2 5 1 (nats .u8 (opsB ops))]) []) ?_ ?_
  · refine wc_loopS [4, 6, 15, 16, 17, 18, 19, 20, 21, 22, 23, 24, 25, 26, 27, 28, 29, 30, 31, 32, 33, 34, 35, 36, 37, 38, 39, 40, 41, 42, 43, 44, 45, 46, 47, 48, 49, 50, 51, 52, 53, 54, 55, 56, 57, 58, 59, 60, 61, 62, 63, 64, 65, 66, 67, 68, 69, 70, 71, 72, 73, 74, 75, 76] (fun (s : Nat × Option Addr × Nat × Option Addr × Nat) e => upd (upd e 4 (.slice s.2.2.2.1 (opsB (ops.take s.1)).length s.2.2.2.2)) 15 (.int .i64 s.1))
      (fun s D w => D = [] ∧ s.1 ≤ ops.length ∧ St Pu w0 w (wrC bw s.2.1 s.2.2.1 (opsB (ops.take s.1)) ++ [.app s.2.2.2.1 (opsB (ops.take s.1)).length s.2.2.2.2 5 1 (nats .u8 (opsB (ops.take s.1)))]) [])
      (fun s _ => ops.length - s.1) (0, none, 0, some ⟨b, 0, none⟩, 0) (by first | exact rfl | exact upd_self' rfl rfl | exact upd_self' rfl (upd_self' rfl rfl) | exact upd_self' rfl (upd_self' rfl (upd_self' rfl rfl)) | exact upd_self' rfl (upd_self' rfl (upd_self' rfl (upd_self' rfl rfl)))) ⟨rfl, Nat.zero_le _, H⟩ ?_
    clear H w
    rintro ⟨i, pw, cw, px, cx⟩ j D w ⟨rfl, hi, H⟩
    dsimp only at hi H ⊢
    refine wc_seq ?_
    refine wc_region ?_
    refine ow_lss rfl rfl rfl ?_
    refine ow_nil ?_
    refine wc_seq ?_
    refine wc_cond_dec rfl (fun h => ?_) (fun h => ?_) <;> try dsimp only at h
    · have hlt : i < ops.length := by omega
      obtain ⟨x, hx⟩ : ∃ x, ops[i]? = some x := ⟨_, List.getElem?_eq_getElem hlt⟩
      have htk : ops.take (i + 1) = ops.take i ++ [x] := take_snoc hx
      have hxm := List.mem_of_getElem? hx
      have hxw := hw x hxm
      have hx60 := h60 x hxm
      have hal := opsB_len (ops := ops.take i) (fun o ho => hw o (List.mem_of_mem_take ho)) (fun o ho => h60 o (List.mem_of_mem_take ho))
      rw [List.length_take, Nat.min_eq_left hi] at hal
      have hq' := H.oldSl hq
      obtain ⟨bq, oq, rfl⟩ := hq'.some_of (by rw [flat_len op3_len]; omega)
      have hB := opsB_snoc (ops.take i) x
      obtain ⟨acc, hacc⟩ : ∃ acc, opsB (ops.take i) = acc := ⟨_, rfl⟩
      rw [hacc] at H hal hB ⊢
      obtain ⟨⟨hk1, hk2⟩, ⟨hn1, hn2⟩, hs1, hs2⟩ := hxw
      refine wc_skip ?_
      refine wc_seq ?_
      refine wc_block ?_
      refine wc_seq ?_
      refine wc_region ?_
      refine ow_idxK (j := i) (sz := 3) rfl (tyAt rfl) rfl (tyAt rfl) rfl rfl rfl hlt rfl ?_
      refine ow_loadA (l := op3C x) rfl (tyAt rfl) rfl rfl rfl (hq'.elem op3_len hx) ?_
      refine ow_alloc (l := [.int .i64 0, .int .i64 0, .string ⟨#[]⟩]) H rfl (tyAt rfl) rfl (fun bo w H => ?_)
      refine ow_storeA (i := 0) (o := 0) (l' := op3C x) H (tyAt rfl) rfl rfl rfl rfl (by simp [op3C, Value.oneCell']) (by simp [op3C]) (fun w H => ?_)
      dsimp only [List.set] at H
      replace H : St Pu w0 w (wrC bw pw cw acc ++ [.app px acc.length cx 5 1 (nats .u8 acc), .row bo 70 (op3C x)]) [] := H.perm (List.perm_append_comm (l₁ := [_]) (l₂ := [_, _, _]))
      refine ow_nil ?_
      refine wc_seq ?_
      refine wc_region ?_
      refine ow_fieldAddr rfl (tyAt rfl) rfl rfl rfl (tyAt rfl) rfl rfl ?_
      refine ow_load rfl (tyAt rfl) rfl rfl (H.cell (i := 3) rfl rfl) ?_
      refine ow_nil ?_
      refine wc_block ?_
      refine wc_seq ?_
      refine wc_region ?_
      refine ow_eql rfl rfl rfl ?_
      (apply ow_assign; (· rfl); (· ((conv => lhs; whnf) <;> rfl)))
      refine ow_nil ?_
      refine wc_cond_dec rfl (fun h => ?_) (fun h => ?_) <;> try dsimp only at h
      · have eB : opB x = leB 4 (u32N x.2.1) := by unfold opB; rw [if_pos (by omega)]
        have hol : (opB x).length = 4 := by rw [eB, leB_len]
        refine wc_seq ?_
        refine wc_region ?_
        refine ow_fieldAddr rfl (tyAt rfl) rfl rfl rfl (tyAt rfl) rfl rfl ?_
        refine ow_load rfl (tyAt rfl) rfl rfl (H.cell (i := 3) rfl rfl) ?_
        refine ow_conv rfl rfl (tyAt rfl) (tyAt rfl) rfl ?_
        rw [wrap_u32Z]
        refine ow_call rfl rfl (ent (by kernel_rfl)) (CallsV.mono (wfixed_spec bw pw cw acc (by omega) (u32N x.2.1) (u32N_lt _) _ H.begin) ?_) rfl
        rintro v w ⟨pw2, cw2, H'⟩
        replace H := H.callC (fun _ h => h) H'
        rw [← eB] at H
        clear H'
        refine ow_nil ?_
        refine wc_region ?_
        (apply ow_move; (· rfl); (· ((conv => lhs; whnf) <;> rfl)))
        refine ow_fieldAddr rfl (tyAt rfl) rfl rfl rfl (tyAt rfl) rfl rfl ?_
        refine ow_load rfl (tyAt rfl) rfl rfl (H.cell (i := 3) rfl rfl) ?_
        refine ow_conv rfl rfl (tyAt rfl) (tyAt rfl) rfl ?_
        rw [wrap_u32Z]
        refine ow_call rfl rfl (ent (by kernel_rfl)) (CallsV.mono (refFixed_spec (u32N x.2.1) (u32N_lt _) _) ?_) rfl
        rintro v w ⟨pf, cf, rfl, H'⟩
        replace H := H.call H'
        rw [← eB] at H
        refine ow_append (i := 3) H rfl rfl (tyAt rfl) rfl (tyAt rfl) rfl (by decide) rfl rfl (appOk.sl (H.cap (i := 0) rfl)) (by first | rfl | (simp; done) | (simp; omega)) (by simp [Value.oneCell']) (by first | omega | (dsimp only; omega) | (simp; omega)) (by first | omega | (dsimp only; omega) | (simp; omega)) (fun px2 cx2 w H => ?_)
        dsimp only [List.set] at H
        have hlen : (opsB (ops.take (i + 1))).length = acc.length + 4 := by have e := congrArg List.length hB; rw [List.length_append, ← htk] at e; omega
        have H2 := H.drop.sub (L' := wrC bw pw2 cw2 (acc ++ opB x) ++ [.app px2 (acc.length + 4) cx2 5 1 (nats .u8 acc ++ nats .u8 (opB x))]) (List.sublist_append_left _ [_])
        (apply ow_assign; (· rfl); (· ((conv => lhs; whnf) <;> rfl)))
        refine ow_nil ?_
        refine wc_region ?_
        refine ow_add rfl rfl rfl (by simp only [InK]; omega) ?_
        (apply ow_move; (· rfl); (· ((conv => lhs; whnf) <;> rfl)))
        refine ow_nil ?_
        refine ⟨(i + 1, pw2, cw2, px2, cx2), ?_, by repeat (first | with_reducible exact Off.mix | with_reducible exact Off.refl | ((with_reducible refine Off.upd ?_ ?_); (· rfl))), ⟨rfl, hlt, ?_⟩, by dsimp only; omega⟩
        · dsimp only
          rw [hlen]
          first | exact rfl | exact upd_self' rfl rfl | exact upd_self' rfl (upd_self' rfl rfl) | exact upd_self' rfl (upd_self' rfl (upd_self' rfl rfl)) | exact upd_self' rfl (upd_self' rfl (upd_self' rfl (upd_self' rfl rfl)))
        · dsimp only
          rw [hlen, htk, hB, ← nats_append]
          exact H2
      refine wc_seq ?_
      refine wc_region ?_
      refine ow_eql rfl rfl rfl ?_
      (apply ow_assign; (· rfl); (· ((conv => lhs; whnf) <;> rfl)))
      refine ow_nil ?_
      refine wc_cond_dec rfl (fun h => ?_) (fun h => ?_) <;> try dsimp only at h
      · have eB : opB x = putN (max x.2.1 0).toNat := by unfold opB; rw [if_neg (by omega), if_pos (by omega)]
        obtain ⟨y, hy⟩ : ∃ y, (max x.2.1 0).toNat = y := ⟨_, rfl⟩
        have hxy : max x.2.1 0 = (y : Int) := by omega
        have hp10 := putN_len10 (n := y) (by omega)
        rw [hy] at eB
        have hol := congrArg List.length eB
        refine wc_seq ?_
        refine wc_region ?_
        refine ow_fieldAddr rfl (tyAt rfl) rfl rfl rfl (tyAt rfl) rfl rfl ?_
        refine ow_load rfl (tyAt rfl) rfl rfl (H.cell (i := 3) rfl rfl) ?_
        skip
        refine ow_call rfl rfl (ent (by kernel_rfl)) (CallsV.mono (wcount_spec bw pw cw acc (by omega) x.2.1 ⟨hn1, hn2⟩ _ H.begin) ?_) rfl
        rw [hy]
        rintro v w ⟨pw2, cw2, H'⟩
        replace H := H.callC (fun _ h => h) H'
        rw [← eB] at H
        clear H'
        refine ow_nil ?_
        refine wc_region ?_
        (apply ow_move; (· rfl); (· ((conv => lhs; whnf) <;> rfl)))
        refine ow_fieldAddr rfl (tyAt rfl) rfl rfl rfl (tyAt rfl) rfl rfl ?_
        refine ow_load rfl (tyAt rfl) rfl rfl (H.cell (i := 3) rfl rfl) ?_
        refine ow_max rfl rfl rfl ?_
        refine ow_conv_in rfl rfl (tyAt rfl) (tyAt rfl) rfl (by simp only [InK]; omega) ?_
        rw [hxy]
        skip
        refine ow_call rfl rfl (ent (by kernel_rfl)) (CallsV.mono (refPut_spec y (by omega) _) ?_) rfl
        rintro v w ⟨pf, cf, rfl, H'⟩
        replace H := H.call H'
        rw [← eB] at H ⊢
        refine ow_append (i := 3) H rfl rfl (tyAt rfl) rfl (tyAt rfl) rfl (by decide) rfl rfl (appOk.sl (H.cap (i := 0) rfl)) (by first | rfl | (simp; done) | (simp; omega)) (by simp [Value.oneCell']) (by first | omega | (dsimp only; omega) | (simp; omega)) (by first | omega | (dsimp only; omega) | (simp; omega)) (fun px2 cx2 w H => ?_)
        dsimp only [List.set] at H
        have hlen : (opsB (ops.take (i + 1))).length = acc.length + (opB x).length := by have e := congrArg List.length hB; rw [List.length_append, ← htk] at e; omega
        have H2 := H.drop.sub (L' := wrC bw pw2 cw2 (acc ++ opB x) ++ [.app px2 (acc.length + (opB x).length) cx2 5 1 (nats .u8 acc ++ nats .u8 (opB x))]) (List.sublist_append_left _ [_])
        (apply ow_assign; (· rfl); (· ((conv => lhs; whnf) <;> rfl)))
        refine ow_nil ?_
        refine wc_region ?_
        refine ow_add rfl rfl rfl (by simp only [InK]; omega) ?_
        (apply ow_move; (· rfl); (· ((conv => lhs; whnf) <;> rfl)))
        refine ow_nil ?_
        refine ⟨(i + 1, pw2, cw2, px2, cx2), ?_, by repeat (first | with_reducible exact Off.mix | with_reducible exact Off.refl | ((with_reducible refine Off.upd ?_ ?_); (· rfl))), ⟨rfl, hlt, ?_⟩, by dsimp only; omega⟩
        · dsimp only
          rw [hlen]
          first | exact rfl | exact upd_self' rfl rfl | exact upd_self' rfl (upd_self' rfl rfl) | exact upd_self' rfl (upd_self' rfl (upd_self' rfl rfl)) | exact upd_self' rfl (upd_self' rfl (upd_self' rfl (upd_self' rfl rfl)))
        · dsimp only
          rw [hlen, htk, hB, ← nats_append]
          exact H2
      refine wc_seq ?_
      refine wc_region ?_
      refine ow_eql rfl rfl rfl ?_
      (apply ow_assign; (· rfl); (· ((conv => lhs; whnf) <;> rfl)))
      refine ow_nil ?_
      refine wc_cond_dec rfl (fun h => ?_) (fun h => ?_) <;> try dsimp only at h
      · have eB : opB x = putN (foldN x.2.1) := by unfold opB; rw [if_neg (by omega), if_neg (by omega), if_pos (by omega)]
        have hfl := foldN_lt hn1 hn2
        have hp10 := putN_len10 hfl
        have hol := congrArg List.length eB
        refine wc_seq ?_
        refine wc_region ?_
        refine ow_fieldAddr rfl (tyAt rfl) rfl rfl rfl (tyAt rfl) rfl rfl ?_
        refine ow_load rfl (tyAt rfl) rfl rfl (H.cell (i := 3) rfl rfl) ?_
        skip
        refine ow_call rfl rfl (ent (by kernel_rfl)) (CallsV.mono (wnum_spec bw pw cw acc (by omega) x.2.1 ⟨hn1, hn2⟩ _ H.begin) ?_) rfl
        rintro v w ⟨pw2, cw2, H'⟩
        replace H := H.callC (fun _ h => h) H'
        rw [← eB] at H
        clear H'
        refine ow_nil ?_
        refine wc_region ?_
        (apply ow_move; (· rfl); (· ((conv => lhs; whnf) <;> rfl)))
        refine ow_fieldAddr rfl (tyAt rfl) rfl rfl rfl (tyAt rfl) rfl rfl ?_
        refine ow_load rfl (tyAt rfl) rfl rfl (H.cell (i := 3) rfl rfl) ?_
        skip
        refine ow_call rfl rfl (ent (by kernel_rfl)) (CallsV.mono (refFold_spec x.2.1 hn1 hn2 _) ?_) rfl
        rintro v w' ⟨rfl, rfl⟩
        skip
        refine ow_call rfl rfl (ent (by kernel_rfl)) (CallsV.mono (refPut_spec _ hfl _) ?_) rfl
        rintro v w ⟨pf, cf, rfl, H'⟩
        replace H := H.call H'
        rw [← eB] at H ⊢
        refine ow_append (i := 3) H rfl rfl (tyAt rfl) rfl (tyAt rfl) rfl (by decide) rfl rfl (appOk.sl (H.cap (i := 0) rfl)) (by first | rfl | (simp; done) | (simp; omega)) (by simp [Value.oneCell']) (by first | omega | (dsimp only; omega) | (simp; omega)) (by first | omega | (dsimp only; omega) | (simp; omega)) (fun px2 cx2 w H => ?_)
        dsimp only [List.set] at H
        have hlen : (opsB (ops.take (i + 1))).length = acc.length + (opB x).length := by have e := congrArg List.length hB; rw [List.length_append, ← htk] at e; omega
        have H2 := H.drop.sub (L' := wrC bw pw2 cw2 (acc ++ opB x) ++ [.app px2 (acc.length + (opB x).length) cx2 5 1 (nats .u8 acc ++ nats .u8 (opB x))]) (List.sublist_append_left _ [_])
        (apply ow_assign; (· rfl); (· ((conv => lhs; whnf) <;> rfl)))
        refine ow_nil ?_
        refine wc_region ?_
        refine ow_add rfl rfl rfl (by simp only [InK]; omega) ?_
        (apply ow_move; (· rfl); (· ((conv => lhs; whnf) <;> rfl)))
        refine ow_nil ?_
        refine ⟨(i + 1, pw2, cw2, px2, cx2), ?_, by repeat (first | with_reducible exact Off.mix | with_reducible exact Off.refl | ((with_reducible refine Off.upd ?_ ?_); (· rfl))), ⟨rfl, hlt, ?_⟩, by dsimp only; omega⟩
        · dsimp only
          rw [hlen]
          first | exact rfl | exact upd_self' rfl rfl | exact upd_self' rfl (upd_self' rfl rfl) | exact upd_self' rfl (upd_self' rfl (upd_self' rfl rfl)) | exact upd_self' rfl (upd_self' rfl (upd_self' rfl (upd_self' rfl rfl)))
        · dsimp only
          rw [hlen, htk, hB, ← nats_append]
          exact H2
      refine wc_seq ?_
      refine wc_region ?_
      refine ow_eql rfl rfl rfl ?_
      (apply ow_assign; (· rfl); (· ((conv => lhs; whnf) <;> rfl)))
      refine ow_nil ?_
      refine wc_cond_dec rfl (fun h => ?_) (fun h => ?_) <;> try dsimp only at h
      · have eB : opB x = putN x.2.2.length ++ x.2.2 := by unfold opB; rw [if_neg (by omega), if_neg (by omega), if_neg (by omega), if_pos (by omega)]
        have hp10 := putN_len10 (n := x.2.2.length) (by omega)
        refine wc_seq ?_
        refine wc_region ?_
        refine ow_fieldAddr rfl (tyAt rfl) rfl rfl rfl (tyAt rfl) rfl rfl ?_
        refine ow_load rfl (tyAt rfl) rfl rfl (H.cell (i := 3) rfl rfl) ?_
        skip
        refine ow_call rfl rfl (ent (by kernel_rfl)) (CallsV.mono (wtext_spec bw pw cw acc (by omega) x.2.2 (by omega) hs1 _ H.begin) ?_) rfl
        rintro v w ⟨pw2, cw2, H'⟩
        replace H := H.callC (fun _ h => h) H'
        rw [← eB] at H
        clear H'
        refine ow_nil ?_
        refine wc_region ?_
        (apply ow_move; (· rfl); (· ((conv => lhs; whnf) <;> rfl)))
        refine ow_fieldAddr rfl (tyAt rfl) rfl rfl rfl (tyAt rfl) rfl rfl ?_
        refine ow_load rfl (tyAt rfl) rfl rfl (H.cell (i := 3) rfl rfl) ?_
        skip
        refine ow_call rfl rfl (ent (by kernel_rfl)) (CallsV.mono (refText_spec x.2.2 hs1 (by omega) _) ?_) rfl
        rintro v w ⟨pf, cf, rfl, H'⟩
        replace H := H.call H'
        rw [← eB] at H ⊢
        have hol := congrArg List.length eB
        rw [List.length_append] at hol
        refine ow_append (i := 3) H rfl rfl (tyAt rfl) rfl (tyAt rfl) rfl (by decide) rfl rfl (appOk.sl (H.cap (i := 0) rfl)) (by first | rfl | (simp; done) | (simp; omega)) (by simp [Value.oneCell']) (by first | omega | (dsimp only; omega) | (simp; omega)) (by first | omega | (dsimp only; omega) | (simp; omega)) (fun px2 cx2 w H => ?_)
        dsimp only [List.set] at H
        have hlen : (opsB (ops.take (i + 1))).length = acc.length + (opB x).length := by have e := congrArg List.length hB; rw [List.length_append, ← htk] at e; omega
        have H2 := H.drop.sub (L' := wrC bw pw2 cw2 (acc ++ opB x) ++ [.app px2 (acc.length + (opB x).length) cx2 5 1 (nats .u8 acc ++ nats .u8 (opB x))]) (List.sublist_append_left _ [_])
        (apply ow_assign; (· rfl); (· ((conv => lhs; whnf) <;> rfl)))
        refine ow_nil ?_
        refine wc_region ?_
        refine ow_add rfl rfl rfl (by simp only [InK]; omega) ?_
        (apply ow_move; (· rfl); (· ((conv => lhs; whnf) <;> rfl)))
        refine ow_nil ?_
        refine ⟨(i + 1, pw2, cw2, px2, cx2), ?_, by repeat (first | with_reducible exact Off.mix | with_reducible exact Off.refl | ((with_reducible refine Off.upd ?_ ?_); (· rfl))), ⟨rfl, hlt, ?_⟩, by dsimp only; omega⟩
        · dsimp only
          rw [hlen]
          first | exact rfl | exact upd_self' rfl rfl | exact upd_self' rfl (upd_self' rfl rfl) | exact upd_self' rfl (upd_self' rfl (upd_self' rfl rfl)) | exact upd_self' rfl (upd_self' rfl (upd_self' rfl (upd_self' rfl rfl)))
        · dsimp only
          rw [hlen, htk, hB, ← nats_append]
          exact H2
      refine wc_seq ?_
      refine wc_region ?_
      refine ow_eql rfl rfl rfl ?_
      (apply ow_assign; (· rfl); (· ((conv => lhs; whnf) <;> rfl)))
      refine ow_nil ?_
      refine wc_cond_dec rfl (fun h => ?_) (fun h => ?_) <;> try dsimp only at h
      · have eB : opB x = x.2.2 := by unfold opB; rw [if_neg (by omega), if_neg (by omega), if_neg (by omega), if_neg (by omega), if_pos (by omega)]
        refine wc_seq ?_
        refine wc_region ?_
        refine ow_fieldAddr rfl (tyAt rfl) rfl rfl rfl (tyAt rfl) rfl rfl ?_
        refine ow_load rfl (tyAt rfl) rfl rfl (H.cell (i := 3) rfl rfl) ?_
        skip
        refine ow_toBytes H rfl rfl hs1 (tyAt rfl) rfl (tyAt rfl) rfl (tyAt rfl) rfl (fun b2 c2 w H => ?_)
        replace H : St Pu w0 w (wrC bw pw cw acc ++ [.app px acc.length cx 5 1 (nats .u8 acc), .row bo 70 (op3C x), .sl (some ⟨b2, 0, none⟩) (nats .u8 x.2.2)]) [] := H.perm (List.perm_append_comm (l₁ := [_]) (l₂ := [_, _, _, _]))
        skip
        have hsl : SlH (msk (fps (wrC bw pw cw acc)) w) (some ⟨b2, 0, none⟩) (nats .u8 x.2.2) := H.capC (i := 2) rfl
        refine ow_call rfl rfl (ent (by kernel_rfl)) (CallsV.mono (wraw_spec bw pw cw acc (by omega) (some ⟨b2, 0, none⟩) _ c2 x.2.2 rfl (by omega) _ H.begin hsl) ?_) rfl
        rintro v w ⟨pw2, cw2, H'⟩
        replace H := H.callC (fun _ h => h) H'
        rw [← eB] at H
        clear H'
        refine ow_nil ?_
        refine wc_region ?_
        (apply ow_move; (· rfl); (· ((conv => lhs; whnf) <;> rfl)))
        refine ow_fieldAddr rfl (tyAt rfl) rfl rfl rfl (tyAt rfl) rfl rfl ?_
        refine ow_load rfl (tyAt rfl) rfl rfl (H.cell (i := 3) rfl rfl) ?_
        skip
        refine ow_appendStr (i := 2) H rfl rfl (tyAt rfl) rfl (tyAt rfl) rfl rfl rfl (tyAt rfl) rfl rfl rfl hs1 (by omega) (fun px2 cx2 w H => ?_)
        have hlen : (opsB (ops.take (i + 1))).length = acc.length + x.2.2.length := by rw [htk, hB, eB, List.length_append]
        have H2 := H.sub (L' := wrC bw pw2 cw2 (acc ++ opB x) ++ [.app px2 (acc.length + x.2.2.length) cx2 5 1 (nats .u8 acc ++ nats .u8 x.2.2)]) (List.sublist_append_left _ [_, _])
        (apply ow_assign; (· rfl); (· ((conv => lhs; whnf) <;> rfl)))
        refine ow_nil ?_
        refine wc_region ?_
        refine ow_add rfl rfl rfl (by simp only [InK]; omega) ?_
        (apply ow_move; (· rfl); (· ((conv => lhs; whnf) <;> rfl)))
        refine ow_nil ?_
        refine ⟨(i + 1, pw2, cw2, px2, cx2), ?_, by repeat (first | with_reducible exact Off.mix | with_reducible exact Off.refl | ((with_reducible refine Off.upd ?_ ?_); (· rfl))), ⟨rfl, hlt, ?_⟩, by dsimp only; omega⟩
        · dsimp only
          rw [hlen]
          first | exact rfl | exact upd_self' rfl rfl | exact upd_self' rfl (upd_self' rfl rfl) | exact upd_self' rfl (upd_self' rfl (upd_self' rfl rfl)) | exact upd_self' rfl (upd_self' rfl (upd_self' rfl (upd_self' rfl rfl)))
        · dsimp only
          rw [hlen, htk, hB, ← nats_append, eB]
          rw [eB] at H2
          exact H2
      · have eB : opB x = [] := by unfold opB; rw [if_neg (by omega), if_neg (by omega), if_neg (by omega), if_neg (by omega), if_neg (by omega)]
        rw [eB, List.append_nil] at hB
        refine wc_skip ?_
        refine wc_region ?_
        refine ow_add rfl rfl rfl (by simp only [InK]; omega) ?_
        (apply ow_move; (· rfl); (· ((conv => lhs; whnf) <;> rfl)))
        refine ow_nil ?_
        refine ⟨(i + 1, pw, cw, px, cx), ?_, by repeat (first | with_reducible exact Off.mix | with_reducible exact Off.refl | ((with_reducible refine Off.upd ?_ ?_); (· rfl))), ⟨rfl, hlt, ?_⟩, by dsimp only; omega⟩
        · dsimp only
          rw [htk, hB]
          first | exact rfl | exact upd_self' rfl rfl | exact upd_self' rfl (upd_self' rfl rfl) | exact upd_self' rfl (upd_self' rfl (upd_self' rfl rfl)) | exact upd_self' rfl (upd_self' rfl (upd_self' rfl (upd_self' rfl rfl)))
        · dsimp only
          rw [htk, hB]
          exact H.sub (List.sublist_append_left (wrC bw pw cw acc ++ [.app px acc.length cx 5 1 (nats .u8 acc)]) [_])
    · refine wc_exit ?_
      have hi' : i = ops.length := by omega
      subst hi'
      rw [List.take_length] at H ⊢
      exact ⟨(pw, cw, px, cx), by first | exact rfl | exact upd_self' rfl rfl | exact upd_self' rfl (upd_self' rfl rfl) | exact upd_self' rfl (upd_self' rfl (upd_self' rfl rfl)) | exact upd_self' rfl (upd_self' rfl (upd_self' rfl (upd_self' rfl rfl))), by repeat (first | with_reducible exact Off.mix | with_reducible exact Off.refl | ((with_reducible refine Off.upd ?_ ?_); (· rfl))), rfl, H⟩
  clear H w
  rintro ⟨pw, cw, px, cx⟩ j D w ⟨rfl, H⟩
  dsimp only at H ⊢
  have hal := opsB_len hw h60
  have hab := opsB_lt hw
  refine wc_seq ?_
  refine wc_region ?_
  refine ow_call rfl rfl (ent (by kernel_rfl)) (CallsV.mono (wdone_spec bw pw cw (opsB ops) (by omega) _ (H.rowSl (i := 0) rfl) (appOk.sl (H.cap (i := 1) rfl))) ?_) rfl
  rintro v w ⟨pd, cd, rfl, H'⟩
  replace H := H.call H'
  (apply ow_move; (· rfl); (· ((conv => lhs; whnf) <;> rfl)))
  refine ow_call rfl rfl (ent (by kernel_rfl)) (CallsV.mono (same_spec' pd px cd cx _ _ (opsB ops) (opsB ops) rfl rfl hab hab _ (appOk.sl (H.cap (i := 0) rfl)) (appOk.sl (H.cap (i := 3) rfl))) ?_) rfl
  rintro v w' ⟨rfl, rfl⟩
  (apply ow_assign; (· rfl); (· ((conv => lhs; whnf) <;> rfl)))
  refine ow_nil ?_
  refine wc_ret ?_
  obtain ⟨w, hT, H⟩ := H.takes Try.prog
  refine ⟨.inr rfl, w, hT, _, .tmp .nil, ?_⟩
  exact ⟨congrArg Value.bool (decide_eq_true rfl), H.none⟩
end Go.Proofs.Ytphmjdbdhhbdoaa
