/- What read does (function 65); the statement's function 'sandtablelaw03.WireBack' returns true at every input, and changes nothing that was there. -/
import Derived.Test.YtphmjdbdhhbdoaaV34
namespace Go.Proofs.Ytphmjdbdhhbdoaa
set_option linter.all false
open Go Go.Sx Go.Proofs
set_option maxRecDepth 100000
set_option maxHeartbeats 2000000
theorem rText_lt {bs : List Nat} {r : Rd} {m : Int} (hb : ∀ c ∈ bs, c < 256) : ∀ c ∈ (rText bs r m).2, c < 256 := rTake_lt hb
theorem read3_spec (b : Nat) (p : Option Addr) (len cap : Nat) (r0 : Rd) (bs : List Nat) (hl : len = bs.length) (hm : bs.length ≤ 1000000) (hb : ∀ c ∈ bs, c < 256) (hcap : bs.length ≤ cap) (hr : rOk bs r0) (q : Option Addr) (lo co : Nat) (ops : List Op3) (hlo : lo = ops.length) (hw : ∀ o ∈ ops, op3W o) (hf : few3 ops) (w0 : World)
    (H : St (fps (rdC b p len cap r0)) w0 w0 (rdC b p len cap r0) []) (hs : SlH (msk (fps (rdC b p len cap r0)) w0) p (nats .u8 bs)) (hq : SlH (msk (fps (rdC b p len cap r0)) w0) q (ops.flatMap op3C)) :
    CallsV Try.prog 65 #[.pointer (some ⟨b, 0, none⟩), .slice q lo co] w0 fun v w => v = .bool (readR bs r0 ops).2 ∧ St (fps (rdC b p len cap r0)) w0 w (rdC b p len cap (readR bs r0 ops).1) [] := by
  subst hl hlo
  refine callsV_of Try.func65 rfl rfl ?_
  generalize hM : fps (rdC b p bs.length cap r0) = M at H hs hq ⊢
  clear hM
  obtain ⟨h60, h40⟩ := hf
  refine wc_seq ?_
  refine wc_region ?_
  (apply ow_assign; (· rfl); (· ((conv => lhs; whnf) <;> rfl)))
  refine ow_nil ?_
  refine wc_seq ?_
  refine wc_seq ?_
  refine wc_region ?_
  (apply ow_move; (· rfl); (· ((conv => lhs; whnf) <;> rfl)))
  refine ow_len rfl rfl (tyAt rfl) rfl ?_
  (apply ow_move; (· rfl); (· ((conv => lhs; whnf) <;> rfl)))
  refine ow_nil ?_
  refine wc_block ?_
  refine wc_loopS [4, 6, 7, 10, 11, 12, 13, 14, 15, 16, 17, 18, 19, 20, 21, 22, 23, 24, 25, 26, 27, 28, 29, 30, 31, 32, 33, 34, 35, 36, 37, 38, 39, 40, 41, 42, 43, 44, 45, 46, 47, 48, 49, 50, 51, 52] (fun (s : Nat × Rd) e => upd e 10 (.int .i64 s.1))
    (fun s D w => D = [] ∧ s.1 ≤ ops.length ∧ rOk bs s.2 ∧ readR bs s.2 (ops.drop s.1) = readR bs r0 ops ∧ St M w0 w (rdC b p bs.length cap s.2) []) (fun s _ => ops.length - s.1) (0, r0) (by first | exact rfl | exact upd_self' rfl rfl | exact upd_self' rfl (upd_self' rfl rfl) | exact upd_self' rfl (upd_self' rfl (upd_self' rfl rfl)) | exact upd_self' rfl (upd_self' rfl (upd_self' rfl (upd_self' rfl rfl)))) ⟨rfl, Nat.zero_le _, hr, rfl, H⟩ ?_
  clear H
  rintro ⟨i, r⟩ j D w ⟨rfl, hi, hok, hrd, H⟩
  dsimp only at hi hok hrd H ⊢
  refine wc_seq ?_
  refine wc_region ?_
  refine ow_lss rfl rfl rfl ?_
  refine ow_nil ?_
  refine wc_seq ?_
  refine wc_cond_dec rfl (fun h => ?_) (fun h => ?_) <;> try dsimp only at h
  · have hlt : i < ops.length := by omega
    obtain ⟨x, hx⟩ : ∃ x, ops[i]? = some x := ⟨_, List.getElem?_eq_getElem hlt⟩
    have hdr : ops.drop i = x :: ops.drop (i + 1) := by rw [List.drop_eq_getElem_cons hlt]; rw [List.getElem?_eq_getElem hlt] at hx; rw [Option.some.inj hx]
    rw [hdr, readR] at hrd
    have hxm := List.mem_of_getElem? hx
    have hxw := hw x hxm
    have hx60 := h60 x hxm
    have hsok := stepR_ok (o := x) hb hok
    have hq' := H.rd hq
    obtain ⟨bq, oq, rfl⟩ := hq'.some_of (by rw [flat_len op3_len]; omega)
    obtain ⟨⟨hk1, hk2⟩, ⟨hn1, hn2⟩, hs1, hs2⟩ := hxw
    refine wc_skip ?_
    refine wc_seq ?_
    refine wc_block ?_
    refine wc_seq ?_
    refine wc_region ?_
    refine ow_idxK (j := i) (sz := 3) rfl (tyAt rfl) rfl (tyAt rfl) rfl rfl rfl hlt rfl ?_
    refine ow_loadA (l := op3C x) rfl (tyAt rfl) rfl rfl rfl (hq'.elem op3_len hx) ?_
    refine ow_alloc (l := [.int .i64 0, .int .i64 0, .string ⟨#[]⟩]) H rfl (tyAt rfl) rfl (fun bo w H => ?_)
    refine ow_storeA (i := 0) (o := 0) (l' := op3C x) H (tyAt rfl) rfl rfl rfl rfl (by simp [op3C, Value.oneCell']) (by simp [op3C]) (fun w H => ?_)
    dsimp only [List.set] at H
    replace H : St M w0 w (rdC b p bs.length cap r ++ [.row bo 70 (op3C x)]) [] := H.perm (List.Perm.swap _ _ _)
    refine ow_nil ?_
    refine wc_seq ?_
    refine wc_region ?_
    (apply ow_assign; (· rfl); (· ((conv => lhs; whnf) <;> rfl)))
    refine ow_nil ?_
    refine wc_seq ?_
    refine wc_seq ?_
    refine wc_region ?_
    refine ow_fieldAddr rfl (tyAt rfl) rfl rfl rfl (tyAt rfl) rfl rfl ?_
    refine ow_load rfl (tyAt rfl) rfl rfl (H.cell (i := 1) rfl rfl) ?_
    refine ow_nil ?_
    refine wc_blockJ [7, 16, 17, 18, 19, 20, 21, 22, 23, 24, 25, 26, 27, 28, 29, 30, 31, 32, 33, 34, 35, 36, 37, 38, 39, 40, 41, 42, 43] (fun (s : Rd × Bool) e => upd e 7 (.bool s.2)) (fun s D w' => D = [] ∧ stepR bs r x = s ∧ St M w0 w' (rdC b p bs.length cap s.1) []) ?_ ?_
    · refine wc_seq ?_
      refine wc_region ?_
      refine ow_eql rfl rfl rfl ?_
      (apply ow_assign; (· rfl); (· ((conv => lhs; whnf) <;> rfl)))
      refine ow_nil ?_
      refine wc_cond_dec rfl (fun h => ?_) (fun h => ?_) <;> try dsimp only at h
      · have eS : stepR bs r x = ((rFixed bs r).1, decide ((rFixed bs r).2 = u32N x.2.1)) := by unfold stepR; rw [if_pos (by omega)]
        have hdec : decide (((rFixed bs r).2 : Int) = (u32N x.2.1 : Int)) = decide ((rFixed bs r).2 = u32N x.2.1) := decide_eq_decide.2 Int.ofNat_inj
        skip
        have G := H.drew
        replace H := H.only (i := 1) rfl
        refine wc_drawK (fun w => St M w0 w [.row bo 70 (op3C x)] []) 99 (by kernel_rfl) (by kernel_rfl) (by intro c e D w h; first | exact h.elim | (rcases h with ⟨h | h, _⟩ <;> cases h)) ?_
        replace H := H.drew
        apply ak_take (i := 0) rfl rfl rfl rfl (by kernel_rfl) (by with_reducible first | exact H | rfl)
        · intro w Q' HS hq; replace H := HS; clear HS; (apply ow_move; (· rfl); (· ((conv => lhs; whnf) <;> rfl))); exact ow_nil hq
        apply ak_take (i := 2) rfl rfl rfl rfl (by kernel_rfl) (by with_reducible first | exact H | rfl)
        · intro w Q' HS hq; replace H := HS; clear HS; refine ow_fieldAddr rfl (tyAt rfl) rfl rfl rfl (tyAt rfl) rfl rfl ?_; exact ow_nil hq
        apply ak_take (i := 3) rfl rfl rfl rfl (by kernel_rfl) (by with_reducible first | exact H | rfl)
        · intro w Q' HS hq; replace H := HS; clear HS; refine ow_load rfl (tyAt rfl) rfl rfl (H.cell (i := 0) rfl rfl) ?_; exact ow_nil hq
        apply ak_take (i := 4) rfl rfl rfl rfl (by kernel_rfl) (by with_reducible first | exact H | rfl)
        · intro w Q' HS hq; replace H := HS; clear HS; refine ow_conv rfl rfl (tyAt rfl) (tyAt rfl) rfl ?_; exact ow_nil hq
        rw [wrap_u32Z]
        apply ak_one (i := 1)
        · kernel_rfl
        · rfl
        · rfl
        refine ow_call rfl rfl (ent (by kernel_rfl)) (CallsV.mono (rfixed_spec b p _ cap r bs rfl hm hb hcap hok _ G.begin (G.rdC hs)) ?_) rfl
        rintro v w ⟨rfl, H'⟩
        replace G := G.callC (fun _ h => h) H'
        replace H := G.only (i := 1) rfl
        refine ow_nil ⟨fun _ => H, ?_⟩
        apply ak_take (i := 5) rfl rfl rfl rfl (by kernel_rfl) (by with_reducible first | exact H | rfl)
        · intro w Q' HS hq; replace H := HS; clear HS; refine ow_eql rfl rfl rfl ?_; exact ow_nil hq
        apply ak_take (i := 6) rfl rfl rfl rfl (by kernel_rfl) (by with_reducible first | exact H | rfl)
        · intro w Q' HS hq; replace H := HS; clear HS; (apply ow_assign; (· rfl); (· ((conv => lhs; whnf) <;> rfl))); exact ow_nil hq
        refine ak_done (by kernel_rfl) ?_
        skip
        exact ⟨((rFixed bs r).1, decide ((rFixed bs r).2 = u32N x.2.1)), by repeat (first | exact rfl | (refine upd_self' ?_ ?_; (· first | exact rfl | (exact congrArg Value.bool hdec)))), by repeat (first | with_reducible exact Off.mix | with_reducible exact Off.refl | ((with_reducible refine Off.upd ?_ ?_); (· rfl))), rfl, eS, G.only (i := 0) rfl⟩
      refine wc_seq ?_
      refine wc_region ?_
      refine ow_eql rfl rfl rfl ?_
      (apply ow_assign; (· rfl); (· ((conv => lhs; whnf) <;> rfl)))
      refine ow_nil ?_
      refine wc_cond_dec rfl (fun h => ?_) (fun h => ?_) <;> try dsimp only at h
      · have eS : stepR bs r x = ((rLength bs r 65535).1, decide ((rLength bs r 65535).2 = andN x.2.1)) := by unfold stepR; rw [if_neg (by omega), if_pos (by omega)]
        have hdec : decide (((rLength bs r 65535).2 : Int) = (andN x.2.1 : Int)) = decide ((rLength bs r 65535).2 = andN x.2.1) := decide_eq_decide.2 Int.ofNat_inj
        skip
        have G := H.drew
        replace H := H.only (i := 1) rfl
        refine wc_drawK (fun w => St M w0 w [.row bo 70 (op3C x)] []) 99 (by kernel_rfl) (by kernel_rfl) (by intro c e D w h; first | exact h.elim | (rcases h with ⟨h | h, _⟩ <;> cases h)) ?_
        replace H := H.drew
        apply ak_take (i := 0) rfl rfl rfl rfl (by kernel_rfl) (by with_reducible first | exact H | rfl)
        · intro w Q' HS hq; replace H := HS; clear HS; (apply ow_move; (· rfl); (· ((conv => lhs; whnf) <;> rfl))); exact ow_nil hq
        apply ak_take (i := 2) rfl rfl rfl rfl (by kernel_rfl) (by with_reducible first | exact H | rfl)
        · intro w Q' HS hq; replace H := HS; clear HS; refine ow_fieldAddr rfl (tyAt rfl) rfl rfl rfl (tyAt rfl) rfl rfl ?_; exact ow_nil hq
        apply ak_take (i := 3) rfl rfl rfl rfl (by kernel_rfl) (by with_reducible first | exact H | rfl)
        · intro w Q' HS hq; replace H := HS; clear HS; refine ow_load rfl (tyAt rfl) rfl rfl (H.cell (i := 0) rfl rfl) ?_; exact ow_nil hq
        apply ak_take (i := 4) rfl rfl rfl rfl (by kernel_rfl) (by with_reducible first | exact H | rfl)
        · intro w Q' HS hq; replace H := HS; clear HS; refine ow_and rfl rfl rfl ?_; exact ow_nil hq
        rw [(andN_eq x.2.1).1]
        apply ak_one (i := 1)
        · kernel_rfl
        · rfl
        · rfl
        refine ow_call rfl rfl (ent (by kernel_rfl)) (CallsV.mono (rcount_spec b p _ cap r bs rfl hm hb hcap hok 65535 (by decide) (by decide) _ G.begin (G.rdC hs)) ?_) rfl
        rintro v w ⟨rfl, H'⟩
        replace G := G.callC (fun _ h => h) H'
        replace H := G.only (i := 1) rfl
        refine ow_nil ⟨fun _ => H, ?_⟩
        apply ak_take (i := 5) rfl rfl rfl rfl (by kernel_rfl) (by with_reducible first | exact H | rfl)
        · intro w Q' HS hq; replace H := HS; clear HS; refine ow_eql rfl rfl rfl ?_; exact ow_nil hq
        apply ak_take (i := 6) rfl rfl rfl rfl (by kernel_rfl) (by with_reducible first | exact H | rfl)
        · intro w Q' HS hq; replace H := HS; clear HS; (apply ow_assign; (· rfl); (· ((conv => lhs; whnf) <;> rfl))); exact ow_nil hq
        refine ak_done (by kernel_rfl) ?_
        skip
        exact ⟨((rLength bs r 65535).1, decide ((rLength bs r 65535).2 = andN x.2.1)), by repeat (first | exact rfl | (refine upd_self' ?_ ?_; (· first | exact rfl | (exact congrArg Value.bool hdec)))), by repeat (first | with_reducible exact Off.mix | with_reducible exact Off.refl | ((with_reducible refine Off.upd ?_ ?_); (· rfl))), rfl, eS, G.only (i := 0) rfl⟩
      refine wc_seq ?_
      refine wc_region ?_
      refine ow_eql rfl rfl rfl ?_
      (apply ow_assign; (· rfl); (· ((conv => lhs; whnf) <;> rfl)))
      refine ow_nil ?_
      refine wc_cond_dec rfl (fun h => ?_) (fun h => ?_) <;> try dsimp only at h
      · have eS : stepR bs r x = ((rNumber bs r).1, decide (unfoldZ (rNumber bs r).2 = x.2.1)) := by unfold stepR; rw [if_neg (by omega), if_neg (by omega), if_pos (by omega)]
        have hdec : decide (unfoldZ (rNumber bs r).2 = x.2.1) = decide (unfoldZ (rNumber bs r).2 = x.2.1) := rfl
        skip
        have G := H.drew
        replace H := H.only (i := 1) rfl
        refine wc_drawK (fun w => St M w0 w [.row bo 70 (op3C x)] []) 99 (by kernel_rfl) (by kernel_rfl) (by intro c e D w h; first | exact h.elim | (rcases h with ⟨h | h, _⟩ <;> cases h)) ?_
        replace H := H.drew
        apply ak_take (i := 0) rfl rfl rfl rfl (by kernel_rfl) (by with_reducible first | exact H | rfl)
        · intro w Q' HS hq; replace H := HS; clear HS; (apply ow_move; (· rfl); (· ((conv => lhs; whnf) <;> rfl))); exact ow_nil hq
        apply ak_take (i := 2) rfl rfl rfl rfl (by kernel_rfl) (by with_reducible first | exact H | rfl)
        · intro w Q' HS hq; replace H := HS; clear HS; refine ow_fieldAddr rfl (tyAt rfl) rfl rfl rfl (tyAt rfl) rfl rfl ?_; exact ow_nil hq
        apply ak_take (i := 3) rfl rfl rfl rfl (by kernel_rfl) (by with_reducible first | exact H | rfl)
        · intro w Q' HS hq; replace H := HS; clear HS; refine ow_load rfl (tyAt rfl) rfl rfl (H.cell (i := 0) rfl rfl) ?_; exact ow_nil hq
        apply ak_one (i := 1)
        · kernel_rfl
        · rfl
        · rfl
        refine ow_call rfl rfl (ent (by kernel_rfl)) (CallsV.mono (rnum_spec b p _ cap r bs rfl hm hb hcap hok _ G.begin (G.rdC hs)) ?_) rfl
        rintro v w ⟨rfl, H'⟩
        replace G := G.callC (fun _ h => h) H'
        replace H := G.only (i := 1) rfl
        refine ow_nil ⟨fun _ => H, ?_⟩
        apply ak_take (i := 4) rfl rfl rfl rfl (by kernel_rfl) (by with_reducible first | exact H | rfl)
        · intro w Q' HS hq; replace H := HS; clear HS; refine ow_eql rfl rfl rfl ?_; exact ow_nil hq
        apply ak_take (i := 5) rfl rfl rfl rfl (by kernel_rfl) (by with_reducible first | exact H | rfl)
        · intro w Q' HS hq; replace H := HS; clear HS; (apply ow_assign; (· rfl); (· ((conv => lhs; whnf) <;> rfl))); exact ow_nil hq
        refine ak_done (by kernel_rfl) ?_
        skip
        exact ⟨((rNumber bs r).1, decide (unfoldZ (rNumber bs r).2 = x.2.1)), by repeat (first | exact rfl | (refine upd_self' ?_ ?_; (· first | exact rfl | (exact congrArg Value.bool hdec)))), by repeat (first | with_reducible exact Off.mix | with_reducible exact Off.refl | ((with_reducible refine Off.upd ?_ ?_); (· rfl))), rfl, eS, G.only (i := 0) rfl⟩
      · have eS : stepR bs r x = ((rText bs r 60).1, decide ((rText bs r 60).2 = x.2.2)) := by unfold stepR; rw [if_neg (by omega), if_neg (by omega), if_neg (by omega)]
        have hdec := strN_beq (rText_lt (r := r) (m := 60) hb) hs1
        skip
        have G := H.drew
        replace H := H.only (i := 1) rfl
        refine wc_drawK (fun w => St M w0 w [.row bo 70 (op3C x)] []) 99 (by kernel_rfl) (by kernel_rfl) (by intro c e D w h; first | exact h.elim | (rcases h with ⟨h | h, _⟩ <;> cases h)) ?_
        replace H := H.drew
        apply ak_take (i := 0) rfl rfl rfl rfl (by kernel_rfl) (by with_reducible first | exact H | rfl)
        · intro w Q' HS hq; replace H := HS; clear HS; (apply ow_move; (· rfl); (· ((conv => lhs; whnf) <;> rfl))); exact ow_nil hq
        apply ak_take (i := 2) rfl rfl rfl rfl (by kernel_rfl) (by with_reducible first | exact H | rfl)
        · intro w Q' HS hq; replace H := HS; clear HS; refine ow_fieldAddr rfl (tyAt rfl) rfl rfl rfl (tyAt rfl) rfl rfl ?_; exact ow_nil hq
        apply ak_take (i := 3) rfl rfl rfl rfl (by kernel_rfl) (by with_reducible first | exact H | rfl)
        · intro w Q' HS hq; replace H := HS; clear HS; refine ow_load rfl (tyAt rfl) rfl rfl (H.cell (i := 0) rfl rfl) ?_; exact ow_nil hq
        apply ak_one (i := 1)
        · kernel_rfl
        · rfl
        · rfl
        refine ow_call rfl rfl (ent (by kernel_rfl)) (CallsV.mono (rtext_spec b p _ cap r bs rfl hm hb hcap hok 60 (by decide) (by decide) _ G.begin (G.rdC hs)) ?_) rfl
        rintro v w ⟨rfl, H'⟩
        replace G := G.callC (fun _ h => h) H'
        replace H := G.only (i := 1) rfl
        refine ow_nil ⟨fun _ => H, ?_⟩
        apply ak_take (i := 4) rfl rfl rfl rfl (by kernel_rfl) (by with_reducible first | exact H | rfl)
        · intro w Q' HS hq; replace H := HS; clear HS; refine ow_strcmp rfl rfl rfl rfl ?_; exact ow_nil hq
        apply ak_take (i := 5) rfl rfl rfl rfl (by kernel_rfl) (by with_reducible first | exact H | rfl)
        · intro w Q' HS hq; replace H := HS; clear HS; (apply ow_assign; (· rfl); (· ((conv => lhs; whnf) <;> rfl))); exact ow_nil hq
        refine ak_done (by kernel_rfl) ?_
        skip
        exact ⟨((rText bs r 60).1, decide ((rText bs r 60).2 = x.2.2)), by repeat (first | exact rfl | (refine upd_self' ?_ ?_; (· first | exact rfl | (exact congrArg Value.bool hdec)))), by repeat (first | with_reducible exact Off.mix | with_reducible exact Off.refl | ((with_reducible refine Off.upd ?_ ?_); (· rfl))), rfl, eS, G.only (i := 0) rfl⟩
    clear H w
    rintro ⟨r1, sm⟩ j2 D w ⟨rfl, eS, H⟩
    rw [eS] at hrd hsok
    dsimp only at hrd hsok H ⊢
    cases sm with
    | false =>
      rw [if_pos (.inl rfl)] at hrd
      rw [← hrd]
      refine wc_seq ?_
      refine wc_region ?_
      (apply ow_move; (· rfl); (· ((conv => lhs; whnf) <;> rfl)))
      refine ow_not rfl rfl ?_
      (apply ow_move; (· rfl); (· ((conv => lhs; whnf) <;> rfl)))
      refine ow_guard_no rfl rfl rfl rfl rfl rfl rfl ?_
      refine ow_guard_no rfl rfl rfl rfl rfl rfl rfl ?_
      refine ow_guard_no rfl rfl rfl rfl rfl rfl rfl ?_
      refine ow_guard_no rfl rfl rfl rfl rfl rfl rfl ?_
      (apply ow_pick_t; (· rfl); (· rfl); (· ((conv => lhs; whnf) <;> rfl)))
      refine ow_nil ?_
      refine wc_cond_true rfl ?_
      refine wc_seq ?_
      refine wc_region ?_
      (apply ow_assign; (· rfl); (· ((conv => lhs; whnf) <;> rfl)))
      refine ow_nil ?_
      refine wc_ret ?_
      obtain ⟨w, hT, H⟩ := H.takes Try.prog
      refine ⟨.inr rfl, w, hT, _, .tmp .nil, ?_⟩
      exact ⟨rfl, H⟩
    | true =>
      refine wc_seq ?_
      refine wc_region ?_
      (apply ow_move; (· rfl); (· ((conv => lhs; whnf) <;> rfl)))
      refine ow_not rfl rfl ?_
      (apply ow_move; (· rfl); (· ((conv => lhs; whnf) <;> rfl)))
      refine ow_guard_yes rfl rfl rfl rfl ?_
      (apply ow_move; (· rfl); (· ((conv => lhs; whnf) <;> rfl)))
      refine ow_guard_yes rfl rfl rfl rfl ?_
      refine ow_call rfl rfl (ent (by kernel_rfl)) (CallsV.mono (rfault_spec b p _ cap r1 _ (H.rowSl (i := 0) rfl)) ?_) rfl
      rintro v w ⟨rfl, H'⟩
      replace H := H.call H'
      rw [List.nil_append] at H
      clear H'
      refine ow_guard_yes rfl rfl rfl rfl ?_
      refine ow_field rfl (tyAt rfl) rfl rfl (tyAt rfl) rfl rfl rfl ?_
      refine ow_guard_yes rfl rfl rfl rfl ?_
      refine ow_neq rfl rfl rfl ?_
      (apply ow_pick_f; (· rfl); (· rfl); (· ((conv => lhs; whnf) <;> rfl)))
      refine ow_nil ?_
      refine wc_cond_dec rfl (fun h => ?_) (fun h => ?_) <;> try dsimp only at h
      · rw [if_pos (.inr (by omega))] at hrd
        rw [← hrd]
        refine wc_seq ?_
        refine wc_region ?_
        (apply ow_assign; (· rfl); (· ((conv => lhs; whnf) <;> rfl)))
        refine ow_nil ?_
        refine wc_ret ?_
        obtain ⟨w, hT, H⟩ := H.takes Try.prog
        refine ⟨.inr rfl, w, hT, _, .tmp .nil, ?_⟩
        exact ⟨rfl, H⟩
      · rw [if_neg (by simp; omega)] at hrd
        refine wc_skip ?_
        refine wc_region ?_
        refine ow_add rfl rfl rfl (by simp only [InK]; omega) ?_
        (apply ow_move; (· rfl); (· ((conv => lhs; whnf) <;> rfl)))
        refine ow_nil ?_
        exact ⟨(i + 1, r1), by first | exact rfl | exact upd_self' rfl rfl | exact upd_self' rfl (upd_self' rfl rfl) | exact upd_self' rfl (upd_self' rfl (upd_self' rfl rfl)) | exact upd_self' rfl (upd_self' rfl (upd_self' rfl (upd_self' rfl rfl))), by repeat (first | with_reducible exact Off.mix | with_reducible exact Off.refl | ((with_reducible refine Off.upd ?_ ?_); (· rfl)) | ((with_reducible refine Off.mixN ?_ ?_); (· rfl))), ⟨rfl, hlt, hsok, hrd, H⟩, by dsimp only; omega⟩
  · refine wc_exit ?_
    refine wc_seq ?_
    refine wc_region ?_
    (apply ow_assign; (· rfl); (· ((conv => lhs; whnf) <;> rfl)))
    refine ow_nil ?_
    have hi' : i = ops.length := by omega
    subst hi'
    rw [List.drop_length, readR] at hrd
    refine wc_ret ?_
    obtain ⟨w, hT, H⟩ := H.takes Try.prog
    refine ⟨.inr rfl, w, hT, _, .tmp .nil, ?_⟩
    rw [← hrd]
    exact ⟨rfl, H⟩
theorem law03Back (q : Option Addr) (cap : Nat) (ops : List Op3) (hm : ops.length ≤ 9223372036854775807) (hw : ∀ o ∈ ops, op3W o) (cut : Int) (w0 : World) (hq : SlH (hp w0) q (ops.flatMap op3C)) :
    CallsV Try.prog 16 #[.slice q ops.length cap, .int .i64 cut] w0 fun v w => v = .bool true ∧ St Pu w0 w [] [] := by
  refine callsV_of Try.func16 rfl rfl ?_
  obtain ⟨kk, hkk, hck⟩ := and_mask cut (m := 65535) (by decide)
  refine wc_seq ?_
  refine wc_region ?_
  (apply ow_assign; (· rfl); (· ((conv => lhs; whnf) <;> rfl)))
  refine ow_nil ?_
  refine wc_seq ?_
  refine wc_seq ?_
  refine wc_region ?_
  refine ow_call rfl rfl (ent (by kernel_rfl)) (CallsV.mono (alive03 w0) ?_) rfl
  rintro v w ⟨rfl, H⟩
  refine ow_not rfl rfl ?_
  refine ow_nil ?_
  refine wc_cond_false rfl ?_
  refine wc_skip ?_
  refine wc_seq ?_
  refine wc_seq ?_
  refine wc_region ?_
  (apply ow_move; (· rfl); (· ((conv => lhs; whnf) <;> rfl)))
  refine ow_call rfl rfl (ent (by kernel_rfl)) (CallsV.mono (few3_spec q _ cap ops rfl hm _ (H.oldSl hq)) ?_) rfl
  rintro v w ⟨hv, H'⟩
  replace H := H.call H'
  rw [List.nil_append] at H
  clear H'
  rcases hv with rfl | ⟨rfl, hf⟩
  · refine ow_not rfl rfl ?_
    refine ow_nil ?_
    refine wc_cond_true rfl ?_
    refine wc_seq ?_
    refine wc_region ?_
    (apply ow_assign; (· rfl); (· ((conv => lhs; whnf) <;> rfl)))
    refine ow_nil ?_
    refine wc_ret ?_
    obtain ⟨w, hT, H⟩ := H.takes Try.prog
    refine ⟨.inr rfl, w, hT, _, .tmp .nil, ?_⟩
    exact ⟨rfl, H⟩
  have h60 := hf.1
  have h40 := hf.2
  refine ow_not rfl rfl ?_
  refine ow_nil ?_
  refine wc_cond_false rfl ?_
  refine wc_skip ?_
  refine wc_seq ?_
  refine wc_region ?_
  refine ow_alloc (l := [.slice none 0 0]) H rfl (tyAt rfl) rfl (fun bw w H => ?_)
  replace H : St Pu w0 w (wrC bw none 0 []) [] := (H.nilApp 5 1).perm (List.Perm.swap _ _ _)
  refine ow_nil ?_
  refine wc_seq ?_
  refine wc_seq ?_
  refine wc_region ?_
  (apply ow_move; (· rfl); (· ((conv => lhs; whnf) <;> rfl)))
  refine ow_len rfl rfl (tyAt rfl) rfl ?_
  (apply ow_move; (· rfl); (· ((conv => lhs; whnf) <;> rfl)))
  refine ow_nil ?_
  refine wc_blockJ [7, 18, 19, 20, 21, 22, 23, 24, 25, 26, 27, 28, 29, 30, 31, 32, 33, 34, 35, 36, 37, 38, 39, 40, 41, 42, 43, 44] (fun (s : Unit) e => e) (fun s D w => D = [] ∧ ∃ pw cw, St Pu w0 w (wrC bw pw cw (opsW ops)) []) ?_ ?_
  · refine wc_loopS [7, 18, 19, 20, 21, 22, 23, 24, 25, 26, 27, 28, 29, 30, 31, 32, 33, 34, 35, 36, 37, 38, 39, 40, 41, 42, 43, 44] (fun (s : Nat × Option Addr × Nat) e => upd e 18 (.int .i64 s.1))
      (fun s D w => D = [] ∧ s.1 ≤ ops.length ∧ St Pu w0 w (wrC bw s.2.1 s.2.2 (opsW (ops.take s.1))) []) (fun s _ => ops.length - s.1) (0, none, 0) (by first | exact rfl | exact upd_self' rfl rfl | exact upd_self' rfl (upd_self' rfl rfl) | exact upd_self' rfl (upd_self' rfl (upd_self' rfl rfl)) | exact upd_self' rfl (upd_self' rfl (upd_self' rfl (upd_self' rfl rfl)))) ⟨rfl, Nat.zero_le _, H⟩ ?_
    clear H w
    rintro ⟨i, pw, cw⟩ j D w ⟨rfl, hi, H⟩
    dsimp only at hi H ⊢
    refine wc_seq ?_
    refine wc_region ?_
    refine ow_lss rfl rfl rfl ?_
    refine ow_nil ?_
    refine wc_seq ?_
    refine wc_cond_dec rfl (fun h => ?_) (fun h => ?_) <;> try dsimp only at h
    · have hlt : i < ops.length := by omega
      obtain ⟨x, hx⟩ : ∃ x, ops[i]? = some x := ⟨_, List.getElem?_eq_getElem hlt⟩
      have htk : ops.take (i + 1) = ops.take i ++ [x] := take_snoc hx
      have hxm := List.mem_of_getElem? hx
      have hxw := hw x hxm
      have hx60 := h60 x hxm
      have hal := opsW_len (ops := ops.take i) (fun o ho => hw o (List.mem_of_mem_take ho)) (fun o ho => h60 o (List.mem_of_mem_take ho))
      rw [List.length_take, Nat.min_eq_left hi] at hal
      have hq' := H.oldSl hq
      obtain ⟨bq, oq, rfl⟩ := hq'.some_of (by rw [flat_len op3_len]; omega)
      obtain ⟨acc, hacc⟩ : ∃ acc, opsW (ops.take i) = acc := ⟨_, rfl⟩
      rw [hacc] at H hal
      obtain ⟨⟨hk1, hk2⟩, ⟨hn1, hn2⟩, hs1, hs2⟩ := hxw
      refine wc_skip ?_
      refine wc_seq ?_
      refine wc_block ?_
      refine wc_seq ?_
      refine wc_region ?_
      refine ow_idxK (j := i) (sz := 3) rfl (tyAt rfl) rfl (tyAt rfl) rfl rfl rfl hlt rfl ?_
      refine ow_loadA (l := op3C x) rfl (tyAt rfl) rfl rfl rfl (hq'.elem op3_len hx) ?_
      refine ow_alloc (l := [.int .i64 0, .int .i64 0, .string ⟨#[]⟩]) H rfl (tyAt rfl) rfl (fun bo w H => ?_)
      refine ow_storeA (i := 0) (o := 0) (l' := op3C x) H (tyAt rfl) rfl rfl rfl rfl (by simp [op3C, Value.oneCell']) (by simp [op3C]) (fun w H => ?_)
      dsimp only [List.set] at H
      replace H : St Pu w0 w (wrC bw pw cw acc ++ [.row bo 70 (op3C x)]) [] := H.perm (List.perm_append_comm (l₁ := [_]) (l₂ := [_, _]))
      refine ow_nil ?_
      refine wc_seq ?_
      refine wc_region ?_
      refine ow_fieldAddr rfl (tyAt rfl) rfl rfl rfl (tyAt rfl) rfl rfl ?_
      refine ow_load rfl (tyAt rfl) rfl rfl (H.cell (i := 2) rfl rfl) ?_
      refine ow_nil ?_
      refine wc_block ?_
      refine wc_seq ?_
      refine wc_region ?_
      refine ow_eql rfl rfl rfl ?_
      (apply ow_assign; (· rfl); (· ((conv => lhs; whnf) <;> rfl)))
      refine ow_nil ?_
      refine wc_cond_dec rfl (fun h => ?_) (fun h => ?_) <;> try dsimp only at h
      · have eB : opW x = leB 4 (u32N x.2.1) := by unfold opW; rw [if_pos (by omega)]
        refine wc_region ?_
        refine ow_fieldAddr rfl (tyAt rfl) rfl rfl rfl (tyAt rfl) rfl rfl ?_
        refine ow_load rfl (tyAt rfl) rfl rfl (H.cell (i := 2) rfl rfl) ?_
        refine ow_conv rfl rfl (tyAt rfl) (tyAt rfl) rfl ?_
        rw [wrap_u32Z]
        refine ow_call rfl rfl (ent (by kernel_rfl)) (CallsV.mono (wfixed_spec bw pw cw acc (by omega) (u32N x.2.1) (u32N_lt _) _ H.begin) ?_) rfl
        rintro v w ⟨pw2, cw2, H'⟩
        replace H := H.callC (fun _ h => h) H'
        rw [← eB] at H
        clear H'
        refine ow_nil ?_
        refine wc_region ?_
        refine ow_add rfl rfl rfl (by simp only [InK]; omega) ?_
        (apply ow_move; (· rfl); (· ((conv => lhs; whnf) <;> rfl)))
        refine ow_nil ?_
        refine ⟨(i + 1, pw2, cw2), by first | exact rfl | exact upd_self' rfl rfl | exact upd_self' rfl (upd_self' rfl rfl) | exact upd_self' rfl (upd_self' rfl (upd_self' rfl rfl)) | exact upd_self' rfl (upd_self' rfl (upd_self' rfl (upd_self' rfl rfl))), by repeat (first | with_reducible exact Off.mix | with_reducible exact Off.refl | ((with_reducible refine Off.upd ?_ ?_); (· rfl))), ⟨rfl, hlt, ?_⟩, by dsimp only; omega⟩
        dsimp only
        rw [htk, opsW_snoc, hacc]
        exact H.sub (List.sublist_append_left (wrC bw pw2 cw2 (acc ++ opW x)) _)
      refine wc_seq ?_
      refine wc_region ?_
      refine ow_eql rfl rfl rfl ?_
      (apply ow_assign; (· rfl); (· ((conv => lhs; whnf) <;> rfl)))
      refine ow_nil ?_
      refine wc_cond_dec rfl (fun h => ?_) (fun h => ?_) <;> try dsimp only at h
      · have eB : opW x = putN (andN x.2.1) := by unfold opW; rw [if_neg (by omega), if_pos (by omega)]
        have han := andN_eq x.2.1
        have hmx : (max (andN x.2.1 : Int) 0).toNat = andN x.2.1 := by omega
        refine wc_region ?_
        refine ow_fieldAddr rfl (tyAt rfl) rfl rfl rfl (tyAt rfl) rfl rfl ?_
        refine ow_load rfl (tyAt rfl) rfl rfl (H.cell (i := 2) rfl rfl) ?_
        refine ow_and rfl rfl rfl ?_
        rw [han.1]
        refine ow_call rfl rfl (ent (by kernel_rfl)) (CallsV.mono (wcount_spec bw pw cw acc (by omega) (andN x.2.1 : Int) (by omega) _ H.begin) ?_) rfl
        rw [hmx]
        rintro v w ⟨pw2, cw2, H'⟩
        replace H := H.callC (fun _ h => h) H'
        rw [← eB] at H
        clear H'
        refine ow_nil ?_
        refine wc_region ?_
        refine ow_add rfl rfl rfl (by simp only [InK]; omega) ?_
        (apply ow_move; (· rfl); (· ((conv => lhs; whnf) <;> rfl)))
        refine ow_nil ?_
        refine ⟨(i + 1, pw2, cw2), by first | exact rfl | exact upd_self' rfl rfl | exact upd_self' rfl (upd_self' rfl rfl) | exact upd_self' rfl (upd_self' rfl (upd_self' rfl rfl)) | exact upd_self' rfl (upd_self' rfl (upd_self' rfl (upd_self' rfl rfl))), by repeat (first | with_reducible exact Off.mix | with_reducible exact Off.refl | ((with_reducible refine Off.upd ?_ ?_); (· rfl))), ⟨rfl, hlt, ?_⟩, by dsimp only; omega⟩
        dsimp only
        rw [htk, opsW_snoc, hacc]
        exact H.sub (List.sublist_append_left (wrC bw pw2 cw2 (acc ++ opW x)) _)
      refine wc_seq ?_
      refine wc_region ?_
      refine ow_eql rfl rfl rfl ?_
      (apply ow_assign; (· rfl); (· ((conv => lhs; whnf) <;> rfl)))
      refine ow_nil ?_
      refine wc_cond_dec rfl (fun h => ?_) (fun h => ?_) <;> try dsimp only at h
      · have eB : opW x = putN (foldN x.2.1) := by unfold opW; rw [if_neg (by omega), if_neg (by omega), if_pos (by omega)]
        refine wc_region ?_
        refine ow_fieldAddr rfl (tyAt rfl) rfl rfl rfl (tyAt rfl) rfl rfl ?_
        refine ow_load rfl (tyAt rfl) rfl rfl (H.cell (i := 2) rfl rfl) ?_
        skip
        refine ow_call rfl rfl (ent (by kernel_rfl)) (CallsV.mono (wnum_spec bw pw cw acc (by omega) x.2.1 ⟨hn1, hn2⟩ _ H.begin) ?_) rfl
        rintro v w ⟨pw2, cw2, H'⟩
        replace H := H.callC (fun _ h => h) H'
        rw [← eB] at H
        clear H'
        refine ow_nil ?_
        refine wc_region ?_
        refine ow_add rfl rfl rfl (by simp only [InK]; omega) ?_
        (apply ow_move; (· rfl); (· ((conv => lhs; whnf) <;> rfl)))
        refine ow_nil ?_
        refine ⟨(i + 1, pw2, cw2), by first | exact rfl | exact upd_self' rfl rfl | exact upd_self' rfl (upd_self' rfl rfl) | exact upd_self' rfl (upd_self' rfl (upd_self' rfl rfl)) | exact upd_self' rfl (upd_self' rfl (upd_self' rfl (upd_self' rfl rfl))), by repeat (first | with_reducible exact Off.mix | with_reducible exact Off.refl | ((with_reducible refine Off.upd ?_ ?_); (· rfl))), ⟨rfl, hlt, ?_⟩, by dsimp only; omega⟩
        dsimp only
        rw [htk, opsW_snoc, hacc]
        exact H.sub (List.sublist_append_left (wrC bw pw2 cw2 (acc ++ opW x)) _)
      · have eB : opW x = putN x.2.2.length ++ x.2.2 := by unfold opW; rw [if_neg (by omega), if_neg (by omega), if_neg (by omega)]
        refine wc_region ?_
        refine ow_fieldAddr rfl (tyAt rfl) rfl rfl rfl (tyAt rfl) rfl rfl ?_
        refine ow_load rfl (tyAt rfl) rfl rfl (H.cell (i := 2) rfl rfl) ?_
        skip
        refine ow_call rfl rfl (ent (by kernel_rfl)) (CallsV.mono (wtext_spec bw pw cw acc (by omega) x.2.2 (by omega) hs1 _ H.begin) ?_) rfl
        rintro v w ⟨pw2, cw2, H'⟩
        replace H := H.callC (fun _ h => h) H'
        rw [← eB] at H
        clear H'
        refine ow_nil ?_
        refine wc_region ?_
        refine ow_add rfl rfl rfl (by simp only [InK]; omega) ?_
        (apply ow_move; (· rfl); (· ((conv => lhs; whnf) <;> rfl)))
        refine ow_nil ?_
        refine ⟨(i + 1, pw2, cw2), by first | exact rfl | exact upd_self' rfl rfl | exact upd_self' rfl (upd_self' rfl rfl) | exact upd_self' rfl (upd_self' rfl (upd_self' rfl rfl)) | exact upd_self' rfl (upd_self' rfl (upd_self' rfl (upd_self' rfl rfl))), by repeat (first | with_reducible exact Off.mix | with_reducible exact Off.refl | ((with_reducible refine Off.upd ?_ ?_); (· rfl))), ⟨rfl, hlt, ?_⟩, by dsimp only; omega⟩
        dsimp only
        rw [htk, opsW_snoc, hacc]
        exact H.sub (List.sublist_append_left (wrC bw pw2 cw2 (acc ++ opW x)) _)
    · refine wc_exit ?_
      have hi' : i = ops.length := by omega
      subst hi'
      rw [List.take_length] at H
      exact ⟨(), by first | exact rfl | exact upd_self' rfl rfl | exact upd_self' rfl (upd_self' rfl rfl) | exact upd_self' rfl (upd_self' rfl (upd_self' rfl rfl)) | exact upd_self' rfl (upd_self' rfl (upd_self' rfl (upd_self' rfl rfl))), by repeat (first | with_reducible exact Off.mix | with_reducible exact Off.refl | ((with_reducible refine Off.upd ?_ ?_); (· rfl))), rfl, pw, cw, H⟩
  clear H w
  rintro _ j D w ⟨rfl, pw, cw, H⟩
  have hal := opsW_len hw h60
  have hab := opsW_lt hw
  refine wc_seq ?_
  refine wc_region ?_
  refine ow_call rfl rfl (ent (by kernel_rfl)) (CallsV.mono (wdone_spec bw pw cw (opsW ops) (by omega) _ (H.rowSl (i := 0) rfl) (appOk.sl (H.cap (i := 1) rfl))) ?_) rfl
  rintro v w ⟨p8, c8, rfl, H'⟩
  replace H := H.call H'
  replace H := H.only (i := 0) rfl
  clear H'
  have hc8 := appOk.le (H.cap (i := 0) rfl)
  have hfull := readR_full (bs := opsW ops) (at_ := 0) hw h60 (Nat.zero_le _) rfl
  have hcut := fun k => readR_cut (bs := (opsW ops).take k) (k := k) (at_ := 0) hw h60 (Nat.zero_le _) rfl
  obtain ⟨bs, hbs⟩ : ∃ bs, opsW ops = bs := ⟨_, rfl⟩
  rw [hbs] at H hal hab hc8 hfull hcut ⊢
  (apply ow_assign; (· rfl); (· ((conv => lhs; whnf) <;> rfl)))
  refine ow_nil ?_
  refine wc_seq ?_
  refine wc_region ?_
  (apply ow_move; (· rfl); (· ((conv => lhs; whnf) <;> rfl)))
  refine ow_call rfl rfl (ent (by kernel_rfl)) (CallsV.mono (ropen_spec p8 _ c8 _) ?_) rfl
  rintro v w ⟨r, rfl, H'⟩
  replace H : St Pu w0 w (rdC r p8 bs.length c8 (0, 0, 0) ++ [.app p8 bs.length c8 5 1 (nats .u8 bs)]) [] := H.call H'
  clear H'
  (apply ow_assign; (· rfl); (· ((conv => lhs; whnf) <;> rfl)))
  refine ow_nil ?_
  refine wc_seq ?_
  refine wc_seq ?_
  refine wc_region ?_
  (apply ow_move; (· rfl); (· ((conv => lhs; whnf) <;> rfl)))
  (apply ow_move; (· rfl); (· ((conv => lhs; whnf) <;> rfl)))
  refine ow_call rfl rfl (ent (by kernel_rfl)) (CallsV.mono (read3_spec r p8 _ c8 (0, 0, 0) bs rfl (by omega) hab hc8 ⟨Nat.zero_le _, Nat.zero_le _, Nat.zero_le _⟩ q _ cap ops rfl hw hf _ H.begin (appOk.sl (H.capC (i := 0) rfl)) (St.old H hq)) ?_) rfl
  rintro v w ⟨rfl, H'⟩
  replace H := H.callC (fun _ h => h) H'
  clear H'
  rw [hfull] at H ⊢
  refine ow_not rfl rfl ?_
  refine ow_nil ?_
  refine wc_cond_false rfl ?_
  refine wc_skip ?_
  refine wc_seq ?_
  refine wc_region ?_
  (apply ow_move; (· rfl); (· ((conv => lhs; whnf) <;> rfl)))
  refine ow_call rfl rfl (ent (by kernel_rfl)) (CallsV.mono (rend_spec r p8 _ c8 (bs.length, 0, 0) bs rfl _ H.begin) ?_) rfl
  rintro v w H'
  replace H := H.callC (fun _ h => h) H'
  clear H'
  rw [show rEnd bs (bs.length, 0, 0) = (bs.length, 0, 0) by unfold rEnd; rw [if_neg (by simp)]] at H
  refine ow_nil ?_
  refine wc_seq ?_
  refine wc_seq ?_
  refine wc_region ?_
  (apply ow_move; (· rfl); (· ((conv => lhs; whnf) <;> rfl)))
  refine ow_call rfl rfl (ent (by kernel_rfl)) (CallsV.mono (rfault_spec r p8 _ c8 (bs.length, 0, 0) _ (H.rowSl (i := 0) rfl)) ?_) rfl
  rintro v w ⟨rfl, H'⟩
  replace H := H.call H'
  rw [List.nil_append] at H
  clear H'
  skip
  refine ow_build (l := [.int .i64 0, .int .i64 0]) (vs := []) rfl (tyAt rfl) rfl (.cons (tyAt rfl) (.cons (tyAt rfl) .nil)) rfl rfl ?_
  refine ow_neqF rfl rfl rfl (tyAt rfl) rfl (by kernel_rfl) (by kernel_rfl) (.int (by decide) (tyAt rfl) rfl rfl rfl rfl (.int (by decide) (tyAt rfl) rfl rfl rfl rfl .nil)) ?_
  (apply ow_move; (· rfl); (· ((conv => lhs; whnf) <;> rfl)))
  refine ow_guard_yes rfl rfl rfl rfl ?_
  (apply ow_move; (· rfl); (· ((conv => lhs; whnf) <;> rfl)))
  refine ow_guard_yes rfl rfl rfl rfl ?_
  refine ow_call rfl rfl (ent (by kernel_rfl)) (CallsV.mono (rat_spec r p8 _ c8 (bs.length, 0, 0) _ (H.rowSl (i := 0) rfl)) ?_) rfl
  rintro v w ⟨rfl, rfl⟩
  refine ow_guard_yes rfl rfl rfl rfl ?_
  (apply ow_move; (· rfl); (· ((conv => lhs; whnf) <;> rfl)))
  refine ow_guard_yes rfl rfl rfl rfl ?_
  refine ow_len rfl rfl (tyAt rfl) rfl ?_
  refine ow_guard_yes rfl rfl rfl rfl ?_
  refine ow_neq rfl rfl rfl ?_
  (apply ow_pick_f; (· rfl); (· rfl); (· ((conv => lhs; whnf) <;> rfl)))
  refine ow_nil ?_
  refine wc_cond_dec rfl (fun h => ?_) (fun h => ?_) <;> try dsimp only at h
  · exact absurd rfl h
  clear h
  refine wc_skip ?_
  refine wc_seq ?_
  refine wc_seq ?_
  refine wc_region ?_
  (apply ow_move; (· rfl); (· ((conv => lhs; whnf) <;> rfl)))
  refine ow_len rfl rfl (tyAt rfl) rfl ?_
  refine ow_eql rfl rfl rfl ?_
  refine ow_nil ?_
  refine wc_cond_dec rfl (fun h => ?_) (fun h => ?_) <;> try dsimp only at h
  · refine wc_seq ?_
    refine wc_region ?_
    (apply ow_assign; (· rfl); (· ((conv => lhs; whnf) <;> rfl)))
    refine ow_nil ?_
    refine wc_ret ?_
    obtain ⟨w, hT, H⟩ := H.takes Try.prog
    refine ⟨.inr rfl, w, hT, _, .tmp .nil, ?_⟩
    exact ⟨rfl, H.none⟩
  have hpos : 0 < bs.length := by omega
  refine wc_skip ?_
  refine wc_seq ?_
  refine wc_region ?_
  (apply ow_move; (· rfl); (· ((conv => lhs; whnf) <;> rfl)))
  (apply ow_move; (· rfl); (· ((conv => lhs; whnf) <;> rfl)))
  refine ow_and rfl rfl rfl ?_
  (apply ow_move; (· rfl); (· ((conv => lhs; whnf) <;> rfl)))
  refine ow_len rfl rfl (tyAt rfl) rfl ?_
  rw [show Sx.bw .and .i64 cut 65535 = (kk : Int) from hck]
  refine ow_rem rfl rfl rfl (by omega) (by omega) ?_
  obtain ⟨c, hc⟩ : ∃ c, kk % bs.length = c := ⟨_, rfl⟩
  have hcl : c < bs.length := by rw [← hc]; exact Nat.mod_lt kk hpos
  rw [show (kk : Int) % (bs.length : Int) = (c : Int) by rw [← hc]; push_cast; rfl]
  replace H := H.only (i := 1) rfl
  have hcut := hcut c hcl
  have hct : (bs.take c).length = c := by rw [List.length_take]; omega
  refine ow_sliceHi rfl (tyAt rfl) rfl (tyAt rfl) rfl rfl (by omega) (by omega) ?_
  skip
  refine ow_call rfl rfl (ent (by kernel_rfl)) (CallsV.mono (ropen_spec (subP p8 c8 0 1) _ c8 _) ?_) rfl
  rintro v w ⟨r2, rfl, H'⟩
  replace H : St Pu w0 w (rdC r2 (subP p8 c8 0 1) c c8 (0, 0, 0) ++ [.app p8 bs.length c8 5 1 (nats .u8 bs)]) [] := H.call H'
  clear H'
  have hst : SlH (msk (fps (rdC r2 (subP p8 c8 0 1) c c8 (0, 0, 0))) w) (subP p8 c8 0 1) (nats .u8 (bs.take c)) := by
    have := (appOk.sl (H.capC (i := 0) rfl)).hi1 (cap := c8) (by simpa using hc8) c
    rwa [nats_take] at this
  (apply ow_assign; (· rfl); (· ((conv => lhs; whnf) <;> rfl)))
  refine ow_nil ?_
  refine wc_seq ?_
  refine wc_region ?_
  (apply ow_move; (· rfl); (· ((conv => lhs; whnf) <;> rfl)))
  (apply ow_move; (· rfl); (· ((conv => lhs; whnf) <;> rfl)))
  refine ow_call rfl rfl (ent (by kernel_rfl)) (CallsV.mono (read3_spec r2 (subP p8 c8 0 1) c c8 (0, 0, 0) (bs.take c) hct.symm (by omega) (fun x hx => hab x (List.mem_of_mem_take hx)) (by omega) ⟨Nat.zero_le _, Nat.zero_le _, Nat.zero_le _⟩ q _ cap ops rfl hw hf _ H.begin hst (St.old H hq)) ?_) rfl
  rintro v w ⟨rfl, H'⟩
  replace H := H.callC (fun _ h => h) H'
  clear H'
  rw [hcut.1]
  refine ow_not rfl rfl ?_
  (apply ow_move; (· rfl); (· ((conv => lhs; whnf) <;> rfl)))
  refine ow_guard_yes rfl rfl rfl rfl ?_
  (apply ow_move; (· rfl); (· ((conv => lhs; whnf) <;> rfl)))
  refine ow_guard_yes rfl rfl rfl rfl ?_
  refine ow_call rfl rfl (ent (by kernel_rfl)) (CallsV.mono (rfault_spec r2 (subP p8 c8 0 1) c c8 _ _ (H.rowSl (i := 0) rfl)) ?_) rfl
  rintro v w ⟨rfl, H'⟩
  replace H := H.call H'
  rw [List.nil_append] at H
  clear H'
  rw [hcut.2]
  refine ow_guard_yes rfl rfl rfl rfl ?_
  refine ow_field rfl (tyAt rfl) rfl rfl (tyAt rfl) rfl rfl rfl ?_
  refine ow_guard_yes rfl rfl rfl rfl ?_
  refine ow_eql rfl rfl rfl ?_
  (apply ow_pick_t; (· rfl); (· rfl); (· ((conv => lhs; whnf) <;> rfl)))
  (apply ow_assign; (· rfl); (· ((conv => lhs; whnf) <;> rfl)))
  refine ow_nil ?_
  refine wc_ret ?_
  obtain ⟨w, hT, H⟩ := H.takes Try.prog
  refine ⟨.inr rfl, w, hT, _, .tmp .nil, ?_⟩
  exact ⟨rfl, H.none⟩
end Go.Proofs.Ytphmjdbdhhbdoaa
