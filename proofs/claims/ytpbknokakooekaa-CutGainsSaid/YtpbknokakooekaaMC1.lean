/- Keys in order, each with something: find, Rank, Get, At, Len. -/
import Derived.Test.YtpbknokakooekaaMcmp
namespace Go.Proofs.Ytpbknokakooekaa
set_option linter.all false
open Go Go.Sx Go.Proofs
set_option maxRecDepth 100000
set_option maxHeartbeats 2000000
def entC (e : Int × Int) : List Value := [.int .i64 e.1, .int .i64 e.2]
theorem entC_len (e : Int × Int) : (entC e).length = 2 := rfl
theorem entC_one (e : Int × Int) : ∀ v ∈ entC e, Value.oneCell' v = true := by simp [entC, Value.oneCell']
theorem entsC_one (es : List (Int × Int)) : ∀ v ∈ es.flatMap entC, Value.oneCell' v = true := by
  intro v hv
  obtain ⟨e, _, h⟩ := List.mem_flatMap.1 hv
  exact entC_one e v h
def MapC (h : Hp) (b : Nat) (p : Option Addr) (c : Nat) (es : List (Int × Int)) : Prop :=
  SlH h (some ⟨b, 0, none⟩) [.slice p es.length c] ∧ SlH h p (es.flatMap entC) ∧ es.length ≤ c
abbrev mpC (b : Nat) (p : Option Addr) (c : Nat) (es : List (Int × Int)) : List Cap := [.row b 164 [.slice p es.length c], .app p es.length c 189 2 (es.flatMap entC)]
theorem MapC.old {w0 w : World} {L : List Cap} {D : List Nat} {b : Nat} {p : Option Addr} {c : Nat} {es : List (Int × Int)} (H : St Pu w0 w L D) (h : MapC (hp w0) b p c es) : MapC (hp w) b p c es := ⟨H.oldSl h.1, H.oldSl h.2.1, h.2.2⟩
theorem mpC_at {M : Nat → Prop} {w0 w : World} {L : List Cap} {D : List Nat} {b : Nat} {p : Option Addr} {c : Nat} {es : List (Int × Int)} {i j : Nat} (H : St M w0 w L D) (hi : L[i]? = some (.row b 164 [.slice p es.length c])) (hj : L[j]? = some (.app p es.length c 189 2 (es.flatMap entC))) : MapC (hp w) b p c es :=
  ⟨H.rowSl hi, appOk.sl (H.cap hj), appOk.le (H.cap hj)⟩
theorem MapC.all {w : World} {b : Nat} {p : Option Addr} {c : Nat} {es : List (Int × Int)} (h : MapC (hp w) b p c es) : w.cell? ⟨b, 0, none⟩ = some (.slice p es.length c) := h.1.cell (j := 0) rfl
theorem entC_at {es : List (Int × Int)} {i : Nat} {x : Int × Int} {w : World} {b o : Nat} (hs : SlH (hp w) (some ⟨b, o, none⟩) (es.flatMap entC)) (hi : es[i]? = some x) :
    w.cell? ⟨b, o + i * 2 + 0, none⟩ = some (.int .i64 x.1) ∧ w.cell? ⟨b, o + i * 2 + 1, none⟩ = some (.int .i64 x.2) := by
  constructor
  · have := hs.elem entC_len hi 0 _ rfl
    rwa [add_none] at this
  · have := hs.elem entC_len hi 1 _ rfl
    rwa [add_none] at this
theorem clC_spec (e : Int × Int) (k : Int) (w0 : World) : CallsV Try.prog 143 #[.agg ⟨entC e⟩, .int .i64 k] w0 fun v w => v = .int .i64 (cmpZ ltI e.1 k) ∧ St Pu w0 w [] [] := by
  refine callsV_of Try.func143 rfl rfl ?_
  have H := St.init w0
  refine wc_seq ?_
  refine wc_region ?_
  refine ow_box (l := entC e) H rfl rfl rfl (fun b w H => ?_)
  (apply ow_assign; (· rfl); (· ((conv => lhs; whnf) <;> rfl)))
  refine ow_nil ?_
  refine wc_seq ?_
  refine wc_region ?_
  refine ow_fieldAddr rfl (tyAt rfl) rfl rfl rfl (tyAt rfl) rfl rfl ?_
  refine ow_load rfl (tyAt rfl) rfl rfl (H.cell (i := 0) rfl rfl) ?_
  (apply ow_move; (· rfl); (· ((conv => lhs; whnf) <;> rfl)))
  refine ow_call rfl rfl (ent (by kernel_rfl)) (CallsV.mono (cmpI_spec e.1 k _) ?_) rfl
  rintro v w' ⟨rfl, rfl⟩
  (apply ow_assign; (· rfl); (· ((conv => lhs; whnf) <;> rfl)))
  refine ow_nil ?_
  refine wc_ret ?_
  obtain ⟨w, hT, H⟩ := H.takes Try.prog
  refine ⟨.inr rfl, w, hT, _, .tmp .nil, ?_⟩
  exact ⟨rfl, H.none⟩
theorem bsC_spec (p : Option Addr) (len c : Nat) (es : List (Int × Int)) (k : Int) (hl : len = es.length) (hm : es.length ≤ 1000000) (ha : Asc ltI es) (w0 : World) (hp0 : SlH (hp w0) p (es.flatMap entC)) :
    CallsV Try.prog 142 #[.slice p len c, .int .i64 k, .func (.func 143) #[] #[]] w0 fun v w => v = .tuple #[.int .i64 (rkE ltI es k : Nat), .bool (thereE es k)] ∧ St Pu w0 w [] [] := by
  subst hl
  refine callsV_of Try.func142 rfl rfl ?_
  have H := St.init w0
  refine wc_seq ?_
  refine wc_region ?_
  (apply ow_assign; (· rfl); (· ((conv => lhs; whnf) <;> rfl)))
  (apply ow_assign; (· rfl); (· ((conv => lhs; whnf) <;> rfl)))
  refine ow_nil ?_
  refine wc_seq ?_
  refine wc_region ?_
  (apply ow_move; (· rfl); (· ((conv => lhs; whnf) <;> rfl)))
  refine ow_len rfl rfl (tyAt rfl) rfl ?_
  (apply ow_assign; (· rfl); (· ((conv => lhs; whnf) <;> rfl)))
  refine ow_nil ?_
  refine wc_seq ?_
  refine wc_region ?_
  (apply ow_move; (· rfl); (· ((conv => lhs; whnf) <;> rfl)))
  (apply ow_assign; (· rfl); (· ((conv => lhs; whnf) <;> rfl)))
  (apply ow_assign; (· rfl); (· ((conv => lhs; whnf) <;> rfl)))
  refine ow_nil ?_
  refine wc_seq ?_
  refine wc_blockJ [9, 10, 11, 15, 16, 17, 18, 19, 20, 21, 22, 23, 24, 25, 26, 27, 28, 29, 30, 31, 32, 33, 34] (fun (_ : Unit) e => upd e 9 (.int .i64 (rkE ltI es k : Nat)))
    (fun _ D w => D = [] ∧ RkAt ltI es k (rkE ltI es k) ∧ St Pu w0 w [] []) ?_ ?_
  · refine wc_loopS [9, 10, 11, 15, 16, 17, 18, 19, 20, 21, 22, 23, 24, 25, 26, 27, 28, 29, 30, 31, 32, 33, 34] (fun (s : Nat × Nat) e => upd (upd e 9 (.int .i64 s.1)) 10 (.int .i64 s.2))
      (fun s D w => D = [] ∧ s.1 ≤ s.2 ∧ s.2 ≤ es.length ∧ (∀ i x, es[i]? = some x → i < s.1 → ltI x.1 k = true) ∧ (∀ i x, es[i]? = some x → s.2 ≤ i → ltI x.1 k = false) ∧ St Pu w0 w [] []) (fun s _ => s.2 - s.1) (0, es.length) (by first | exact rfl | exact upd_self' rfl rfl | exact upd_self' rfl (upd_self' rfl rfl) | exact upd_self' rfl (upd_self' rfl (upd_self' rfl rfl)) | exact upd_self' rfl (upd_self' rfl (upd_self' rfl (upd_self' rfl rfl))))
      ⟨rfl, Nat.zero_le _, Nat.le_refl _, fun i x _ h => absurd h (Nat.not_lt_zero _), fun i x hx h => absurd (List.getElem?_eq_some_iff.1 hx).1 (by dsimp only at h; omega), H⟩ ?_
    clear H
    rintro ⟨i, j⟩ jj D w ⟨rfl, hij, hj, hlo, hhi, H⟩
    dsimp only at hij hj hlo hhi H ⊢
    refine wc_seq ?_
    refine wc_seq ?_
    refine wc_region ?_
    (apply ow_move; (· rfl); (· ((conv => lhs; whnf) <;> rfl)))
    (apply ow_move; (· rfl); (· ((conv => lhs; whnf) <;> rfl)))
    refine ow_lss rfl rfl rfl ?_
    refine ow_nil ?_
    refine wc_cond_dec rfl (fun h => ?_) (fun h => ?_) <;> try dsimp only at h
    · have hlt : (i + j) / 2 < es.length := by omega
      obtain ⟨x, hx⟩ : ∃ x, es[(i + j) / 2]? = some x := ⟨_, List.getElem?_eq_getElem hlt⟩
      have hs' := H.oldSl hp0
      obtain ⟨b, o, rfl⟩ := hs'.some_of (by rw [flat_len entC_len]; omega)
      refine wc_skip ?_
      refine wc_block ?_
      refine wc_seq ?_
      refine wc_region ?_
      (apply ow_move; (· rfl); (· ((conv => lhs; whnf) <;> rfl)))
      (apply ow_move; (· rfl); (· ((conv => lhs; whnf) <;> rfl)))
      refine ow_add rfl rfl rfl (by simp only [InK]; omega) ?_
      refine ow_conv_in rfl rfl (tyAt rfl) (tyAt rfl) rfl (by simp only [InK]; omega) ?_
      refine ow_shr rfl rfl rfl (by omega) ?_
      rw [show ((i : Int) + (j : Int)).fdiv (2 ^ min ((1 : Int)).toNat IntKind.u64.bits) = (((i + j) / 2 : Nat) : Int) by rw [show (i : Int) + (j : Int) = ((i + j : Nat) : Int) by omega]; exact shr_nat (i + j) 1 64 (by decide)]
      refine ow_conv_in rfl rfl (tyAt rfl) (tyAt rfl) rfl (by simp only [InK]; omega) ?_
      (apply ow_assign; (· rfl); (· ((conv => lhs; whnf) <;> rfl)))
      refine ow_nil ?_
      refine wc_seq ?_
      refine wc_region ?_
      (apply ow_move; (· rfl); (· ((conv => lhs; whnf) <;> rfl)))
      (apply ow_move; (· rfl); (· ((conv => lhs; whnf) <;> rfl)))
      (apply ow_move; (· rfl); (· ((conv => lhs; whnf) <;> rfl)))
      refine ow_idxK (j := (i + j) / 2) (sz := 2) rfl (tyAt rfl) rfl (tyAt rfl) rfl rfl rfl hlt rfl ?_
      refine ow_loadA (l := entC x) rfl (tyAt rfl) rfl rfl rfl (hs'.elem entC_len hx) ?_
      (apply ow_move; (· rfl); (· ((conv => lhs; whnf) <;> rfl)))
      refine ow_call rfl rfl (ent (by kernel_rfl)) (CallsV.mono (clC_spec x k _) ?_) rfl
      rintro v w ⟨rfl, H'⟩
      replace H := H.call H'
      refine ow_lss rfl rfl rfl ?_
      refine ow_nil ?_
      refine wc_cond_dec rfl (fun h => ?_) (fun h => ?_) <;> try dsimp only at h
      · have hxk : ltI x.1 k = true := by
          cases hq : ltI x.1 k with
          | true => rfl
          | false => exfalso; unfold cmpZ at h; rw [hq] at h; revert h; cases ltI k x.1 <;> decide
        refine wc_region ?_
        (apply ow_move; (· rfl); (· ((conv => lhs; whnf) <;> rfl)))
        refine ow_add rfl rfl rfl (by simp only [InK]; omega) ?_
        (apply ow_assign; (· rfl); (· ((conv => lhs; whnf) <;> rfl)))
        refine ow_nil ?_
        refine ⟨((i + j) / 2 + 1, j), by first | exact rfl | exact upd_self' rfl rfl | exact upd_self' rfl (upd_self' rfl rfl) | exact upd_self' rfl (upd_self' rfl (upd_self' rfl rfl)) | exact upd_self' rfl (upd_self' rfl (upd_self' rfl (upd_self' rfl rfl))), by repeat (first | with_reducible exact Off.mix | with_reducible exact Off.refl | ((with_reducible refine Off.upd ?_ ?_); (· rfl))), ⟨rfl, by dsimp only; omega, hj, fun a y hy h1 => ?_, hhi, H⟩, by dsimp only; omega⟩
        dsimp only at h1
        rcases Nat.lt_or_ge a ((i + j) / 2) with h2 | h2
        · exact (ltI_ok).tr (asc_lt ha hy hx h2) hxk
        · have : a = (i + j) / 2 := by omega
          subst this
          rw [hx] at hy
          cases hy
          exact hxk
      · have hxk : ltI x.1 k = false := by
          cases hq : ltI x.1 k with
          | false => rfl
          | true => exact absurd (by unfold cmpZ; rw [hq]; simp) h
        refine wc_region ?_
        (apply ow_move; (· rfl); (· ((conv => lhs; whnf) <;> rfl)))
        (apply ow_assign; (· rfl); (· ((conv => lhs; whnf) <;> rfl)))
        refine ow_nil ?_
        refine ⟨(i, (i + j) / 2), by first | exact rfl | exact upd_self' rfl rfl | exact upd_self' rfl (upd_self' rfl rfl) | exact upd_self' rfl (upd_self' rfl (upd_self' rfl rfl)) | exact upd_self' rfl (upd_self' rfl (upd_self' rfl (upd_self' rfl rfl))), by repeat (first | with_reducible exact Off.mix | with_reducible exact Off.refl | ((with_reducible refine Off.upd ?_ ?_); (· rfl))), ⟨rfl, by dsimp only; omega, by dsimp only; omega, hlo, fun a y hy h1 => ?_, H⟩, by dsimp only; omega⟩
        dsimp only at h1
        rcases Nat.lt_or_ge ((i + j) / 2) a with h2 | h2
        · cases hq : ltI y.1 k with
          | false => rfl
          | true => have := (ltI_ok).tr (asc_lt ha hx hy h2) hq; rw [hxk] at this; cases this
        · have : a = (i + j) / 2 := by omega
          subst this
          rw [hx] at hy
          cases hy
          exact hxk
    · have : j = i := by omega
      subst this
      have hr : RkAt ltI es k j := ⟨hj, hlo, hhi⟩
      have he := hr.eq
      refine wc_exit ?_
      refine ⟨(), ?_, by repeat (first | with_reducible exact Off.mix | with_reducible exact Off.refl | ((with_reducible refine Off.upd ?_ ?_); (· rfl))), ⟨rfl, he ▸ hr, H⟩⟩
      rw [← he]
      first | exact rfl | exact upd_self' rfl rfl | exact upd_self' rfl (upd_self' rfl rfl) | exact upd_self' rfl (upd_self' rfl (upd_self' rfl rfl)) | exact upd_self' rfl (upd_self' rfl (upd_self' rfl (upd_self' rfl rfl)))
  clear H
  rintro _ jj D w ⟨rfl, hr, H⟩
  have hth := rk_there (ltI_ok) ha hr
  generalize rkE ltI es k = r at hr hth ⊢
  refine wc_seq ?_
  refine wc_region ?_
  (apply ow_move; (· rfl); (· ((conv => lhs; whnf) <;> rfl)))
  (apply ow_move; (· rfl); (· ((conv => lhs; whnf) <;> rfl)))
  (apply ow_move; (· rfl); (· ((conv => lhs; whnf) <;> rfl)))
  refine ow_lss rfl rfl rfl ?_
  (apply ow_move; (· rfl); (· ((conv => lhs; whnf) <;> rfl)))
  refine ow_guard_dec rfl rfl rfl (fun h => ?_) (fun h => ?_) <;> try dsimp only at h
  · have hlt : r < es.length := by omega
    obtain ⟨x, hx⟩ : ∃ x, es[r]? = some x := ⟨_, List.getElem?_eq_getElem hlt⟩
    have hs' := H.oldSl hp0
    obtain ⟨b, o, rfl⟩ := hs'.some_of (by rw [flat_len entC_len]; omega)
    refine ow_guard_yes rfl rfl rfl rfl ?_
    (apply ow_move; (· rfl); (· ((conv => lhs; whnf) <;> rfl)))
    refine ow_guard_yes rfl rfl rfl rfl ?_
    (apply ow_move; (· rfl); (· ((conv => lhs; whnf) <;> rfl)))
    refine ow_guard_yes rfl rfl rfl rfl ?_
    (apply ow_move; (· rfl); (· ((conv => lhs; whnf) <;> rfl)))
    refine ow_guard_yes rfl rfl rfl rfl ?_
    refine ow_idxK (j := r) (sz := 2) rfl (tyAt rfl) rfl (tyAt rfl) rfl rfl rfl hlt rfl ?_
    refine ow_guard_yes rfl rfl rfl rfl ?_
    refine ow_loadA (l := entC x) rfl (tyAt rfl) rfl rfl rfl (hs'.elem entC_len hx) ?_
    refine ow_guard_yes rfl rfl rfl rfl ?_
    (apply ow_move; (· rfl); (· ((conv => lhs; whnf) <;> rfl)))
    refine ow_guard_yes rfl rfl rfl rfl ?_
    refine ow_call rfl rfl (ent (by kernel_rfl)) (CallsV.mono (clC_spec x k _) ?_) rfl
    rintro v w ⟨rfl, H'⟩
    replace H := H.call H'
    refine ow_guard_yes rfl rfl rfl rfl ?_
    refine ow_eql rfl rfl rfl ?_
    (apply ow_pick_t; (· rfl); (· rfl); (· ((conv => lhs; whnf) <;> rfl)))
    (apply ow_assign; (· rfl); (· ((conv => lhs; whnf) <;> rfl)))
    (apply ow_assign; (· rfl); (· ((conv => lhs; whnf) <;> rfl)))
    refine ow_nil ?_
    refine wc_ret ?_
    obtain ⟨w, hT, H⟩ := H.takes Try.prog
    refine ⟨.inr rfl, w, hT, _, .tmp (.tmp .nil), ?_⟩
    refine ⟨?_, H⟩
    have hb : (decide (cmpZ ltI x.1 k = 0)) = thereE es k := by
      have hxk := hr.hi r x hx (Nat.le_refl _)
      cases ht : thereE es k with
      | true =>
        obtain ⟨v, hv⟩ := hth.1 ht
        rw [hx] at hv
        cases hv
        refine decide_eq_true ?_
        unfold cmpZ
        rw [hxk]
        rfl
      | false =>
        refine decide_eq_false fun h0 => ?_
        unfold cmpZ at h0
        rw [hxk] at h0
        cases hq : ltI k x.1 with
        | true => rw [hq] at h0; revert h0; decide
        | false =>
          have he := (ltI_ok).tri hxk hq
          have := hth.2 ⟨x.2, by rw [hx, ← he]⟩
          rw [ht] at this; cases this
    rw [← hb]
    rfl
  · refine ow_guard_no rfl rfl rfl rfl rfl rfl rfl ?_
    refine ow_guard_no rfl rfl rfl rfl rfl rfl rfl ?_
    refine ow_guard_no rfl rfl rfl rfl rfl rfl rfl ?_
    refine ow_guard_no rfl rfl rfl rfl rfl rfl rfl ?_
    refine ow_guard_no rfl rfl rfl rfl rfl rfl rfl ?_
    refine ow_guard_no rfl rfl rfl rfl rfl rfl rfl ?_
    refine ow_guard_no rfl rfl rfl rfl rfl rfl rfl ?_
    refine ow_guard_no rfl rfl rfl rfl rfl rfl rfl ?_
    (apply ow_pick_f; (· rfl); (· rfl); (· ((conv => lhs; whnf) <;> rfl)))
    (apply ow_assign; (· rfl); (· ((conv => lhs; whnf) <;> rfl)))
    (apply ow_assign; (· rfl); (· ((conv => lhs; whnf) <;> rfl)))
    refine ow_nil ?_
    refine wc_ret ?_
    obtain ⟨w, hT, H⟩ := H.takes Try.prog
    refine ⟨.inr rfl, w, hT, _, .tmp (.tmp .nil), ?_⟩
    refine ⟨?_, H⟩
    have hb : thereE es k = false := by
      cases ht : thereE es k with
      | false => rfl
      | true =>
        obtain ⟨v, hv⟩ := hth.1 ht
        exact absurd (List.getElem?_eq_some_iff.1 hv).1 (by omega)
    rw [hb]
    rfl
theorem findC_spec (b : Nat) (p : Option Addr) (c : Nat) (es : List (Int × Int)) (k : Int) (hm : es.length ≤ 1000000) (ha : Asc ltI es) (w0 : World) (hM : MapC (hp w0) b p c es) :
    CallsV Try.prog 135 #[.pointer (some ⟨b, 0, none⟩), .int .i64 k] w0 fun v w => v = .tuple #[.int .i64 (rkE ltI es k : Nat), .bool (thereE es k)] ∧ St Pu w0 w [] [] := by
  refine callsV_of Try.func135 rfl rfl ?_
  refine wc_seq ?_
  refine wc_region ?_
  (apply ow_assign; (· rfl); (· ((conv => lhs; whnf) <;> rfl)))
  (apply ow_assign; (· rfl); (· ((conv => lhs; whnf) <;> rfl)))
  refine ow_nil ?_
  refine wc_seq ?_
  refine wc_region ?_
  (apply ow_move; (· rfl); (· ((conv => lhs; whnf) <;> rfl)))
  refine ow_nilCheck_ptr rfl rfl ?_
  refine ow_fieldAddr rfl (tyAt rfl) rfl rfl rfl (tyAt rfl) rfl rfl ?_
  refine ow_load rfl (tyAt rfl) rfl rfl hM.all ?_
  (apply ow_move; (· rfl); (· ((conv => lhs; whnf) <;> rfl)))
  refine ow_call rfl rfl (ent (by kernel_rfl)) (CallsV.mono (bsC_spec p _ c es k rfl hm ha w0 hM.2.1) ?_) rfl
  rintro v w ⟨rfl, H⟩
  refine ow_extract rfl rfl rfl ?_
  refine ow_extract rfl rfl rfl ?_
  (apply ow_assign; (· rfl); (· ((conv => lhs; whnf) <;> rfl)))
  (apply ow_assign; (· rfl); (· ((conv => lhs; whnf) <;> rfl)))
  refine ow_nil ?_
  refine wc_ret ?_
  obtain ⟨w, hT, H⟩ := H.takes Try.prog
  refine ⟨.inr rfl, w, hT, _, .tmp (.tmp .nil), ?_⟩
  exact ⟨rfl, H⟩
theorem rankC_spec (b : Nat) (p : Option Addr) (c : Nat) (es : List (Int × Int)) (k : Int) (hm : es.length ≤ 1000000) (ha : Asc ltI es) (w0 : World) (hM : MapC (hp w0) b p c es) :
    CallsV Try.prog 139 #[.pointer (some ⟨b, 0, none⟩), .int .i64 k] w0 fun v w => v = .int .i64 (rkE ltI es k : Nat) ∧ St Pu w0 w [] [] := by
  refine callsV_of Try.func139 rfl rfl ?_
  refine wc_seq ?_
  refine wc_region ?_
  (apply ow_assign; (· rfl); (· ((conv => lhs; whnf) <;> rfl)))
  refine ow_nil ?_
  refine wc_seq ?_
  refine wc_region ?_
  (apply ow_move; (· rfl); (· ((conv => lhs; whnf) <;> rfl)))
  (apply ow_move; (· rfl); (· ((conv => lhs; whnf) <;> rfl)))
  refine ow_call rfl rfl (ent (by kernel_rfl)) (CallsV.mono (findC_spec b p c es k hm ha w0 hM) ?_) rfl
  rintro v w ⟨rfl, H⟩
  (apply ow_move; (· rfl); (· ((conv => lhs; whnf) <;> rfl)))
  refine ow_extract rfl rfl rfl ?_
  refine ow_extract rfl rfl rfl ?_
  (apply ow_assign; (· rfl); (· ((conv => lhs; whnf) <;> rfl)))
  (apply ow_assign; (· rfl); (· ((conv => lhs; whnf) <;> rfl)))
  refine ow_nil ?_
  refine wc_seq ?_
  refine wc_region ?_
  (apply ow_move; (· rfl); (· ((conv => lhs; whnf) <;> rfl)))
  (apply ow_assign; (· rfl); (· ((conv => lhs; whnf) <;> rfl)))
  refine ow_nil ?_
  refine wc_ret ?_
  obtain ⟨w, hT, H⟩ := H.takes Try.prog
  refine ⟨.inr rfl, w, hT, _, .tmp .nil, ?_⟩
  exact ⟨rfl, H⟩
theorem rk_ltC {es : List (Int × Int)} (ha : Asc ltI es) {k : Int} (ht : thereE es k = true) : ∃ v, es[rkE ltI es k]? = some (k, v) ∧ getE es k = some v ∧ rkE ltI es k < es.length := by
  have hr := asc_rkAt (ltI_ok) ha k
  obtain ⟨v, hv⟩ := (rk_there (ltI_ok) ha hr).1 ht
  exact ⟨v, hv, rk_get (ltI_ok) ha hv, (List.getElem?_eq_some_iff.1 hv).1⟩
theorem getC_spec (b : Nat) (p : Option Addr) (c : Nat) (es : List (Int × Int)) (k : Int) (hm : es.length ≤ 1000000) (ha : Asc ltI es) (w0 : World) (hM : MapC (hp w0) b p c es) :
    CallsV Try.prog 111 #[.pointer (some ⟨b, 0, none⟩), .int .i64 k] w0 fun v w => v = .tuple #[.int .i64 ((getE es k).getD 0), .bool (thereE es k)] ∧ St Pu w0 w [] [] := by
  refine callsV_of Try.func111 rfl rfl ?_
  refine wc_seq ?_
  refine wc_region ?_
  (apply ow_assign; (· rfl); (· ((conv => lhs; whnf) <;> rfl)))
  (apply ow_assign; (· rfl); (· ((conv => lhs; whnf) <;> rfl)))
  refine ow_nil ?_
  refine wc_seq ?_
  refine wc_region ?_
  (apply ow_move; (· rfl); (· ((conv => lhs; whnf) <;> rfl)))
  (apply ow_move; (· rfl); (· ((conv => lhs; whnf) <;> rfl)))
  refine ow_call rfl rfl (ent (by kernel_rfl)) (CallsV.mono (findC_spec b p c es k hm ha w0 hM) ?_) rfl
  rintro v w ⟨rfl, H⟩
  replace hM := MapC.old H hM
  (apply ow_move; (· rfl); (· ((conv => lhs; whnf) <;> rfl)))
  refine ow_extract rfl rfl rfl ?_
  refine ow_extract rfl rfl rfl ?_
  (apply ow_assign; (· rfl); (· ((conv => lhs; whnf) <;> rfl)))
  (apply ow_assign; (· rfl); (· ((conv => lhs; whnf) <;> rfl)))
  refine ow_nil ?_
  refine wc_seq ?_
  refine wc_seq ?_
  refine wc_region ?_
  (apply ow_move; (· rfl); (· ((conv => lhs; whnf) <;> rfl)))
  refine ow_not rfl rfl ?_
  refine ow_nil ?_
  cases ht : thereE es k with
  | false =>
    refine wc_cond_true rfl ?_
    refine wc_seq ?_
    refine wc_region ?_
    (apply ow_assign; (· rfl); (· ((conv => lhs; whnf) <;> rfl)))
    refine ow_nil ?_
    refine wc_seq ?_
    refine wc_region ?_
    (apply ow_move; (· rfl); (· ((conv => lhs; whnf) <;> rfl)))
    (apply ow_assign; (· rfl); (· ((conv => lhs; whnf) <;> rfl)))
    (apply ow_assign; (· rfl); (· ((conv => lhs; whnf) <;> rfl)))
    refine ow_nil ?_
    refine wc_ret ?_
    obtain ⟨w, hT, H⟩ := H.takes Try.prog
    refine ⟨.inr rfl, w, hT, _, .tmp (.tmp .nil), ?_⟩
    rw [getE_none ht]
    exact ⟨rfl, H⟩
  | true =>
    obtain ⟨v, hv, hg, hlt⟩ := rk_ltC ha ht
    rw [hg]
    generalize rkE ltI es k = r at hv hlt ⊢
    have hs' := hM.2.1
    obtain ⟨g, o, rfl⟩ := hs'.some_of (by rw [flat_len entC_len]; omega)
    refine wc_cond_false rfl ?_
    refine wc_skip ?_
    refine wc_seq ?_
    refine wc_region ?_
    (apply ow_move; (· rfl); (· ((conv => lhs; whnf) <;> rfl)))
    refine ow_nilCheck_ptr rfl rfl ?_
    refine ow_fieldAddr rfl (tyAt rfl) rfl rfl rfl (tyAt rfl) rfl rfl ?_
    refine ow_load rfl (tyAt rfl) rfl rfl hM.all ?_
    (apply ow_move; (· rfl); (· ((conv => lhs; whnf) <;> rfl)))
    refine ow_idxK (j := r) (sz := 2) rfl (tyAt rfl) rfl (tyAt rfl) rfl rfl rfl hlt rfl ?_
    refine ow_fieldAddr rfl (tyAt rfl) rfl rfl rfl (tyAt rfl) rfl rfl ?_
    refine ow_load rfl (tyAt rfl) rfl rfl (entC_at hs' hv).2 ?_
    (apply ow_assign; (· rfl); (· ((conv => lhs; whnf) <;> rfl)))
    (apply ow_assign; (· rfl); (· ((conv => lhs; whnf) <;> rfl)))
    refine ow_nil ?_
    refine wc_ret ?_
    obtain ⟨w, hT, H⟩ := H.takes Try.prog
    refine ⟨.inr rfl, w, hT, _, .tmp (.tmp .nil), ?_⟩
    exact ⟨rfl, H⟩
end Go.Proofs.Ytpbknokakooekaa

