/- Keys in order, each with something: find, Rank, Get, At, Len. -/
import Derived.Test.YtnkjhmfliinnoaaKB
namespace Go.Proofs.Ytnkjhmfliinnoaa
set_option linter.all false
open Go Go.Sx Go.Proofs
set_option maxRecDepth 100000
set_option maxHeartbeats 2000000
def entD (e : ByteArray × Bool) : List Value := [.string e.1, .bool e.2]
theorem entD_len (e : ByteArray × Bool) : (entD e).length = 2 := rfl
theorem entD_one (e : ByteArray × Bool) : ∀ v ∈ entD e, Value.oneCell' v = true := by simp [entD, Value.oneCell']
theorem entsD_one (es : List (ByteArray × Bool)) : ∀ v ∈ es.flatMap entD, Value.oneCell' v = true := by
  intro v hv
  obtain ⟨e, _, h⟩ := List.mem_flatMap.1 hv
  exact entD_one e v h
def MapD (h : Hp) (b : Nat) (p : Option Addr) (c : Nat) (es : List (ByteArray × Bool)) : Prop :=
  SlH h (some ⟨b, 0, none⟩) [.slice p es.length c] ∧ SlH h p (es.flatMap entD) ∧ es.length ≤ c
abbrev mpD (b : Nat) (p : Option Addr) (c : Nat) (es : List (ByteArray × Bool)) : List Cap := [.row b 122 [.slice p es.length c], .app p es.length c 188 2 (es.flatMap entD)]
theorem MapD.old {w0 w : World} {L : List Cap} {D : List Nat} {b : Nat} {p : Option Addr} {c : Nat} {es : List (ByteArray × Bool)} (H : St Pu w0 w L D) (h : MapD (hp w0) b p c es) : MapD (hp w) b p c es := ⟨H.oldSl h.1, H.oldSl h.2.1, h.2.2⟩
theorem mpD_at {M : Nat → Prop} {w0 w : World} {L : List Cap} {D : List Nat} {b : Nat} {p : Option Addr} {c : Nat} {es : List (ByteArray × Bool)} {i j : Nat} (H : St M w0 w L D) (hi : L[i]? = some (.row b 122 [.slice p es.length c])) (hj : L[j]? = some (.app p es.length c 188 2 (es.flatMap entD))) : MapD (hp w) b p c es :=
  ⟨H.rowSl hi, appOk.sl (H.cap hj), appOk.le (H.cap hj)⟩
theorem MapD.all {w : World} {b : Nat} {p : Option Addr} {c : Nat} {es : List (ByteArray × Bool)} (h : MapD (hp w) b p c es) : w.cell? ⟨b, 0, none⟩ = some (.slice p es.length c) := h.1.cell (j := 0) rfl
theorem entD_at {es : List (ByteArray × Bool)} {i : Nat} {x : ByteArray × Bool} {w : World} {b o : Nat} (hs : SlH (hp w) (some ⟨b, o, none⟩) (es.flatMap entD)) (hi : es[i]? = some x) :
    w.cell? ⟨b, o + i * 2 + 0, none⟩ = some (.string x.1) ∧ w.cell? ⟨b, o + i * 2 + 1, none⟩ = some (.bool x.2) := by
  constructor
  · have := hs.elem entD_len hi 0 _ rfl
    rwa [add_none] at this
  · have := hs.elem entD_len hi 1 _ rfl
    rwa [add_none] at this
theorem clD_spec (e : ByteArray × Bool) (k : ByteArray) (w0 : World) : CallsV Try.prog 147 #[.agg ⟨entD e⟩, .string k] w0 fun v w => v = .int .i64 (cmpZ ltS e.1 k) ∧ St Pu w0 w [] [] := by
  refine callsV_of Try.func147 rfl rfl ?_
  have H := St.init w0
  refine wc_seq ?_
  refine wc_region ?_
  refine ow_box (l := entD e) H rfl rfl rfl (fun b w H => ?_)
  (apply ow_assign; (· rfl); (· ((conv => lhs; whnf) <;> rfl)))
  refine ow_nil ?_
  refine wc_seq ?_
  refine wc_region ?_
  refine ow_fieldAddr rfl (tyAt rfl) rfl rfl rfl (tyAt rfl) rfl rfl ?_
  refine ow_load rfl (tyAt rfl) rfl rfl (H.cell (i := 0) rfl rfl) ?_
  (apply ow_move; (· rfl); (· ((conv => lhs; whnf) <;> rfl)))
  refine ow_call rfl rfl (ent (by kernel_rfl)) (CallsV.mono (cmpS_spec e.1 k _) ?_) rfl
  rintro v w' ⟨rfl, rfl⟩
  (apply ow_assign; (· rfl); (· ((conv => lhs; whnf) <;> rfl)))
  refine ow_nil ?_
  refine wc_ret ?_
  obtain ⟨w, hT, H⟩ := H.takes Try.prog
  refine ⟨.inr rfl, w, hT, _, .tmp .nil, ?_⟩
  exact ⟨rfl, H.none⟩
theorem bsD_spec (p : Option Addr) (len c : Nat) (es : List (ByteArray × Bool)) (k : ByteArray) (hl : len = es.length) (hm : es.length ≤ 1000000) (ha : Asc ltS es) (w0 : World) (hp0 : SlH (hp w0) p (es.flatMap entD)) :
    CallsV Try.prog 146 #[.slice p len c, .string k, .func (.func 147) #[] #[]] w0 fun v w => v = .tuple #[.int .i64 (rkE ltS es k : Nat), .bool (thereE es k)] ∧ St Pu w0 w [] [] := by
  subst hl
  refine callsV_of Try.func146 rfl rfl ?_
  have H := St.init w0
  refine wc_seq ?_
  refine wc_region ?_
  (apply ow_assign; (· rfl); (· ((conv => lhs; whnf) <;> rfl)))
  (apply ow_assign; (· rfl); (· ((conv => lhs; whnf) <;> rfl)))
  refine ow_nil ?_
  refine wc_seq ?_
  refine wc_region ?_
  (apply ow_move; (· rfl); (· ((conv => lhs; whnf) <;> rfl)))
  refine ow_len rfl rfl (tyAt rfl) rfl ?_
  (apply ow_assign; (· rfl); (· ((conv => lhs; whnf) <;> rfl)))
  refine ow_nil ?_
  refine wc_seq ?_
  refine wc_region ?_
  (apply ow_move; (· rfl); (· ((conv => lhs; whnf) <;> rfl)))
  (apply ow_assign; (· rfl); (· ((conv => lhs; whnf) <;> rfl)))
  (apply ow_assign; (· rfl); (· ((conv => lhs; whnf) <;> rfl)))
  refine ow_nil ?_
  refine wc_seq ?_
  refine wc_blockJ [9, 10, 11, 15, 16, 17, 18, 19, 20, 21, 22, 23, 24, 25, 26, 27, 28, 29, 30, 31, 32, 33, 34] (fun (_ : Unit) e => upd e 9 (.int .i64 (rkE ltS es k : Nat)))
    (fun _ D w => D = [] ∧ RkAt ltS es k (rkE ltS es k) ∧ St Pu w0 w [] []) ?_ ?_
  · refine wc_loopS [9, 10, 11, 15, 16, 17, 18, 19, 20, 21, 22, 23, 24, 25, 26, 27, 28, 29, 30, 31, 32, 33, 34] (fun (s : Nat × Nat) e => upd (upd e 9 (.int .i64 s.1)) 10 (.int .i64 s.2))
      (fun s D w => D = [] ∧ s.1 ≤ s.2 ∧ s.2 ≤ es.length ∧ (∀ i x, es[i]? = some x → i < s.1 → ltS x.1 k = true) ∧ (∀ i x, es[i]? = some x → s.2 ≤ i → ltS x.1 k = false) ∧ St Pu w0 w [] []) (fun s _ => s.2 - s.1) (0, es.length) (by first | exact rfl | exact upd_self' rfl rfl | exact upd_self' rfl (upd_self' rfl rfl) | exact upd_self' rfl (upd_self' rfl (upd_self' rfl rfl)) | exact upd_self' rfl (upd_self' rfl (upd_self' rfl (upd_self' rfl rfl))))
      ⟨rfl, Nat.zero_le _, Nat.le_refl _, fun i x _ h => absurd h (Nat.not_lt_zero _), fun i x hx h => absurd (List.getElem?_eq_some_iff.1 hx).1 (by dsimp only at h; omega), H⟩ ?_
    clear H
    rintro ⟨i, j⟩ jj D w ⟨rfl, hij, hj, hlo, hhi, H⟩
    dsimp only at hij hj hlo hhi H ⊢
    refine wc_seq ?_
    refine wc_seq ?_
    refine wc_region ?_
    (apply ow_move; (· rfl); (· ((conv => lhs; whnf) <;> rfl)))
    (apply ow_move; (· rfl); (· ((conv => lhs; whnf) <;> rfl)))
    refine ow_lss rfl rfl rfl ?_
    refine ow_nil ?_
    refine wc_cond_dec rfl (fun h => ?_) (fun h => ?_) <;> try dsimp only at h
    · have hlt : (i + j) / 2 < es.length := by omega
      obtain ⟨x, hx⟩ : ∃ x, es[(i + j) / 2]? = some x := ⟨_, List.getElem?_eq_getElem hlt⟩
      have hs' := H.oldSl hp0
      obtain ⟨b, o, rfl⟩ := hs'.some_of (by rw [flat_len entD_len]; omega)
      refine wc_skip ?_
      refine wc_block ?_
      refine wc_seq ?_
      refine wc_region ?_
      (apply ow_move; (· rfl); (· ((conv => lhs; whnf) <;> rfl)))
      (apply ow_move; (· rfl); (· ((conv => lhs; whnf) <;> rfl)))
      refine ow_add rfl rfl rfl (by simp only [InK]; omega) ?_
      refine ow_conv_in rfl rfl (tyAt rfl) (tyAt rfl) rfl (by simp only [InK]; omega) ?_
      refine ow_shr rfl rfl rfl (by omega) ?_
      rw [show ((i : Int) + (j : Int)).fdiv (2 ^ min ((1 : Int)).toNat IntKind.u64.bits) = (((i + j) / 2 : Nat) : Int) by rw [show (i : Int) + (j : Int) = ((i + j : Nat) : Int) by omega]; exact shr_nat (i + j) 1 64 (by decide)]
      refine ow_conv_in rfl rfl (tyAt rfl) (tyAt rfl) rfl (by simp only [InK]; omega) ?_
      (apply ow_assign; (· rfl); (· ((conv => lhs; whnf) <;> rfl)))
      refine ow_nil ?_
      refine wc_seq ?_
      refine wc_region ?_
      (apply ow_move; (· rfl); (· ((conv => lhs; whnf) <;> rfl)))
      (apply ow_move; (· rfl); (· ((conv => lhs; whnf) <;> rfl)))
      (apply ow_move; (· rfl); (· ((conv => lhs; whnf) <;> rfl)))
      refine ow_idxK (j := (i + j) / 2) (sz := 2) rfl (tyAt rfl) rfl (tyAt rfl) rfl rfl rfl hlt rfl ?_
      refine ow_loadA (l := entD x) rfl (tyAt rfl) rfl rfl rfl (hs'.elem entD_len hx) ?_
      (apply ow_move; (· rfl); (· ((conv => lhs; whnf) <;> rfl)))
      refine ow_call rfl rfl (ent (by kernel_rfl)) (CallsV.mono (clD_spec x k _) ?_) rfl
      rintro v w ⟨rfl, H'⟩
      replace H := H.call H'
      refine ow_lss rfl rfl rfl ?_
      refine ow_nil ?_
      refine wc_cond_dec rfl (fun h => ?_) (fun h => ?_) <;> try dsimp only at h
      · have hxk : ltS x.1 k = true := by
          cases hq : ltS x.1 k with
          | true => rfl
          | false => exfalso; unfold cmpZ at h; rw [hq] at h; revert h; cases ltS k x.1 <;> decide
        refine wc_region ?_
        (apply ow_move; (· rfl); (· ((conv => lhs; whnf) <;> rfl)))
        refine ow_add rfl rfl rfl (by simp only [InK]; omega) ?_
        (apply ow_assign; (· rfl); (· ((conv => lhs; whnf) <;> rfl)))
        refine ow_nil ?_
        refine ⟨((i + j) / 2 + 1, j), by first | exact rfl | exact upd_self' rfl rfl | exact upd_self' rfl (upd_self' rfl rfl) | exact upd_self' rfl (upd_self' rfl (upd_self' rfl rfl)) | exact upd_self' rfl (upd_self' rfl (upd_self' rfl (upd_self' rfl rfl))), by repeat (first | with_reducible exact Off.mix | with_reducible exact Off.refl | ((with_reducible refine Off.upd ?_ ?_); (· rfl))), ⟨rfl, by dsimp only; omega, hj, fun a y hy h1 => ?_, hhi, H⟩, by dsimp only; omega⟩
        dsimp only at h1
        rcases Nat.lt_or_ge a ((i + j) / 2) with h2 | h2
        · exact (ltS_ok).tr (asc_lt ha hy hx h2) hxk
        · have : a = (i + j) / 2 := by omega
          subst this
          rw [hx] at hy
          cases hy
          exact hxk
      · have hxk : ltS x.1 k = false := by
          cases hq : ltS x.1 k with
          | false => rfl
          | true => exact absurd (by unfold cmpZ; rw [hq]; simp) h
        refine wc_region ?_
        (apply ow_move; (· rfl); (· ((conv => lhs; whnf) <;> rfl)))
        (apply ow_assign; (· rfl); (· ((conv => lhs; whnf) <;> rfl)))
        refine ow_nil ?_
        refine ⟨(i, (i + j) / 2), by first | exact rfl | exact upd_self' rfl rfl | exact upd_self' rfl (upd_self' rfl rfl) | exact upd_self' rfl (upd_self' rfl (upd_self' rfl rfl)) | exact upd_self' rfl (upd_self' rfl (upd_self' rfl (upd_self' rfl rfl))), by repeat (first | with_reducible exact Off.mix | with_reducible exact Off.refl | ((with_reducible refine Off.upd ?_ ?_); (· rfl))), ⟨rfl, by dsimp only; omega, by dsimp only; omega, hlo, fun a y hy h1 => ?_, H⟩, by dsimp only; omega⟩
        dsimp only at h1
        rcases Nat.lt_or_ge ((i + j) / 2) a with h2 | h2
        · cases hq : ltS y.1 k with
          | false => rfl
          | true => have := (ltS_ok).tr (asc_lt ha hx hy h2) hq; rw [hxk] at this; cases this
        · have : a = (i + j) / 2 := by omega
          subst this
          rw [hx] at hy
          cases hy
          exact hxk
    · have : j = i := by omega
      subst this
      have hr : RkAt ltS es k j := ⟨hj, hlo, hhi⟩
      have he := hr.eq
      refine wc_exit ?_
      refine ⟨(), ?_, by repeat (first | with_reducible exact Off.mix | with_reducible exact Off.refl | ((with_reducible refine Off.upd ?_ ?_); (· rfl))), ⟨rfl, he ▸ hr, H⟩⟩
      rw [← he]
      first | exact rfl | exact upd_self' rfl rfl | exact upd_self' rfl (upd_self' rfl rfl) | exact upd_self' rfl (upd_self' rfl (upd_self' rfl rfl)) | exact upd_self' rfl (upd_self' rfl (upd_self' rfl (upd_self' rfl rfl)))
  clear H
  rintro _ jj D w ⟨rfl, hr, H⟩
  have hth := rk_there (ltS_ok) ha hr
  generalize rkE ltS es k = r at hr hth ⊢
  refine wc_seq ?_
  refine wc_region ?_
  (apply ow_move; (· rfl); (· ((conv => lhs; whnf) <;> rfl)))
  (apply ow_move; (· rfl); (· ((conv => lhs; whnf) <;> rfl)))
  (apply ow_move; (· rfl); (· ((conv => lhs; whnf) <;> rfl)))
  refine ow_lss rfl rfl rfl ?_
  (apply ow_move; (· rfl); (· ((conv => lhs; whnf) <;> rfl)))
  refine ow_guard_dec rfl rfl rfl (fun h => ?_) (fun h => ?_) <;> try dsimp only at h
  · have hlt : r < es.length := by omega
    obtain ⟨x, hx⟩ : ∃ x, es[r]? = some x := ⟨_, List.getElem?_eq_getElem hlt⟩
    have hs' := H.oldSl hp0
    obtain ⟨b, o, rfl⟩ := hs'.some_of (by rw [flat_len entD_len]; omega)
    refine ow_guard_yes rfl rfl rfl rfl ?_
    (apply ow_move; (· rfl); (· ((conv => lhs; whnf) <;> rfl)))
    refine ow_guard_yes rfl rfl rfl rfl ?_
    (apply ow_move; (· rfl); (· ((conv => lhs; whnf) <;> rfl)))
    refine ow_guard_yes rfl rfl rfl rfl ?_
    (apply ow_move; (· rfl); (· ((conv => lhs; whnf) <;> rfl)))
    refine ow_guard_yes rfl rfl rfl rfl ?_
    refine ow_idxK (j := r) (sz := 2) rfl (tyAt rfl) rfl (tyAt rfl) rfl rfl rfl hlt rfl ?_
    refine ow_guard_yes rfl rfl rfl rfl ?_
    refine ow_loadA (l := entD x) rfl (tyAt rfl) rfl rfl rfl (hs'.elem entD_len hx) ?_
    refine ow_guard_yes rfl rfl rfl rfl ?_
    (apply ow_move; (· rfl); (· ((conv => lhs; whnf) <;> rfl)))
    refine ow_guard_yes rfl rfl rfl rfl ?_
    refine ow_call rfl rfl (ent (by kernel_rfl)) (CallsV.mono (clD_spec x k _) ?_) rfl
    rintro v w ⟨rfl, H'⟩
    replace H := H.call H'
    refine ow_guard_yes rfl rfl rfl rfl ?_
    refine ow_eql rfl rfl rfl ?_
    (apply ow_pick_t; (· rfl); (· rfl); (· ((conv => lhs; whnf) <;> rfl)))
    (apply ow_assign; (· rfl); (· ((conv => lhs; whnf) <;> rfl)))
    (apply ow_assign; (· rfl); (· ((conv => lhs; whnf) <;> rfl)))
    refine ow_nil ?_
    refine wc_ret ?_
    obtain ⟨w, hT, H⟩ := H.takes Try.prog
    refine ⟨.inr rfl, w, hT, _, .tmp (.tmp .nil), ?_⟩
    refine ⟨?_, H⟩
    have hb : (decide (cmpZ ltS x.1 k = 0)) = thereE es k := by
      have hxk := hr.hi r x hx (Nat.le_refl _)
      cases ht : thereE es k with
      | true =>
        obtain ⟨v, hv⟩ := hth.1 ht
        rw [hx] at hv
        cases hv
        refine decide_eq_true ?_
        unfold cmpZ
        rw [hxk]
        rfl
      | false =>
        refine decide_eq_false fun h0 => ?_
        unfold cmpZ at h0
        rw [hxk] at h0
        cases hq : ltS k x.1 with
        | true => rw [hq] at h0; revert h0; decide
        | false =>
          have he := (ltS_ok).tri hxk hq
          have := hth.2 ⟨x.2, by rw [hx, ← he]⟩
          rw [ht] at this; cases this
    rw [← hb]
    rfl
  · refine ow_guard_no rfl rfl rfl rfl rfl rfl rfl ?_
    refine ow_guard_no rfl rfl rfl rfl rfl rfl rfl ?_
    refine ow_guard_no rfl rfl rfl rfl rfl rfl rfl ?_
    refine ow_guard_no rfl rfl rfl rfl rfl rfl rfl ?_
    refine ow_guard_no rfl rfl rfl rfl rfl rfl rfl ?_
    refine ow_guard_no rfl rfl rfl rfl rfl rfl rfl ?_
    refine ow_guard_no rfl rfl rfl rfl rfl rfl rfl ?_
    refine ow_guard_no rfl rfl rfl rfl rfl rfl rfl ?_
    (apply ow_pick_f; (· rfl); (· rfl); (· ((conv => lhs; whnf) <;> rfl)))
    (apply ow_assign; (· rfl); (· ((conv => lhs; whnf) <;> rfl)))
    (apply ow_assign; (· rfl); (· ((conv => lhs; whnf) <;> rfl)))
    refine ow_nil ?_
    refine wc_ret ?_
    obtain ⟨w, hT, H⟩ := H.takes Try.prog
    refine ⟨.inr rfl, w, hT, _, .tmp (.tmp .nil), ?_⟩
    refine ⟨?_, H⟩
    have hb : thereE es k = false := by
      cases ht : thereE es k with
      | false => rfl
      | true =>
        obtain ⟨v, hv⟩ := hth.1 ht
        exact absurd (List.getElem?_eq_some_iff.1 hv).1 (by omega)
    rw [hb]
    rfl
theorem findD_spec (b : Nat) (p : Option Addr) (c : Nat) (es : List (ByteArray × Bool)) (k : ByteArray) (hm : es.length ≤ 1000000) (ha : Asc ltS es) (w0 : World) (hM : MapD (hp w0) b p c es) :
    CallsV Try.prog 117 #[.pointer (some ⟨b, 0, none⟩), .string k] w0 fun v w => v = .tuple #[.int .i64 (rkE ltS es k : Nat), .bool (thereE es k)] ∧ St Pu w0 w [] [] := by
  refine callsV_of Try.func117 rfl rfl ?_
  refine wc_seq ?_
  refine wc_region ?_
  (apply ow_assign; (· rfl); (· ((conv => lhs; whnf) <;> rfl)))
  (apply ow_assign; (· rfl); (· ((conv => lhs; whnf) <;> rfl)))
  refine ow_nil ?_
  refine wc_seq ?_
  refine wc_region ?_
  (apply ow_move; (· rfl); (· ((conv => lhs; whnf) <;> rfl)))
  refine ow_nilCheck_ptr rfl rfl ?_
  refine ow_fieldAddr rfl (tyAt rfl) rfl rfl rfl (tyAt rfl) rfl rfl ?_
  refine ow_load rfl (tyAt rfl) rfl rfl hM.all ?_
  (apply ow_move; (· rfl); (· ((conv => lhs; whnf) <;> rfl)))
  refine ow_call rfl rfl (ent (by kernel_rfl)) (CallsV.mono (bsD_spec p _ c es k rfl hm ha w0 hM.2.1) ?_) rfl
  rintro v w ⟨rfl, H⟩
  refine ow_extract rfl rfl rfl ?_
  refine ow_extract rfl rfl rfl ?_
  (apply ow_assign; (· rfl); (· ((conv => lhs; whnf) <;> rfl)))
  (apply ow_assign; (· rfl); (· ((conv => lhs; whnf) <;> rfl)))
  refine ow_nil ?_
  refine wc_ret ?_
  obtain ⟨w, hT, H⟩ := H.takes Try.prog
  refine ⟨.inr rfl, w, hT, _, .tmp (.tmp .nil), ?_⟩
  exact ⟨rfl, H⟩
theorem rankD_spec (b : Nat) (p : Option Addr) (c : Nat) (es : List (ByteArray × Bool)) (k : ByteArray) (hm : es.length ≤ 1000000) (ha : Asc ltS es) (w0 : World) (hM : MapD (hp w0) b p c es) :
    CallsV Try.prog 72 #[.pointer (some ⟨b, 0, none⟩), .string k] w0 fun v w => v = .int .i64 (rkE ltS es k : Nat) ∧ St Pu w0 w [] [] := by
  refine callsV_of Try.func72 rfl rfl ?_
  refine wc_seq ?_
  refine wc_region ?_
  (apply ow_assign; (· rfl); (· ((conv => lhs; whnf) <;> rfl)))
  refine ow_nil ?_
  refine wc_seq ?_
  refine wc_region ?_
  (apply ow_move; (· rfl); (· ((conv => lhs; whnf) <;> rfl)))
  (apply ow_move; (· rfl); (· ((conv => lhs; whnf) <;> rfl)))
  refine ow_call rfl rfl (ent (by kernel_rfl)) (CallsV.mono (findD_spec b p c es k hm ha w0 hM) ?_) rfl
  rintro v w ⟨rfl, H⟩
  (apply ow_move; (· rfl); (· ((conv => lhs; whnf) <;> rfl)))
  refine ow_extract rfl rfl rfl ?_
  refine ow_extract rfl rfl rfl ?_
  (apply ow_assign; (· rfl); (· ((conv => lhs; whnf) <;> rfl)))
  (apply ow_assign; (· rfl); (· ((conv => lhs; whnf) <;> rfl)))
  refine ow_nil ?_
  refine wc_seq ?_
  refine wc_region ?_
  (apply ow_move; (· rfl); (· ((conv => lhs; whnf) <;> rfl)))
  (apply ow_assign; (· rfl); (· ((conv => lhs; whnf) <;> rfl)))
  refine ow_nil ?_
  refine wc_ret ?_
  obtain ⟨w, hT, H⟩ := H.takes Try.prog
  refine ⟨.inr rfl, w, hT, _, .tmp .nil, ?_⟩
  exact ⟨rfl, H⟩
theorem rk_ltD {es : List (ByteArray × Bool)} (ha : Asc ltS es) {k : ByteArray} (ht : thereE es k = true) : ∃ v, es[rkE ltS es k]? = some (k, v) ∧ getE es k = some v ∧ rkE ltS es k < es.length := by
  have hr := asc_rkAt (ltS_ok) ha k
  obtain ⟨v, hv⟩ := (rk_there (ltS_ok) ha hr).1 ht
  exact ⟨v, hv, rk_get (ltS_ok) ha hv, (List.getElem?_eq_some_iff.1 hv).1⟩
theorem lenD_spec (b : Nat) (p : Option Addr) (c : Nat) (es : List (ByteArray × Bool)) (w0 : World) (hM : SlH (hp w0) (some ⟨b, 0, none⟩) [.slice p es.length c]) :
    CallsV Try.prog 70 #[.pointer (some ⟨b, 0, none⟩)] w0 fun v w => v = .int .i64 (es.length : Nat) ∧ w = w0 := by
  refine callsV_of Try.func70 rfl rfl ?_
  refine wc_seq ?_
  refine wc_region ?_
  (apply ow_assign; (· rfl); (· ((conv => lhs; whnf) <;> rfl)))
  refine ow_nil ?_
  refine wc_seq ?_
  refine wc_region ?_
  (apply ow_move; (· rfl); (· ((conv => lhs; whnf) <;> rfl)))
  refine ow_nilCheck_ptr rfl rfl ?_
  refine ow_fieldAddr rfl (tyAt rfl) rfl rfl rfl (tyAt rfl) rfl rfl ?_
  refine ow_load rfl (tyAt rfl) rfl rfl (hM.cell (j := 0) rfl) ?_
  refine ow_len rfl rfl (tyAt rfl) rfl ?_
  (apply ow_assign; (· rfl); (· ((conv => lhs; whnf) <;> rfl)))
  refine ow_nil ?_
  refine wc_ret ⟨.inr rfl, _, rfl, _, .tmp .nil, ?_⟩
  exact ⟨rfl, rfl⟩
def atD (es : List (ByteArray × Bool)) (i : Int) : (ByteArray × Bool) × Bool := if 0 ≤ i then match es[i.toNat]? with | some x => (x, true) | none => ((⟨#[]⟩, false), false) else ((⟨#[]⟩, false), false)
theorem atD_spec (b : Nat) (p : Option Addr) (c : Nat) (es : List (ByteArray × Bool)) (i : Int) (hm : es.length ≤ 1000000) (w0 : World) (hM : MapD (hp w0) b p c es) :
    CallsV Try.prog 73 #[.pointer (some ⟨b, 0, none⟩), .int .i64 i] w0 fun v w => v = .tuple #[.string (atD es i).1.1, .bool (atD es i).1.2, .bool (atD es i).2] ∧ St Pu w0 w [] [] := by
  refine callsV_of Try.func73 rfl rfl ?_
  have H := St.init w0
  refine wc_seq ?_
  refine wc_region ?_
  (apply ow_assign; (· rfl); (· ((conv => lhs; whnf) <;> rfl)))
  (apply ow_assign; (· rfl); (· ((conv => lhs; whnf) <;> rfl)))
  (apply ow_assign; (· rfl); (· ((conv => lhs; whnf) <;> rfl)))
  refine ow_nil ?_
  refine wc_seq ?_
  refine wc_seq ?_
  refine wc_region ?_
  (apply ow_move; (· rfl); (· ((conv => lhs; whnf) <;> rfl)))
  refine ow_lss rfl rfl rfl ?_
  (apply ow_move; (· rfl); (· ((conv => lhs; whnf) <;> rfl)))
  refine ow_guard_dec rfl rfl rfl (fun h => ?_) (fun h => ?_) <;> try dsimp only at h
  · have ha0 : atD es i = ((⟨#[]⟩, false), false) := by unfold atD; rw [if_neg (by omega)]
    rw [ha0]
    refine ow_guard_no rfl rfl rfl rfl rfl rfl rfl ?_
    refine ow_guard_no rfl rfl rfl rfl rfl rfl rfl ?_
    refine ow_guard_no rfl rfl rfl rfl rfl rfl rfl ?_
    refine ow_guard_no rfl rfl rfl rfl rfl rfl rfl ?_
    refine ow_guard_no rfl rfl rfl rfl rfl rfl rfl ?_
    refine ow_guard_no rfl rfl rfl rfl rfl rfl rfl ?_
    refine ow_guard_no rfl rfl rfl rfl rfl rfl rfl ?_
    (apply ow_pick_t; (· rfl); (· rfl); (· ((conv => lhs; whnf) <;> rfl)))
    refine ow_nil ?_
    refine wc_cond_true rfl ?_
    refine wc_seq ?_
    refine wc_region ?_
    refine ow_alloc (l := [.string ⟨#[]⟩, .bool false]) H rfl (tyAt rfl) rfl (fun bn w H => ?_)
    refine ow_nil ?_
    refine wc_seq ?_
    refine wc_drawK (fun w => St Pu w0 w [.row bn 188 [.string ⟨#[]⟩, .bool false]] []) 99 (by kernel_rfl) (by kernel_rfl) (by intro c e D w h; first | exact h.elim | (rcases h with ⟨h | h, _⟩ <;> cases h)) ?_
    replace H := H.drew
    apply ak_take (i := 0) rfl rfl rfl rfl (by kernel_rfl) (by with_reducible first | exact H | rfl)
    · intro w Q' HS hq; replace H := HS; clear HS; refine ow_fieldAddr rfl (tyAt rfl) rfl rfl rfl (tyAt rfl) rfl rfl ?_; exact ow_nil hq
    apply ak_take (i := 1) rfl rfl rfl rfl (by kernel_rfl) (by with_reducible first | exact H | rfl)
    · intro w Q' HS hq; replace H := HS; clear HS; refine ow_load rfl (tyAt rfl) rfl rfl (H.cell (i := 0) rfl rfl) ?_; exact ow_nil hq
    apply ak_take (i := 2) rfl rfl rfl rfl (by kernel_rfl) (by with_reducible first | exact H | rfl)
    · intro w Q' HS hq; replace H := HS; clear HS; refine ow_fieldAddr rfl (tyAt rfl) rfl rfl rfl (tyAt rfl) rfl rfl ?_; exact ow_nil hq
    apply ak_take (i := 3) rfl rfl rfl rfl (by kernel_rfl) (by with_reducible first | exact H | rfl)
    · intro w Q' HS hq; replace H := HS; clear HS; refine ow_load rfl (tyAt rfl) rfl rfl (H.cell (i := 0) rfl rfl) ?_; exact ow_nil hq
    apply ak_take (i := 4) rfl rfl rfl rfl (by kernel_rfl) (by with_reducible first | exact H | rfl)
    · intro w Q' HS hq; replace H := HS; clear HS; (apply ow_assign; (· rfl); (· ((conv => lhs; whnf) <;> rfl))); exact ow_nil hq
    apply ak_take (i := 5) rfl rfl rfl rfl (by kernel_rfl) (by with_reducible first | exact H | rfl)
    · intro w Q' HS hq; replace H := HS; clear HS; (apply ow_assign; (· rfl); (· ((conv => lhs; whnf) <;> rfl))); exact ow_nil hq
    apply ak_take (i := 6) rfl rfl rfl rfl (by kernel_rfl) (by with_reducible first | exact H | rfl)
    · intro w Q' HS hq; replace H := HS; clear HS; (apply ow_assign; (· rfl); (· ((conv => lhs; whnf) <;> rfl))); exact ow_nil hq
    refine ak_done (by kernel_rfl) ?_
    skip
    refine wc_ret ?_
    obtain ⟨w, hT, H⟩ := H.takes Try.prog
    refine ⟨.inr rfl, w, hT, _, .tmp (.tmp (.tmp .nil)), ?_⟩
    exact ⟨rfl, H.none⟩
  · refine ow_guard_yes rfl rfl rfl rfl ?_
    (apply ow_move; (· rfl); (· ((conv => lhs; whnf) <;> rfl)))
    refine ow_guard_yes rfl rfl rfl rfl ?_
    (apply ow_move; (· rfl); (· ((conv => lhs; whnf) <;> rfl)))
    refine ow_guard_yes rfl rfl rfl rfl ?_
    refine ow_nilCheck_ptr rfl rfl ?_
    refine ow_guard_yes rfl rfl rfl rfl ?_
    refine ow_fieldAddr rfl (tyAt rfl) rfl rfl rfl (tyAt rfl) rfl rfl ?_
    refine ow_guard_yes rfl rfl rfl rfl ?_
    refine ow_load rfl (tyAt rfl) rfl rfl hM.all ?_
    refine ow_guard_yes rfl rfl rfl rfl ?_
    refine ow_len rfl rfl (tyAt rfl) rfl ?_
    refine ow_guard_yes rfl rfl rfl rfl ?_
    refine ow_geq rfl rfl rfl ?_
    (apply ow_pick_f; (· rfl); (· rfl); (· ((conv => lhs; whnf) <;> rfl)))
    refine ow_nil ?_
    refine wc_cond_dec rfl (fun h => ?_) (fun h => ?_) <;> try dsimp only at h
    · have ha0 : atD es i = ((⟨#[]⟩, false), false) := by unfold atD; rw [if_pos (by omega), List.getElem?_eq_none (by omega)]
      rw [ha0]
      refine wc_seq ?_
      refine wc_region ?_
      refine ow_alloc (l := [.string ⟨#[]⟩, .bool false]) H rfl (tyAt rfl) rfl (fun bn w H => ?_)
      refine ow_nil ?_
      refine wc_seq ?_
      refine wc_drawK (fun w => St Pu w0 w [.row bn 188 [.string ⟨#[]⟩, .bool false]] []) 99 (by kernel_rfl) (by kernel_rfl) (by intro c e D w h; first | exact h.elim | (rcases h with ⟨h | h, _⟩ <;> cases h)) ?_
      replace H := H.drew
      apply ak_take (i := 0) rfl rfl rfl rfl (by kernel_rfl) (by with_reducible first | exact H | rfl)
      · intro w Q' HS hq; replace H := HS; clear HS; refine ow_fieldAddr rfl (tyAt rfl) rfl rfl rfl (tyAt rfl) rfl rfl ?_; exact ow_nil hq
      apply ak_take (i := 1) rfl rfl rfl rfl (by kernel_rfl) (by with_reducible first | exact H | rfl)
      · intro w Q' HS hq; replace H := HS; clear HS; refine ow_load rfl (tyAt rfl) rfl rfl (H.cell (i := 0) rfl rfl) ?_; exact ow_nil hq
      apply ak_take (i := 2) rfl rfl rfl rfl (by kernel_rfl) (by with_reducible first | exact H | rfl)
      · intro w Q' HS hq; replace H := HS; clear HS; refine ow_fieldAddr rfl (tyAt rfl) rfl rfl rfl (tyAt rfl) rfl rfl ?_; exact ow_nil hq
      apply ak_take (i := 3) rfl rfl rfl rfl (by kernel_rfl) (by with_reducible first | exact H | rfl)
      · intro w Q' HS hq; replace H := HS; clear HS; refine ow_load rfl (tyAt rfl) rfl rfl (H.cell (i := 0) rfl rfl) ?_; exact ow_nil hq
      apply ak_take (i := 4) rfl rfl rfl rfl (by kernel_rfl) (by with_reducible first | exact H | rfl)
      · intro w Q' HS hq; replace H := HS; clear HS; (apply ow_assign; (· rfl); (· ((conv => lhs; whnf) <;> rfl))); exact ow_nil hq
      apply ak_take (i := 5) rfl rfl rfl rfl (by kernel_rfl) (by with_reducible first | exact H | rfl)
      · intro w Q' HS hq; replace H := HS; clear HS; (apply ow_assign; (· rfl); (· ((conv => lhs; whnf) <;> rfl))); exact ow_nil hq
      apply ak_take (i := 6) rfl rfl rfl rfl (by kernel_rfl) (by with_reducible first | exact H | rfl)
      · intro w Q' HS hq; replace H := HS; clear HS; (apply ow_assign; (· rfl); (· ((conv => lhs; whnf) <;> rfl))); exact ow_nil hq
      refine ak_done (by kernel_rfl) ?_
      skip
      refine wc_ret ?_
      obtain ⟨w, hT, H⟩ := H.takes Try.prog
      refine ⟨.inr rfl, w, hT, _, .tmp (.tmp (.tmp .nil)), ?_⟩
      exact ⟨rfl, H.none⟩
    · obtain ⟨r, rfl⟩ : ∃ r : Nat, i = (r : Int) := ⟨i.toNat, by omega⟩
      have hlt : r < es.length := by omega
      obtain ⟨x, hx⟩ : ∃ x, es[r]? = some x := ⟨_, List.getElem?_eq_getElem hlt⟩
      have ha0 : atD es (r : Int) = (x, true) := by unfold atD; rw [if_pos (by omega), Int.toNat_natCast, hx]
      rw [ha0]
      have hs' := hM.2.1
      obtain ⟨g, o, rfl⟩ := hs'.some_of (by rw [flat_len entD_len]; omega)
      refine wc_skip ?_
      refine wc_seq ?_
      refine wc_drawK (fun w => St Pu w0 w [] []) 99 (by kernel_rfl) (by kernel_rfl) (by intro c e D w h; first | exact h.elim | (rcases h with ⟨h | h, _⟩ <;> cases h)) ?_
      replace H := H.drew
      apply ak_take (i := 0) rfl rfl rfl rfl (by kernel_rfl) (by with_reducible first | exact H | rfl)
      · intro w Q' HS hq; replace H := HS; clear HS; (apply ow_move; (· rfl); (· ((conv => lhs; whnf) <;> rfl))); exact ow_nil hq
      apply ak_take (i := 1) rfl rfl rfl rfl (by kernel_rfl) (by with_reducible first | exact H | rfl)
      · intro w Q' HS hq; replace H := HS; clear HS; refine ow_nilCheck_ptr rfl rfl ?_; exact ow_nil hq
      apply ak_take (i := 2) rfl rfl rfl rfl (by kernel_rfl) (by with_reducible first | exact H | rfl)
      · intro w Q' HS hq; replace H := HS; clear HS; refine ow_fieldAddr rfl (tyAt rfl) rfl rfl rfl (tyAt rfl) rfl rfl ?_; exact ow_nil hq
      apply ak_take (i := 3) rfl rfl rfl rfl (by kernel_rfl) (by with_reducible first | exact H | rfl)
      · intro w Q' HS hq; replace H := HS; clear HS; refine ow_load rfl (tyAt rfl) rfl rfl (MapD.old H hM).all ?_; exact ow_nil hq
      apply ak_take (i := 4) rfl rfl rfl rfl (by kernel_rfl) (by with_reducible first | exact H | rfl)
      · intro w Q' HS hq; replace H := HS; clear HS; (apply ow_move; (· rfl); (· ((conv => lhs; whnf) <;> rfl))); exact ow_nil hq
      apply ak_take (i := 5) rfl rfl rfl rfl (by kernel_rfl) (by with_reducible first | exact H | rfl)
      · intro w Q' HS hq; replace H := HS; clear HS; refine ow_idxK (j := r) (sz := 2) rfl (tyAt rfl) rfl (tyAt rfl) rfl rfl rfl hlt rfl ?_; exact ow_nil hq
      apply ak_take (i := 6) rfl rfl rfl rfl (by kernel_rfl) (by with_reducible first | exact H | rfl)
      · intro w Q' HS hq; replace H := HS; clear HS; refine ow_fieldAddr rfl (tyAt rfl) rfl rfl rfl (tyAt rfl) rfl rfl ?_; exact ow_nil hq
      apply ak_take (i := 7) rfl rfl rfl rfl (by kernel_rfl) (by with_reducible first | exact H | rfl)
      · intro w Q' HS hq; replace H := HS; clear HS; refine ow_load rfl (tyAt rfl) rfl rfl (entD_at (MapD.old H hM).2.1 hx).1 ?_; exact ow_nil hq
      apply ak_take (i := 8) rfl rfl rfl rfl (by kernel_rfl) (by with_reducible first | exact H | rfl)
      · intro w Q' HS hq; replace H := HS; clear HS; (apply ow_move; (· rfl); (· ((conv => lhs; whnf) <;> rfl))); exact ow_nil hq
      apply ak_take (i := 9) rfl rfl rfl rfl (by kernel_rfl) (by with_reducible first | exact H | rfl)
      · intro w Q' HS hq; replace H := HS; clear HS; refine ow_nilCheck_ptr rfl rfl ?_; exact ow_nil hq
      apply ak_take (i := 10) rfl rfl rfl rfl (by kernel_rfl) (by with_reducible first | exact H | rfl)
      · intro w Q' HS hq; replace H := HS; clear HS; refine ow_fieldAddr rfl (tyAt rfl) rfl rfl rfl (tyAt rfl) rfl rfl ?_; exact ow_nil hq
      apply ak_take (i := 11) rfl rfl rfl rfl (by kernel_rfl) (by with_reducible first | exact H | rfl)
      · intro w Q' HS hq; replace H := HS; clear HS; refine ow_load rfl (tyAt rfl) rfl rfl (MapD.old H hM).all ?_; exact ow_nil hq
      apply ak_take (i := 12) rfl rfl rfl rfl (by kernel_rfl) (by with_reducible first | exact H | rfl)
      · intro w Q' HS hq; replace H := HS; clear HS; (apply ow_move; (· rfl); (· ((conv => lhs; whnf) <;> rfl))); exact ow_nil hq
      apply ak_take (i := 13) rfl rfl rfl rfl (by kernel_rfl) (by with_reducible first | exact H | rfl)
      · intro w Q' HS hq; replace H := HS; clear HS; refine ow_idxK (j := r) (sz := 2) rfl (tyAt rfl) rfl (tyAt rfl) rfl rfl rfl hlt rfl ?_; exact ow_nil hq
      apply ak_take (i := 14) rfl rfl rfl rfl (by kernel_rfl) (by with_reducible first | exact H | rfl)
      · intro w Q' HS hq; replace H := HS; clear HS; refine ow_fieldAddr rfl (tyAt rfl) rfl rfl rfl (tyAt rfl) rfl rfl ?_; exact ow_nil hq
      apply ak_take (i := 15) rfl rfl rfl rfl (by kernel_rfl) (by with_reducible first | exact H | rfl)
      · intro w Q' HS hq; replace H := HS; clear HS; refine ow_load rfl (tyAt rfl) rfl rfl (entD_at (MapD.old H hM).2.1 hx).2 ?_; exact ow_nil hq
      apply ak_take (i := 16) rfl rfl rfl rfl (by kernel_rfl) (by with_reducible first | exact H | rfl)
      · intro w Q' HS hq; replace H := HS; clear HS; (apply ow_assign; (· rfl); (· ((conv => lhs; whnf) <;> rfl))); exact ow_nil hq
      apply ak_take (i := 17) rfl rfl rfl rfl (by kernel_rfl) (by with_reducible first | exact H | rfl)
      · intro w Q' HS hq; replace H := HS; clear HS; (apply ow_assign; (· rfl); (· ((conv => lhs; whnf) <;> rfl))); exact ow_nil hq
      apply ak_take (i := 18) rfl rfl rfl rfl (by kernel_rfl) (by with_reducible first | exact H | rfl)
      · intro w Q' HS hq; replace H := HS; clear HS; (apply ow_assign; (· rfl); (· ((conv => lhs; whnf) <;> rfl))); exact ow_nil hq
      refine ak_done (by kernel_rfl) ?_
      skip
      refine wc_ret ?_
      obtain ⟨w, hT, H⟩ := H.takes Try.prog
      refine ⟨.inr rfl, w, hT, _, .tmp (.tmp (.tmp .nil)), ?_⟩
      exact ⟨rfl, H⟩
theorem getD_spec (b : Nat) (p : Option Addr) (c : Nat) (es : List (ByteArray × Bool)) (k : ByteArray) (hm : es.length ≤ 1000000) (ha : Asc ltS es) (w0 : World) (hM : MapD (hp w0) b p c es) :
    CallsV Try.prog 71 #[.pointer (some ⟨b, 0, none⟩), .string k] w0 fun v w => v = .tuple #[.bool ((getE es k).getD false), .bool (thereE es k)] ∧ St Pu w0 w [] [] := by
  refine callsV_of Try.func71 rfl rfl ?_
  refine wc_seq ?_
  refine wc_region ?_
  (apply ow_assign; (· rfl); (· ((conv => lhs; whnf) <;> rfl)))
  (apply ow_assign; (· rfl); (· ((conv => lhs; whnf) <;> rfl)))
  refine ow_nil ?_
  refine wc_seq ?_
  refine wc_region ?_
  (apply ow_move; (· rfl); (· ((conv => lhs; whnf) <;> rfl)))
  (apply ow_move; (· rfl); (· ((conv => lhs; whnf) <;> rfl)))
  refine ow_call rfl rfl (ent (by kernel_rfl)) (CallsV.mono (findD_spec b p c es k hm ha w0 hM) ?_) rfl
  rintro v w ⟨rfl, H⟩
  replace hM := MapD.old H hM
  (apply ow_move; (· rfl); (· ((conv => lhs; whnf) <;> rfl)))
  refine ow_extract rfl rfl rfl ?_
  refine ow_extract rfl rfl rfl ?_
  (apply ow_assign; (· rfl); (· ((conv => lhs; whnf) <;> rfl)))
  (apply ow_assign; (· rfl); (· ((conv => lhs; whnf) <;> rfl)))
  refine ow_nil ?_
  refine wc_seq ?_
  refine wc_seq ?_
  refine wc_region ?_
  (apply ow_move; (· rfl); (· ((conv => lhs; whnf) <;> rfl)))
  refine ow_not rfl rfl ?_
  refine ow_nil ?_
  cases ht : thereE es k with
  | false =>
    refine wc_cond_true rfl ?_
    refine wc_seq ?_
    refine wc_region ?_
    (apply ow_assign; (· rfl); (· ((conv => lhs; whnf) <;> rfl)))
    refine ow_nil ?_
    refine wc_seq ?_
    refine wc_region ?_
    (apply ow_move; (· rfl); (· ((conv => lhs; whnf) <;> rfl)))
    (apply ow_assign; (· rfl); (· ((conv => lhs; whnf) <;> rfl)))
    (apply ow_assign; (· rfl); (· ((conv => lhs; whnf) <;> rfl)))
    refine ow_nil ?_
    refine wc_ret ?_
    obtain ⟨w, hT, H⟩ := H.takes Try.prog
    refine ⟨.inr rfl, w, hT, _, .tmp (.tmp .nil), ?_⟩
    rw [getE_none ht]
    exact ⟨rfl, H⟩
  | true =>
    obtain ⟨v, hv, hg, hlt⟩ := rk_ltD ha ht
    rw [hg]
    generalize rkE ltS es k = r at hv hlt ⊢
    have hs' := hM.2.1
    obtain ⟨g, o, rfl⟩ := hs'.some_of (by rw [flat_len entD_len]; omega)
    refine wc_cond_false rfl ?_
    refine wc_skip ?_
    refine wc_seq ?_
    refine wc_region ?_
    (apply ow_move; (· rfl); (· ((conv => lhs; whnf) <;> rfl)))
    refine ow_nilCheck_ptr rfl rfl ?_
    refine ow_fieldAddr rfl (tyAt rfl) rfl rfl rfl (tyAt rfl) rfl rfl ?_
    refine ow_load rfl (tyAt rfl) rfl rfl hM.all ?_
    (apply ow_move; (· rfl); (· ((conv => lhs; whnf) <;> rfl)))
    refine ow_idxK (j := r) (sz := 2) rfl (tyAt rfl) rfl (tyAt rfl) rfl rfl rfl hlt rfl ?_
    refine ow_fieldAddr rfl (tyAt rfl) rfl rfl rfl (tyAt rfl) rfl rfl ?_
    refine ow_load rfl (tyAt rfl) rfl rfl (entD_at hs' hv).2 ?_
    (apply ow_assign; (· rfl); (· ((conv => lhs; whnf) <;> rfl)))
    (apply ow_assign; (· rfl); (· ((conv => lhs; whnf) <;> rfl)))
    refine ow_nil ?_
    refine wc_ret ?_
    obtain ⟨w, hT, H⟩ := H.takes Try.prog
    refine ⟨.inr rfl, w, hT, _, .tmp (.tmp .nil), ?_⟩
    exact ⟨rfl, H⟩
end Go.Proofs.Ytnkjhmfliinnoaa

