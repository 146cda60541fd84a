/- Sections: the document's Unpack, function 84. -/
import Derived.Test.YtphmjdbdhhbdoaaV49
namespace Go.Proofs.Ytphmjdbdhhbdoaa
set_option linter.all false
open Go Go.Sx Go.Proofs
set_option maxRecDepth 100000
set_option maxHeartbeats 2000000
def unpackB (b : List Nat) : List Sec × Nat :=
  if (unsealN b).2 ≠ 0 then ([], (unsealN b).2) else if (unsealN b).1.take 4 ≠ signL then ([], 45) else
  if packN (guessN (unsealN b).1) = (b, 0) then (guessN (unsealN b).1, 0) else ([], 21)
theorem gHead_lt {bs : List Nat} (hb : ∀ c ∈ bs, c < 256) : ∀ (k : Nat) (r : Rd) (acc : List (Nat × Nat)), rOk bs r → rOk bs (gHead bs k r acc).1 ∧ (gHead bs k r acc).2.length ≤ acc.length + k
  | 0, _, _, hr => ⟨hr, Nat.le_refl _⟩
  | k + 1, r, acc, hr => by
    unfold gHead
    split
    · exact ⟨hr, by dsimp only; omega⟩
    · have ho := oneH_ok (n := (bs.length : Int)) hb hr
      split
      · have ih := gHead_lt hb k (oneH bs bs.length r).1 (acc ++ [(oneH bs bs.length r).2]) ho
        rw [List.length_append, List.length_singleton] at ih
        exact ⟨ih.1, by omega⟩
      · have ih := gHead_lt hb k (oneH bs bs.length r).1 acc ho
        exact ⟨ih.1, by omega⟩
theorem gBody_lt {bs : List Nat} : ∀ (hs : List (Nat × Nat)) (r : Rd), rOk bs r → (gBody bs r hs).length = hs.length ∧ r.1 + bodySum (gBody bs r hs) ≤ bs.length
  | [], r, hr => ⟨rfl, hr.1⟩
  | x :: xs, r, hr => by
    unfold gBody
    split
    · refine ⟨by simp, ?_⟩
      have : bodySum ((x :: xs).map fun y => (y.1, [])) = 0 := by
        unfold bodySum
        rw [List.length_eq_zero_iff, List.flatMap_eq_nil_iff]
        intro s hs
        obtain ⟨y, _, rfl⟩ := List.mem_map.1 hs
        rfl
      rw [this]; exact hr.1
    · have ih := gBody_lt xs (rRaw bs r x.2).1 (rRaw_ok hr)
      have ha := rRaw_at (bs := bs) (r := r) (z := x.2)
      refine ⟨by simp [ih.1], ?_⟩
      have := ih.2
      simp only [bodySum, List.flatMap_cons, List.length_append] at this ⊢
      omega
theorem guessN_lt {bs : List Nat} (hb : ∀ c ∈ bs, c < 256) (h4 : 4 ≤ bs.length) : (guessN bs).length ≤ 255 ∧ bodySum (guessN bs) ≤ bs.length := by
  have h0 : rOk bs (4, 0, 0) := ⟨h4, Nat.zero_le _, Nat.zero_le _⟩
  have h1 := rLength_ok (m := 255) hb h0
  have hk := rLength_le (bs := bs) (r := (4, 0, 0)) (m := 255)
  have h2 := gHead_lt hb (rLength bs (4, 0, 0) 255).2 (rLength bs (4, 0, 0) 255).1 [] h1
  have h3 := gBody_lt (gHead bs (rLength bs (4, 0, 0) 255).2 (rLength bs (4, 0, 0) 255).1 []).2 (gHead bs (rLength bs (4, 0, 0) 255).2 (rLength bs (4, 0, 0) 255).1 []).1 h2.1
  have h4 := h2.2
  rw [List.length_nil] at h4
  unfold guessN
  omega
theorem refUnpack_spec (q : Option Addr) (len cap : Nat) (bs : List Nat) (hl : len = bs.length) (hm : bs.length ≤ 40000) (hcap : bs.length ≤ cap) (hb : ∀ c ∈ bs, c < 256) (w0 : World) (hq : SlH (hp w0) q (nats .u8 bs)) :
    CallsV Try.prog 84 #[.slice q len cap] w0 fun v w => ∃ q c, ∃ list : List SecM, v = .tuple #[.slice q list.length c, .int .i64 (unpackB bs).2] ∧ list.map secP = (unpackB bs).1 ∧ (∀ s ∈ list, secW (hp w0) s) ∧
      St Pu w0 w [.app q list.length c 153 2 (list.flatMap secC)] [] := by
  subst hl
  refine callsV_of Try.func84 rfl rfl ?_
  have H := St.init w0
  have hub := unsealN_fst_lt hb
  have hul : (unsealN bs).1.length ≤ bs.length := by
    unfold unsealN; split
    · exact Nat.zero_le _
    · split
      · exact Nat.zero_le _
      · simp
  have hun := unpackB.eq_1 bs
  refine wc_seq ?_
  refine wc_region ?_
  (apply ow_assign; (· rfl); (· ((conv => lhs; whnf) <;> rfl)))
  (apply ow_assign; (· rfl); (· ((conv => lhs; whnf) <;> rfl)))
  refine ow_nil ?_
  refine wc_seq ?_
  refine wc_region ?_
  (apply ow_move; (· rfl); (· ((conv => lhs; whnf) <;> rfl)))
  refine ow_call rfl rfl (ent (by kernel_rfl)) (CallsV.mono (refUnseal_spec q _ cap bs rfl (by omega) hcap hb _ hq) ?_) rfl
  rintro v w ⟨pi, ci, rfl, hci, hsi, H'⟩
  replace H := H.call H'
  rw [List.nil_append] at H
  clear H'
  obtain ⟨⟨inner, e⟩, hu⟩ : ∃ u, unsealN bs = u := ⟨_, rfl⟩
  rw [hu] at hub hul hun hci hsi ⊢
  dsimp only at hub hul hun hci hsi ⊢
  (apply ow_move; (· rfl); (· ((conv => lhs; whnf) <;> rfl)))
  refine ow_extract rfl rfl rfl ?_
  refine ow_extract rfl rfl rfl ?_
  (apply ow_assign; (· rfl); (· ((conv => lhs; whnf) <;> rfl)))
  (apply ow_assign; (· rfl); (· ((conv => lhs; whnf) <;> rfl)))
  refine ow_nil ?_
  refine wc_seq ?_
  refine wc_seq ?_
  refine wc_region ?_
  (apply ow_move; (· rfl); (· ((conv => lhs; whnf) <;> rfl)))
  refine ow_neq rfl rfl rfl ?_
  refine ow_nil ?_
  refine wc_cond_dec rfl (fun h => ?_) (fun h => ?_) <;> try dsimp only at h
  · rw [if_pos (by omega)] at hun
    rw [hun]
    refine wc_seq ?_
    refine wc_region ?_
    (apply ow_move; (· rfl); (· ((conv => lhs; whnf) <;> rfl)))
    (apply ow_assign; (· rfl); (· ((conv => lhs; whnf) <;> rfl)))
    (apply ow_assign; (· rfl); (· ((conv => lhs; whnf) <;> rfl)))
    refine ow_nil ?_
    refine wc_ret ?_
    obtain ⟨w, hT, H⟩ := H.takes Try.prog
    refine ⟨.inr rfl, w, hT, _, .tmp (.tmp .nil), ?_⟩
    exact ⟨none, 0, [], rfl, rfl, (fun s h => by cases h), H.nilApp 153 2⟩
  rw [if_neg (by omega)] at hun
  have hS4 : signL.length = 4 := rfl
  refine wc_skip ?_
  refine wc_seq ?_
  refine wc_seq ?_
  refine wc_region ?_
  (apply ow_move; (· rfl); (· ((conv => lhs; whnf) <;> rfl)))
  refine ow_len rfl rfl (tyAt rfl) rfl ?_
  refine ow_lss rfl rfl rfl ?_
  (apply ow_move; (· rfl); (· ((conv => lhs; whnf) <;> rfl)))
  refine ow_guard_dec rfl rfl rfl (fun h => ?_) (fun h => ?_) <;> try dsimp only at h
  · refine ow_guard_no rfl rfl rfl rfl rfl rfl rfl ?_
    refine ow_guard_no rfl rfl rfl rfl rfl rfl rfl ?_
    refine ow_guard_no rfl rfl rfl rfl rfl rfl rfl ?_
    refine ow_guard_no rfl rfl rfl rfl rfl rfl rfl ?_
    refine ow_guard_no rfl rfl rfl rfl rfl rfl rfl ?_
    (apply ow_pick_t; (· rfl); (· rfl); (· ((conv => lhs; whnf) <;> rfl)))
    refine ow_nil ?_
    refine wc_cond_true rfl ?_
    refine wc_seq ?_
    refine wc_region ?_
    (apply ow_assign; (· rfl); (· ((conv => lhs; whnf) <;> rfl)))
    (apply ow_assign; (· rfl); (· ((conv => lhs; whnf) <;> rfl)))
    refine ow_nil ?_
    rw [if_pos (fun h9 => by have h5 := congrArg List.length h9; rw [List.length_take] at h5; omega)] at hun
    rw [hun]
    refine wc_ret ?_
    obtain ⟨w, hT, H⟩ := H.takes Try.prog
    refine ⟨.inr rfl, w, hT, _, .tmp (.tmp .nil), ?_⟩
    exact ⟨none, 0, [], rfl, rfl, (fun s h => by cases h), H.nilApp 153 2⟩
  have h4 : 4 ≤ inner.length := by omega
  have htl : (inner.take 4).length = 4 := by simp; omega
  have hst := hsi.hi1 (cap := ci) (by simpa using hci) 4
  rw [nats_take] at hst
  refine ow_guard_yes rfl rfl rfl rfl ?_
  (apply ow_move; (· rfl); (· ((conv => lhs; whnf) <;> rfl)))
  refine ow_guard_yes rfl rfl rfl rfl ?_
  refine ow_sliceHi rfl (tyAt rfl) rfl (tyAt rfl) rfl rfl (by omega) (by omega) ?_
  refine ow_guard_yes rfl rfl rfl rfl ?_
  refine ow_buildSlice1 (vs := [.int .u8 83, .int .u8 65, .int .u8 78, .int .u8 68]) H rfl (tyAt rfl) rfl (tyAt rfl) rfl rfl rfl rfl rfl (by simp [Value.one]) (fun b1 w H => ?_)
  refine ow_guard_yes rfl rfl rfl rfl ?_
  refine ow_call rfl rfl (ent (by kernel_rfl)) (CallsV.mono (same_spec' (subP pi ci 0 1) (some ⟨b1, 0, none⟩) ci 4 _ _ (inner.take 4) signL htl.symm rfl (fun x hx => hub x (List.mem_of_mem_take hx)) (by decide) _ (H.oldSl hst) (H.rowSl (i := 0) rfl)) ?_) rfl
  rintro v w' ⟨rfl, rfl⟩
  replace H := H.drop
  refine ow_guard_yes rfl rfl rfl rfl ?_
  refine ow_not_dec rfl rfl ?_
  (apply ow_pick_f; (· rfl); (· rfl); (· ((conv => lhs; whnf) <;> rfl)))
  refine ow_nil ?_
  refine wc_cond_dec rfl (fun h2 => ?_) (fun h2 => ?_) <;> try dsimp only at h2
  · rw [if_pos h2] at hun
    rw [hun]
    refine wc_seq ?_
    refine wc_region ?_
    (apply ow_assign; (· rfl); (· ((conv => lhs; whnf) <;> rfl)))
    (apply ow_assign; (· rfl); (· ((conv => lhs; whnf) <;> rfl)))
    refine ow_nil ?_
    refine wc_ret ?_
    obtain ⟨w, hT, H⟩ := H.takes Try.prog
    refine ⟨.inr rfl, w, hT, _, .tmp (.tmp .nil), ?_⟩
    exact ⟨none, 0, [], rfl, rfl, (fun s h => by cases h), H.nilApp 153 2⟩
  rw [if_neg h2] at hun
  refine wc_skip ?_
  refine wc_seq ?_
  refine wc_region ?_
  (apply ow_move; (· rfl); (· ((conv => lhs; whnf) <;> rfl)))
  refine ow_call rfl rfl (ent (by kernel_rfl)) (CallsV.mono (guess_spec pi _ ci inner rfl (by omega) h4 hub hci _ (H.oldSl hsi)) ?_) rfl
  rintro v w ⟨qo, co, list, rfl, hlist, hsw, H'⟩
  replace H := H.call H'
  clear H'
  have hlt := guessN_lt hub h4
  rw [← hlist] at hlt hun
  rw [List.length_map] at hlt
  have hsw2 := hsw _ (H.drop.oldSl hsi)
  have hsw0 := hsw _ hsi
  have hok : ∀ s ∈ list, secOk s := fun s hs => ⟨(hsw0 s hs).1, (hsw0 s hs).2.1⟩
  have hT := rawPack_len (l := list.map secP) (by omega) (by rw [List.length_map]; omega)
  rw [List.length_map] at hT
  have hsecs : SecsAt (hp w) qo list := ⟨appOk.sl (H.cap (i := 0) rfl), hsw2⟩
  have hpk256 : ∀ c ∈ (packN (list.map secP)).1, c < 256 := by
    unfold packN
    split
    · exact sealN_lt (rawPack_lt (fun s hs => by obtain ⟨x, hx, rfl⟩ := List.mem_map.1 hs; exact (hok x hx).1) (fun s hs => by obtain ⟨x, hx, rfl⟩ := List.mem_map.1 hs; exact (hok x hx).2))
    · intro c hc; cases hc
  (apply ow_assign; (· rfl); (· ((conv => lhs; whnf) <;> rfl)))
  refine ow_nil ?_
  refine wc_seq ?_
  refine wc_region ?_
  (apply ow_move; (· rfl); (· ((conv => lhs; whnf) <;> rfl)))
  refine ow_call rfl rfl (ent (by kernel_rfl)) (CallsV.mono (refPack_spec qo _ co list rfl (by omega) hok (by omega) _ hsecs) ?_) rfl
  rintro v w ⟨pk, ck, rfl, H'⟩
  replace H := H.call H'
  clear H'
  generalize hpk : packN (list.map secP) = pk2 at hun hpk256 H ⊢
  obtain ⟨again, e2⟩ := pk2
  dsimp only at hpk256 H ⊢
  (apply ow_move; (· rfl); (· ((conv => lhs; whnf) <;> rfl)))
  refine ow_extract rfl rfl rfl ?_
  refine ow_extract rfl rfl rfl ?_
  (apply ow_assign; (· rfl); (· ((conv => lhs; whnf) <;> rfl)))
  (apply ow_assign; (· rfl); (· ((conv => lhs; whnf) <;> rfl)))
  refine ow_nil ?_
  refine wc_seq ?_
  refine wc_seq ?_
  refine wc_region ?_
  (apply ow_move; (· rfl); (· ((conv => lhs; whnf) <;> rfl)))
  refine ow_neq rfl rfl rfl ?_
  (apply ow_move; (· rfl); (· ((conv => lhs; whnf) <;> rfl)))
  refine ow_guard_dec rfl rfl rfl (fun h => ?_) (fun h => ?_) <;> try dsimp only at h
  · have he2 : ¬ e2 = 0 := by omega
    rw [if_neg (fun h9 => he2 (Prod.mk.inj h9).2)] at hun
    rw [hun]
    refine ow_guard_no rfl rfl rfl rfl rfl rfl rfl ?_
    refine ow_guard_no rfl rfl rfl rfl rfl rfl rfl ?_
    refine ow_guard_no rfl rfl rfl rfl rfl rfl rfl ?_
    refine ow_guard_no rfl rfl rfl rfl rfl rfl rfl ?_
    (apply ow_pick_t; (· rfl); (· rfl); (· ((conv => lhs; whnf) <;> rfl)))
    refine ow_nil ?_
    refine wc_cond_true rfl ?_
    refine wc_seq ?_
    refine wc_region ?_
    (apply ow_assign; (· rfl); (· ((conv => lhs; whnf) <;> rfl)))
    (apply ow_assign; (· rfl); (· ((conv => lhs; whnf) <;> rfl)))
    refine ow_nil ?_
    refine wc_ret ?_
    obtain ⟨w, hT, H⟩ := H.takes Try.prog
    refine ⟨.inr rfl, w, hT, _, .tmp (.tmp .nil), ?_⟩
    exact ⟨none, 0, [], rfl, rfl, (fun s h => by cases h), H.none.nilApp 153 2⟩
  have he2 : e2 = 0 := by omega
  refine ow_guard_yes rfl rfl rfl rfl ?_
  (apply ow_move; (· rfl); (· ((conv => lhs; whnf) <;> rfl)))
  refine ow_guard_yes rfl rfl rfl rfl ?_
  (apply ow_move; (· rfl); (· ((conv => lhs; whnf) <;> rfl)))
  refine ow_guard_yes rfl rfl rfl rfl ?_
  refine ow_call rfl rfl (ent (by kernel_rfl)) (CallsV.mono (same_spec' pk q ck cap _ _ again bs rfl rfl hpk256 hb _ (appOk.sl (H.cap (i := 0) rfl)) (H.oldSl hq)) ?_) rfl
  rintro v w' ⟨rfl, rfl⟩
  refine ow_guard_yes rfl rfl rfl rfl ?_
  refine ow_not_dec rfl rfl ?_
  (apply ow_pick_f; (· rfl); (· rfl); (· ((conv => lhs; whnf) <;> rfl)))
  refine ow_nil ?_
  refine wc_cond_dec rfl (fun h9 => ?_) (fun h9 => ?_) <;> try dsimp only at h9
  · rw [if_neg (fun h8 => h9 (Prod.mk.inj h8).1)] at hun
    rw [hun]
    refine wc_seq ?_
    refine wc_region ?_
    (apply ow_assign; (· rfl); (· ((conv => lhs; whnf) <;> rfl)))
    (apply ow_assign; (· rfl); (· ((conv => lhs; whnf) <;> rfl)))
    refine ow_nil ?_
    refine wc_ret ?_
    obtain ⟨w, hT, H⟩ := H.takes Try.prog
    refine ⟨.inr rfl, w, hT, _, .tmp (.tmp .nil), ?_⟩
    exact ⟨none, 0, [], rfl, rfl, (fun s h => by cases h), H.none.nilApp 153 2⟩
  · rw [if_pos (by rw [he2, Decidable.not_not.1 h9])] at hun
    rw [hun]
    refine wc_skip ?_
    refine wc_seq ?_
    refine wc_region ?_
    (apply ow_move; (· rfl); (· ((conv => lhs; whnf) <;> rfl)))
    (apply ow_assign; (· rfl); (· ((conv => lhs; whnf) <;> rfl)))
    (apply ow_assign; (· rfl); (· ((conv => lhs; whnf) <;> rfl)))
    refine ow_nil ?_
    refine wc_ret ?_
    obtain ⟨w, hT, H⟩ := H.takes Try.prog
    refine ⟨.inr rfl, w, hT, _, .tmp (.tmp .nil), ?_⟩
    exact ⟨qo, co, list, rfl, rfl, hsw0, H.only (i := 1) rfl⟩
end Go.Proofs.Ytphmjdbdhhbdoaa
