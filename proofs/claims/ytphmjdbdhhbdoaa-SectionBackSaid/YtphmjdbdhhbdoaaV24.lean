/- What is sealed and unsealed, by digest and by the document: functions 50 to 53; and alive of the statements of layer 4. -/
import Derived.Test.YtphmjdbdhhbdoaaV23
import Derived.Test.YtphmjdbdhhbdoaaV12
namespace Go.Proofs.Ytphmjdbdhhbdoaa
set_option linter.all false
open Go Go.Sx Go.Proofs
set_option maxRecDepth 100000
set_option maxHeartbeats 2000000
def usual : Nat := 3988292384
def sealN (b : List Nat) : List Nat := b ++ leB 4 (sumN usual 0 b)
def unsealN (b : List Nat) : List Nat × Nat :=
  if b.length < 4 then ([], 20) else if leV (b.drop (b.length - 4)) ≠ sumN usual 0 (b.take (b.length - 4)) then ([], 44) else (b.take (b.length - 4), 0)
theorem sumN_usual_lt {b : List Nat} (hb : ∀ c ∈ b, c < 256) : sumN usual 0 b < 4294967296 := sumN_lt (by decide) (by decide) hb
theorem leV_leB : ∀ (k x : Nat), x < 2 ^ (8 * k) → leV (leB k x) = x
  | 0, x, h => by simp at h; subst h; rfl
  | k + 1, x, h => by
    rw [leB, leV, low256 _ (by omega), leV_leB k (x / 256) (by rw [show 8 * (k + 1) = 8 * k + 8 from rfl, Nat.pow_add] at h; omega)]
    omega
theorem leB_leV : ∀ (l : List Nat), (∀ c ∈ l, c < 256) → leB l.length (leV l) = l
  | [], _ => rfl
  | c :: l, h => by
    have hc := h c List.mem_cons_self
    rw [List.length_cons, leB, leV, low256 _ hc, show (c + leV l * 256) % 256 = c by omega, show (c + leV l * 256) / 256 = leV l by omega, leB_leV l (fun x hx => h x (List.mem_cons_of_mem _ hx))]
theorem sealN_len (b : List Nat) : (sealN b).length = b.length + 4 := by simp [sealN, leB_len]
theorem sealN_lt {b : List Nat} (hb : ∀ c ∈ b, c < 256) : ∀ c ∈ sealN b, c < 256 := fun c h => (List.mem_append.1 h).elim (hb c) (leB_lt 4 _ c)
theorem unsealN_iff {b : List Nat} (hb : ∀ c ∈ b, c < 256) (h4 : 4 ≤ b.length) : leV (b.drop (b.length - 4)) = sumN usual 0 (b.take (b.length - 4)) ↔ sealN (b.take (b.length - 4)) = b := by
  have hl : (b.drop (b.length - 4)).length = 4 := by simp; omega
  have hs := sumN_usual_lt (b := b.take (b.length - 4)) (fun c hc => hb c (List.mem_of_mem_take hc))
  have hd := leB_leV (b.drop (b.length - 4)) (fun c hc => hb c (List.mem_of_mem_drop hc))
  rw [hl] at hd
  constructor
  · intro h
    unfold sealN
    rw [← h, hd, List.take_append_drop]
  · intro h
    have h1 : b.drop (b.length - 4) = leB 4 (sumN usual 0 (b.take (b.length - 4))) := by
      have h2 := congrArg (List.drop (b.length - 4)) h
      unfold sealN at h2
      rw [List.drop_left' (by simp)] at h2
      exact h2.symm
    rw [h1, leV_leB 4 _ (by simpa using hs)]
theorem unsealN_sealN {b : List Nat} (hb : ∀ c ∈ b, c < 256) : unsealN (sealN b) = (b, 0) := by
  have hl := sealN_len b
  have ht : (sealN b).take ((sealN b).length - 4) = b := by rw [hl, Nat.add_sub_cancel]; exact List.take_left
  unfold unsealN
  rw [if_neg (by omega), if_neg, ht]
  rw [Decidable.not_not, unsealN_iff (sealN_lt hb) (by omega), ht]
theorem unsealN_fst_lt {b : List Nat} (hb : ∀ c ∈ b, c < 256) : ∀ c ∈ (unsealN b).1, c < 256 := by
  unfold unsealN; split
  · intro c h; cases h
  · split
    · intro c h; cases h
    · intro c h; exact hb c (List.mem_of_mem_take h)

theorem sum_spec' (p : Nat) (hpl : p < 4294967296) (b : Nat) (q : Option Addr) (len cap : Nat) (bs : List Nat) (hlen : len = bs.length) (hb : ∀ c ∈ bs, c < 256) (hl : bs.length ≤ 1000000) (w0 : World) (ht : SlH (hp w0) (some ⟨b, 0, none⟩) (nats .u32 (tabL p))) (hq : SlH (hp w0) q (nats .u8 bs)) :
    CallsV Try.prog 45 #[.pointer (some ⟨b, 0, none⟩), .slice q len cap] w0 fun v w => v = .int .u32 (sumN p 0 bs) ∧ w = w0 := by
  subst hlen; exact sum_spec p hpl b q cap bs hb hl w0 ht hq
theorem more_spec' (p s : Nat) (hpl : p < 4294967296) (hs : s < 4294967296) (b : Nat) (q : Option Addr) (len cap : Nat) (bs : List Nat) (hlen : len = bs.length) (hb : ∀ c ∈ bs, c < 256) (hl : bs.length ≤ 1000000) (w0 : World) (ht : SlH (hp w0) (some ⟨b, 0, none⟩) (nats .u32 (tabL p))) (hq : SlH (hp w0) q (nats .u8 bs)) :
    CallsV Try.prog 47 #[.pointer (some ⟨b, 0, none⟩), .int .u32 s, .slice q len cap] w0 fun v w => v = .int .u32 (sumN p s bs) ∧ w = w0 := by
  subst hlen; exact more_spec p s hpl hs b q cap bs hb hl w0 ht hq
theorem refMore_spec' (p s : Nat) (hpl : p < 4294967296) (hs : s < 4294967296) (q : Option Addr) (len cap : Nat) (bs : List Nat) (hlen : len = bs.length) (hb : ∀ c ∈ bs, c < 256) (hl : bs.length ≤ 1000000) (w0 : World) (hq : SlH (hp w0) q (nats .u8 bs)) :
    CallsV Try.prog 46 #[.int .u32 p, .int .u32 s, .slice q len cap] w0 fun v w => v = .int .u32 (sumN p s bs) ∧ w = w0 := by
  subst hlen; exact refMore_spec p s hpl hs q cap bs hb hl w0 hq
theorem St.old {w0 w : World} {C L : List Cap} {D : List Nat} {p : Option Addr} {cs : List Value} (H : St Pu w0 w (C ++ L) D) (hs : SlH (hp w0) p cs) : SlH (msk (fps C) w) p cs := H.rdC (by rw [msk_pu]; exact hs)
theorem seal_spec (q : Option Addr) (len cap : Nat) (bs : List Nat) (hl : len = bs.length) (hm : bs.length ≤ 100000) (hb : ∀ c ∈ bs, c < 256) (w0 : World) (hq : SlH (hp w0) q (nats .u8 bs)) :
    CallsV Try.prog 52 #[.slice q len cap] w0 fun v w => ∃ p c, v = .slice p (sealN bs).length c ∧ St Pu w0 w [.app p (sealN bs).length c 5 1 (nats .u8 (sealN bs))] [] := by
  subst hl
  refine callsV_of Try.func52 rfl rfl ?_
  have H := St.init w0
  refine wc_seq ?_
  refine wc_region ?_
  (apply ow_assign; (· rfl); (· ((conv => lhs; whnf) <;> rfl)))
  refine ow_nil ?_
  refine wc_seq ?_
  refine wc_region ?_
  refine ow_alloc (l := [.slice none 0 0]) H rfl (tyAt rfl) rfl (fun b w H => ?_)
  replace H : St Pu w0 w (wrC b none 0 [] ++ []) [] := (H.nilApp 5 1).perm (List.Perm.swap _ _ _)
  refine ow_nil ?_
  refine wc_seq ?_
  refine wc_region ?_
  (apply ow_move; (· rfl); (· ((conv => lhs; whnf) <;> rfl)))
  refine ow_call rfl rfl (ent (by kernel_rfl)) (CallsV.mono (wraw_spec b none 0 [] (by simp) q _ cap bs rfl (by omega) _ H.begin (St.old H hq)) ?_) rfl
  rintro v w ⟨p1, c1, H'⟩
  replace H := H.callC (fun _ h => h) H'
  clear H'
  rw [List.nil_append] at H
  refine ow_nil ?_
  refine wc_seq ?_
  refine wc_region ?_
  refine ow_call rfl rfl (ent (by kernel_rfl)) (CallsV.mono (make_spec 3988292384 (by decide) _) ?_) rfl
  rintro v w ⟨b2, rfl, H'⟩
  replace H := H.call H'
  simp only [List.cons_append, List.nil_append] at H
  clear H'
  have ht := H.rowSl (i := 0) rfl
  (apply ow_move; (· rfl); (· ((conv => lhs; whnf) <;> rfl)))
  refine ow_call rfl rfl (ent (by kernel_rfl)) (CallsV.mono (sum_spec 3988292384 (by decide) b2 q cap bs hb (by omega) _ ht (H.oldSl hq)) ?_) rfl
  rintro v w' ⟨rfl, rfl⟩
  replace H := H.drop
  have hs := sumN_usual_lt hb
  skip
  refine ow_call rfl rfl (ent (by kernel_rfl)) (CallsV.mono (wfixed_spec b p1 c1 bs (by omega) (sumN usual 0 bs) hs _ (St.begin (C := wrC b p1 c1 bs) (L := []) H)) ?_) rfl
  rintro v w ⟨p2, c2, H'⟩
  replace H := St.callC (C := wrC b p1 c1 bs) (L := []) H (fun _ h => h) H'
  clear H'
  rw [List.append_nil] at H
  rw [show bs ++ leB 4 (sumN usual 0 bs) = sealN bs from rfl] at H
  have hsl := sealN_len bs
  refine ow_nil ?_
  refine wc_seq ?_
  refine wc_region ?_
  refine ow_call rfl rfl (ent (by kernel_rfl)) (CallsV.mono (wdone_spec b p2 c2 (sealN bs) (by omega) _ (H.rowSl (i := 0) rfl) (appOk.sl (H.cap (i := 1) rfl))) ?_) rfl
  rintro v w ⟨p3, c3, rfl, H'⟩
  replace H := H.call H'
  simp only [List.cons_append, List.nil_append] at H
  clear H'
  (apply ow_assign; (· rfl); (· ((conv => lhs; whnf) <;> rfl)))
  refine ow_nil ?_
  refine wc_ret ?_
  obtain ⟨w, hT, H⟩ := H.takes Try.prog
  refine ⟨.inr rfl, w, hT, _, .tmp .nil, ?_⟩
  exact ⟨p3, c3, rfl, H.only (i := 0) rfl⟩
theorem refSeal_spec (q : Option Addr) (len cap : Nat) (bs : List Nat) (hl : len = bs.length) (hm : bs.length ≤ 100000) (hb : ∀ c ∈ bs, c < 256) (w0 : World) (hq : SlH (hp w0) q (nats .u8 bs)) :
    CallsV Try.prog 53 #[.slice q len cap] w0 fun v w => ∃ p c, v = .slice p (sealN bs).length c ∧ St Pu w0 w [.app p (sealN bs).length c 5 1 (nats .u8 (sealN bs))] [] := by
  subst hl
  refine callsV_of Try.func53 rfl rfl ?_
  have H := St.init w0
  have hs := sumN_usual_lt hb
  refine wc_seq ?_
  refine wc_region ?_
  (apply ow_assign; (· rfl); (· ((conv => lhs; whnf) <;> rfl)))
  refine ow_nil ?_
  refine wc_seq ?_
  refine wc_region ?_
  (apply ow_move; (· rfl); (· ((conv => lhs; whnf) <;> rfl)))
  (apply ow_move; (· rfl); (· ((conv => lhs; whnf) <;> rfl)))
  refine ow_call rfl rfl (ent (by kernel_rfl)) (CallsV.mono (refMore_spec 3988292384 0 (by decide) (by decide) q cap bs hb (by omega) _ hq) ?_) rfl
  rintro v w ⟨rfl, rfl⟩
  skip
  refine ow_call rfl rfl (ent (by kernel_rfl)) (CallsV.mono (refFixed_spec (sumN usual 0 bs) hs _) ?_) rfl
  rintro v w ⟨p1, c1, rfl, H⟩
  skip
  refine ow_buildSlice1 (vs := [.slice q bs.length cap, .slice p1 4 c1]) H rfl (tyAt rfl) rfl (tyAt rfl) rfl rfl rfl rfl rfl (by simp [Value.one]) (fun b w H => ?_)
  skip
  have hj : joinB [(q, cap, bs), (p1, c1, leB 4 (sumN usual 0 bs))] = sealN bs := by simp [joinB, sealN]
  have hsl := sealN_len bs
  have hps : ∀ x ∈ [(q, cap, bs), (p1, c1, leB 4 (sumN usual 0 bs))], SlH (hp w) x.1 (nats .u8 x.2.2) := by
    intro x hx
    simp only [List.mem_cons, List.not_mem_nil, or_false] at hx
    rcases hx with rfl | rfl
    · exact H.oldSl hq
    · exact appOk.sl (H.cap (i := 1) rfl)
  have hrw : SlH (hp w) (some ⟨b, 0, none⟩) (joinSl [(q, cap, bs), (p1, c1, leB 4 (sumN usual 0 bs))]) := by simpa [joinSl, leB_len] using H.rowSl (i := 0) rfl
  refine ow_call rfl rfl (ent (by kernel_rfl)) (CallsV.mono (join_spec _ _ _ [(q, cap, bs), (p1, c1, leB 4 (sumN usual 0 bs))] rfl (by simp) (by rw [hj]; omega) _ hrw hps) ?_) rfl
  rintro v w ⟨p3, c3, rfl, H'⟩
  replace H := H.call H'
  simp only [List.cons_append, List.nil_append] at H
  clear H'
  rw [hj] at H ⊢
  (apply ow_assign; (· rfl); (· ((conv => lhs; whnf) <;> rfl)))
  refine ow_nil ?_
  refine wc_ret ?_
  obtain ⟨w, hT, H⟩ := H.takes Try.prog
  refine ⟨.inr rfl, w, hT, _, .tmp .nil, ?_⟩
  exact ⟨p3, c3, rfl, H.only (i := 0) rfl⟩
theorem refUnseal_spec (q : Option Addr) (len cap : Nat) (bs : List Nat) (hl : len = bs.length) (hm : bs.length ≤ 100000) (hcap : bs.length ≤ cap) (hb : ∀ c ∈ bs, c < 256) (w0 : World) (hq : SlH (hp w0) q (nats .u8 bs)) :
    CallsV Try.prog 51 #[.slice q len cap] w0 fun v w => ∃ p c, v = .tuple #[.slice p (unsealN bs).1.length c, .int .i64 (unsealN bs).2] ∧ (unsealN bs).1.length ≤ c ∧ SlH (hp w0) p (nats .u8 (unsealN bs).1) ∧ St Pu w0 w [] [] := by
  subst hl
  refine callsV_of Try.func51 rfl rfl ?_
  have H := St.init w0
  refine wc_seq ?_
  refine wc_region ?_
  (apply ow_assign; (· rfl); (· ((conv => lhs; whnf) <;> rfl)))
  (apply ow_assign; (· rfl); (· ((conv => lhs; whnf) <;> rfl)))
  refine ow_nil ?_
  refine wc_seq ?_
  refine wc_region ?_
  (apply ow_move; (· rfl); (· ((conv => lhs; whnf) <;> rfl)))
  refine ow_len rfl rfl (tyAt rfl) rfl ?_
  refine ow_sub rfl rfl rfl (by simp only [InK]; omega) ?_
  (apply ow_assign; (· rfl); (· ((conv => lhs; whnf) <;> rfl)))
  refine ow_nil ?_
  refine wc_seq ?_
  refine wc_seq ?_
  refine wc_region ?_
  (apply ow_move; (· rfl); (· ((conv => lhs; whnf) <;> rfl)))
  refine ow_lss rfl rfl rfl ?_
  refine ow_nil ?_
  refine wc_cond_dec rfl (fun h => ?_) (fun h => ?_) <;> try dsimp only at h
  · refine wc_seq ?_
    refine wc_region ?_
    (apply ow_assign; (· rfl); (· ((conv => lhs; whnf) <;> rfl)))
    (apply ow_assign; (· rfl); (· ((conv => lhs; whnf) <;> rfl)))
    refine ow_nil ?_
    refine wc_ret ?_
    obtain ⟨w, hT, H⟩ := H.takes Try.prog
    refine ⟨.inr rfl, w, hT, _, .tmp (.tmp .nil), ?_⟩
    rw [show unsealN bs = ([], 20) by unfold unsealN; rw [if_pos (by omega)]]
    exact ⟨none, 0, rfl, Nat.le_refl _, SlH.nil _ _, H⟩
  · obtain ⟨n, hn⟩ : ∃ n, bs.length = n + 4 := ⟨bs.length - 4, by omega⟩
    have hun : unsealN bs = if sealN (bs.take n) = bs then (bs.take n, 0) else ([], 44) := by
      have h1 := unsealN_iff hb (by omega)
      rw [show bs.length - 4 = n by omega] at h1
      unfold unsealN
      rw [if_neg (by omega), show bs.length - 4 = n by omega]
      by_cases h2 : sealN (bs.take n) = bs
      · rw [if_neg (fun h3 => h3 (h1.2 h2)), if_pos h2]
      · rw [if_pos (fun h3 => h2 (h1.1 h3)), if_neg h2]
    have htl : (bs.take n).length = n := by simp; omega
    have hsq := hq.hi1 (cap := cap) (by simpa using hcap) n
    rw [nats_take] at hsq
    refine wc_skip ?_
    refine wc_seq ?_
    refine wc_seq ?_
    refine wc_region ?_
    (apply ow_move; (· rfl); (· ((conv => lhs; whnf) <;> rfl)))
    (apply ow_move; (· rfl); (· ((conv => lhs; whnf) <;> rfl)))
    have en : ((bs.length : Int) - 4) = (n : Int) := by omega
    rw [en]
    refine ow_sliceHi rfl (tyAt rfl) rfl (tyAt rfl) rfl rfl (by omega) (by omega) ?_
    refine ow_call rfl rfl (ent (by kernel_rfl)) (CallsV.mono (refSeal_spec (subP q cap 0 1) _ _ (bs.take n) (by rw [htl]; rfl) (by omega) (fun c hc => hb c (List.mem_of_mem_take hc)) _ hsq) ?_) rfl
    rintro v w ⟨p1, c1, rfl, H'⟩
    replace H := H.call H'
    simp only [List.cons_append, List.nil_append] at H
    clear H'
    (apply ow_move; (· rfl); (· ((conv => lhs; whnf) <;> rfl)))
    refine ow_call rfl rfl (ent (by kernel_rfl)) (CallsV.mono (same_spec' p1 q c1 cap _ _ (sealN (bs.take n)) bs rfl rfl (sealN_lt (fun c hc => hb c (List.mem_of_mem_take hc))) hb _ (appOk.sl (H.cap (i := 0) rfl)) (H.oldSl hq)) ?_) rfl
    rintro v w' ⟨rfl, rfl⟩
    refine ow_not_dec rfl rfl ?_
    refine ow_nil ?_
    refine wc_cond_dec rfl (fun h => ?_) (fun h => ?_)
    · rw [if_neg h] at hun
      rw [hun]
      refine wc_seq ?_
      refine wc_region ?_
      (apply ow_assign; (· rfl); (· ((conv => lhs; whnf) <;> rfl)))
      (apply ow_assign; (· rfl); (· ((conv => lhs; whnf) <;> rfl)))
      refine ow_nil ?_
      refine wc_ret ?_
      obtain ⟨w, hT, H⟩ := H.takes Try.prog
      refine ⟨.inr rfl, w, hT, _, .tmp (.tmp .nil), ?_⟩
      exact ⟨none, 0, rfl, Nat.le_refl _, SlH.nil _ _, H.none⟩
    · rw [if_pos (Decidable.not_not.1 h)] at hun
      rw [hun]
      refine wc_skip ?_
      refine wc_seq ?_
      refine wc_region ?_
      (apply ow_move; (· rfl); (· ((conv => lhs; whnf) <;> rfl)))
      (apply ow_move; (· rfl); (· ((conv => lhs; whnf) <;> rfl)))
      refine ow_sliceHi rfl (tyAt rfl) rfl (tyAt rfl) rfl rfl (by omega) (by omega) ?_
      (apply ow_assign; (· rfl); (· ((conv => lhs; whnf) <;> rfl)))
      (apply ow_assign; (· rfl); (· ((conv => lhs; whnf) <;> rfl)))
      refine ow_nil ?_
      refine wc_ret ?_
      obtain ⟨w, hT, H⟩ := H.takes Try.prog
      refine ⟨.inr rfl, w, hT, _, .tmp (.tmp .nil), ?_⟩
      exact ⟨subP q cap 0 1, cap, by dsimp only; rw [htl]; rfl, by dsimp only; omega, hsq, H.none⟩
theorem unseal_spec (q : Option Addr) (len cap : Nat) (bs : List Nat) (hl : len = bs.length) (hm : bs.length ≤ 100000) (hcap : bs.length ≤ cap) (hb : ∀ c ∈ bs, c < 256) (w0 : World) (hq : SlH (hp w0) q (nats .u8 bs)) :
    CallsV Try.prog 50 #[.slice q len cap] w0 fun v w => ∃ p c, v = .tuple #[.slice p (unsealN bs).1.length c, .int .i64 (unsealN bs).2] ∧ St Pu w0 w [.app p (unsealN bs).1.length c 5 1 (nats .u8 (unsealN bs).1)] [] := by
  subst hl
  refine callsV_of Try.func50 rfl rfl ?_
  have H := St.init w0
  refine wc_seq ?_
  refine wc_region ?_
  (apply ow_assign; (· rfl); (· ((conv => lhs; whnf) <;> rfl)))
  (apply ow_assign; (· rfl); (· ((conv => lhs; whnf) <;> rfl)))
  refine ow_nil ?_
  refine wc_seq ?_
  refine wc_seq ?_
  refine wc_region ?_
  (apply ow_move; (· rfl); (· ((conv => lhs; whnf) <;> rfl)))
  refine ow_len rfl rfl (tyAt rfl) rfl ?_
  refine ow_lss rfl rfl rfl ?_
  refine ow_nil ?_
  refine wc_cond_dec rfl (fun h => ?_) (fun h => ?_) <;> try dsimp only at h
  · refine wc_seq ?_
    refine wc_region ?_
    (apply ow_assign; (· rfl); (· ((conv => lhs; whnf) <;> rfl)))
    (apply ow_assign; (· rfl); (· ((conv => lhs; whnf) <;> rfl)))
    refine ow_nil ?_
    refine wc_ret ?_
    obtain ⟨w, hT, H⟩ := H.takes Try.prog
    refine ⟨.inr rfl, w, hT, _, .tmp (.tmp .nil), ?_⟩
    rw [show unsealN bs = ([], 20) by unfold unsealN; rw [if_pos (by omega)]]
    exact ⟨none, 0, rfl, H.nilApp 5 1⟩
  · obtain ⟨n, hn⟩ : ∃ n, bs.length = n + 4 := ⟨bs.length - 4, by omega⟩
    have hun : unsealN bs = if leV (bs.drop n) ≠ sumN usual 0 (bs.take n) then ([], 44) else (bs.take n, 0) := by
      unfold unsealN
      rw [if_neg (by omega), show bs.length - 4 = n by omega]
    have htl : (bs.take n).length = n := by simp; omega
    have hdl : (bs.drop n).length = 4 := by simp; omega
    have hbt : ∀ c ∈ bs.take n, c < 256 := fun c hc => hb c (List.mem_of_mem_take hc)
    have hbd : ∀ c ∈ bs.drop n, c < 256 := fun c hc => hb c (List.mem_of_mem_drop hc)
    have hsq := hq.hi1 (cap := cap) (by simpa using hcap) n
    have hsd := hq.lo1 (cap := cap) (by simpa using hcap) n
    rw [nats_take] at hsq
    rw [nats_drop] at hsd
    have en : ((bs.length : Int) - 4) = (n : Int) := by omega
    have hfx : rFixed (bs.drop n) (0, 0, 0) = ((4, 0, 0), leV (bs.drop n)) := by
      unfold rFixed rTake
      rw [if_neg (by simp), if_neg (by rw [hdl]; decide), List.drop_zero, List.take_of_length_le (by omega)]
    refine wc_skip ?_
    refine wc_seq ?_
    refine wc_region ?_
    (apply ow_move; (· rfl); (· ((conv => lhs; whnf) <;> rfl)))
    refine ow_len rfl rfl (tyAt rfl) rfl ?_
    refine ow_sub rfl rfl rfl (by simp only [InK]; omega) ?_
    (apply ow_assign; (· rfl); (· ((conv => lhs; whnf) <;> rfl)))
    refine ow_nil ?_
    refine wc_seq ?_
    refine wc_seq ?_
    rw [en]
    refine wc_drawK (fun w => St Pu w0 w [] []) 99 (by kernel_rfl) (by kernel_rfl) (by intro c e D w h; first | exact h.elim | (rcases h with ⟨h | h, _⟩ <;> cases h)) ?_
    replace H := H.drew
    apply ak_take (i := 0) rfl rfl rfl rfl (by kernel_rfl) (by with_reducible first | exact H | rfl)
    · intro w Q' HS hq; replace H := HS; clear HS; (apply ow_move; (· rfl); (· ((conv => lhs; whnf) <;> rfl))); exact ow_nil hq
    apply ak_take (i := 1) rfl rfl rfl rfl (by kernel_rfl) (by with_reducible first | exact H | rfl)
    · intro w Q' HS hq; replace H := HS; clear HS; (apply ow_move; (· rfl); (· ((conv => lhs; whnf) <;> rfl))); exact ow_nil hq
    apply ak_take (i := 2) rfl rfl rfl rfl (by kernel_rfl) (by with_reducible first | exact H | rfl)
    · intro w Q' HS hq; replace H := HS; clear HS; refine ow_sliceLo rfl (tyAt rfl) rfl (tyAt rfl) rfl rfl (by omega) (by omega) ?_; exact ow_nil hq
    apply ak_take (i := 6) rfl rfl rfl rfl (by kernel_rfl) (by with_reducible first | exact H | rfl)
    · intro w Q' HS hq; replace H := HS; clear HS; (apply ow_move; (· rfl); (· ((conv => lhs; whnf) <;> rfl))); exact ow_nil hq
    apply ak_take (i := 7) rfl rfl rfl rfl (by kernel_rfl) (by with_reducible first | exact H | rfl)
    · intro w Q' HS hq; replace H := HS; clear HS; (apply ow_move; (· rfl); (· ((conv => lhs; whnf) <;> rfl))); exact ow_nil hq
    apply ak_take (i := 8) rfl rfl rfl rfl (by kernel_rfl) (by with_reducible first | exact H | rfl)
    · intro w Q' HS hq; replace H := HS; clear HS; refine ow_sliceHi rfl (tyAt rfl) rfl (tyAt rfl) rfl rfl (by omega) (by omega) ?_; exact ow_nil hq
    apply ak_one (i := 3)
    · kernel_rfl
    · rfl
    · rfl
    refine ow_call rfl rfl (ent (by kernel_rfl)) (CallsV.mono (ropen_spec (subP q cap n 1) _ _ _) ?_) rfl
    rintro v w ⟨b, rfl, H'⟩
    replace H := H.call H'
    simp only [List.cons_append, List.nil_append] at H
    clear H'
    refine ow_nil ⟨fun _ => H.none, ?_⟩
    apply ak_one (i := 4)
    · kernel_rfl
    · rfl
    · rfl
    have H0 := St.begin (C := rdC b (subP q cap n 1) (bs.length - n) (cap - n) (0, 0, 0)) (L := []) H
    have hsd' := St.old (C := rdC b (subP q cap n 1) (bs.length - n) (cap - n) (0, 0, 0)) (L := []) H hsd
    refine ow_call rfl rfl (ent (by kernel_rfl)) (CallsV.mono (rfixed_spec b (subP q cap n 1) (bs.length - n) (cap - n) (0, 0, 0) (bs.drop n) (by rw [hdl]; omega) (by omega) hbd (by rw [hdl]; omega) ⟨Nat.zero_le _, Nat.zero_le _, Nat.zero_le _⟩ _ H0 hsd') ?_) rfl
    rintro v w ⟨rfl, H'⟩
    replace H := St.callC (C := rdC b (subP q cap n 1) (bs.length - n) (cap - n) (0, 0, 0)) (L := []) H (fun _ h => h) H'
    clear H'
    rw [hfx]
    dsimp only
    refine ow_nil ⟨fun _ => H.none, ?_⟩
    apply ak_one (i := 5)
    · kernel_rfl
    · rfl
    · rfl
    refine ow_call rfl rfl (ent (by kernel_rfl)) (CallsV.mono (make_spec 3988292384 (by decide) _) ?_) rfl
    rintro v w ⟨b2, rfl, H'⟩
    replace H := H.call H'
    simp only [List.cons_append, List.nil_append] at H
    clear H'
    refine ow_nil ⟨fun _ => H.none, ?_⟩
    apply ak_one (i := 9)
    · kernel_rfl
    · rfl
    · rfl
    refine ow_call rfl rfl (ent (by kernel_rfl)) (CallsV.mono (sum_spec' 3988292384 (by decide) b2 (subP q cap 0 1) _ cap (bs.take n) (by rw [htl]; rfl) hbt (by omega) _ (H.rowSl (i := 0) rfl) (H.oldSl hsq)) ?_) rfl
    rintro v w' ⟨rfl, rfl⟩
    refine ow_nil ⟨fun _ => H.none, ?_⟩
    replace H := H.none
    apply ak_take (i := 10) rfl rfl rfl rfl (by kernel_rfl) (by with_reducible first | exact H | rfl)
    · intro w Q' HS hq; replace H := HS; clear HS; refine ow_neq rfl rfl rfl ?_; exact ow_nil hq
    refine ak_done (by kernel_rfl) ?_
    skip
    refine wc_cond_dec rfl (fun h => ?_) (fun h => ?_) <;> try dsimp only at h
    · rw [if_pos (by intro h2; exact h (by rw [h2]; rfl))] at hun
      rw [hun]
      refine wc_seq ?_
      refine wc_region ?_
      (apply ow_assign; (· rfl); (· ((conv => lhs; whnf) <;> rfl)))
      (apply ow_assign; (· rfl); (· ((conv => lhs; whnf) <;> rfl)))
      refine ow_nil ?_
      refine wc_ret ?_
      obtain ⟨w, hT, H⟩ := H.takes Try.prog
      refine ⟨.inr rfl, w, hT, _, .tmp (.tmp .nil), ?_⟩
      exact ⟨none, 0, rfl, H.nilApp 5 1⟩
    · have h' : leV (bs.drop n) = sumN usual 0 (bs.take n) := by
        have h2 := Decidable.not_not.1 h
        exact Int.ofNat_inj.1 h2
      rw [if_neg (by rw [h']; simp)] at hun
      rw [hun]
      refine wc_skip ?_
      refine wc_seq ?_
      refine wc_region ?_
      (apply ow_move; (· rfl); (· ((conv => lhs; whnf) <;> rfl)))
      (apply ow_move; (· rfl); (· ((conv => lhs; whnf) <;> rfl)))
      refine ow_sliceHi rfl (tyAt rfl) rfl (tyAt rfl) rfl rfl (by omega) (by omega) ?_
      refine ow_call rfl rfl (ent (by kernel_rfl)) (CallsV.mono (clone_spec (subP q cap 0 1) _ cap (bs.take n) (by rw [htl]; rfl) (by omega) _ (H.oldSl hsq)) ?_) rfl
      rintro v w ⟨p3, c3, rfl, H'⟩
      replace H := H.call H'
      simp only [List.cons_append, List.nil_append] at H
      clear H'
      (apply ow_assign; (· rfl); (· ((conv => lhs; whnf) <;> rfl)))
      (apply ow_assign; (· rfl); (· ((conv => lhs; whnf) <;> rfl)))
      refine ow_nil ?_
      refine wc_ret ?_
      obtain ⟨w, hT, H⟩ := H.takes Try.prog
      refine ⟨.inr rfl, w, hT, _, .tmp (.tmp .nil), ?_⟩
      exact ⟨p3, c3, rfl, H⟩
end Go.Proofs.Ytphmjdbdhhbdoaa
