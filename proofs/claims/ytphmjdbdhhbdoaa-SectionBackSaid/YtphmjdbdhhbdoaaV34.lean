/- Reading fields as they were written, and out of fewer bytes: plain laws. -/
import Derived.Test.YtphmjdbdhhbdoaaV33
import Derived.Test.YtphmjdbdhhbdoaaV13
import Derived.Test.YtphmjdbdhhbdoaaK9
namespace Go.Proofs.Ytphmjdbdhhbdoaa
set_option linter.all false
open Go Go.Sx Go.Proofs
set_option maxRecDepth 100000
def andN (z : Int) : Nat := (bw .and .i64 z 65535).toNat
theorem andN_eq (z : Int) : bw .and .i64 z 65535 = (andN z : Int) ∧ andN z ≤ 65535 := by
  obtain ⟨j, hj, h⟩ := and_mask z (m := 65535) (by decide)
  unfold andN
  rw [show bw .and .i64 z 65535 = (j : Int) from h]
  exact ⟨by simp, by simpa using hj⟩
def opW (o : Op3) : List Nat :=
  if o.1 = 0 then leB 4 (u32N o.2.1) else if o.1 = 1 then putN (andN o.2.1) else if o.1 = 2 then putN (foldN o.2.1) else putN o.2.2.length ++ o.2.2
def opsW (ops : List Op3) : List Nat := ops.flatMap opW
def stepR (bs : List Nat) (r : Rd) (o : Op3) : Rd × Bool :=
  if o.1 = 0 then ((rFixed bs r).1, decide ((rFixed bs r).2 = u32N o.2.1)) else if o.1 = 1 then ((rLength bs r 65535).1, decide ((rLength bs r 65535).2 = andN o.2.1))
  else if o.1 = 2 then ((rNumber bs r).1, decide (unfoldZ (rNumber bs r).2 = o.2.1)) else ((rText bs r 60).1, decide ((rText bs r 60).2 = o.2.2))
def readR (bs : List Nat) : Rd → List Op3 → Rd × Bool
  | r, [] => (r, true)
  | r, o :: ops => if (stepR bs r o).2 = false ∨ (stepR bs r o).1.2.1 ≠ 0 then ((stepR bs r o).1, false) else readR bs (stepR bs r o).1 ops
theorem opW_lt {o : Op3} (h : op3W o) : ∀ c ∈ opW o, c < 256 := by
  unfold opW
  intro c hc
  split at hc
  · exact leB_lt _ _ c hc
  · split at hc
    · exact putN_byte _ c hc
    · split at hc
      · exact putN_byte _ c hc
      · exact (List.mem_append.1 hc).elim (putN_byte _ c) (h.2.2.1 c)
theorem opW_len {o : Op3} (h : op3W o) (h60 : o.2.2.length ≤ 60) : (opW o).length ≤ 80 := by
  unfold opW
  split
  · rw [leB_len]; decide
  · split
    · have := putN_len10 (n := andN o.2.1) (by have := (andN_eq o.2.1).2; omega); omega
    · split
      · have := putN_len10 (foldN_lt h.2.1.1 h.2.1.2); omega
      · have := putN_len10 (n := o.2.2.length) (by omega); rw [List.length_append]; omega
theorem opW_pos (o : Op3) : 1 ≤ (opW o).length := by
  unfold opW
  split
  · rw [leB_len]; decide
  · split
    · exact putN_pos _
    · split
      · exact putN_pos _
      · have := putN_pos o.2.2.length; rw [List.length_append]; omega
theorem opsW_lt {ops : List Op3} (h : ∀ o ∈ ops, op3W o) : ∀ c ∈ opsW ops, c < 256 := by
  intro c hc
  obtain ⟨o, ho, h1⟩ := List.mem_flatMap.1 hc
  exact opW_lt (h o ho) c h1
theorem opsW_len : ∀ {ops : List Op3}, (∀ o ∈ ops, op3W o) → (∀ o ∈ ops, o.2.2.length ≤ 60) → (opsW ops).length ≤ 80 * ops.length
  | [], _, _ => Nat.le_refl _
  | o :: ops, h, h60 => by
    have h1 := opW_len (h o List.mem_cons_self) (h60 o List.mem_cons_self)
    have h2 := opsW_len (fun x hx => h x (List.mem_cons_of_mem _ hx)) (fun x hx => h60 x (List.mem_cons_of_mem _ hx))
    unfold opsW at *
    rw [List.flatMap_cons, List.length_append, List.length_cons]; omega
theorem opsW_snoc (ops : List Op3) (o : Op3) : opsW (ops ++ [o]) = opsW ops ++ opW o := by simp [opsW]
/-! ### what a field's reading does where its bytes stand -/
theorem rTake_at {bs : List Nat} {at_ wh n f : Nat} {s rest : List Nat} (hd : bs.drop at_ = s ++ rest) (hn : s.length = n) (hat : at_ ≤ bs.length) : rTake bs (at_, 0, wh) n f = ((at_ + n, 0, wh), s) := by
  have hl := congrArg List.length hd
  simp only [List.length_drop, List.length_append] at hl
  unfold rTake
  rw [if_neg (by simp), if_neg (by dsimp only; omega), hd, ← hn, List.take_left]
theorem rNumber_at {bs : List Nat} {at_ wh x : Nat} {rest : List Nat} (hx : x < 18446744073709551616) (hd : bs.drop at_ = putN x ++ rest) : rNumber bs (at_, 0, wh) = ((at_ + (putN x).length, 0, wh), x) := by
  unfold rNumber
  dsimp only
  rw [if_neg (by simp), hd, getN_putN hx rest, if_neg (by simp)]
theorem stepR_at {bs : List Nat} {at_ wh : Nat} {o : Op3} {rest : List Nat} (h : op3W o) (h60 : o.2.2.length ≤ 60) (hat : at_ ≤ bs.length) (hd : bs.drop at_ = opW o ++ rest) : stepR bs (at_, 0, wh) o = ((at_ + (opW o).length, 0, wh), true) := by
  unfold stepR
  unfold opW at hd ⊢
  split
  · rename_i h0
    rw [if_pos h0] at hd
    have := rTake_at (n := 4) (f := at_) (wh := wh) hd (leB_len 4 _) hat
    unfold rFixed
    dsimp only
    rw [this, leB_len, leV_leB 4 _ (by have := u32N_lt o.2.1; omega)]
    simp
  · rename_i h0
    rw [if_neg h0] at hd
    split
    · rename_i h1
      rw [if_pos h1] at hd
      have ha := (andN_eq o.2.1).2
      have := rNumber_at (wh := wh) (x := andN o.2.1) (by omega) hd
      unfold rLength
      rw [this, if_neg (by dsimp only; omega)]
      simp
    · rename_i h1
      rw [if_neg h1] at hd
      split
      · rename_i h2
        rw [if_pos h2] at hd
        have := rNumber_at (wh := wh) (foldN_lt h.2.1.1 h.2.1.2) hd
        rw [this, unfold_fold]
        simp
      · rename_i h2
        rw [if_neg h2, List.append_assoc] at hd
        have hn := rNumber_at (wh := wh) (x := o.2.2.length) (by omega) hd
        have hll : rLength bs (at_, 0, wh) 60 = ((at_ + (putN o.2.2.length).length, 0, wh), o.2.2.length) := by
          unfold rLength
          rw [hn, if_neg (by dsimp only; omega)]
        have hd2 : bs.drop (at_ + (putN o.2.2.length).length) = o.2.2 ++ rest := by rw [← List.drop_drop, hd, List.drop_left]
        have hl := congrArg List.length hd
        simp only [List.length_drop, List.length_append] at hl
        have ht := rTake_at (n := o.2.2.length) (f := at_) (wh := wh) hd2 rfl (by have := putN_pos o.2.2.length; omega)
        unfold rText
        rw [hll]
        dsimp only
        rw [ht, List.length_append]
        simp [Nat.add_assoc]
theorem readR_full {bs : List Nat} : ∀ {ops : List Op3} {at_ : Nat}, (∀ o ∈ ops, op3W o) → (∀ o ∈ ops, o.2.2.length ≤ 60) → at_ ≤ bs.length → bs.drop at_ = opsW ops → readR bs (at_, 0, 0) ops = ((bs.length, 0, 0), true)
  | [], at_, _, _, hat, hd => by
    have := congrArg List.length hd
    simp only [List.length_drop, opsW, List.flatMap_nil, List.length_nil] at this
    rw [readR, show at_ = bs.length by omega]
  | o :: ops, at_, hw, h60, hat, hd => by
    have e : opsW (o :: ops) = opW o ++ opsW ops := by simp [opsW]
    rw [e] at hd
    have hs := stepR_at (wh := 0) (hw o List.mem_cons_self) (h60 o List.mem_cons_self) hat hd
    have hl := congrArg List.length hd
    simp only [List.length_drop, List.length_append] at hl
    rw [readR, hs, if_neg (by simp)]
    exact readR_full (fun x hx => hw x (List.mem_cons_of_mem _ hx)) (fun x hx => h60 x (List.mem_cons_of_mem _ hx)) (by omega) (by rw [← List.drop_drop, hd, List.drop_left])
/-! ### fewer bytes -/
theorem getR_cut (x : Nat) : ∀ (k i acc : Nat), i ≤ 9 → x * 128 ^ i < 18446744073709551616 → k < (putN x).length → (getR i acc ((putN x).take k)).2.2 = 20 := by
  induction x using Nat.strongRecOn with
  | ind x ih =>
    intro k i acc hi hx hk
    cases k with
    | zero => rw [List.take_zero, getR]
    | succ k =>
      by_cases h : x < 128
      · rw [putN_lt h] at hk; simp at hk
      · rw [putN_ge (by omega)] at hk ⊢
        have h9 : (128 : Nat) ^ 9 = 9223372036854775808 := by decide
        have hlt : i < 9 := by
          rcases Nat.lt_or_ge i 9 with h1 | h1
          · exact h1
          · have : i = 9 := by omega
            subst this; rw [h9] at hx; omega
        have hm : x / 128 * 128 ^ (i + 1) ≤ x * 128 ^ i := by
          rw [Nat.pow_succ, Nat.mul_comm (128 ^ i) 128, ← Nat.mul_assoc]
          exact Nat.mul_le_mul_right _ (Nat.div_mul_le_self x 128)
        rw [List.take_succ_cons, getR, if_neg (by omega), if_pos (by omega)]
        exact ih (x / 128) (by omega) k (i + 1) _ (by omega) (by omega) (by simpa using hk)
theorem rNumber_cut {bs : List Nat} {at_ x : Nat} {k : Nat} (hx : x < 18446744073709551616) (hd : bs.drop at_ = (putN x).take k) (hk : k < (putN x).length) : rNumber bs (at_, 0, 0) = ((at_, 20, at_), 0) := by
  have := getR_cut x k 0 0 (by decide) (by simpa using hx) hk
  unfold rNumber
  dsimp only
  rw [if_neg (by simp), hd]
  unfold getN
  rw [this, if_pos (by decide)]
  simp [rFail]
theorem rTake_cut {bs : List Nat} {at_ n f : Nat} (h : bs.length - at_ < n) : rTake bs (at_, 0, 0) n f = ((f, 20, f), []) := by
  unfold rTake
  rw [if_neg (by simp), if_pos (by dsimp only; omega)]; simp [rFail]
theorem stepR_cut {bs : List Nat} {at_ k : Nat} {o : Op3} (h : op3W o) (h60 : o.2.2.length ≤ 60) (hat : at_ ≤ bs.length) (hd : bs.drop at_ = (opW o).take k) (hk : k < (opW o).length) : (stepR bs (at_, 0, 0) o).1.2.1 = 20 := by
  have hl := congrArg List.length hd
  rw [List.length_drop, List.length_take, Nat.min_eq_left (by omega)] at hl
  unfold stepR
  unfold opW at hd hk
  split
  · rename_i h0
    rw [if_pos h0, leB_len] at hk
    unfold rFixed
    dsimp only
    rw [rTake_cut (by omega)]
  · rename_i h0
    rw [if_neg h0] at hd hk
    split
    · rename_i h1
      rw [if_pos h1] at hd hk
      have ha := (andN_eq o.2.1).2
      unfold rLength
      rw [rNumber_cut (by omega) hd hk, if_neg (by dsimp only; omega)]
    · rename_i h1
      rw [if_neg h1] at hd hk
      split
      · rename_i h2
        rw [if_pos h2] at hd hk
        rw [rNumber_cut (foldN_lt h.2.1.1 h.2.1.2) hd hk]
      · rename_i h2
        rw [if_neg h2] at hd hk
        rw [List.length_append] at hk
        by_cases hc : k < (putN o.2.2.length).length
        · rw [List.take_append_of_le_length (by omega)] at hd
          have := rNumber_cut (by omega) hd hc
          unfold rText rLength
          rw [this, if_neg (by dsimp only; omega)]
          dsimp only
          unfold rTake
          rw [if_pos (show (20 : Nat) ≠ 0 by decide)]
        · have hd2 : bs.drop at_ = putN o.2.2.length ++ o.2.2.take (k - (putN o.2.2.length).length) := by rw [hd, List.take_append, List.take_of_length_le (by omega)]
          have hn := rNumber_at (wh := 0) (x := o.2.2.length) (by omega) hd2
          have hll : rLength bs (at_, 0, 0) 60 = ((at_ + (putN o.2.2.length).length, 0, 0), o.2.2.length) := by
            unfold rLength
            rw [hn, if_neg (by dsimp only; omega)]
          unfold rText
          rw [hll]
          dsimp only
          rw [rTake_cut (by omega)]
theorem readR_cut {bs : List Nat} : ∀ {ops : List Op3} {at_ k : Nat}, (∀ o ∈ ops, op3W o) → (∀ o ∈ ops, o.2.2.length ≤ 60) → at_ ≤ bs.length → bs.drop at_ = (opsW ops).take k → k < (opsW ops).length → (readR bs (at_, 0, 0) ops).2 = false ∧ (readR bs (at_, 0, 0) ops).1.2.1 = 20
  | [], at_, k, _, _, _, _, hk => by simp [opsW] at hk
  | o :: ops, at_, k, hw, h60, hat, hd, hk => by
    have e : opsW (o :: ops) = opW o ++ opsW ops := by simp [opsW]
    rw [e] at hd hk
    rw [List.length_append] at hk
    by_cases hc : k < (opW o).length
    · rw [List.take_append_of_le_length (by omega)] at hd
      have hs := stepR_cut (hw o List.mem_cons_self) (h60 o List.mem_cons_self) hat hd hc
      rw [readR, if_pos (.inr (by rw [hs]; decide))]
      exact ⟨rfl, hs⟩
    · have hd2 : bs.drop at_ = opW o ++ (opsW ops).take (k - (opW o).length) := by rw [hd, List.take_append, List.take_of_length_le (by omega)]
      have hs := stepR_at (wh := 0) (hw o List.mem_cons_self) (h60 o List.mem_cons_self) hat hd2
      have hl := congrArg List.length hd2
      simp only [List.length_drop, List.length_append] at hl
      rw [readR, hs, if_neg (by simp)]
      exact readR_cut (k := k - (opW o).length) (fun x hx => hw x (List.mem_cons_of_mem _ hx)) (fun x hx => h60 x (List.mem_cons_of_mem _ hx)) (by omega) (by rw [← List.drop_drop, hd2, List.drop_left]) (by omega)
theorem stepR_ok {bs : List Nat} {r : Rd} {o : Op3} (hb : ∀ c ∈ bs, c < 256) (h : rOk bs r) : rOk bs (stepR bs r o).1 := by
  unfold stepR
  split
  · exact rTake_ok h h.1
  · split
    · exact rLength_ok hb h
    · split
      · exact rNumber_ok hb h
      · exact rTake_ok (rLength_ok hb h) h.1
end Go.Proofs.Ytphmjdbdhhbdoaa
