/- Pool: plain laws of what is written and read. -/
import Derived.Test.YtnkjhmfliinnoaaP3
namespace Go.Proofs.Ytnkjhmfliinnoaa
set_option linter.all false
open Go Go.Sx Go.Proofs
set_option maxRecDepth 100000
set_option maxHeartbeats 2000000
theorem putN_byte (x : Nat) : ∀ c ∈ putN x, c < 256 := by
  induction x using Nat.strongRecOn with
  | ind x ih =>
    by_cases h : x < 128
    · rw [putN_lt h]; intro c hc; rw [List.mem_singleton.1 hc]; omega
    · rw [putN_ge (by omega)]; intro c hc
      rcases List.mem_cons.1 hc with rfl | hc
      · omega
      · exact ih (x / 128) (by omega) c hc
theorem putN_pos (x : Nat) : 1 ≤ (putN x).length := by rw [putN]; split <;> simp
theorem getR_putN (r : List Nat) : ∀ (x i acc : Nat), i ≤ 9 → x * 128 ^ i < 18446744073709551616 → (i = 0 ∨ x ≠ 0) → getR i acc (putN x ++ r) = (acc + x * 128 ^ i, i + (putN x).length, 0) := by
  intro x
  induction x using Nat.strongRecOn with
  | ind x ih =>
    intro i acc hi hx h0
    have h9 : (128 : Nat) ^ 9 = 9223372036854775808 := by decide
    by_cases h : x < 128
    · rw [putN_lt h, List.cons_append, getR, if_neg, if_neg (by omega), if_neg (by omega)]
      · rfl
      · rintro ⟨rfl, h1⟩
        rw [h9] at hx; omega
    · rw [putN_ge (by omega), List.cons_append, getR, if_neg, if_pos (by omega)]
      · have hlt : i < 9 := by
          rcases Nat.lt_or_ge i 9 with h1 | h1
          · exact h1
          · have : i = 9 := by omega
            subst this; rw [h9] at hx; omega
        have hm : x / 128 * 128 ^ (i + 1) ≤ x * 128 ^ i := by
          rw [Nat.pow_succ, Nat.mul_comm (128 ^ i) 128, ← Nat.mul_assoc]
          exact Nat.mul_le_mul_right _ (Nat.div_mul_le_self x 128)
        rw [ih (x / 128) (by omega) (i + 1) _ (by omega) (by omega) (by omega)]
        have h2 : (x % 128 + 128) % 128 = x % 128 := by omega
        rw [h2, List.length_cons]
        have h3 : x % 128 * 128 ^ i + x / 128 * 128 ^ (i + 1) = x * 128 ^ i := by
          rw [Nat.pow_succ, Nat.mul_comm (128 ^ i) 128, ← Nat.mul_assoc, ← Nat.add_mul, Nat.mul_comm (x / 128) 128, Nat.mod_add_div]
        exact Prod.ext (by dsimp only; omega) (Prod.ext (by dsimp only; omega) rfl)
      · rintro ⟨rfl, h1⟩
        rw [h9] at hx; omega
theorem getN_putN {x : Nat} (hx : x < 18446744073709551616) (r : List Nat) : getN (putN x ++ r) = (x, (putN x).length, 0) := by
  have := getR_putN r x 0 0 (by decide) (by simpa using hx) (.inl rfl)
  unfold getN
  simpa using this
theorem rTake_at {bs : List Nat} {at_ wh n f : Nat} {s rest : List Nat} (hd : bs.drop at_ = s ++ rest) (hn : s.length = n) (hat : at_ ≤ bs.length) : rTake bs (at_, 0, wh) n f = ((at_ + n, 0, wh), s) := by
  have hl := congrArg List.length hd
  simp only [List.length_drop, List.length_append] at hl
  unfold rTake
  rw [if_neg (by simp), if_neg (by dsimp only; omega), hd, ← hn, List.take_left]
theorem rNumber_at {bs : List Nat} {at_ wh x : Nat} {rest : List Nat} (hx : x < 18446744073709551616) (hd : bs.drop at_ = putN x ++ rest) : rNumber bs (at_, 0, wh) = ((at_ + (putN x).length, 0, wh), x) := by
  unfold rNumber
  dsimp only
  rw [if_neg (by simp), hd, getN_putN hx rest, if_neg (by simp)]
theorem getR_cut (x : Nat) : ∀ (k i acc : Nat), i ≤ 9 → x * 128 ^ i < 18446744073709551616 → k < (putN x).length → (getR i acc ((putN x).take k)).2.2 = 20 := by
  induction x using Nat.strongRecOn with
  | ind x ih =>
    intro k i acc hi hx hk
    cases k with
    | zero => rw [List.take_zero, getR]
    | succ k =>
      by_cases h : x < 128
      · rw [putN_lt h] at hk; simp at hk
      · rw [putN_ge (by omega)] at hk ⊢
        have h9 : (128 : Nat) ^ 9 = 9223372036854775808 := by decide
        have hlt : i < 9 := by
          rcases Nat.lt_or_ge i 9 with h1 | h1
          · exact h1
          · have : i = 9 := by omega
            subst this; rw [h9] at hx; omega
        have hm : x / 128 * 128 ^ (i + 1) ≤ x * 128 ^ i := by
          rw [Nat.pow_succ, Nat.mul_comm (128 ^ i) 128, ← Nat.mul_assoc]
          exact Nat.mul_le_mul_right _ (Nat.div_mul_le_self x 128)
        rw [List.take_succ_cons, getR, if_neg (by omega), if_pos (by omega)]
        exact ih (x / 128) (by omega) k (i + 1) _ (by omega) (by omega) (by simpa using hk)
theorem rNumber_cut {bs : List Nat} {at_ x : Nat} {k : Nat} (hx : x < 18446744073709551616) (hd : bs.drop at_ = (putN x).take k) (hk : k < (putN x).length) : rNumber bs (at_, 0, 0) = ((at_, 20, at_), 0) := by
  have := getR_cut x k 0 0 (by decide) (by simpa using hx) hk
  unfold rNumber
  dsimp only
  rw [if_neg (by simp), hd]
  unfold getN
  rw [this, if_pos (by decide)]
  simp [rFail]
theorem rTake_cut {bs : List Nat} {at_ n f : Nat} (h : bs.length - at_ < n) : rTake bs (at_, 0, 0) n f = ((f, 20, f), []) := by
  unfold rTake
  rw [if_neg (by simp), if_pos (by dsimp only; omega)]; simp [rFail]
theorem rText_at {bs : List Nat} {at_ : Nat} {cs rest : List Nat} (hc : cs.length ≤ 64) (hat : at_ ≤ bs.length) (hd : bs.drop at_ = (putN cs.length ++ cs) ++ rest) : rText bs (at_, 0, 0) 64 = ((at_ + (putN cs.length ++ cs).length, 0, 0), cs) := by
  rw [List.append_assoc] at hd
  have hn := rNumber_at (wh := 0) (x := cs.length) (by omega) hd
  have hll : rLength bs (at_, 0, 0) 64 = ((at_ + (putN cs.length).length, 0, 0), cs.length) := by
    unfold rLength
    rw [hn, if_neg (by dsimp only; omega)]
  have hd2 : bs.drop (at_ + (putN cs.length).length) = cs ++ rest := by rw [← List.drop_drop, hd, List.drop_left]
  have hl := congrArg List.length hd
  simp only [List.length_drop, List.length_append] at hl
  have ht := rTake_at (n := cs.length) (f := at_) (wh := 0) hd2 rfl (by have := putN_pos cs.length; omega)
  unfold rText
  rw [hll]
  dsimp only
  rw [ht, List.length_append, Nat.add_assoc]
theorem rText_cut {bs : List Nat} {at_ k : Nat} {cs : List Nat} (hc : cs.length ≤ 64) (hat : at_ ≤ bs.length) (hd : bs.drop at_ = (putN cs.length ++ cs).take k) (hk : k < (putN cs.length ++ cs).length) : (rText bs (at_, 0, 0) 64).1.2.1 = 20 := by
  have hl := congrArg List.length hd
  rw [List.length_drop, List.length_take, Nat.min_eq_left (by omega)] at hl
  rw [List.length_append] at hk
  by_cases h : k < (putN cs.length).length
  · rw [List.take_append_of_le_length (by omega)] at hd
    have hn := rNumber_cut (by omega) hd h
    have hll : rLength bs (at_, 0, 0) 64 = ((at_, 20, at_), 0) := by
      unfold rLength
      rw [hn, if_neg (by dsimp only; omega)]
    unfold rText
    rw [hll]
    unfold rTake
    rw [if_pos (by simp)]
  · have hd' : bs.drop at_ = putN cs.length ++ cs.take (k - (putN cs.length).length) := by
      rw [hd, List.take_append, List.take_of_length_le (by omega)]
    have hn := rNumber_at (wh := 0) (x := cs.length) (by omega) hd'
    have hll : rLength bs (at_, 0, 0) 64 = ((at_ + (putN cs.length).length, 0, 0), cs.length) := by
      unfold rLength
      rw [hn, if_neg (by dsimp only; omega)]
    unfold rText
    rw [hll]
    dsimp only
    rw [rTake_cut (by omega)]
theorem put_last {es : PE} {k : ByteArray} (h : ∀ e ∈ es, ltS e.1 k = true) : putE ltS es k true = es ++ [(k, true)] := by
  unfold putE
  rw [List.filter_eq_self.2 h, List.filter_eq_nil_iff.2 fun e he => by rw [ltS_ok.asym (h e he)]; decide]
theorem tbB_at {s : ByteArray} : tbB s = putN (bsN s).length ++ bsN s := rfl
theorem rdF_back {bs more : List Nat} : ∀ (es1 es0 : PE) (at_ i : Nat) (last : ByteArray), Asc ltS (es0 ++ es1) → (∀ e ∈ es1, e.2 = true) → (∀ e ∈ es1, e.1.size ≤ 64) → (0 < i → ∀ e ∈ es1, ltS last e.1 = true) → at_ ≤ bs.length → bs.drop at_ = (ksE es1).flatMap tbB ++ more →
    rdF bs es1.length i (at_, 0, 0) es0 last = ((at_ + ((ksE es1).flatMap tbB).length, 0, 0), .inl (es0 ++ es1))
  | [], es0, at_, i, last, _, _, _, _, _, _ => by
    rw [List.length_nil, rdF, if_neg (by simp), List.append_nil]; rfl
  | e :: r, es0, at_, i, last, ha, ht, hz, hl, hat, hd => by
    have e1 : (ksE (e :: r)).flatMap tbB = tbB e.1 ++ (ksE r).flatMap tbB := rfl
    rw [e1, List.append_assoc] at hd
    have hx := rText_at (cs := bsN e.1) (by rw [bsN_len]; exact hz e List.mem_cons_self) hat hd
    have hln := congrArg List.length hd
    simp only [List.length_drop, List.length_append] at hln
    have hpa := List.pairwise_append.1 ha
    have hlt0 : ∀ y ∈ es0, ltS y.1 e.1 = true := fun y hy => hpa.2.2 y hy e List.mem_cons_self
    have he2 : e.2 = true := ht e List.mem_cons_self
    rw [List.length_cons, rdF, hx, if_neg (by simp), if_neg (by
      rw [strN_bsN]
      rintro ⟨h1, h2⟩
      rw [hl h1 e List.mem_cons_self] at h2
      cases h2), strN_bsN, put_last hlt0]
    dsimp only
    rw [rdF_back r (es0 ++ [(e.1, true)]) _ (i + 1) e.1 (by
        rw [List.append_assoc, show [(e.1, true)] ++ r = e :: r by rw [← he2]; rfl]; exact ha) (fun y hy => ht y (List.mem_cons_of_mem _ hy)) (fun y hy => hz y (List.mem_cons_of_mem _ hy)) (fun _ y hy => (List.pairwise_cons.1 hpa.2.1).1 y hy) (by rw [← tbB_at]; omega) (by
        rw [← tbB_at, ← List.drop_drop, hd, List.drop_left])]
    refine Prod.ext (Prod.ext ?_ rfl) ?_
    · show at_ + (tbB e.1).length + ((ksE r).flatMap tbB).length = at_ + ((ksE (e :: r)).flatMap tbB).length
      rw [e1, List.length_append, Nat.add_assoc]
    · show Sum.inl (es0 ++ [(e.1, true)] ++ r) = Sum.inl (es0 ++ e :: r)
      rw [List.append_assoc, show [(e.1, true)] ++ r = e :: r by rw [← he2]; rfl]
theorem poolR_back {es : PE} (ha : Asc ltS es) (ht : ∀ e ∈ es, e.2 = true) (hz : ∀ e ∈ es, e.1.size ≤ 64) {most : Int} (hm : (es.length : Int) ≤ most) (hn : es.length ≤ 1000000) (more : List Nat) : poolR (plB (ksE es) ++ more) (0, 0, 0) most = (((plB (ksE es)).length, 0, 0), .inl es) := by
  have hd : (plB (ksE es) ++ more).drop 0 = putN (ksE es).length ++ ((ksE es).flatMap tbB ++ more) := by unfold plB; rw [List.append_assoc]; rfl
  have hkl := ksE_len es
  have hnn := rNumber_at (wh := 0) (by omega) hd
  have hll : rLength (plB (ksE es) ++ more) (0, 0, 0) most = (((putN (ksE es).length).length, 0, 0), es.length) := by
    unfold rLength
    rw [hnn, if_neg (by dsimp only; omega), Nat.zero_add, hkl]
  unfold poolR
  rw [hll]
  dsimp only
  rw [rdF_back (more := more) es [] _ 0 ⟨#[]⟩ (by simpa using ha) ht hz (fun h => absurd h (Nat.lt_irrefl 0)) (by unfold plB; rw [List.length_append, List.length_append]; omega) (by unfold plB; rw [List.append_assoc, List.drop_left])]
  unfold plB
  rw [List.length_append]
  rfl
theorem rdF_cut {bs : List Nat} : ∀ (es1 es0 : PE) (at_ i k : Nat) (last : ByteArray), Asc ltS (es0 ++ es1) → (∀ e ∈ es1, e.2 = true) → (∀ e ∈ es1, e.1.size ≤ 64) → (0 < i → ∀ e ∈ es1, ltS last e.1 = true) → at_ ≤ bs.length → bs.drop at_ = ((ksE es1).flatMap tbB).take k → k < ((ksE es1).flatMap tbB).length →
    ∃ f, (rdF bs es1.length i (at_, 0, 0) es0 last).2 = .inr (20, f)
  | [], _, _, _, _, _, _, _, _, _, _, _, hk => absurd hk (Nat.not_lt_zero _)
  | e :: r, es0, at_, i, k, last, ha, ht, hz, hl, hat, hd, hk => by
    have e1 : (ksE (e :: r)).flatMap tbB = tbB e.1 ++ (ksE r).flatMap tbB := rfl
    rw [e1] at hd hk
    rw [List.length_append] at hk
    have hsz : (bsN e.1).length ≤ 64 := by rw [bsN_len]; exact hz e List.mem_cons_self
    by_cases h : k < (tbB e.1).length
    · rw [List.take_append_of_le_length (by omega)] at hd
      have hx := rText_cut hsz hat hd h
      rw [List.length_cons, rdF, if_pos (by rw [hx]; decide)]
      exact ⟨(rText bs (at_, 0, 0) 64).1.2.2, by rw [← hx]⟩
    · have hd' : bs.drop at_ = tbB e.1 ++ ((ksE r).flatMap tbB).take (k - (tbB e.1).length) := by
        rw [hd, List.take_append, List.take_of_length_le (by omega)]
      have hx := rText_at hsz hat hd'
      have hln := congrArg List.length hd'
      simp only [List.length_drop, List.length_append] at hln
      have hpa := List.pairwise_append.1 ha
      have hlt0 : ∀ y ∈ es0, ltS y.1 e.1 = true := fun y hy => hpa.2.2 y hy e List.mem_cons_self
      have he2 : e.2 = true := ht e List.mem_cons_self
      rw [List.length_cons, rdF, hx, if_neg (by simp), if_neg (by
        rw [strN_bsN]
        rintro ⟨h1, h2⟩
        rw [hl h1 e List.mem_cons_self] at h2
        cases h2), strN_bsN, put_last hlt0]
      dsimp only
      exact rdF_cut r (es0 ++ [(e.1, true)]) _ (i + 1) (k - (tbB e.1).length) e.1 (by
        rw [List.append_assoc, show [(e.1, true)] ++ r = e :: r by rw [← he2]; rfl]; exact ha) (fun y hy => ht y (List.mem_cons_of_mem _ hy)) (fun y hy => hz y (List.mem_cons_of_mem _ hy)) (fun _ y hy => (List.pairwise_cons.1 hpa.2.1).1 y hy) (by rw [← tbB_at]; omega) (by
        rw [← tbB_at, ← List.drop_drop, hd', List.drop_left]) (by omega)
theorem poolR_cut {es : PE} (ha : Asc ltS es) (ht : ∀ e ∈ es, e.2 = true) (hz : ∀ e ∈ es, e.1.size ≤ 64) {most : Int} (hm : (es.length : Int) ≤ most) (hn : es.length ≤ 1000000) {k : Nat} (hk : k < (plB (ksE es)).length) : ∃ f, (poolR ((plB (ksE es)).take k) (0, 0, 0) most).2 = .inr (20, f) := by
  have hkl := ksE_len es
  unfold poolR
  by_cases h : k < (putN (ksE es).length).length
  · have hd : ((plB (ksE es)).take k).drop 0 = (putN (ksE es).length).take k := by unfold plB; rw [List.take_append_of_le_length (by omega)]; rfl
    have hnn := rNumber_cut (by omega) hd h
    have hll : rLength ((plB (ksE es)).take k) (0, 0, 0) most = ((0, 20, 0), 0) := by
      unfold rLength
      rw [hnn, if_neg (by dsimp only; omega)]
    rw [hll]
    exact ⟨0, by rw [rdF, if_pos (by decide)]⟩
  · have hbs : (plB (ksE es)).take k = putN (ksE es).length ++ ((ksE es).flatMap tbB).take (k - (putN (ksE es).length).length) := by
      unfold plB
      rw [List.take_append, List.take_of_length_le (by omega)]
    have hk2 : k - (putN (ksE es).length).length < ((ksE es).flatMap tbB).length := by unfold plB at hk; rw [List.length_append] at hk; omega
    rw [hbs]
    generalize k - (putN (ksE es).length).length = k2 at hk2 ⊢
    have hnn := rNumber_at (bs := putN (ksE es).length ++ ((ksE es).flatMap tbB).take k2) (at_ := 0) (wh := 0) (x := (ksE es).length) (by omega) rfl
    have hll : rLength (putN (ksE es).length ++ ((ksE es).flatMap tbB).take k2) (0, 0, 0) most = (((putN (ksE es).length).length, 0, 0), es.length) := by
      unfold rLength
      rw [hnn, if_neg (by dsimp only; omega), Nat.zero_add, hkl]
    rw [hll]
    exact rdF_cut es [] _ 0 k2 ⟨#[]⟩ (by simpa using ha) ht hz (fun h => absurd h (Nat.lt_irrefl 0)) (by rw [List.length_append]; omega) (by rw [List.drop_left]) hk2
theorem poolR_long {es : PE} {most : Int} (hm : most < (es.length : Int)) (h1 : 1 ≤ es.length) (hn : es.length ≤ 1000000) : (poolR (plB (ksE es)) (0, 0, 0) most).2 = .inr (2, 0) := by
  have hkl := ksE_len es
  have hnn := rNumber_at (bs := plB (ksE es)) (at_ := 0) (wh := 0) (x := (ksE es).length) (rest := (ksE es).flatMap tbB) (by omega) rfl
  have hll : rLength (plB (ksE es)) (0, 0, 0) most = ((0, 2, 0), 0) := by
    unfold rLength
    rw [hnn, if_pos (by dsimp only; omega)]
    rfl
  unfold poolR
  rw [hll, rdF, if_pos (by decide)]
theorem tbB_byte (s : ByteArray) : ∀ c ∈ tbB s, c < 256 := fun c hc => (List.mem_append.1 hc).elim (putN_byte _ c) (bsN_lt s c)
theorem plB_byte (ks : List ByteArray) : ∀ c ∈ plB ks, c < 256 := fun c hc => (List.mem_append.1 hc).elim (putN_byte _ c) fun h => by
  obtain ⟨s, _, h⟩ := List.mem_flatMap.1 h
  exact tbB_byte s c h
theorem plB_len {ks : List ByteArray} (h : ks.length ≤ 200) (hs : ∀ s ∈ ks, s.size ≤ 1000) : 1 ≤ (plB ks).length ∧ (plB ks).length ≤ 202010 := by
  have h1 := putN_len10 (n := ks.length) (by omega)
  have h2 := putN_pos ks.length
  have h3 := flat_le hs
  unfold plB
  rw [List.length_append]
  omega
end Go.Proofs.Ytnkjhmfliinnoaa

