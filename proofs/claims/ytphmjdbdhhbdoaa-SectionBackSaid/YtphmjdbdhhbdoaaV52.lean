/- Plain laws of sections: both unpack alike. -/
import Derived.Test.YtphmjdbdhhbdoaaV51
namespace Go.Proofs.Ytphmjdbdhhbdoaa
set_option linter.all false
open Go Go.Sx Go.Proofs
theorem packN_eq {l : List Sec} {b : List Nat} (h : packN l = (b, 0)) : checkN l = 0 ∧ sealN (rawPack l) = b := by
  unfold packN at h
  split at h
  · rename_i h0; exact ⟨h0, (Prod.mk.inj h).1⟩
  · rename_i h0; exact absurd (Prod.mk.inj h).2 h0
theorem raw_take (l : List Sec) : (rawPack l).take 4 = signL := by
  unfold rawPack
  rw [List.append_assoc, List.append_assoc, show (4 : Nat) = signL.length from rfl, List.take_left]
theorem unpackA_pack {l : List Sec} (h : secsOk l) (hc : checkN l = 0) : unpackA (sealN (rawPack l)) = (l, 0) := by
  have hu := unsealN_sealN (rawPack_lt (fun s hs => (h.2.1 s hs).1) (fun s hs => (h.2.1 s hs).2))
  have hp : packN l = (sealN (rawPack l), 0) := by unfold packN; rw [if_pos hc]
  unfold unpackA
  rw [hu]
  dsimp only
  rw [raw_take, readN_raw h]
  dsimp only
  rw [if_neg (by decide), if_neg (by simp), if_neg (by unfold rEnd; simp), if_pos hp]
theorem unpackB_pack {l : List Sec} (h : secsOk l) (hc : checkN l = 0) : unpackB (sealN (rawPack l)) = (l, 0) := by
  have hu := unsealN_sealN (rawPack_lt (fun s hs => (h.2.1 s hs).1) (fun s hs => (h.2.1 s hs).2))
  have hp : packN l = (sealN (rawPack l), 0) := by unfold packN; rw [if_pos hc]
  unfold unpackB
  rw [hu]
  dsimp only
  rw [raw_take, guessN_raw h, if_neg (by decide), if_neg (by simp), if_pos hp]
theorem inner_len {b : List Nat} : (unsealN b).1.length ≤ b.length := by
  unfold unsealN; split
  · exact Nat.zero_le _
  · split
    · exact Nat.zero_le _
    · simp
theorem readN_ok {b : List Nat} (hb : ∀ c ∈ b, c < 256) (hl : b.length ≤ 40000) : secsOk (readN ((unsealN b).1.drop 4) (0, 0, 0) (unsealN b).1.length).2 := by
  have hub := unsealN_fst_lt hb
  have hil := inner_len (b := b)
  have h1 := readN_lt (bs := (unsealN b).1.drop 4) (r := (0, 0, 0)) (n := ((unsealN b).1.length : Int)) (fun c hc => hub c (List.mem_of_mem_drop hc)) ⟨Nat.zero_le _, Nat.zero_le _, Nat.zero_le _⟩
  have h2 := h1.2.2.2
  rw [List.length_drop] at h2
  exact ⟨h1.2.1, h1.2.2.1, by omega⟩
theorem gHead_ok {bs : List Nat} (hb : ∀ c ∈ bs, c < 256) : ∀ (k : Nat) (r : Rd) (acc : List (Nat × Nat)), (∀ x ∈ acc, x.1 < 256) → ∀ x ∈ (gHead bs k r acc).2, x.1 < 256
  | 0, _, _, h => h
  | k + 1, r, acc, h => by
    unfold gHead
    split
    · exact h
    · split
      · refine gHead_ok hb k _ _ ?_
        intro x hx
        rcases List.mem_append.1 hx with hx | hx
        · exact h x hx
        · rw [List.mem_singleton.1 hx]; exact getD_lt256 (rRaw_lt hb)
      · exact gHead_ok hb k _ _ h
theorem gBody_ok {bs : List Nat} (hb : ∀ c ∈ bs, c < 256) : ∀ (hs : List (Nat × Nat)) (r : Rd), (∀ x ∈ hs, x.1 < 256) → secsLt (gBody bs r hs)
  | [], _, _ => fun s h => by cases h
  | x :: xs, r, h => by
    unfold gBody
    split
    · intro s hs
      obtain ⟨y, hy, rfl⟩ := List.mem_map.1 hs
      exact ⟨h y hy, fun c hc => by cases hc⟩
    · intro s hs
      rcases List.mem_cons.1 hs with rfl | hs
      · exact ⟨h x List.mem_cons_self, rRaw_lt hb⟩
      · exact gBody_ok hb xs _ (fun y hy => h y (List.mem_cons_of_mem _ hy)) s hs
theorem guessN_ok {b : List Nat} (hb : ∀ c ∈ b, c < 256) (h4 : 4 ≤ b.length) (hl : b.length ≤ 40000) : secsOk (guessN b) := by
  have h1 := guessN_lt hb h4
  refine ⟨h1.1, ?_, by omega⟩
  unfold guessN
  exact gBody_ok hb _ _ (gHead_ok hb _ _ _ (fun x h => by cases h))
theorem unpack_eq {b : List Nat} (hb : ∀ c ∈ b, c < 256) (hl : b.length ≤ 40000) : unpackA b = unpackB b := by
  by_cases h1 : (unsealN b).2 = 0
  · by_cases h2 : (unsealN b).1.take 4 = signL
    · have h4 : 4 ≤ (unsealN b).1.length := by
        have h5 := congrArg List.length h2
        rw [List.length_take] at h5
        have : signL.length = 4 := rfl
        omega
      have ha := unpackA.eq_1 b
      have hg := unpackB.eq_1 b
      rw [if_neg (by simp [h1]), if_neg (by simp [h2])] at ha hg
      have hil := inner_len (b := b)
      have hoA := readN_ok hb hl
      have hoB := guessN_ok (unsealN_fst_lt hb) h4 (by omega)
      by_cases hB : packN (guessN (unsealN b).1) = (b, 0)
      · obtain ⟨c1, c2⟩ := packN_eq hB
        have h3 := unpackA_pack hoB c1
        have h5 := unpackB_pack hoB c1
        rw [c2] at h3 h5
        rw [h3, h5]
      · rw [if_neg hB] at hg
        rw [hg, ha]
        split
        · rfl
        · split
          · rename_i hA
            obtain ⟨c1, c2⟩ := packN_eq hA
            have h5 := unpackB_pack hoA c1
            rw [c2, hg] at h5
            cases (Prod.mk.inj h5).2
          · rfl
    · unfold unpackA unpackB
      rw [if_neg (by simp [h1]), if_pos h2, if_neg (by simp [h1]), if_pos h2]
  · unfold unpackA unpackB
    rw [if_pos h1, if_pos h1]
theorem unpackA_back {b : List Nat} (h : (unpackA b).2 = 0) : packN (unpackA b).1 = (b, 0) := by
  unfold unpackA at h ⊢
  split
  · rename_i h1; rw [if_pos h1] at h; exact absurd h h1
  · rename_i h1
    rw [if_neg h1] at h
    split
    · rename_i h2; rw [if_pos h2] at h; cases h
    · rename_i h2
      rw [if_neg h2] at h
      split
      · rename_i h3; rw [if_pos h3] at h; cases h
      · rename_i h3
        rw [if_neg h3] at h
        split
        · rename_i h4; exact h4
        · rename_i h4; rw [if_neg h4] at h; cases h
theorem unpackA_fail {b : List Nat} (h : (unpackA b).2 ≠ 0) : (unpackA b).1 = [] := by
  unfold unpackA at h ⊢
  split
  · rfl
  · rename_i h1
    rw [if_neg h1] at h
    split
    · rfl
    · rename_i h2
      rw [if_neg h2] at h
      split
      · rfl
      · rename_i h3
        rw [if_neg h3] at h
        split
        · rename_i h4; rw [if_pos h4] at h; exact absurd rfl h
        · rfl
end Go.Proofs.Ytphmjdbdhhbdoaa
