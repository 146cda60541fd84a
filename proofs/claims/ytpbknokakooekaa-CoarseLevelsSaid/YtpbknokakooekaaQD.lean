/- Plain laws: the document's way to the one that most is between. -/
import Derived.Test.YtpbknokakooekaaQH
import Derived.Test.YtpbknokakooekaaGA
namespace Go.Proofs.Ytpbknokakooekaa
set_option linter.all false
open Go Go.Sx Go.Proofs
def rfB (T : List IE) (mate : List Int) (i : Nat) : Nat → Int × Int
  | 0 => ((i : Int), 0)
  | k + 1 => bstF mate (rfB T mate i k) ((k : Int), btw T (i : Int) (k : Int))
def toZ (T : List IE) (mate : List Int) (i k : Nat) : Int := if (rfB T mate i k).2 = 0 then -1 else (rfB T mate i k).1
theorem btw_self {T : List IE} (hW : Wf T) (a : Int) : btw T a a = 0 := by
  have h := hW.btw_le a a
  by_cases hp : 0 < btw T a a
  · exact absurd rfl (hW.rkey (btw_row hW hp)).2.2
  · omega
theorem rfB_in {T : List IE} (hW : Wf T) (mate : List Int) (i : Nat) : ∀ k, 0 ≤ (rfB T mate i k).2 ∧ ((rfB T mate i k).2 = 0 → rfB T mate i k = ((i : Int), 0)) ∧ (0 < (rfB T mate i k).2 → ∃ b : Nat, b < k ∧ (rfB T mate i k).1 = (b : Int) ∧ (rfB T mate i k).2 = btw T (i : Int) (b : Int) ∧ b ≠ i ∧ mate.getD b 0 = (b : Int))
  | 0 => ⟨Int.le_refl 0, fun _ => rfl, fun h => absurd h (Int.lt_irrefl 0)⟩
  | k + 1 => by
    obtain ⟨h1, h2, h3⟩ := rfB_in hW mate i k
    have e : rfB T mate i (k + 1) = if mate.getD (k : Int).toNat 0 = (k : Int) ∧ (rfB T mate i k).2 < btw T (i : Int) (k : Int) then ((k : Int), btw T (i : Int) (k : Int)) else rfB T mate i k := rfl
    rw [e]
    split
    · rename_i h
      rw [Int.toNat_natCast] at h
      refine ⟨by show 0 ≤ btw T (i : Int) (k : Int); omega, fun h0 => ?_, fun hp => ⟨k, by omega, rfl, rfl, fun hk => ?_, h.1⟩⟩
      · change btw T (i : Int) (k : Int) = 0 at h0; omega
      · have h9 := h.2
        rw [show btw T (i : Int) (k : Int) = 0 by rw [hk]; exact btw_self hW _] at h9
        omega
    · refine ⟨h1, h2, fun hp => ?_⟩
      obtain ⟨b, hb, h4⟩ := h3 hp
      exact ⟨b, by omega, h4⟩
theorem toZ_lt {T : List IE} (hW : Wf T) (mate : List Int) (i k : Nat) : (toZ T mate i k = -1 ∧ (rfB T mate i k).2 = 0) ∨ ∃ b : Nat, b < k ∧ toZ T mate i k = (b : Int) ∧ (rfB T mate i k).2 = btw T (i : Int) (b : Int) ∧ b ≠ i ∧ 0 < btw T (i : Int) (b : Int) := by
  obtain ⟨h1, h2, h3⟩ := rfB_in hW mate i k
  unfold toZ
  by_cases h : (rfB T mate i k).2 = 0
  · rw [if_pos h]; exact .inl ⟨rfl, h⟩
  · rw [if_neg h]
    obtain ⟨b, hb, h4, h5, h6, _⟩ := h3 (by omega)
    exact .inr ⟨b, hb, h4, h5, h6, by omega⟩
theorem toZ_yes {T : List IE} (hW : Wf T) (mate : List Int) (i k : Nat) (hm : mate.getD k 0 = (k : Int)) (hp : 0 < btw T (i : Int) (k : Int)) (ht : toZ T mate i k < 0 ∨ btw T (i : Int) (toZ T mate i k) < btw T (i : Int) (k : Int)) : toZ T mate i (k + 1) = (k : Int) := by
  have e : rfB T mate i (k + 1) = if mate.getD (k : Int).toNat 0 = (k : Int) ∧ (rfB T mate i k).2 < btw T (i : Int) (k : Int) then ((k : Int), btw T (i : Int) (k : Int)) else rfB T mate i k := rfl
  have hc : (rfB T mate i k).2 < btw T (i : Int) (k : Int) := by
    rcases toZ_lt hW mate i k with ⟨h1, h2⟩ | ⟨b, _, h1, h2, _⟩
    · omega
    · rw [h1] at ht
      rcases ht with h | h <;> omega
  rw [Int.toNat_natCast, if_pos ⟨hm, hc⟩] at e
  unfold toZ
  rw [e, if_neg (by show ¬ btw T (i : Int) (k : Int) = 0; omega)]
theorem toZ_no {T : List IE} (hW : Wf T) (mate : List Int) (i k : Nat) (hn : ¬ (k ≠ i ∧ mate.getD k 0 = (k : Int) ∧ 0 < btw T (i : Int) (k : Int) ∧ (toZ T mate i k < 0 ∨ btw T (i : Int) (toZ T mate i k) < btw T (i : Int) (k : Int)))) : toZ T mate i (k + 1) = toZ T mate i k := by
  have e : rfB T mate i (k + 1) = if mate.getD (k : Int).toNat 0 = (k : Int) ∧ (rfB T mate i k).2 < btw T (i : Int) (k : Int) then ((k : Int), btw T (i : Int) (k : Int)) else rfB T mate i k := rfl
  have hc : ¬ (mate.getD (k : Int).toNat 0 = (k : Int) ∧ (rfB T mate i k).2 < btw T (i : Int) (k : Int)) := fun h => by
    rw [Int.toNat_natCast] at h
    have h0 := (rfB_in hW mate i k).1
    have hki : k ≠ i := fun hk => by
      have h9 := h.2
      rw [show btw T (i : Int) (k : Int) = 0 by rw [hk]; exact btw_self hW _] at h9
      omega
    refine hn ⟨hki, h.1, by omega, ?_⟩
    rcases toZ_lt hW mate i k with ⟨h1, h2⟩ | ⟨b, _, h1, h2, _⟩
    · left; omega
    · right; rw [h1]; omega
  rw [if_neg hc] at e
  unfold toZ
  rw [e]
theorem rfB_fold (T : List IE) (mate : List Int) (i : Nat) : ∀ k, (∀ j, 0 ≤ (rfB T mate i j).2) → ((mineU T i k).map (·.2)).foldl (bstF mate) ((i : Int), 0) = rfB T mate i k
  | 0, _ => rfl
  | k + 1, h0 => by
    rw [mineU_succ, List.map_append, List.foldl_append, rfB_fold T mate i k h0]
    by_cases hp : 0 < btw T (i : Int) (k : Int)
    · rw [if_pos hp]; rfl
    · rw [if_neg hp]
      show rfB T mate i k = bstF mate (rfB T mate i k) ((k : Int), btw T (i : Int) (k : Int))
      unfold bstF
      rw [if_neg (fun h => by have := h0 k; have := h.2; simp only at this; omega)]
theorem rfB_best {T : List IE} (hW : Wf T) (mate : List Int) (i : Nat) : bestI T mate i = (rfB T mate i T.length).1 := by
  rw [← rfB_fold T mate i T.length (fun j => (rfB_in hW mate i j).1), mine_all hW]
  unfold bestI bst nearN
  rw [List.take_length, List.map_map]
  have : ((fun x : OpA => x.2) ∘ fun x : Int × Int => ((i : Int), x.1, x.2)) = id := rfl
  rw [this, List.map_id]
/-- what the document does at the end of a thing is what the program does. -/
theorem hvy_to {T : List IE} (hW : Wf T) {i : Nat} (hi : i < T.length) (hm : (hvy T i).getD i 0 = (i : Int)) :
    (toZ T (hvy T i) i T.length < 0 ∧ hvy T (i + 1) = hvy T i) ∨ ∃ b : Nat, b < T.length ∧ toZ T (hvy T i) i T.length = (b : Int) ∧ hvy T (i + 1) = ((hvy T i).set i (b : Int)).set b (i : Int) := by
  have hl := hvy_len T i
  have hs : hvy T (i + 1) = ((hvy T i).set i (bestI T (hvy T i) i)).set (bestI T (hvy T i) i).toNat (i : Int) := by rw [hvy, if_pos hm]
  have hb := rfB_best hW (hvy T i) i
  generalize hvy T i = m at *
  obtain ⟨h1, h2, h3⟩ := rfB_in hW m i T.length
  by_cases h : (rfB T m i T.length).2 = 0
  · left
    have hbi : bestI T m i = (i : Int) := by rw [hb, h2 h]
    refine ⟨by unfold toZ; rw [if_pos h]; decide, ?_⟩
    rw [hs, hbi, Int.toNat_natCast]
    refine ext_getD (by simp) fun j hj => ?_
    rw [set2 (by omega) (by omega)]
    by_cases hji : j = i
    · rw [if_pos hji, hji, hm]
    · rw [if_neg hji, if_neg hji]
  · right
    obtain ⟨b, hb1, h4, _⟩ := h3 (by omega)
    refine ⟨b, hb1, by unfold toZ; rw [if_neg h, h4], ?_⟩
    rw [hs, hb, h4, Int.toNat_natCast]
end Go.Proofs.Ytpbknokakooekaa

