/- Plain laws of pairs. -/
import Derived.Test.YtnkjhmfliinnoaaN2
import Derived.Test.YtnkjhmfliinnoaaGA
namespace Go.Proofs.Ytnkjhmfliinnoaa
set_option linter.all false
open Go Go.Sx Go.Proofs
theorem prU_all (m : List Int) : ∀ k, (∀ x ∈ prU m k, 0 ≤ x.1 ∧ x.1 < (k : Int) ∧ x.1 < x.2 ∧ m.getD x.1.toNat 0 = x.2) ∧ (prU m k).Pairwise (fun x y => x.1 < y.1)
  | 0 => ⟨fun x hx => (by cases hx), List.Pairwise.nil⟩
  | k + 1 => by
    obtain ⟨h1, h2⟩ := prU_all m k
    have he : ∀ x ∈ prE m k, x.1 = (k : Int) ∧ x.1 < x.2 ∧ m.getD x.1.toNat 0 = x.2 := by
      intro x hx
      unfold prE at hx
      split at hx
      · rename_i h
        obtain rfl := List.mem_singleton.1 hx
        exact ⟨rfl, h.2, by simp⟩
      · cases hx
    refine ⟨fun x hx => ?_, ?_⟩
    · rw [prU] at hx
      rcases List.mem_append.1 hx with h | h
      · have := h1 x h
        exact ⟨this.1, by omega, this.2.2⟩
      · have := he x h
        exact ⟨by omega, by omega, this.2⟩
    · rw [prU, List.pairwise_append]
      refine ⟨h2, ?_, fun x hx y hy => ?_⟩
      · unfold prE; split
        · exact List.pairwise_singleton _ _
        · exact List.Pairwise.nil
      · have h3 := h1 x hx
        have h4 := he y hy
        omega
def b01 (p : Prop) [Decidable p] : Int := if p then 1 else 0
def cntA (m : List Int) (k : Nat) : Int := sumN k fun i => b01 (m.getD i 0 = (i : Int))
theorem cntA_succ (m : List Int) (k : Nat) : cntA m (k + 1) = cntA m k + b01 (m.getD k 0 = (k : Int)) := sumN_succ _ _
theorem cntA_in (m : List Int) : ∀ k, 0 ≤ cntA m k ∧ cntA m k ≤ (k : Int)
  | 0 => ⟨Int.le_refl 0, Int.le_refl 0⟩
  | k + 1 => by
    have := cntA_in m k
    rw [cntA_succ]
    unfold b01
    split <;> omega
theorem prU_sum {m : List Int} (hR : RightP m) : ∀ k, ((prU m k).length : Int) = sumN k fun i => b01 ((i : Int) < m.getD i 0)
  | 0 => rfl
  | k + 1 => by
    rw [sumN_succ, ← prU_sum hR k, prU, List.length_append]
    unfold prE b01
    by_cases h : (k : Int) < m.getD k 0
    · rw [if_pos ⟨hR, h⟩, if_pos h]; simp
    · rw [if_neg (fun h' => h h'.2), if_neg h]; simp
theorem half {m : List Int} (hR : RightP m) : cntA m m.length + 2 * ((prL m).length : Int) = (m.length : Int) := by
  have hsym : ∀ i j : Nat, b01 (i ≠ j ∧ i < m.length ∧ j < m.length ∧ m.getD i 0 = (j : Int)) = b01 (j ≠ i ∧ j < m.length ∧ i < m.length ∧ m.getD j 0 = (i : Int)) := by
    have h : ∀ i j : Nat, (i ≠ j ∧ i < m.length ∧ j < m.length ∧ m.getD i 0 = (j : Int)) → (j ≠ i ∧ j < m.length ∧ i < m.length ∧ m.getD j 0 = (i : Int)) := by
      intro i j ⟨h1, h2, h3, h4⟩
      have := (hR i h2).2.2
      rw [h4, Int.toNat_natCast] at this
      exact ⟨fun e => h1 e.symm, h3, h2, this⟩
    intro i j
    unfold b01
    by_cases hh : i ≠ j ∧ i < m.length ∧ j < m.length ∧ m.getD i 0 = (j : Int)
    · rw [if_pos hh, if_pos (h i j hh)]
    · rw [if_neg hh, if_neg (fun h' => hh (h j i h'))]
  have key := sumN_sym (f := fun i j => b01 (i ≠ j ∧ i < m.length ∧ j < m.length ∧ m.getD i 0 = (j : Int))) hsym (fun i => if_neg (fun h => h.1 rfl)) m.length
  have hrow : ∀ i, i < m.length → ∀ (c : Nat → Prop) [DecidablePred c], sumN m.length (fun j => if c j then b01 (i ≠ j ∧ i < m.length ∧ j < m.length ∧ m.getD i 0 = (j : Int)) else 0) = b01 ((m.getD i 0).toNat ≠ i ∧ c (m.getD i 0).toNat) := by
    intro i hi c _
    obtain ⟨h0, h1, _⟩ := hR i hi
    have hlt : (m.getD i 0).toNat < m.length := by omega
    rw [sumN_congr (g := fun j => if j = (m.getD i 0).toNat then b01 ((m.getD i 0).toNat ≠ i ∧ c (m.getD i 0).toNat) else 0) (fun j hj => ?_), sumN_upd _ hlt rfl, sumN_zero, Int.add_zero]
    unfold b01
    by_cases hj2 : j = (m.getD i 0).toNat
    · rw [if_pos hj2]
      subst hj2
      by_cases hc : c (m.getD i 0).toNat
      · rw [if_pos hc]
        by_cases hne : (m.getD i 0).toNat = i
        · rw [if_neg (fun h => h.1 hne.symm), if_neg (fun h => h.1 hne)]
        · rw [if_pos ⟨fun e => hne e.symm, hi, hlt, by omega⟩, if_pos ⟨hne, hc⟩]
      · rw [if_neg hc, if_neg (fun h => hc h.2)]
    · rw [if_neg hj2]
      split
      · rw [if_neg (fun h => hj2 (by omega))]
      · rfl
  have e1 : sumN m.length (fun i => sumN m.length (fun j => b01 (i ≠ j ∧ i < m.length ∧ j < m.length ∧ m.getD i 0 = (j : Int)))) = sumN m.length (fun i => b01 ((m.getD i 0).toNat ≠ i ∧ True)) :=
    sumN_congr fun i hi => by
      rw [← hrow i hi (fun _ => True)]
      exact sumN_congr fun j _ => by rw [if_pos trivial]
  have e2 : sumN m.length (fun i => sumN m.length (fun j => if i ≤ j then b01 (i ≠ j ∧ i < m.length ∧ j < m.length ∧ m.getD i 0 = (j : Int)) else 0)) = sumN m.length (fun i => b01 ((i : Int) < m.getD i 0)) :=
    sumN_congr fun i hi => by
      rw [hrow i hi (fun j => i ≤ j)]
      have h0 := (hR i hi).1
      unfold b01
      by_cases h : (i : Int) < m.getD i 0
      · rw [if_pos ⟨by omega, by omega⟩, if_pos h]
      · rw [if_neg (fun h' => by omega), if_neg h]
  rw [e1, e2, ← prU_sum hR] at key
  unfold prL
  rw [← key]
  unfold cntA
  rw [← sumN_add]
  rw [sumN_congr (g := fun _ => 1) (fun i hi => ?_)]
  · have : ∀ n : Nat, sumN n (fun _ => 1) = (n : Int) := by
      intro n
      induction n with
      | zero => rfl
      | succ n ih => rw [sumN_succ, ih]; omega
    exact this _
  · have h0 := (hR i hi).1
    unfold b01
    by_cases h : m.getD i 0 = (i : Int)
    · rw [if_pos h, if_neg (fun h' => h'.1 (by omega))]; rfl
    · rw [if_neg h, if_pos ⟨by omega, trivial⟩]; rfl
end Go.Proofs.Ytnkjhmfliinnoaa

