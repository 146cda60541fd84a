/- Plain laws of Heavy. -/
import Derived.Test.YtnkjhmfliinnoaaN4
import Derived.Test.YtnkjhmfliinnoaaQP
namespace Go.Proofs.Ytnkjhmfliinnoaa
set_option linter.all false
open Go Go.Sx Go.Proofs
theorem row_btw {T : List IE} (hW : Wf T) {a : Int} {x : Int × Int} (h : x ∈ rowT T a) : btw T a x.1 = x.2 := by
  unfold btw
  rw [(getE_some ltI_ok (hW.rasc a)).2 h]; rfl
theorem btw_row {T : List IE} (hW : Wf T) {a j : Int} (h : 0 < btw T a j) : (j, btw T a j) ∈ rowT T a := by
  have h2 := h
  unfold btw at h2
  cases hg : getE (rowT T a) j with
  | none => rw [hg] at h2; exact absurd h2 (by decide)
  | some v =>
    have : btw T a j = v := by unfold btw; rw [hg]; rfl
    rw [this]
    exact (getE_some ltI_ok (hW.rasc a)).1 hg
theorem bst_char {T : List IE} (hW : Wf T) (mate : List Int) (i : Nat) : ∀ k, k ≤ (rowT T (i : Int)).length →
    (bst T mate i k = ((i : Int), 0) ∧ ∀ x ∈ (rowT T (i : Int)).take k, mate.getD x.1.toNat 0 ≠ x.1) ∨
    (bst T mate i k ∈ (rowT T (i : Int)).take k ∧ mate.getD (bst T mate i k).1.toNat 0 = (bst T mate i k).1 ∧ ∀ x ∈ (rowT T (i : Int)).take k, mate.getD x.1.toNat 0 = x.1 → x.2 ≤ (bst T mate i k).2)
  | 0, _ => .inl ⟨rfl, fun x hx => by cases hx⟩
  | k + 1, h => by
    obtain ⟨x, hx⟩ : ∃ x, (rowT T (i : Int))[k]? = some x := ⟨_, List.getElem?_eq_getElem (by omega)⟩
    have hv := hW.rval (List.mem_of_getElem? hx)
    rw [bst_succ hx, take_snoc hx]
    unfold bstF
    rcases bst_char hW mate i k (by omega) with ⟨h1, h2⟩ | ⟨h1, h2, h3⟩
    · rw [h1]
      by_cases hm : mate.getD x.1.toNat 0 = x.1
      · rw [if_pos ⟨hm, by show 0 < x.2; omega⟩]
        refine .inr ⟨List.mem_append_right _ List.mem_cons_self, hm, fun y hy hmy => ?_⟩
        rcases List.mem_append.1 hy with hy | hy
        · exact absurd hmy (h2 y hy)
        · rw [List.mem_singleton.1 hy]; exact Int.le_refl _
      · rw [if_neg (fun h' => hm h'.1)]
        refine .inl ⟨rfl, fun y hy => ?_⟩
        rcases List.mem_append.1 hy with hy | hy
        · exact h2 y hy
        · rw [List.mem_singleton.1 hy]; exact hm
    · by_cases hm : mate.getD x.1.toNat 0 = x.1 ∧ (bst T mate i k).2 < x.2
      · rw [if_pos hm]
        refine .inr ⟨List.mem_append_right _ List.mem_cons_self, hm.1, fun y hy hmy => ?_⟩
        rcases List.mem_append.1 hy with hy | hy
        · have := h3 y hy hmy; omega
        · rw [List.mem_singleton.1 hy]; exact Int.le_refl _
      · rw [if_neg hm]
        refine .inr ⟨List.mem_append_left _ h1, h2, fun y hy hmy => ?_⟩
        rcases List.mem_append.1 hy with hy | hy
        · exact h3 y hy hmy
        · rw [List.mem_singleton.1 hy] at hmy ⊢
          exact Int.not_lt.1 fun h' => hm ⟨hmy, h'⟩
theorem best_alone {T : List IE} (hW : Wf T) {mate : List Int} {i : Nat} (h : bestI T mate i = (i : Int)) (j : Int) (hj : mate.getD j.toNat 0 = j) : btw T (i : Int) j = 0 := by
  have hb := hW.btw_le (i : Int) j
  by_cases hp : 0 < btw T (i : Int) j
  · have hr := btw_row hW hp
    have hc := bst_char hW mate i _ (Nat.le_refl _)
    rw [List.take_length] at hc
    rcases hc with ⟨_, h2⟩ | ⟨h1, _, _⟩
    · exact absurd hj (h2 _ hr)
    · exact absurd h (hW.rkey h1).2.2
  · omega
theorem best_pair {T : List IE} (hW : Wf T) {mate : List Int} {i : Nat} (h : bestI T mate i ≠ (i : Int)) :
    0 ≤ bestI T mate i ∧ bestI T mate i < (T.length : Int) ∧ mate.getD (bestI T mate i).toNat 0 = bestI T mate i ∧ 0 < btw T (i : Int) (bestI T mate i) ∧ ∀ j : Int, mate.getD j.toNat 0 = j → btw T (i : Int) j ≤ btw T (i : Int) (bestI T mate i) := by
  have hc := bst_char hW mate i _ (Nat.le_refl _)
  rw [List.take_length] at hc
  rcases hc with ⟨h1, _⟩ | ⟨h1, h2, h3⟩
  · exact absurd (show bestI T mate i = (i : Int) by unfold bestI; rw [h1]) h
  · have hk := hW.rkey h1
    have hv := hW.rval h1
    have he : btw T (i : Int) (bestI T mate i) = (bst T mate i (rowT T (i : Int)).length).2 := row_btw hW h1
    refine ⟨hk.1, hk.2.1, h2, by rw [he]; omega, fun j hj => ?_⟩
    rw [he]
    by_cases hp : 0 < btw T (i : Int) j
    · exact h3 _ (btw_row hW hp) hj
    · omega
theorem best_or {T : List IE} (mate : List Int) (i : Nat) : bestI T mate i = (i : Int) ∨ bestI T mate i ≠ (i : Int) := Decidable.em _
structure HI (T : List IE) (k : Nat) (m : List Int) : Prop where
  len : m.length = T.length
  rt : RightP m
  pos : ∀ i, i < T.length → m.getD i 0 ≠ (i : Int) → 0 < btw T (i : Int) (m.getD i 0)
  al : ∀ i, i < k → i < T.length → m.getD i 0 = (i : Int) → ∀ j, j < T.length → m.getD j 0 = (j : Int) → btw T (i : Int) (j : Int) = 0
theorem hi_zero (T : List IE) : HI T 0 (idL T.length) :=
  ⟨idL_len _, fun i hi => by
    rw [idL_len] at hi
    refine ⟨?_, ?_, ?_⟩
    · rw [idL_at hi]; omega
    · rw [idL_at hi, idL_len]; omega
    · rw [idL_at hi, Int.toNat_natCast, idL_at hi],
   fun i hi h => absurd (idL_at hi) h, fun i hi => absurd hi (Nat.not_lt_zero _)⟩
theorem set2 {m : List Int} {k b : Nat} (hk : k < m.length) (hb : b < m.length) (j : Nat) : ((m.set k (b : Int)).set b (k : Int)).getD j 0 = if j = b then (k : Int) else if j = k then (b : Int) else m.getD j 0 := by
  rw [getD_set' _ _ _ _ (by rw [List.length_set]; exact hb), getD_set' _ _ _ _ hk]
theorem hi_step {T : List IE} (hW : Wf T) {k : Nat} (hk : k < T.length) (h : HI T k (hvy T k)) : HI T (k + 1) (hvy T (k + 1)) ∧ ∀ i, (hvy T k).getD i 0 ≠ (i : Int) → (hvy T (k + 1)).getD i 0 = (hvy T k).getD i 0 := by
  rw [hvy]
  generalize hvy T k = m at h ⊢
  by_cases hm : m.getD k 0 = (k : Int)
  · rw [if_pos hm]
    by_cases hb : bestI T m k = (k : Int)
    · have e : (m.set k (bestI T m k)).set (bestI T m k).toNat (k : Int) = m := by
        refine ext_getD (by simp) fun j hj => ?_
        have hj' : j < m.length := by simpa using hj
        rw [hb, Int.toNat_natCast, set2 (by rw [h.len]; exact hk) (by rw [h.len]; exact hk)]
        by_cases hjk : j = k
        · rw [if_pos hjk, hjk, hm]
        · rw [if_neg hjk, if_neg hjk]
      rw [e]
      refine ⟨⟨h.len, h.rt, h.pos, fun i hi hin hmi j hj hmj => ?_⟩, fun _ _ => rfl⟩
      rcases Nat.lt_or_ge i k with h1 | h1
      · exact h.al i h1 hin hmi j hj hmj
      · rw [show i = k by omega]
        exact best_alone hW hb (j : Int) (by rw [Int.toNat_natCast]; exact hmj)
    · obtain ⟨b0, b1, b2, b3, _⟩ := best_pair hW hb
      obtain ⟨b, hbb⟩ : ∃ b : Nat, bestI T m k = (b : Int) := ⟨(bestI T m k).toNat, by omega⟩
      rw [hbb] at b0 b1 b2 b3 hb ⊢
      rw [Int.toNat_natCast] at b2 ⊢
      have hbn : b < T.length := by omega
      have hne : b ≠ k := fun e => hb (by rw [e])
      have hg := fun j => set2 (m := m) (k := k) (b := b) (by rw [h.len]; exact hk) (by rw [h.len]; exact hbn) j
      have hl : ((m.set k (b : Int)).set b (k : Int)).length = T.length := by rw [List.length_set, List.length_set, h.len]
      generalize (m.set k (b : Int)).set b (k : Int) = m' at hg hl ⊢
      refine ⟨⟨hl, fun i hi => ?_, fun i hi hmi => ?_, fun i hi hin hmi j hj hmj => ?_⟩, fun i hmi => ?_⟩
      · rw [hl] at hi
        unfold okAt
        rw [hg i]
        by_cases h1 : i = b
        · rw [if_pos h1, Int.toNat_natCast, hg k, if_neg (fun e => hne e.symm), if_pos rfl, hl, h1]
          exact ⟨by omega, by omega, rfl⟩
        · rw [if_neg h1]
          by_cases h2 : i = k
          · rw [if_pos h2, Int.toNat_natCast, hg b, if_pos rfl, hl, h2]
            exact ⟨by omega, by omega, rfl⟩
          · rw [if_neg h2]
            obtain ⟨g0, g1, g2⟩ := h.rt i (by rw [h.len]; exact hi)
            have h3 : (m.getD i 0).toNat ≠ b := fun e => by rw [e, b2] at g2; omega
            have h4 : (m.getD i 0).toNat ≠ k := fun e => by rw [e, hm] at g2; omega
            rw [hg (m.getD i 0).toNat, if_neg h3, if_neg h4, hl]
            exact ⟨g0, by rw [← h.len]; exact g1, g2⟩
      · rw [hg i] at hmi ⊢
        by_cases h1 : i = b
        · rw [if_pos h1, h1, btw_sym hW]; exact b3
        · rw [if_neg h1] at hmi ⊢
          by_cases h2 : i = k
          · rw [if_pos h2, h2]; exact b3
          · rw [if_neg h2] at hmi ⊢
            exact h.pos i hi hmi
      · rw [hg i] at hmi
        rw [hg j] at hmj
        by_cases h1 : i = b
        · rw [if_pos h1] at hmi; omega
        · rw [if_neg h1] at hmi
          by_cases h2 : i = k
          · rw [if_pos h2] at hmi; omega
          · rw [if_neg h2] at hmi
            by_cases h3 : j = b
            · rw [if_pos h3] at hmj; omega
            · rw [if_neg h3] at hmj
              by_cases h4 : j = k
              · rw [if_pos h4] at hmj; omega
              · rw [if_neg h4] at hmj
                exact h.al i (by omega) hin hmi j hj hmj
      · rw [hg i]
        by_cases h1 : i = b
        · rw [h1] at hmi; exact absurd b2 hmi
        · rw [if_neg h1]
          by_cases h2 : i = k
          · rw [h2] at hmi; exact absurd hm hmi
          · rw [if_neg h2]
  · rw [if_neg hm]
    refine ⟨⟨h.len, h.rt, h.pos, fun i hi hin hmi j hj hmj => ?_⟩, fun _ _ => rfl⟩
    rcases Nat.lt_or_ge i k with h1 | h1
    · exact h.al i h1 hin hmi j hj hmj
    · rw [show i = k by omega] at hmi; exact absurd hmi hm
theorem hi_all {T : List IE} (hW : Wf T) : ∀ k, k ≤ T.length → HI T k (hvy T k)
  | 0, _ => hi_zero T
  | k + 1, h => (hi_step hW (by omega) (hi_all hW k (by omega))).1
theorem hi_keep {T : List IE} (hW : Wf T) {i k : Nat} (h : (hvy T k).getD i 0 ≠ (i : Int)) : ∀ n, k ≤ n → n ≤ T.length → (hvy T n).getD i 0 = (hvy T k).getD i 0
  | 0, h1, _ => by rw [show k = 0 by omega]
  | n + 1, h1, h2 => by
    by_cases hk : k = n + 1
    · rw [hk]
    · have ih := hi_keep hW h n (by omega) (by omega)
      rw [← ih]
      exact (hi_step hW (by omega) (hi_all hW n (by omega))).2 i (by rw [ih]; exact h)
theorem heavy_hi {T : List IE} (hW : Wf T) : HI T T.length (heavyL T) := hi_all hW _ (Nat.le_refl _)
/-- before the first that something is between it and others, none are paired. -/
theorem hvy_id {T : List IE} (hW : Wf T) {i : Nat} (hi : i ≤ T.length) (h0 : ∀ k, k < i → ∀ j, j < T.length → btw T (k : Int) (j : Int) = 0) : ∀ k, k ≤ i → hvy T k = idL T.length
  | 0, _ => rfl
  | k + 1, h => by
    have ih := hvy_id hW hi h0 k (by omega)
    rw [hvy, ih]
    have hkn : k < T.length := by omega
    rw [if_pos (idL_at hkn)]
    have hb : bestI T (idL T.length) k = (k : Int) := by
      rcases best_or (T := T) (idL T.length) k with h1 | h1
      · exact h1
      · obtain ⟨b0, b1, _, b3, _⟩ := best_pair hW h1
        have := h0 k (by omega) (bestI T (idL T.length) k).toNat (by omega)
        rw [Int.toNat_of_nonneg b0] at this
        omega
    refine ext_getD (by simp) fun j hj => ?_
    have hj' : j < T.length := by simpa [idL_len] using hj
    rw [hb, Int.toNat_natCast, set2 (by rw [idL_len]; exact hkn) (by rw [idL_len]; exact hkn)]
    by_cases hjk : j = k
    · rw [if_pos hjk, hjk, idL_at hkn]
    · rw [if_neg hjk, if_neg hjk]
theorem heavy_first {T : List IE} (hW : Wf T) {i : Nat} (hi : i < T.length) (h0 : ∀ k, k < i → ∀ j, j < T.length → btw T (k : Int) (j : Int) = 0) {b : Nat} (hb : b < T.length) (hp : 0 < btw T (i : Int) (b : Int)) :
    (heavyL T).getD i 0 ≠ (i : Int) ∧ ∀ j, j < T.length → btw T (i : Int) (j : Int) ≤ btw T (i : Int) ((heavyL T).getD i 0) := by
  have hid := hvy_id hW (by omega) h0 i (Nat.le_refl _)
  have hbi : bestI T (idL T.length) i ≠ (i : Int) := fun e => by
    have := best_alone hW e (b : Int) (by rw [Int.toNat_natCast]; exact idL_at hb)
    omega
  obtain ⟨b0, b1, _, _, b4⟩ := best_pair hW hbi
  have hs : (hvy T (i + 1)).getD i 0 = bestI T (idL T.length) i := by
    rw [hvy, hid, if_pos (idL_at hi)]
    obtain ⟨z, hz⟩ : ∃ z : Nat, bestI T (idL T.length) i = (z : Int) := ⟨(bestI T (idL T.length) i).toNat, by omega⟩
    rw [hz] at hbi b1 ⊢
    rw [Int.toNat_natCast, set2 (by rw [idL_len]; exact hi) (by rw [idL_len]; omega), if_neg (fun e => hbi (by rw [e])), if_pos rfl]
  have hk := hi_keep hW (k := i + 1) (by rw [hs]; exact hbi) T.length (by omega) (Nat.le_refl _)
  rw [hs] at hk
  change (heavyL T).getD i 0 = _ at hk
  rw [hk]
  refine ⟨hbi, fun j hj => b4 (j : Int) (by rw [Int.toNat_natCast]; exact idL_at hj)⟩
theorem heavy_zero {T : List IE} (hW : Wf T) {i : Nat} (hi : i < T.length) (h0 : ∀ j, j < T.length → btw T (i : Int) (j : Int) = 0) : (heavyL T).getD i 0 = (i : Int) := by
  have h := heavy_hi hW
  by_cases he : (heavyL T).getD i 0 = (i : Int)
  · exact he
  · have h1 := h.pos i hi he
    obtain ⟨g0, g1, _⟩ := h.rt i (by rw [h.len]; exact hi)
    rw [h.len] at g1
    have h2 := h0 ((heavyL T).getD i 0).toNat (by omega)
    rw [Int.toNat_of_nonneg g0] at h2
    omega
theorem prL_nil {m : List Int} (h : ∀ i, i < m.length → m.getD i 0 = (i : Int)) : prL m = [] := by
  have : ∀ k, k ≤ m.length → prU m k = [] := by
    intro k
    induction k with
    | zero => intro _; rfl
    | succ k ih => intro hk; rw [prU_no (fun h' => by have := h k (by omega); omega), ih (by omega)]
  exact this _ (Nat.le_refl _)
theorem prL_pos {m : List Int} (hR : RightP m) {i : Nat} (hi : i < m.length) (h : m.getD i 0 ≠ (i : Int)) : 0 < (prL m).length := by
  have key : ∀ k, k < m.length → (k : Int) < m.getD k 0 → 0 < (prL m).length := fun k hk hlt => by
    have := (prL_at hk hR hlt).1
    have := (List.getElem?_eq_some_iff.1 this).1
    omega
  obtain ⟨g0, g1, g2⟩ := hR i hi
  by_cases hlt : (i : Int) < m.getD i 0
  · exact key i hi hlt
  · exact key (m.getD i 0).toNat (by omega) (by rw [g2]; omega)
theorem prL_ex {m : List Int} (h : 0 < (prL m).length) : ∃ i, i < m.length ∧ m.getD i 0 ≠ (i : Int) := by
  obtain ⟨x, hx⟩ : ∃ x, (prL m)[0]? = some x := ⟨_, List.getElem?_eq_getElem h⟩
  have := (prU_all m m.length).1 x (List.mem_of_getElem? hx)
  exact ⟨x.1.toNat, by omega, by omega⟩
end Go.Proofs.Ytnkjhmfliinnoaa

