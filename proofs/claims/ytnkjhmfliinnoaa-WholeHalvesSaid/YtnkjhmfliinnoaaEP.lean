/- Parts: plain laws of what is mended. -/
import Derived.Test.YtnkjhmfliinnoaaE6
namespace Go.Proofs.Ytnkjhmfliinnoaa
set_option linter.all false
open Go Go.Sx Go.Proofs
set_option maxRecDepth 100000
set_option maxHeartbeats 2000000
theorem sd_cn (p : List Int) (c : Nat) : ∀ n, ((sdU p (c : Int) n).length : Int) = cnAt p c n
  | 0 => rfl
  | n + 1 => by
    have ih := sd_cn p c n
    unfold cnAt at ih ⊢
    rw [sumN_succ]
    by_cases h : p.getD n 0 = (c : Int)
    · rw [sdU_yes h, List.length_append, List.length_singleton, if_pos h]; omega
    · rw [sdU_no h, if_neg h]; omega
theorem each_one {ws p : List Int} {n : Nat} (hR : CutR ws.length p (n : Int)) (hl : ws.length = n) (hg : goodM ws n p) {c : Nat} (hc : c < n) : (sdL p (c : Int)).length = 1 := by
  have e := cn_total (p := p) (k := n) p.length hR.2.2
  have hpl := hR.2.1
  have hall : ∀ d, d < n → 1 ≤ cnAt p d p.length := fun d hd => by
    have h1 := (cnAt_in p d p.length).1
    rcases hg.2 with h2 | h2
    · omega
    · have := h2 d hd; omega
  rw [sumN_one (g := fun d => if d = c then 0 else cnAt p d p.length) hc (fun j _ hne => by rw [if_neg hne]), if_pos rfl] at e
  have e2 := sumN_le (n := n) (f := fun d => if d = c then (0 : Int) else 1) (g := fun d => if d = c then 0 else cnAt p d p.length) (fun j hj => by
    have := hall j hj
    split
    · exact Int.le_refl _
    · omega)
  have e3 := sumN_one (n := n) (f := fun d => if d = c then (0 : Int) else 1) (g := fun _ => 1) hc (fun j _ hne => by rw [if_neg hne])
  rw [sumN_const, if_pos rfl] at e3
  have h1 := hall c hc
  have h2 := sd_cn p c p.length
  unfold sdL
  omega
theorem right_one {n : Nat} {p : List Int} (h : CutR n p 1) : p = List.replicate n 0 := extI (by rw [List.length_replicate]; exact h.2.1) fun j hj => by
  have h2 := h.2.2 j hj
  have h0 : (List.replicate n (0 : Int)).getD j 0 = 0 := by rw [List.getD_eq_getElem?_getD, List.getElem?_replicate]; split <;> rfl
  rw [h0]
  unfold badP at h2
  omega
theorem has_cn {p : List Int} {c : Nat} : hasP p (c : Int) ↔ cnAt p c p.length ≠ 0 := by
  constructor
  · exact fun h h0 => h (cn_none h0)
  · intro h h0
    have h1 := (cnAt_in p c p.length).1
    obtain ⟨i, hi, he⟩ := cn_pos (p := p) (c := c) p.length (by omega)
    exact h0 i hi he
theorem emU_nil {p : List Int} : ∀ k, (emU p k).length = 0 ↔ ∀ c, c < k → cnAt p c p.length ≠ 0
  | 0 => ⟨fun _ c hc => absurd hc (Nat.not_lt_zero _), fun _ => rfl⟩
  | k + 1 => by
    have ih := emU_nil (p := p) k
    rw [emU, List.length_append]
    by_cases h : hasP p (k : Int)
    · rw [if_pos h]
      constructor
      · intro h2 c hc
        by_cases hck : c = k
        · subst hck; exact has_cn.1 h
        · exact ih.1 (by simpa using h2) c (by omega)
      · intro h2
        have := ih.2 fun c hc => h2 c (by omega)
        simpa using this
    · rw [if_neg h]
      constructor
      · intro h2; simp at h2
      · intro h2; exact absurd (has_cn.2 (h2 k (by omega))) h
def goodB (ws p : List Int) (k : Int) : Prop := CutR ws.length p k ∧ goodM ws k.toNat p
theorem mend_right {T : List IE} {ws : List Int} (hm : ∀ z ∈ ws, mayW z) {k : Nat} {p : List Int} (hR : CutR ws.length p (k : Int)) : CutR ws.length (mendL T ws k p) (k : Int) := (mend_prop hm _ p (Nat.lt_succ_self _) hR).1
theorem mend_good {T : List IE} {ws : List Int} (hm : ∀ z ∈ ws, mayW z) {k : Nat} {p : List Int} (hR : CutR ws.length p (k : Int)) : goodM ws k (mendL T ws k p) := (mend_prop hm _ p (Nat.lt_succ_self _) hR).2
theorem good_fits {ws : List Int} {k : Nat} {p : List Int} (hR : CutR ws.length p (k : Int)) (h : goodM ws k p) : fitsB ws p (k : Int) := ⟨hR, fun j hj => h.1 j (by omega)⟩
theorem mend_len {T : List IE} {ws : List Int} (hm : ∀ z ∈ ws, mayW z) {k : Nat} {p : List Int} (hR : CutR ws.length p (k : Int)) : (mendL T ws k p).length = p.length := by rw [(mend_right hm hR).2.1, hR.2.1]
theorem zero_right {n k : Nat} (hk : mayK (k : Int)) : CutR n (List.replicate n 0) (k : Int) := ⟨hk, List.length_replicate, fun j _ => by
  have h0 : (List.replicate n (0 : Int)).getD j 0 = 0 := by rw [List.getD_eq_getElem?_getD, List.getElem?_replicate]; split <;> rfl
  rw [h0]
  unfold mayK at hk
  unfold badP
  omega⟩
end Go.Proofs.Ytnkjhmfliinnoaa

