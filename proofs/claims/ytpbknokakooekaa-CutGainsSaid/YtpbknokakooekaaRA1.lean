/- Keys in order: the document's functions Get, Rank, Drop, Put, Same; all and from of the statements. -/
import Derived.Test.YtpbknokakooekaaMA2
import Derived.Test.YtpbknokakooekaaMA3
namespace Go.Proofs.Ytpbknokakooekaa
set_option linter.all false
open Go Go.Sx Go.Proofs
set_option maxRecDepth 100000
set_option maxHeartbeats 2000000
abbrev IE := List (Int × Int)
theorem take_snoc {α : Type} {xs : List α} {i : Nat} {x : α} (h : xs[i]? = some x) : xs.take (i + 1) = xs.take i ++ [x] := by
  rw [List.take_add_one, h]; rfl
theorem drop_snoc {α : Type} {l : List α} {i : Nat} {x : α} (h : l[i]? = some x) : l.drop i = x :: l.drop (i + 1) := by
  obtain ⟨hlt, rfl⟩ := List.getElem?_eq_some_iff.1 h
  exact List.drop_eq_getElem_cons hlt
theorem getE_cons (x : Int × Int) (es : IE) (k : Int) : getE (x :: es) k = if x.1 = k then some x.2 else getE es k := by
  unfold getE
  rw [List.find?_cons]
  by_cases h : x.1 = k
  · rw [decide_eq_true h, if_pos h]; rfl
  · rw [decide_eq_false h, if_neg h]
theorem thereE_cons (x : Int × Int) (es : IE) (k : Int) : thereE (x :: es) k = (decide (x.1 = k) || thereE es k) := by unfold thereE; rw [List.any_cons]
theorem rkE_snoc (es : IE) (x : Int × Int) (k : Int) : rkE ltI (es ++ [x]) k = rkE ltI es k + if x.1 < k then 1 else 0 := by
  unfold rkE ltI
  rw [List.countP_append, List.countP_singleton]
  by_cases h : x.1 < k <;> simp [h]
theorem rkE_le {κ ν : Type} (lt : κ → κ → Bool) (es : List (κ × ν)) (k : κ) : rkE lt es k ≤ es.length := List.countP_le_length
theorem dropE_snoc (es : IE) (x : Int × Int) (k : Int) : dropE (es ++ [x]) k = dropE es k ++ if x.1 = k then [] else [x] := by
  unfold dropE
  rw [List.filter_append]
  by_cases h : x.1 = k <;> simp [h]
theorem put_dropE {es : IE} {k v : Int} : putE ltI (dropE es k) k v = putE ltI es k v := by
  unfold putE dropE
  rw [List.filter_filter, List.filter_filter]
  congr 2
  · funext e
    unfold ltI
    by_cases h : e.1 < k
    · have : e.1 ≠ k := by omega
      simp [h, this]
    · simp [h]
  · congr 1
    funext e
    unfold ltI
    by_cases h : k < e.1
    · have : e.1 ≠ k := by omega
      simp [h, this]
    · simp [h]
theorem there_dropE {es : IE} {k : Int} : thereE (dropE es k) k = false := by
  cases h : thereE (dropE es k) k with
  | false => rfl
  | true => obtain ⟨v, hv⟩ := there_iff.1 h; exact absurd rfl (mem_drop.1 hv).2
/-! ### Same -/
/-! ### all -/
/-! ### from -/
def fromE (es : IE) (k most : Int) : IE := (es.drop (rkE ltI es k)).take most.toNat
end Go.Proofs.Ytpbknokakooekaa

