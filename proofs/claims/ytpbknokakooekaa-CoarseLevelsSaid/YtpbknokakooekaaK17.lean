/- Caps ahead of others, in another order, by their places. -/
import Derived.Test.YtpbknokakooekaaKA
namespace Go.Sx
set_option linter.all false
open Go Go.Shelf Go.Proofs
theorem St.pickT {M : Nat → Prop} {w0 w : World} {P P' X : List Cap} (H : St M w0 w (P ++ X) []) (is : List Nat) (h : P'.map Option.some = is.map (fun i => P[i]?)) (hn : is.Nodup) : St M w0 w (P' ++ X) [] := by
  have hlt : ∀ i ∈ is, i < P.length := by
    intro i hi
    have h1 : P[i]? ∈ is.map (fun i => P[i]?) := List.mem_map.2 ⟨i, hi, rfl⟩
    rw [← h] at h1
    obtain ⟨c, _, hc⟩ := List.mem_map.1 h1
    exact (List.getElem?_eq_some_iff.1 hc.symm).1
  refine H.pick (is ++ (List.range X.length).map (· + P.length)) ?_ ?_
  · rw [List.map_append, List.map_append, h]
    congr 1
    · exact List.map_congr_left fun i hi => (List.getElem?_append_left (hlt i hi)).symm
    · refine List.ext_getElem (by simp) fun j h1 h2 => ?_
      simp only [List.length_map] at h1
      simp only [List.getElem_map, List.getElem_range]
      rw [List.getElem?_append_right (by omega), Nat.add_sub_cancel, List.getElem?_eq_getElem h1]
  · refine List.nodup_append.2 ⟨hn, ?_, ?_⟩
    · unfold List.Nodup
      rw [List.pairwise_map]
      exact List.pairwise_lt_range.imp (fun h => by omega)
    · intro a ha b hb
      obtain ⟨c, _, rfl⟩ := List.mem_map.1 hb
      have := hlt a ha
      omega
end Go.Sx

