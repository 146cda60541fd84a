/- Caps in another order, by their places. -/
import Derived.Test.YtpbknokakooekaaK11
namespace Go.Sx
set_option linter.all false
open Go Go.Shelf Go.Proofs
theorem St.pick {M : Nat → Prop} {w0 w : World} {L L' : List Cap} (H : St M w0 w L []) (is : List Nat) (h : L'.map Option.some = is.map (fun i => L[i]?)) (hn : is.Nodup) : St M w0 w L' [] := by
  have hget : ∀ i (hi : i < L'.length), ∃ hj : i < is.length, L[is[i]]? = some L'[i] := by
    intro i hi
    have h1 := congrArg (fun l => l[i]?) h
    simp only [List.getElem?_map, List.getElem?_eq_getElem hi, Option.map_some] at h1
    cases h2 : is[i]? with
    | none => rw [h2] at h1; cases h1
    | some k =>
      rw [h2] at h1
      obtain ⟨hj, hk⟩ := List.getElem?_eq_some_iff.1 h2
      refine ⟨hj, ?_⟩
      rw [hk]
      exact (Option.some.inj h1).symm
  have hmem : ∀ c ∈ L', c ∈ L := by
    intro c hc
    obtain ⟨i, hi, rfl⟩ := List.mem_iff_getElem.1 hc
    obtain ⟨_, h1⟩ := hget i hi
    exact List.mem_of_getElem? h1
  have H0 : St0 M w0 w (L ++ []) := H
  rw [List.append_nil] at H0
  show St0 M w0 w (L' ++ [])
  rw [List.append_nil]
  refine ⟨H0.os, H0.tape, H0.output, H0.size, H0.old, fun c hc => H0.oks c (hmem c hc), fun c hc => H0.own c (hmem c hc), ?_⟩
  rw [List.pairwise_iff_getElem]
  intro i j hi hj hij
  obtain ⟨hi', h1⟩ := hget i hi
  obtain ⟨hj', h2⟩ := hget j hj
  obtain ⟨a1, b1⟩ := List.getElem?_eq_some_iff.1 h1
  obtain ⟨a2, b2⟩ := List.getElem?_eq_some_iff.1 h2
  have hne : is[i] ≠ is[j] := fun e => by
    have := (List.getElem_inj hn).1 e
    omega
  intro b hb hb'
  rcases Nat.lt_or_gt_of_ne hne with hlt | hlt
  · have := List.pairwise_iff_getElem.1 H0.apart is[i] is[j] a1 a2 hlt
    rw [b1, b2] at this
    exact this b hb hb'
  · have := List.pairwise_iff_getElem.1 H0.apart is[j] is[i] a2 a1 hlt
    rw [b1, b2] at this
    exact this b hb' hb
theorem St.toNil {M : Nat → Prop} {w0 w : World} {L : List Cap} {D : List Nat} (H : St M w0 w L D) : St M w0 w (L ++ D.map .dfr) [] := by
  show St0 M w0 w ((L ++ D.map .dfr) ++ [])
  rw [List.append_nil]; exact H
theorem swap_in (C L X X2 : List Cap) : ((C ++ (L ++ X)) ++ X2).Perm (L ++ (C ++ (X ++ X2))) := by
  rw [List.append_assoc, List.append_assoc]; exact List.perm_append_comm_assoc _ _ _
theorem row_i64s {w : World} {a : Option Addr} {len cap : Nat} {zs : List Int}
    (h : (a = none ∧ len = 0 ∧ cap = 0 ∧ zs = []) ∨ ∃ x, a = some x ∧ len ≤ cap ∧ cap ≤ maxLen ∧ zs.length = cap ∧ (∀ i, i < zs.length → w.cell? (x.add i) = some (.int .i64 (zs.getD i 0))) ∧ ∀ n ∈ zs, (Lit.int .i64 n).wf = true) :
    ∃ xs : List Int, xs.length = len ∧ xs.length ≤ 9223372036854775807 ∧ len ≤ cap ∧ SlH (hp w) a (ints .i64 xs) ∧ ∀ n ∈ xs, -9223372036854775808 ≤ n ∧ n ≤ 9223372036854775807 := by
  obtain ⟨xs, h1, h2, h3, h4⟩ := row_ints h
  refine ⟨xs, h1, ?_, h2, h3, fun n hn => int_of_i64 (h4 n hn)⟩
  rcases h with ⟨_, h, _⟩ | ⟨_, _, h5, h6, _⟩
  · omega
  · have : maxLen = 9223372036854775807 := rfl
    omega
end Go.Sx

