/- The statement's function 'sandtablelaw08.GraphPlays' returns true at every input, and changes nothing that was there. -/
import Derived.Test.YtpbknokakooekaaH3
namespace Go.Proofs.Ytpbknokakooekaa
set_option linter.all false
open Go Go.Sx Go.Proofs
set_option maxRecDepth 100000
set_option maxHeartbeats 2000000
def mineU (T : List IE) (a k : Nat) : List OpA := ((List.range k).filter fun (b : Nat) => decide (0 < btw T (a : Int) (b : Int))).map fun (b : Nat) => ((a : Int), (b : Int), btw T (a : Int) (b : Int))
def wantR (T : List IE) (a k : Nat) : List OpA := ((List.range k).filter fun (b : Nat) => decide (0 < btw T (a : Int) (b : Int) ∧ (a : Int) < (b : Int))).map fun (b : Nat) => ((a : Int), (b : Int), btw T (a : Int) (b : Int))
theorem mineU_succ (T : List IE) (a k : Nat) : mineU T a (k + 1) = mineU T a k ++ if 0 < btw T (a : Int) (k : Int) then [((a : Int), (k : Int), btw T (a : Int) (k : Int))] else [] := by
  unfold mineU
  rw [List.range_succ, List.filter_append, List.map_append]
  congr 1
  by_cases h : 0 < btw T (a : Int) (k : Int) <;> simp [h]
theorem wantR_succ (T : List IE) (a k : Nat) : wantR T a (k + 1) = wantR T a k ++ if 0 < btw T (a : Int) (k : Int) ∧ (a : Int) < (k : Int) then [((a : Int), (k : Int), btw T (a : Int) (k : Int))] else [] := by
  unfold wantR
  rw [List.range_succ, List.filter_append, List.map_append]
  congr 1
  by_cases h : 0 < btw T (a : Int) (k : Int) ∧ (a : Int) < (k : Int)
  · rw [if_pos h]; simp only [List.filter_cons, List.filter_nil, decide_eq_true h, if_true]; rfl
  · rw [if_neg h]; simp only [List.filter_cons, List.filter_nil, decide_eq_false h]; rfl
/-- the row of a thing, out of what is between it and each. -/
theorem row_range {T : List IE} (hW : Wf T) (a : Int) (p : Nat → Bool) (es : IE) (ha : Asc ltI es) (hp : ∀ k v, getE es k = some v ↔ getE (rowT T a) k = some v ∧ p k.toNat = true) :
    es = ((List.range T.length).filter fun (b : Nat) => decide (0 < btw T a (b : Int)) && p b).map fun (b : Nat) => ((b : Int), btw T a (b : Int)) := by
  have h1 : Asc ltI (((List.range T.length).filter fun (b : Nat) => decide (0 < btw T a (b : Int)) && p b).map fun (b : Nat) => ((b : Int), btw T a (b : Int))) := by
    unfold Asc
    rw [List.pairwise_map]
    refine List.Pairwise.filter _ ?_
    exact List.pairwise_lt_range.imp (fun h => by unfold ltI; exact decide_eq_true (by simp only; omega))
  refine asc_ext ltI_ok ha h1 fun x => ?_
  rw [show x = (x.1, x.2) from rfl, ← getE_some ltI_ok ha, hp, List.mem_map]
  constructor
  · rintro ⟨h2, h3⟩
    have hm := (getE_some ltI_ok (hW.rasc a)).1 h2
    have hk := hW.rkey hm
    have hv := hW.rval hm
    simp only at hk hv
    have hb : btw T a x.1 = x.2 := by unfold btw; rw [h2]; rfl
    have e : (x.1.toNat : Int) = x.1 := by omega
    refine ⟨x.1.toNat, ?_, by rw [e, hb]⟩
    rw [List.mem_filter, List.mem_range, e, hb, h3]
    exact ⟨by omega, by rw [decide_eq_true (show 0 < x.2 by omega)]; rfl⟩
  · rintro ⟨b, hb, he⟩
    rw [List.mem_filter, Bool.and_eq_true] at hb
    have h4 := of_decide_eq_true hb.2.1
    have e1 : x.1 = (b : Int) := (congrArg Prod.fst he).symm
    have e2 : x.2 = btw T a (b : Int) := (congrArg Prod.snd he).symm
    rw [e1, e2, Int.toNat_natCast]
    refine ⟨?_, hb.2.2⟩
    unfold btw at h4 ⊢
    cases hg : getE (rowT T a) (b : Int) with
    | none => rw [hg] at h4; exact absurd h4 (by decide)
    | some v => rfl
theorem mine_all {T : List IE} (hW : Wf T) (a : Nat) : mineU T a T.length = nearN T (a : Int) := by
  have h := row_range hW (a : Int) (fun _ => true) (rowT T (a : Int)) (hW.rasc _) (fun k v => by simp)
  unfold nearN mineU
  conv => rhs; rw [h]
  rw [List.map_map]
  simp only [Bool.and_true]
  rfl
theorem want_all {T : List IE} (hW : Wf T) (a : Nat) : wantR T a T.length = edgeR T a := by
  have hg := hW.gasc a
  have h := row_range hW (a : Int) (fun b => decide (a ≤ b)) ((T.getD a []).drop (rkE ltI (T.getD a []) (a : Int))) (List.Pairwise.drop hg) (fun k v => by
    rw [get_drop hW, rowT_nat]
    by_cases hk : (a : Int) ≤ k
    · rw [if_pos hk]
      exact ⟨fun h => ⟨h, decide_eq_true (by omega)⟩, fun h => h.1⟩
    · rw [if_neg hk]
      constructor
      · intro h; cases h
      · rintro ⟨h1, h2⟩
        exfalso
        have hm := (getE_some ltI_ok hg).1 h1
        rw [← rowT_nat] at hm
        have := (hW.rkey hm).1
        have := of_decide_eq_true h2
        simp only at *
        omega)
  unfold edgeR wantR
  conv => rhs; rw [h]
  rw [List.map_map]
  have e : (List.range T.length).filter (fun (b : Nat) => decide (0 < btw T (a : Int) (b : Int) ∧ (a : Int) < (b : Int))) = (List.range T.length).filter (fun (b : Nat) => decide (0 < btw T (a : Int) (b : Int)) && decide (a ≤ b)) := by
    apply List.filter_congr
    intro b _
    rw [Bool.eq_iff_iff, decide_eq_true_iff, Bool.and_eq_true, decide_eq_true_iff, decide_eq_true_iff]
    constructor
    · rintro ⟨h1, h2⟩; exact ⟨h1, by omega⟩
    · rintro ⟨h1, h2⟩
      refine ⟨h1, ?_⟩
      have : a ≠ b := by
        intro e
        subst e
        unfold btw at h1
        cases hg2 : getE (rowT T (a : Int)) (a : Int) with
        | none => rw [hg2] at h1; exact absurd h1 (by decide)
        | some v => exact absurd rfl (hW.rkey ((getE_some ltI_ok (hW.rasc _)).1 hg2)).2.2
      omega
  rw [e]
  rfl
theorem mineU_len (T : List IE) (a k : Nat) : (mineU T a k).length ≤ k := by unfold mineU; rw [List.length_map]; exact Nat.le_trans (List.length_filter_le _ _) (by rw [List.length_range]; exact Nat.le_refl _)
theorem wantR_len (T : List IE) (a k : Nat) : (wantR T a k).length ≤ k := by unfold wantR; rw [List.length_map]; exact Nat.le_trans (List.length_filter_le _ _) (by rw [List.length_range]; exact Nat.le_refl _)
end Go.Proofs.Ytpbknokakooekaa

