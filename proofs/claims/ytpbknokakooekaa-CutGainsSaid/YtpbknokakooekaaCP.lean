/- Plain laws of cuts. -/
import Derived.Test.YtpbknokakooekaaU7
import Derived.Test.YtpbknokakooekaaH4
namespace Go.Proofs.Ytpbknokakooekaa
set_option linter.all false
open Go Go.Sx Go.Proofs
/-- all that is between unlike parts. -/
def cutE (p : List Int) (e : OpA) : Int := if p.getD e.1.toNat 0 = p.getD e.2.1.toNat 0 then 0 else e.2.2
def cutV (T : List IE) (p : List Int) : Int := ((edgesT T).map (cutE p)).sum
def unl (p : List Int) (a b : Nat) (w : Int) : Int := if p.getD a 0 = p.getD b 0 then 0 else w
def cutM (T : List IE) (p : List Int) : Int := sumN T.length fun a => sumN T.length fun b => if a < b then unl p a b (btw T (a : Int) (b : Int)) else 0
theorem want_sum {T : List IE} (hW : Wf T) (p : List Int) (a : Nat) : ∀ k, ((wantR T a k).map (cutE p)).sum = sumN k fun b => if a < b then unl p a b (btw T (a : Int) (b : Int)) else 0
  | 0 => rfl
  | k + 1 => by
    rw [wantR_succ, List.map_append, List.sum_append, want_sum hW p a k, sumN_succ]
    have hb := hW.btw_le (a : Int) (k : Int)
    by_cases hlt : a < k
    · rw [if_pos hlt]
      by_cases hp : 0 < btw T (a : Int) (k : Int)
      · rw [if_pos ⟨hp, by omega⟩]
        simp [cutE, unl]
      · rw [if_neg (fun h => hp h.1), show btw T (a : Int) (k : Int) = 0 by omega]
        unfold unl; simp
    · rw [if_neg hlt, if_neg (fun h => hlt (by omega))]; simp
theorem cut_mat {T : List IE} (hW : Wf T) (p : List Int) : cutV T p = cutM T p := by
  have key : ∀ a, ((edgesU T a).map (cutE p)).sum = sumN a fun a => sumN T.length fun b => if a < b then unl p a b (btw T (a : Int) (b : Int)) else 0 := by
    intro a
    induction a with
    | zero => rfl
    | succ a ih => rw [edgesU_succ, List.map_append, List.sum_append, ih, sumN_succ, ← want_sum hW p a T.length, want_all hW]
  exact key T.length
def rowC (T : List IE) (p : List Int) (i : Nat) (v : Int) : Int := sumN T.length fun b => if v = p.getD b 0 then 0 else btw T (i : Int) (b : Int)
theorem btw_self0 {T : List IE} (hW : Wf T) (a : Int) : btw T a a = 0 := by
  unfold btw
  cases hg : getE (rowT T a) a with
  | none => rfl
  | some v => exact absurd rfl (hW.rkey ((getE_some ltI_ok (hW.rasc a)).1 hg)).2.2
theorem cut_rows {T : List IE} (hW : Wf T) (p : List Int) : sumN T.length (fun a => rowC T p a (p.getD a 0)) = 2 * cutM T p := by
  have hs : ∀ i j : Nat, unl p i j (btw T (i : Int) (j : Int)) = unl p j i (btw T (j : Int) (i : Int)) := fun i j => by
    rw [btw_sym hW (i : Int) (j : Int)]
    unfold unl
    by_cases h : p.getD i 0 = p.getD j 0
    · rw [if_pos h, if_pos h.symm]
    · rw [if_neg h, if_neg (fun h' => h h'.symm)]
  have h := sumN_sym (f := fun a b => unl p a b (btw T (a : Int) (b : Int))) hs (fun i => by unfold unl; rw [if_pos rfl]) T.length
  have e1 : sumN T.length (fun a => rowC T p a (p.getD a 0)) = sumN T.length fun a => sumN T.length fun b => unl p a b (btw T (a : Int) (b : Int)) := rfl
  rw [e1, h]
  congr 1
  refine sumN_congr fun a _ => sumN_congr fun b _ => ?_
  rcases Nat.lt_trichotomy a b with hab | hab | hab
  · rw [if_pos (by omega), if_pos hab]
  · rw [if_pos (by omega), if_neg (by omega), hab]
    unfold unl; rw [if_pos rfl]
  · rw [if_neg (by omega), if_neg (by omega)]
/-- what a thing gains. -/
def gainV (T : List IE) (p : List Int) (i : Nat) (v : Int) : Int := rowC T p i (p.getD i 0) - rowC T p i v
theorem cut_move {T : List IE} (hW : Wf T) {p : List Int} (hl : p.length = T.length) {i : Nat} (hi : i < T.length) (v : Int) : cutM T p - cutM T (p.set i v) = gainV T p i v := by
  have h1 := cut_rows hW p
  have h2 := cut_rows hW (p.set i v)
  have hg : ∀ j, (p.set i v).getD j 0 = if j = i then v else p.getD j 0 := fun j => getD_setI p i j v (by omega)
  have hself := btw_self0 hW (i : Int)
  have e0 : rowC T (p.set i v) i v = rowC T p i v := by
    unfold rowC
    refine sumN_congr fun b _ => ?_
    rw [hg b]
    by_cases hb : b = i
    · rw [hb, hself]; simp
    · rw [if_neg hb]
  have ea : ∀ a, a < T.length → a ≠ i → rowC T (p.set i v) a ((p.set i v).getD a 0) = rowC T p a (p.getD a 0) + ((if v = p.getD a 0 then 0 else btw T (i : Int) (a : Int)) - (if p.getD i 0 = p.getD a 0 then 0 else btw T (i : Int) (a : Int))) := by
    intro a _ hai
    rw [hg a, if_neg hai]
    unfold rowC
    rw [sumN_one (g := fun b => if p.getD a 0 = p.getD b 0 then 0 else btw T (a : Int) (b : Int)) hi (fun j _ hne => by rw [hg j, if_neg hne])]
    rw [hg i, if_pos rfl, btw_sym hW (a : Int) (i : Int)]
    congr 1
    congr 1
    · by_cases h : p.getD a 0 = v
      · rw [if_pos h, if_pos h.symm]
      · rw [if_neg h, if_neg (fun h' => h h'.symm)]
    · by_cases h : p.getD a 0 = p.getD i 0
      · rw [if_pos h, if_pos h.symm]
      · rw [if_neg h, if_neg (fun h' => h h'.symm)]
  have e2 : sumN T.length (fun a => rowC T (p.set i v) a ((p.set i v).getD a 0)) = sumN T.length (fun a => rowC T p a (p.getD a 0)) + 2 * (rowC T p i v - rowC T p i (p.getD i 0)) := by
    rw [sumN_one (g := fun a => rowC T p a (p.getD a 0) + ((if v = p.getD a 0 then 0 else btw T (i : Int) (a : Int)) - (if p.getD i 0 = p.getD a 0 then 0 else btw T (i : Int) (a : Int)))) hi ea, sumN_add]
    have e3 : sumN T.length (fun a => (if v = p.getD a 0 then 0 else btw T (i : Int) (a : Int)) - (if p.getD i 0 = p.getD a 0 then 0 else btw T (i : Int) (a : Int))) = rowC T p i v - rowC T p i (p.getD i 0) := by
      have h := sumN_add T.length (fun a => (if v = p.getD a 0 then 0 else btw T (i : Int) (a : Int)) - (if p.getD i 0 = p.getD a 0 then 0 else btw T (i : Int) (a : Int))) (fun a => if p.getD i 0 = p.getD a 0 then 0 else btw T (i : Int) (a : Int))
      have h' : sumN T.length (fun a => ((if v = p.getD a 0 then 0 else btw T (i : Int) (a : Int)) - (if p.getD i 0 = p.getD a 0 then 0 else btw T (i : Int) (a : Int))) + (if p.getD i 0 = p.getD a 0 then 0 else btw T (i : Int) (a : Int))) = rowC T p i v := sumN_congr fun a _ => by omega
      rw [h'] at h
      have h4 : sumN T.length (fun a => if p.getD i 0 = p.getD a 0 then 0 else btw T (i : Int) (a : Int)) = rowC T p i (p.getD i 0) := rfl
      omega
    rw [e3]
    have hgi : (p.set i v).getD i 0 = v := by rw [hg i, if_pos rfl]
    rw [hgi, e0, hself]
    have hz : ((if v = p.getD i 0 then (0 : Int) else 0) - (if p.getD i 0 = p.getD i 0 then 0 else 0)) = 0 := by split <;> simp
    omega
  unfold gainV
  omega
theorem rowC_in {T : List IE} (hW : Wf T) (p : List Int) (i : Nat) (v : Int) : 0 ≤ rowC T p i v ∧ rowC T p i v ≤ (T.length : Int) * 1099511627776 := by
  unfold rowC
  constructor
  · refine Int.le_trans (Int.le_of_eq (sumN_zero T.length).symm) (sumN_le fun j _ => ?_)
    have := hW.btw_le (i : Int) (j : Int)
    split <;> omega
  · rw [← sumN_const]
    refine sumN_le fun j _ => ?_
    have := hW.btw_le (i : Int) (j : Int)
    split <;> omega
theorem cutM_in {T : List IE} (hW : Wf T) (p : List Int) : 0 ≤ cutM T p ∧ cutM T p ≤ (T.length : Int) * ((T.length : Int) * 1099511627776) := by
  unfold cutM
  have hin : ∀ a, 0 ≤ sumN T.length (fun b => if a < b then unl p a b (btw T (a : Int) (b : Int)) else 0) ∧ sumN T.length (fun b => if a < b then unl p a b (btw T (a : Int) (b : Int)) else 0) ≤ (T.length : Int) * 1099511627776 := by
    intro a
    constructor
    · refine Int.le_trans (Int.le_of_eq (sumN_zero T.length).symm) (sumN_le fun j _ => ?_)
      have := hW.btw_le (a : Int) (j : Int)
      unfold unl
      split
      · split <;> omega
      · omega
    · rw [← sumN_const]
      refine sumN_le fun j _ => ?_
      have := hW.btw_le (a : Int) (j : Int)
      unfold unl
      split
      · split <;> omega
      · omega
  constructor
  · exact Int.le_trans (Int.le_of_eq (sumN_zero T.length).symm) (sumN_le fun j _ => (hin j).1)
  · rw [← sumN_const T.length ((T.length : Int) * 1099511627776)]
    exact sumN_le fun j _ => (hin j).2
/-- like parts that are made one cut no more. -/
theorem cut_mono {T : List IE} (hW : Wf T) {p q : List Int} (h : ∀ a b, a < T.length → b < T.length → p.getD a 0 = p.getD b 0 → q.getD a 0 = q.getD b 0) : cutM T q ≤ cutM T p := by
  unfold cutM
  refine sumN_le fun a ha => sumN_le fun b hb => ?_
  have := hW.btw_le (a : Int) (b : Int)
  unfold unl
  split
  · by_cases h1 : p.getD a 0 = p.getD b 0
    · rw [if_pos h1, if_pos (h a b ha hb h1)]
      exact Int.le_refl 0
    · rw [if_neg h1]
      split <;> omega
  · exact Int.le_refl 0
/-! ### what a thing gains, row by row -/
def gnF (p : List Int) (i : Nat) (to : Int) (b : Nat) (w : Int) : Int := if p.getD b 0 = to then w else if p.getD b 0 = p.getD i 0 then -w else 0
def gnR (p : List Int) (i : Nat) (to : Int) (es : IE) : Int := (es.map fun x => gnF p i to x.1.toNat x.2).sum
theorem gnR_snoc (p : List Int) (i : Nat) (to : Int) (es : IE) (x : Int × Int) : gnR p i to (es ++ [x]) = gnR p i to es + gnF p i to x.1.toNat x.2 := by
  unfold gnR; rw [List.map_append, List.sum_append]; simp
theorem gn_fold {T : List IE} (hW : Wf T) (p : List Int) (i : Nat) (to : Int) : ∀ k, ((mineU T i k).map (fun x => gnF p i to x.2.1.toNat x.2.2)).sum = sumN k fun b => gnF p i to b (btw T (i : Int) (b : Int))
  | 0 => rfl
  | k + 1 => by
    rw [mineU_succ, List.map_append, List.sum_append, gn_fold hW p i to k, sumN_succ]
    have hb := hW.btw_le (i : Int) (k : Int)
    by_cases hp : 0 < btw T (i : Int) (k : Int)
    · rw [if_pos hp]; simp
    · rw [if_neg hp, show btw T (i : Int) (k : Int) = 0 by omega]; unfold gnF; simp
theorem gn_all {T : List IE} (hW : Wf T) {p : List Int} {i : Nat} {to : Int} (h : p.getD i 0 ≠ to) : gnR p i to (rowT T (i : Int)) = gainV T p i to := by
  have h1 : gnR p i to (rowT T (i : Int)) = sumN T.length fun b => gnF p i to b (btw T (i : Int) (b : Int)) := by
    rw [← gn_fold hW p i to T.length, mine_all hW]
    unfold nearN gnR
    rw [List.map_map]; rfl
  rw [h1]
  unfold gainV rowC
  have h2 := sumN_add T.length (fun b => gnF p i to b (btw T (i : Int) (b : Int))) (fun b => if to = p.getD b 0 then 0 else btw T (i : Int) (b : Int))
  have h3 : sumN T.length (fun b => gnF p i to b (btw T (i : Int) (b : Int)) + (if to = p.getD b 0 then 0 else btw T (i : Int) (b : Int))) = sumN T.length (fun b => if p.getD i 0 = p.getD b 0 then 0 else btw T (i : Int) (b : Int)) := sumN_congr fun b _ => by
    unfold gnF
    by_cases h4 : p.getD b 0 = to
    · rw [if_pos h4, if_pos h4.symm, if_neg (fun h5 => h (h5.trans h4))]; omega
    · rw [if_neg h4, if_neg (show ¬ to = p.getD b 0 from fun h5 => h4 h5.symm)]
      by_cases h5 : p.getD b 0 = p.getD i 0
      · rw [if_pos h5, if_pos h5.symm]; omega
      · rw [if_neg h5, if_neg (fun h6 => h5 h6.symm)]; omega
  rw [h3] at h2
  omega
theorem gnR_in {p : List Int} {i : Nat} {to : Int} : ∀ {es : IE}, (∀ x ∈ es, 1 ≤ x.2 ∧ x.2 ≤ 1099511627776) → -((es.length : Int) * 1099511627776) ≤ gnR p i to es ∧ gnR p i to es ≤ (es.length : Int) * 1099511627776
  | [], _ => ⟨by simp [gnR], by simp [gnR]⟩
  | x :: es, h => by
    have ih := gnR_in (p := p) (i := i) (to := to) (es := es) fun y hy => h y (List.mem_cons_of_mem _ hy)
    have hx := h x List.mem_cons_self
    have e : gnR p i to (x :: es) = gnF p i to x.1.toNat x.2 + gnR p i to es := by unfold gnR; rw [List.map_cons, List.sum_cons]
    rw [e, List.length_cons, Int.natCast_succ, Int.add_mul, Int.one_mul]
    unfold gnF
    split
    · omega
    · split <;> omega
def gainZ (T : List IE) (p : List Int) (k i to : Int) : Int := if CutR T.length p k ∧ 0 ≤ i ∧ i < (p.length : Int) ∧ 0 ≤ to ∧ to < k then gainV T p i.toNat to else 0
theorem gain_self {T : List IE} {p : List Int} {i : Nat} {to : Int} (h : p.getD i 0 = to) : gainV T p i to = 0 := by subst h; unfold gainV; omega
theorem rowC_set {T : List IE} (hW : Wf T) {p : List Int} (hl : p.length = T.length) {i : Nat} (hi : i < T.length) (to v : Int) : rowC T (p.set i to) i v = rowC T p i v := by
  have hself := btw_self0 hW (i : Int)
  unfold rowC
  refine sumN_congr fun b _ => ?_
  rw [getD_setI p i b to (by omega)]
  by_cases hb : b = i
  · rw [hb, hself]; simp
  · rw [if_neg hb]
theorem gain_back {T : List IE} (hW : Wf T) {p : List Int} (hl : p.length = T.length) {i : Nat} (hi : i < T.length) (to : Int) : gainV T (p.set i to) i (p.getD i 0) = -gainV T p i to := by
  unfold gainV
  rw [rowC_set hW hl hi, rowC_set hW hl hi, getD_setI p i i to (by omega), if_pos rfl]
  omega
theorem cutV_in {T : List IE} (hW : Wf T) (p : List Int) : 0 ≤ cutV T p ∧ cutV T p ≤ (T.length : Int) * ((T.length : Int) * 1099511627776) := by
  rw [cut_mat hW]; exact cutM_in hW p
theorem cutE_in {T : List IE} (hW : Wf T) (p : List Int) : ∀ {l : List OpA}, (∀ x ∈ l, 1 ≤ x.2.2 ∧ x.2.2 ≤ 1099511627776) → 0 ≤ (l.map (cutE p)).sum
  | [], _ => Int.le_refl 0
  | x :: l, h => by
    have ih := cutE_in hW p (l := l) fun y hy => h y (List.mem_cons_of_mem _ hy)
    have hx := h x List.mem_cons_self
    rw [List.map_cons, List.sum_cons]
    unfold cutE at ih ⊢
    split <;> omega
end Go.Proofs.Ytpbknokakooekaa

