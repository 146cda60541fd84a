/- Plain laws of numbering pairs, and of cuts of what is shrunk. -/
import Derived.Test.YtlkmlppamkidlaaGreatSqCA
import Derived.Test.YtlkmlppamkidlaaGreatSqN4
import Derived.Test.YtlkmlppamkidlaaGreatSqH
set_option linter.all false
set_option maxRecDepth 100000
set_option maxHeartbeats 2000000
section
namespace Go.Proofs.YtlkmlppamkidlaaGreat
open Go Go.Sx Go.Proofs
def nmb (m ws : List Int) : Nat → List Int × List Int
 | 0 => ([], [])
 | i + 1 => if m.getD i 0 < (i : Int) then ((nmb m ws i).1 ++ [(nmb m ws i).1.getD (m.getD i 0).toNat 0], (nmb m ws i).2.set ((nmb m ws i).1.getD (m.getD i 0).toNat 0).toNat ((nmb m ws i).2.getD ((nmb m ws i).1.getD (m.getD i 0).toNat 0).toNat 0 + ws.getD i 0))
  else ((nmb m ws i).1 ++ [((nmb m ws i).2.length : Int)], (nmb m ws i).2 ++ [ws.getD i 0])
theorem getD_app1 (l : List Int) (x : Int) (j : Nat) : (l ++ [x]).getD j 0 = if j < l.length then l.getD j 0 else if j = l.length then x else 0 := by
 rw [List.getD_eq_getElem?_getD, List.getD_eq_getElem?_getD]
 by_cases h : j < l.length
 ·rw [if_pos h, List.getElem?_append_left h]
 ·rw [if_neg h, List.getElem?_append_right (by omega)]
  by_cases h2 : j = l.length
  ·rw [if_pos h2, h2, Nat.sub_self]; rfl
  ·rw [if_neg h2]
   obtain ⟨d, hd⟩ : ∃ d, j - l.length = d + 1 := ⟨j - l.length - 1, by omega⟩
   rw [hd]; rfl
structure NbI (m ws : List Int) (i : Nat) (a v : List Int) : Prop where
 len : a.length = i
 inn : ∀ j, j < i → 0 ≤ a.getD j 0 ∧ a.getD j 0 < (v.length : Int)
 vlen : v.length ≤ i
 wt : ∀ c, c < v.length → v.getD c 0 = wtAt ws a c i
 mate : ∀ j, j < i → m.getD j 0 < (j : Int) → a.getD j 0 = a.getD (m.getD j 0).toNat 0
 rep : ∀ j, j < i → ¬ m.getD j 0 < (j : Int) → ∀ l, l < j → a.getD l 0 < a.getD j 0
 low : ∀ c, c < v.length → ∃ j, j < i ∧ ¬ m.getD j 0 < (j : Int) ∧ a.getD j 0 = (c : Int)
theorem wtAt_app {ws a : List Int} {x : Int} {i c : Nat} (h : a.length = i) : wtAt ws (a ++ [x]) c (i + 1) = wtAt ws a c i + (if x = (c : Int) then ws.getD i 0 else 0) := by
 have e : (a ++ [x]).getD i 0 = x := by rw [getD_app1, if_neg (by omega), if_pos h.symm]
 unfold wtAt
 rw [sumN_succ, e]
 congr 1
 exact sumN_congr fun t ht => by
  have e2 : (a ++ [x]).getD t 0 = a.getD t 0 := by rw [getD_app1, if_pos (by omega)]
  rw [e2]
theorem nmb_inv {m ws : List Int} (hm : RightP m) : ∀ i, i ≤ m.length → NbI m ws i (nmb m ws i).1 (nmb m ws i).2
 | 0, _ => ⟨rfl, fun j h => absurd h (Nat.not_lt_zero _), Nat.le_refl _, fun c h => absurd h (Nat.not_lt_zero _), fun j h => absurd h (Nat.not_lt_zero _), fun j h => absurd h (Nat.not_lt_zero _), fun c h => absurd h (Nat.not_lt_zero _)⟩
 | i + 1, hi => by
  have ih := nmb_inv (ws := ws) hm i (by omega)
  have hok := hm i (by omega)
  rw [nmb]
  revert ih
  generalize (nmb m ws i).1 = a
  generalize (nmb m ws i).2 = v
  intro ih
  have hl := ih.len
  have hap : ∀ x j, j < i → (a ++ [x]).getD j 0 = a.getD j 0 := fun x j hj => by rw [getD_app1, if_pos (by omega)]
  have hal : ∀ x, (a ++ [x]).getD i 0 = x := fun x => by rw [getD_app1, if_neg (by omega), if_pos hl.symm]
  split
  ·rename_i h
   have hmn : (m.getD i 0).toNat < i := by have := hok.1; omega
   have hc := ih.inn _ hmn
   generalize hcd : a.getD (m.getD i 0).toNat 0 = c at hc ⊢
   refine ⟨by rw [List.length_append, hl]; rfl, fun j hj => ?_, by rw [List.length_set]; have := ih.vlen; omega, fun d hd => ?_, fun j hj h2 => ?_, fun j hj h2 l hlj => ?_, fun d hd => ?_⟩
   ·rw [List.length_set]
    rcases Nat.lt_or_ge j i with h1 | h1
    ·rw [hap _ _ h1]; exact ih.inn j h1
    ·rw [show j = i by omega, hal]; exact hc
   ·rw [List.length_set] at hd
    rw [wtAt_app hl, getD_setI _ _ _ _ (by omega)]
    by_cases h1 : d = c.toNat
    ·rw [if_pos h1, if_pos (by omega), ← ih.wt d hd, h1]
    ·rw [if_neg h1, if_neg (by omega), ← ih.wt d hd]; omega
   ·rcases Nat.lt_or_ge j i with h1 | h1
    ·have hokj := hm j (by omega)
     rw [hap _ _ h1, hap _ _ (by have := hokj.1; omega)]; exact ih.mate j h1 h2
    ·rw [show j = i by omega, hal, hap _ _ hmn, hcd]
   ·rcases Nat.lt_or_ge j i with h1 | h1
    ·rw [hap _ _ h1, hap _ _ (by omega)]; exact ih.rep j h1 h2 l hlj
    ·exact absurd h (by rw [show i = j by omega]; exact h2)
   ·rw [List.length_set] at hd
    obtain ⟨j, hj, h1, h2⟩ := ih.low d hd
    exact ⟨j, by omega, h1, by rw [hap _ _ hj]; exact h2⟩
  ·rename_i h
   refine ⟨by rw [List.length_append, hl]; rfl, fun j hj => ?_, by rw [List.length_append]; have := ih.vlen; simp only [List.length_cons, List.length_nil]; omega, fun d hd => ?_, fun j hj h2 => ?_, fun j hj h2 l hlj => ?_, fun d hd => ?_⟩
   ·rw [List.length_append]
    rcases Nat.lt_or_ge j i with h1 | h1
    ·rw [hap _ _ h1]; have := ih.inn j h1; simp only [List.length_cons, List.length_nil]; omega
    ·rw [show j = i by omega, hal]; simp only [List.length_cons, List.length_nil]; omega
   ·rw [List.length_append] at hd
    rw [wtAt_app hl, getD_app1]
    by_cases h1 : d < v.length
    ·rw [if_pos h1, if_neg (by omega), ← ih.wt d h1]; omega
    ·have hdv : d = v.length := by simp at hd; omega
     rw [if_neg h1, if_pos hdv, if_pos (by omega)]
     have : wtAt ws a d i = 0 := by
      unfold wtAt
      rw [sumN_congr (g := fun _ => 0) (fun t ht => by have := ih.inn t ht; rw [if_neg (by omega)]), sumN_zero]
     omega
   ·rcases Nat.lt_or_ge j i with h1 | h1
    ·have hokj := hm j (by omega)
     rw [hap _ _ h1, hap _ _ (by have := hokj.1; omega)]; exact ih.mate j h1 h2
    ·exact absurd h2 (by rw [show j = i by omega]; exact h)
   ·rcases Nat.lt_or_ge j i with h1 | h1
    ·rw [hap _ _ h1, hap _ _ (by omega)]; exact ih.rep j h1 h2 l hlj
    ·rw [show j = i by omega, hal, hap _ _ (by omega)]; exact (ih.inn l (by omega)).2
   ·rw [List.length_append] at hd
    by_cases h1 : d < v.length
    ·obtain ⟨j, hj, h3, h2⟩ := ih.low d h1
     exact ⟨j, by omega, h3, by rw [hap _ _ hj]; exact h2⟩
    ·exact ⟨i, by omega, h, by rw [hal]; simp at hd; omega⟩
def inL (m ws : List Int) : List Int := (nmb m ws m.length).1
def nwL (m ws : List Int) : List Int := (nmb m ws m.length).2
def shF (n : Nat) (a : List Int) (s : Nat × List IE) (e : OpA) : Nat × List IE :=
 if s.1 ≠ 0 ∨ a.getD e.1.toNat 0 = a.getD e.2.1.toNat 0 then s else joinN s.2 n (a.getD e.1.toNat 0) (a.getD e.2.1.toNat 0) e.2.2
def shJ (n : Nat) (a : List Int) (l : List OpA) : Nat × List IE := l.foldl (shF n a) (0, List.replicate n [])
theorem shJ_snoc {n : Nat} {a : List Int} {l : List OpA} {x : OpA} : shJ n a (l ++ [x]) = shF n a (shJ n a l) x := by unfold shJ; rw [List.foldl_append]; rfl
theorem shJ_bad {n : Nat} {a : List Int} {l : List OpA} (h : (shJ n a l).1 ≠ 0) (R : List OpA) : shJ n a (l ++ R) = shJ n a l := by
 unfold shJ at *
 rw [List.foldl_append]
 generalize l.foldl (shF n a) (0, List.replicate n []) = s at *
 induction R with
 | nil => rfl
 | cons x R ih => rw [List.foldl_cons, show shF n a s x = s from if_pos (.inl h)]; exact ih
theorem shJ_wf {n : Nat} {a : List Int} (l : List OpA) : Wf (shJ n a l).2 ∧ (shJ n a l).2.length = n := by
 have key : ∀ (l : List OpA) (s : Nat × List IE), Wf s.2 → s.2.length = n → Wf (l.foldl (shF n a) s).2 ∧ (l.foldl (shF n a) s).2.length = n := by
  intro l
  induction l with
  | nil => exact fun s h1 h2 => ⟨h1, h2⟩
  | cons x l ih =>
   intro s h1 h2
   rw [List.foldl_cons]
   unfold shF
   split
   ·exact ih s h1 h2
   ·have := joinN_wf h1 h2 (a.getD x.1.toNat 0) (a.getD x.2.1.toNat 0) x.2.2
    exact ih _ this.1 this.2
 exact key l _ (wf_nil n) List.length_replicate
def liftL (q a : List Int) : List Int := a.map fun c => q.getD c.toNat 0
theorem liftL_at {q a : List Int} {j : Nat} (h : j < a.length) : (liftL q a).getD j 0 = q.getD (a.getD j 0).toNat 0 := by
 unfold liftL
 rw [List.getD_eq_getElem?_getD, List.getElem?_map, getD_some h]; rfl
end Go.Proofs.YtlkmlppamkidlaaGreat
end
