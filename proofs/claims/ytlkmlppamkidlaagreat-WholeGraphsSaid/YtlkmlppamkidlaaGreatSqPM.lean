/- Plain laws of parts: mending. -/
import Derived.Test.YtlkmlppamkidlaaGreatSqCA
import Derived.Test.YtlkmlppamkidlaaGreatSqH
set_option linter.all false
set_option maxRecDepth 100000
set_option maxHeartbeats 2000000
section
namespace Go.Proofs.YtlkmlppamkidlaaGreat
open Go Go.Sx Go.Proofs
def cnAt (p : List Int) (c : Nat) (i : Nat) : Int := sumN i fun t => if p.getD t 0 = (c : Int) then 1 else 0
def cnL (p : List Int) (k i : Nat) : List Int := (List.range k).map fun c => cnAt p c i
theorem cnL_len (p : List Int) (k i : Nat) : (cnL p k i).length = k := by simp [cnL]
theorem cnL_at {p : List Int} {k i c : Nat} (h : c < k) : (cnL p k i).getD c 0 = cnAt p c i := by
 unfold cnL
 rw [List.getD_eq_getElem?_getD, List.getElem?_map, List.getElem?_range h]; rfl
theorem cnL_zero (p : List Int) (k : Nat) : cnL p k 0 = List.replicate k 0 := by
 refine extI (by rw [cnL_len, List.length_replicate]) fun j hj => ?_
 rw [cnL_len] at hj
 rw [cnL_at hj, List.getD_eq_getElem?_getD, List.getElem?_replicate, if_pos hj]; rfl
theorem cnL_succ {p : List Int} {k i : Nat} (hp : ¬ badP (k : Int) (p.getD i 0)) : cnL p k (i + 1) = (cnL p k i).set (p.getD i 0).toNat ((cnL p k i).getD (p.getD i 0).toNat 0 + 1) := by
 unfold badP at hp
 refine extI (by rw [List.length_set, cnL_len, cnL_len]) fun j hj => ?_
 rw [cnL_len] at hj
 rw [getD_setI _ _ _ _ (by rw [cnL_len]; omega), cnL_at hj, cnL_at hj, cnL_at (by omega)]
 unfold cnAt
 rw [sumN_succ]
 by_cases h : j = (p.getD i 0).toNat
 ·rw [if_pos h, if_pos (by omega), h]
 ·rw [if_neg h, if_neg (by omega)]; omega
theorem cnAt_in (p : List Int) (c i : Nat) : 0 ≤ cnAt p c i ∧ cnAt p c i ≤ (i : Int) := by
 have h1 := sumN_le (n := i) (f := fun _ => (0 : Int)) (g := fun t => if p.getD t 0 = (c : Int) then 1 else 0) (fun j _ => by split <;> omega)
 have h2 := sumN_le (n := i) (f := fun t => if p.getD t 0 = (c : Int) then (1 : Int) else 0) (g := fun _ => 1) (fun j _ => by split <;> omega)
 rw [sumN_zero] at h1
 rw [sumN_const] at h2
 unfold cnAt; omega
theorem cnAt_set {p : List Int} {z n c : Nat} (hz : z < n) (hl : p.length = n) (v : Int) : cnAt (p.set z v) c n = cnAt p c n + ((if v = (c : Int) then 1 else 0) - (if p.getD z 0 = (c : Int) then 1 else 0)) := by
 unfold cnAt
 rw [sumN_one (g := fun t => if p.getD t 0 = (c : Int) then 1 else 0) hz (fun j _ hne => by rw [getD_setI _ _ _ _ (by omega), if_neg hne]), getD_setI _ _ _ _ (by omega), if_pos rfl]
theorem wtAt_setM {ws p : List Int} {z n c : Nat} (hz : z < n) (hl : p.length = n) (v : Int) : wtAt ws (p.set z v) c n = wtAt ws p c n + ((if v = (c : Int) then ws.getD z 0 else 0) - (if p.getD z 0 = (c : Int) then ws.getD z 0 else 0)) := by
 unfold wtAt
 rw [sumN_one (g := fun t => if p.getD t 0 = (c : Int) then ws.getD t 0 else 0) hz (fun j _ hne => by rw [getD_setI _ _ _ _ (by omega), if_neg hne]), getD_setI _ _ _ _ (by omega), if_pos rfl]
theorem cn_total {p : List Int} {k : Nat} : ∀ n, (∀ i, i < n → ¬ badP (k : Int) (p.getD i 0)) → sumN k (fun c => cnAt p c n) = (n : Int)
 | 0, _ => sumN_zero k
 | n + 1, h => by
  have ih := cn_total n fun i hi => h i (by omega)
  have hb := h n (by omega)
  unfold badP at hb
  have e : ∀ j, cnAt p j (n + 1) = cnAt p j n + (if j = (p.getD n 0).toNat then 1 else 0) := fun j => by
   unfold cnAt; rw [sumN_succ]
   congr 1
   by_cases h : j = (p.getD n 0).toNat
   ·rw [if_pos h, if_pos (by omega)]
   ·rw [if_neg h, if_neg (by omega)]
  rw [sumN_congr (fun j _ => e j), sumN_add, sumN_upd (g := fun _ => 0) 1 (by omega) rfl, sumN_zero, ih]
  push_cast; omega
theorem cn_pos {p : List Int} {c : Nat} : ∀ n, 1 ≤ cnAt p c n → ∃ i, i < n ∧ p.getD i 0 = (c : Int)
 | 0, h => by unfold cnAt at h; simp [sumN] at h
 | n + 1, h => by
  unfold cnAt at h
  rw [sumN_succ] at h
  by_cases hp : p.getD n 0 = (c : Int)
  ·exact ⟨n, by omega, hp⟩
  ·rw [if_neg hp] at h
   obtain ⟨i, hi, h1⟩ := cn_pos (p := p) (c := c) n (by unfold cnAt; omega)
   exact ⟨i, by omega, h1⟩
theorem cn_none {p : List Int} {c n : Nat} (h : cnAt p c n = 0) : ∀ i, i < n → p.getD i 0 ≠ (c : Int) := by
 induction n with
 | zero => exact fun i hi => absurd hi (Nat.not_lt_zero _)
 | succ n ih =>
  have h1 := (cnAt_in p c n).1
  have h2 : cnAt p c (n + 1) = cnAt p c n + (if p.getD n 0 = (c : Int) then 1 else 0) := sumN_succ _ _
  intro i hi hp
  rcases Nat.lt_or_ge i n with h3 | h3
  ·exact ih (by rw [h2] at h; split at h <;> omega) i h3 hp
  ·rw [show i = n by omega] at hp
   rw [h2, if_pos hp] at h; omega
theorem wt_none {ws p : List Int} {c n : Nat} (h : ∀ i, i < n → p.getD i 0 ≠ (c : Int)) : wtAt ws p c n = 0 := by
 unfold wtAt
 rw [sumN_congr (g := fun _ => 0) (fun t ht => if_neg (h t ht)), sumN_zero]
def hvM (W N : List Int) (least : Int) : Nat → Int
 | 0 => -1
 | k + 1 => if least ≤ N.getD k 0 ∧ (hvM W N least k = -1 ∨ W.getD (hvM W N least k).toNat 0 < W.getD k 0) then (k : Int) else hvM W N least k
theorem hvM_char (W N : List Int) (least : Int) : ∀ k,
  (hvM W N least k = -1 ∧ ∀ j, j < k → N.getD j 0 < least) ∨
  (∃ z : Nat, z < k ∧ hvM W N least k = (z : Int) ∧ least ≤ N.getD z 0 ∧ ∀ j, j < k → least ≤ N.getD j 0 → W.getD j 0 ≤ W.getD z 0)
 | 0 => .inl ⟨rfl, fun j h => absurd h (Nat.not_lt_zero _)⟩
 | k + 1 => by
  have ih := hvM_char W N least k
  rw [hvM]
  by_cases hm : least ≤ N.getD k 0
  ·rcases ih with ⟨h1, h2⟩ | ⟨z, hz, h1, h2, h3⟩
   ·rw [if_pos ⟨hm, .inl h1⟩]
    refine .inr ⟨k, by omega, rfl, hm, fun j hj hmj => ?_⟩
    rcases Nat.lt_or_ge j k with h | h
    ·have := h2 j h; omega
    ·rw [show j = k by omega]; exact Int.le_refl _
   ·rw [h1, Int.toNat_natCast]
    by_cases hg : W.getD z 0 < W.getD k 0
    ·rw [if_pos ⟨hm, .inr hg⟩]
     refine .inr ⟨k, by omega, rfl, hm, fun j hj hmj => ?_⟩
     rcases Nat.lt_or_ge j k with h | h
     ·have := h3 j h hmj; omega
     ·rw [show j = k by omega]; exact Int.le_refl _
    ·rw [if_neg (by rintro ⟨_, h' | h'⟩ <;> omega)]
     refine .inr ⟨z, by omega, rfl, h2, fun j hj hmj => ?_⟩
     rcases Nat.lt_or_ge j k with h | h
     ·exact h3 j h hmj
     ·rw [show j = k by omega]; omega
  ·rw [if_neg (fun h => hm h.1)]
   rcases ih with ⟨h1, h2⟩ | ⟨z, hz, h1, h2, h3⟩
   ·refine .inl ⟨h1, fun j hj => ?_⟩
    rcases Nat.lt_or_ge j k with h | h
    ·exact h2 j h
    ·rw [show j = k by omega]; omega
   ·refine .inr ⟨z, by omega, h1, h2, fun j hj hmj => ?_⟩
    rcases Nat.lt_or_ge j k with h | h
    ·exact h3 j h hmj
    ·exact absurd hmj (by rw [show j = k by omega]; exact hm)
def ltM (W : List Int) : Nat → Int
 | 0 => 0
 | k + 1 => if W.getD k 0 < W.getD (ltM W k).toNat 0 then (k : Int) else ltM W k
theorem ltM_char (W : List Int) (k : Nat) (hk : 1 ≤ k) : ∃ z : Nat, z < k ∧ ltM W k = (z : Int) ∧ ∀ j, j < k → W.getD z 0 ≤ W.getD j 0 := by
 have key : ∀ k, ∃ z : Nat, (k = 0 ∧ z = 0 ∨ z < k) ∧ ltM W k = (z : Int) ∧ ∀ j, j < k → W.getD z 0 ≤ W.getD j 0 := by
  intro k
  induction k with
  | zero => exact ⟨0, .inl ⟨rfl, rfl⟩, rfl, fun j h => absurd h (Nat.not_lt_zero _)⟩
  | succ k ih =>
   obtain ⟨z, hz, h1, h2⟩ := ih
   rw [ltM, h1, Int.toNat_natCast]
   split
   ·rename_i h
    refine ⟨k, .inr (by omega), rfl, fun j hj => ?_⟩
    rcases Nat.lt_or_ge j k with h3 | h3
    ·have := h2 j h3; omega
    ·rw [show j = k by omega]; exact Int.le_refl _
   ·refine ⟨z, .inr (by omega), rfl, fun j hj => ?_⟩
    rcases Nat.lt_or_ge j k with h3 | h3
    ·exact h2 j h3
    ·rw [show j = k by omega]; omega
 obtain ⟨z, hz, h1, h2⟩ := key k
 exact ⟨z, by omega, h1, h2⟩
def ixM (N : List Int) : Nat → Int
 | 0 => -1
 | k + 1 => if ixM N k ≠ -1 then ixM N k else if N.getD k 0 = 0 then (k : Int) else -1
theorem ixM_char (N : List Int) : ∀ k, (ixM N k = -1 ∧ ∀ j, j < k → N.getD j 0 ≠ 0) ∨ (∃ z : Nat, z < k ∧ ixM N k = (z : Int) ∧ N.getD z 0 = 0 ∧ ∀ j, j < z → N.getD j 0 ≠ 0)
 | 0 => .inl ⟨rfl, fun j h => absurd h (Nat.not_lt_zero _)⟩
 | k + 1 => by
  rcases ixM_char N k with ⟨h1, h2⟩ | ⟨z, hz, h1, h2, h3⟩
  ·rw [ixM, h1, if_neg (fun h => h rfl)]
   split
   ·rename_i h; exact .inr ⟨k, by omega, rfl, h, h2⟩
   ·rename_i h
    refine .inl ⟨rfl, fun j hj => ?_⟩
    rcases Nat.lt_or_ge j k with h3 | h3
    ·exact h2 j h3
    ·rw [show j = k by omega]; exact h
  ·rw [ixM, h1, if_pos (by omega)]
   exact .inr ⟨z, by omega, rfl, h2, h3⟩
def bsS (T : List IE) (p : List Int) (k fr to : Int) : Nat → Int × Int
 | 0 => (-1, 0)
 | i + 1 => if p.getD i 0 = fr ∧ ((bsS T p k fr to i).1 = -1 ∨ (bsS T p k fr to i).2 < gainZ T p k (i : Int) to) then ((i : Int), gainZ T p k (i : Int) to) else bsS T p k fr to i
theorem bsS_char (T : List IE) (p : List Int) (k fr to : Int) : ∀ n, ((bsS T p k fr to n).1 = -1 ∧ ∀ j, j < n → p.getD j 0 ≠ fr) ∨ (∃ z : Nat, z < n ∧ (bsS T p k fr to n).1 = (z : Int) ∧ p.getD z 0 = fr)
 | 0 => .inl ⟨rfl, fun j h => absurd h (Nat.not_lt_zero _)⟩
 | n + 1 => by
  rw [bsS]
  by_cases hp : p.getD n 0 = fr
  ·rcases bsS_char T p k fr to n with ⟨h1, h2⟩ | ⟨z, hz, h1, h2⟩
   ·rw [if_pos ⟨hp, .inl h1⟩]; exact .inr ⟨n, by omega, rfl, hp⟩
   ·split
    ·exact .inr ⟨n, by omega, rfl, hp⟩
    ·exact .inr ⟨z, by omega, h1, h2⟩
  ·rw [if_neg (fun h => hp h.1)]
   rcases bsS_char T p k fr to n with ⟨h1, h2⟩ | ⟨z, hz, h1, h2⟩
   ·refine .inl ⟨h1, fun j hj => ?_⟩
    rcases Nat.lt_or_ge j n with h3 | h3
    ·exact h2 j h3
    ·rw [show j = n by omega]; exact hp
   ·exact .inr ⟨z, by omega, h1, h2⟩
def mdO (ws : List Int) (k : Nat) (p : List Int) : Option (Int × Int) :=
 if hvM (wtL ws p k p.length) (cnL p k p.length) 1 k ≠ -1 ∧ boundV ws (k : Int) < (wtL ws p k p.length).getD (hvM (wtL ws p k p.length) (cnL p k p.length) 1 k).toNat 0 then some (hvM (wtL ws p k p.length) (cnL p k p.length) 1 k, ltM (wtL ws p k p.length) k)
 else if ixM (cnL p k p.length) k = -1 ∨ p.length < k then none
 else some (hvM (wtL ws p k p.length) (cnL p k p.length) 2 k, ixM (cnL p k p.length) k)
def goodM (ws : List Int) (k : Nat) (p : List Int) : Prop := (∀ c, c < k → wtAt ws p c p.length ≤ boundV ws (k : Int)) ∧ (p.length < k ∨ ∀ c, c < k → cnAt p c p.length ≠ 0)
def exM (ws : List Int) (k : Nat) (p : List Int) : Int := sumN k fun c => max 0 (wtAt ws p c p.length - boundV ws (k : Int))
def emM (k : Nat) (p : List Int) : Int := sumN k fun c => if cnAt p c p.length = 0 then 1 else 0
def muM (ws : List Int) (k : Nat) (p : List Int) : Nat := (exM ws k p).toNat * (k + 1) + (emM k p).toNat
theorem exM_nn (ws : List Int) (k : Nat) (p : List Int) : 0 ≤ exM ws k p := by
 have h1 := sumN_le (n := k) (f := fun _ => (0 : Int)) (g := fun c => max 0 (wtAt ws p c p.length - boundV ws (k : Int))) (fun j _ => by omega)
 rw [sumN_zero] at h1; exact h1
theorem emM_in (k : Nat) (p : List Int) : 0 ≤ emM k p ∧ emM k p ≤ (k : Int) := by
 have h1 := sumN_le (n := k) (f := fun _ => (0 : Int)) (g := fun c => if cnAt p c p.length = 0 then (1 : Int) else 0) (fun j _ => by split <;> omega)
 have h2 := sumN_le (n := k) (f := fun c => if cnAt p c p.length = 0 then (1 : Int) else 0) (g := fun _ => 1) (fun j _ => by split <;> omega)
 rw [sumN_zero] at h1
 rw [sumN_const] at h2
 unfold emM; omega
theorem boundV_up {ws : List Int} {k : Nat} (hk : mayK (k : Int)) : boundV ws (k : Int) = upV ws.sum (k : Int) + mxW ws ws.length := by unfold boundV; rw [if_pos hk]
theorem md_step {T : List IE} {ws : List Int} (hm : ∀ z ∈ ws, mayW z) {k : Nat} {p : List Int} (hR : CutR ws.length p (k : Int)) {fr to : Int} (h : mdO ws k p = some (fr, to)) :
  ∃ i c : Nat, i < p.length ∧ c < k ∧ to = (c : Int) ∧ (bsS T p (k : Int) fr to p.length).1 = (i : Int) ∧ 0 ≤ fr ∧ fr < (k : Int) ∧ CutR ws.length (p.set i to) (k : Int) ∧ muM ws k (p.set i to) < muM ws k p := by
 have hpl := hR.2.1
 have hk := hR.1
 have hbd := boundV_up (ws := ws) hk
 unfold mayK at hk
 have hmx := mxW_nn ws ws.length (Nat.le_refl _)
 have hsum := sum_le hm
 -- what stands of a move from part f to part c of thing i
 have mv : ∀ i f c : Nat, i < p.length → p.getD i 0 = (f : Int) → c < k → f < k → f ≠ c →
   (∀ d, wtAt ws (p.set i (c : Int)) d p.length = wtAt ws p d p.length + ((if c = d then ws.getD i 0 else 0) - (if f = d then ws.getD i 0 else 0))) ∧
   (∀ d, cnAt (p.set i (c : Int)) d p.length = cnAt p d p.length + ((if c = d then 1 else 0) - (if f = d then 1 else 0))) ∧ CutR ws.length (p.set i (c : Int)) (k : Int) := by
  intro i f c hi hpi hc hf hfc
  refine ⟨fun d => ?_, fun d => ?_, hR.1, by rw [List.length_set]; exact hpl, fun j hj => ?_⟩
  ·rw [wtAt_setM hi rfl, hpi]
   congr 1
   congr 1
   ·by_cases h1 : c = d
    ·rw [if_pos h1, if_pos (by omega)]
    ·rw [if_neg h1, if_neg (by omega)]
   ·by_cases h1 : f = d
    ·rw [if_pos h1, if_pos (by omega)]
    ·rw [if_neg h1, if_neg (by omega)]
  ·rw [cnAt_set hi rfl, hpi]
   congr 1
   congr 1
   ·by_cases h1 : c = d
    ·rw [if_pos h1, if_pos (by omega)]
    ·rw [if_neg h1, if_neg (by omega)]
   ·by_cases h1 : f = d
    ·rw [if_pos h1, if_pos (by omega)]
    ·rw [if_neg h1, if_neg (by omega)]
  ·rw [List.length_set] at hj
   rw [getD_setI _ _ _ _ hi]
   split
   ·unfold badP; omega
   ·exact hR.2.2 j hj
 unfold mdO at h
 have hf1 := hvM_char (wtL ws p k p.length) (cnL p k p.length) 1 k
 by_cases hc1 : hvM (wtL ws p k p.length) (cnL p k p.length) 1 k ≠ -1 ∧ boundV ws (k : Int) < (wtL ws p k p.length).getD (hvM (wtL ws p k p.length) (cnL p k p.length) 1 k).toNat 0
 ·rw [if_pos hc1] at h
  obtain ⟨rfl, rfl⟩ := Prod.mk.inj (Option.some.inj h)
  rcases hf1 with ⟨h1, _⟩ | ⟨f, hf, h1, h2, _⟩
  ·exact absurd h1 hc1.1
  obtain ⟨c, hc, h3, h4⟩ := ltM_char (wtL ws p k p.length) k (by omega)
  rw [h1, Int.toNat_natCast, wtL_at hf] at hc1
  rw [cnL_at hf] at h2
  have hall : (k : Int) * wtAt ws p c p.length ≤ ws.sum := by
   have e := wt_total (ws := ws) p.length hR.2.2
   rw [hpl, sum_all, ← hpl] at e
   rw [← e, ← sumN_const k (wtAt ws p c p.length)]
   refine sumN_le fun j hj => ?_
   have := h4 j hj
   rw [wtL_at hc, wtL_at hj] at this
   exact this
  have hup : wtAt ws p c p.length ≤ upV ws.sum (k : Int) := by
   have h5 := upV_mul hsum.1 hk.1
   have h6 := Int.le_of_mul_le_mul_left (show (k : Int) * wtAt ws p c p.length ≤ (k : Int) * upV ws.sum (k : Int) by omega) (by omega)
   exact h6
  have hfc : f ≠ c := fun e => by subst e; omega
  rcases bsS_char T p (k : Int) (f : Int) (c : Int) p.length with ⟨_, hno⟩ | ⟨i, hi, hbi, hpi⟩
  ·obtain ⟨j, hj, hpj⟩ := cn_pos _ h2
   exact absurd hpj (hno j hj)
  obtain ⟨m1, m2, m3⟩ := mv i f c hi hpi hc hf hfc
  have hwi := ws_nn hm i
  have hwp : 1 ≤ ws.getD i 0 := by
   rw [List.getD_eq_getElem?_getD, List.getElem?_eq_getElem (by omega)]
   exact (hm _ (List.getElem_mem (by omega))).1
  have hwm := mxW_ge (ws := ws) (j := i) ws.length (Nat.le_refl _) (by omega)
  refine ⟨i, c, hi, hc, h3, by rw [h1, h3]; exact hbi, by omega, by omega, by rw [h3]; exact m3, ?_⟩
  rw [h3]
  have hex : exM ws k (p.set i (c : Int)) < exM ws k p := by
   unfold exM
   rw [List.length_set, sumN_one (g := fun d => max 0 (wtAt ws p d p.length - boundV ws (k : Int))) hf (fun d hd hne => by
    rw [m1 d, if_neg (show ¬ f = d from fun e => hne e.symm)]
    by_cases hdc : c = d
    ·subst hdc; rw [if_pos rfl]; omega
    ·rw [if_neg hdc]; congr 2; omega)]
   rw [m1 f, if_neg (show ¬ c = f from fun e => hfc e.symm), if_pos rfl]
   omega
  have h7 := exM_nn ws k (p.set i (c : Int))
  have h8 := emM_in k (p.set i (c : Int))
  unfold muM
  have h9 : ((exM ws k (p.set i (c : Int))).toNat + 1) * (k + 1) ≤ (exM ws k p).toNat * (k + 1) := Nat.mul_le_mul_right _ (by omega)
  rw [Nat.add_mul, Nat.one_mul] at h9
  omega
 ·rw [if_neg hc1] at h
  by_cases hc2 : ixM (cnL p k p.length) k = -1 ∨ p.length < k
  ·rw [if_pos hc2] at h; cases h
  ·rw [if_neg hc2] at h
   obtain ⟨rfl, rfl⟩ := Prod.mk.inj (Option.some.inj h)
   have hfit : ∀ d, d < k → wtAt ws p d p.length ≤ boundV ws (k : Int) := fun d hd => by
    by_cases hnd : cnAt p d p.length = 0
    ·rw [wt_none (cn_none hnd)]; have := boundV_in hm (k : Int); omega
    ·have hd1 := (cnAt_in p d p.length).1
     rcases hf1 with ⟨_, h2⟩ | ⟨f, hf, h1, _, h3⟩
     ·have := h2 d hd; rw [cnL_at hd] at this; omega
     ·have := h3 d hd (by rw [cnL_at hd]; omega)
      rw [wtL_at hd, wtL_at hf] at this
      rw [h1, Int.toNat_natCast, wtL_at hf] at hc1
      omega
   rcases ixM_char (cnL p k p.length) k with ⟨h1, _⟩ | ⟨c, hc, h1, h2, _⟩
   ·exact absurd (.inl h1) hc2
   rw [cnL_at hc] at h2
   have hf2 := hvM_char (wtL ws p k p.length) (cnL p k p.length) 2 k
   rcases hf2 with ⟨_, h3⟩ | ⟨f, hf, h3, h4, _⟩
   ·exfalso
    have e := cn_total (p := p) (k := k) p.length hR.2.2
    rw [sumN_one (g := fun d => if d = c then 0 else cnAt p d p.length) hc (fun j _ hne => by rw [if_neg hne]), if_pos rfl, h2] at e
    have e2 := sumN_le (n := k) (f := fun d => if d = c then 0 else cnAt p d p.length) (g := fun d => if d = c then 0 else 1) (fun j hj => by
     have := h3 j hj
     rw [cnL_at hj] at this
     split
     ·exact Int.le_refl _
     ·omega)
    have e3 := sumN_one (n := k) (f := fun d => if d = c then (0 : Int) else 1) (g := fun _ => 1) hc (fun j _ hne => by rw [if_neg hne])
    rw [sumN_const, if_pos rfl] at e3
    omega
   rw [cnL_at hf] at h4
   have hfc : f ≠ c := fun e => by subst e; omega
   rcases bsS_char T p (k : Int) (f : Int) (c : Int) p.length with ⟨_, hno⟩ | ⟨i, hi, hbi, hpi⟩
   ·obtain ⟨j, hj, hpj⟩ := cn_pos (p := p) (c := f) p.length (by omega)
    exact absurd hpj (hno j hj)
   obtain ⟨m1, m2, m3⟩ := mv i f c hi hpi hc hf hfc
   have hwi := ws_nn hm i
   have hwm := mxW_ge (ws := ws) (j := i) ws.length (Nat.le_refl _) (by omega)
   have hu := upV_in hsum.1 hk.1
   refine ⟨i, c, hi, hc, h1, by rw [h1, h3]; exact hbi, by omega, by omega, by rw [h1]; exact m3, ?_⟩
   rw [h1]
   have hwc : wtAt ws p c p.length = 0 := wt_none (cn_none h2)
   have hex0 : exM ws k p = 0 := by
    unfold exM
    rw [sumN_congr (g := fun _ => 0) (fun d hd => by have := hfit d hd; omega), sumN_zero]
   have hex1 : exM ws k (p.set i (c : Int)) = 0 := by
    unfold exM
    rw [List.length_set, sumN_congr (g := fun _ => 0) (fun d hd => ?_), sumN_zero]
    have := hfit d hd
    rw [m1 d]
    by_cases hdc : c = d
    ·subst hdc
     rw [if_pos rfl, hwc, if_neg hfc]; omega
    ·rw [if_neg hdc]
     split <;> omega
   have hem : emM k (p.set i (c : Int)) < emM k p := by
    unfold emM
    rw [List.length_set, sumN_one (g := fun d => if cnAt p d p.length = 0 then 1 else 0) hc (fun d hd hne => by
     rw [m2 d, if_neg (show ¬ c = d from fun e => hne e.symm)]
     by_cases hdf : f = d
     ·subst hdf
      rw [if_pos rfl, if_neg (by omega), if_neg (by omega)]
     ·rw [if_neg hdf]
      congr 1
      simp)]
    rw [m2 c, if_pos rfl, if_neg hfc, h2, if_neg (by decide), if_pos rfl]
    omega
   have h7 := (emM_in k (p.set i (c : Int))).1
   unfold muM
   rw [hex0, hex1]
   omega
theorem md_good {ws : List Int} (hm : ∀ z ∈ ws, mayW z) {k : Nat} {p : List Int} (hR : CutR ws.length p (k : Int)) : mdO ws k p = none ↔ goodM ws k p := by
 have hf1 := hvM_char (wtL ws p k p.length) (cnL p k p.length) 1 k
 have hb0 := boundV_in hm (k : Int)
 unfold mdO goodM
 constructor
 ·intro h
  by_cases hc1 : hvM (wtL ws p k p.length) (cnL p k p.length) 1 k ≠ -1 ∧ boundV ws (k : Int) < (wtL ws p k p.length).getD (hvM (wtL ws p k p.length) (cnL p k p.length) 1 k).toNat 0
  ·rw [if_pos hc1] at h; cases h
  ·rw [if_neg hc1] at h
   refine ⟨fun d hd => ?_, ?_⟩
   ·by_cases hnd : cnAt p d p.length = 0
    ·rw [wt_none (cn_none hnd)]; omega
    ·have hd1 := (cnAt_in p d p.length).1
     rcases hf1 with ⟨_, h2⟩ | ⟨f, hf, h1, _, h3⟩
     ·have := h2 d hd; rw [cnL_at hd] at this; omega
     ·have := h3 d hd (by rw [cnL_at hd]; omega)
      rw [wtL_at hd, wtL_at hf] at this
      rw [h1, Int.toNat_natCast, wtL_at hf] at hc1
      omega
   ·by_cases hc2 : ixM (cnL p k p.length) k = -1 ∨ p.length < k
    ·rcases hc2 with h1 | h1
     ·refine .inr fun c hc => ?_
      rcases ixM_char (cnL p k p.length) k with ⟨_, h2⟩ | ⟨z, _, h2, _⟩
      ·have := h2 c hc; rw [cnL_at hc] at this; exact this
      ·omega
     ·exact .inl h1
    ·rw [if_neg hc2] at h; cases h
 ·rintro ⟨h1, h2⟩
  rw [if_neg ?_, if_pos ?_]
  ·rcases h2 with h2 | h2
   ·exact .inr h2
   ·rcases ixM_char (cnL p k p.length) k with ⟨h3, _⟩ | ⟨z, hz, _, h4, _⟩
    ·exact .inl h3
    ·rw [cnL_at hz] at h4; exact absurd h4 (h2 z hz)
  ·rintro ⟨h3, h4⟩
   rcases hf1 with ⟨h5, _⟩ | ⟨f, hf, h5, _, _⟩
   ·exact h3 h5
   ·rw [h5, Int.toNat_natCast, wtL_at hf] at h4
    have := h1 f hf
    omega
def mdF (T : List IE) (ws : List Int) (k : Nat) : Nat → List Int → List Int
 | 0, p => p
 | n + 1, p => match mdO ws k p with
  | none => p
  | some (fr, to) => mdF T ws k n (p.set (bsS T p (k : Int) fr to p.length).1.toNat to)
def mendL (T : List IE) (ws : List Int) (k : Nat) (p : List Int) : List Int := mdF T ws k (muM ws k p + 1) p
theorem mdF_same {T : List IE} {ws : List Int} (hm : ∀ z ∈ ws, mayW z) {k : Nat} : ∀ (n n' : Nat) (p : List Int), CutR ws.length p (k : Int) → muM ws k p < n → muM ws k p < n' → mdF T ws k n p = mdF T ws k n' p
 | 0, _, _, _, h, _ => absurd h (Nat.not_lt_zero _)
 | _ + 1, 0, _, _, _, h => absurd h (Nat.not_lt_zero _)
 | n + 1, n' + 1, p, hR, h, h' => by
  rw [mdF, mdF]
  cases hO : mdO ws k p with
  | none => rfl
  | some x =>
   obtain ⟨fr, to⟩ := x
   obtain ⟨i, c, hi, hc, rfl, hb, _, _, hR', hmu⟩ := md_step (T := T) hm hR hO
   dsimp only
   rw [hb, Int.toNat_natCast]
   exact mdF_same hm n n' _ hR' (by omega) (by omega)
theorem mendL_done {T : List IE} {ws : List Int} {k : Nat} {p : List Int} (h : mdO ws k p = none) : mendL T ws k p = p := by unfold mendL; rw [mdF, h]
theorem mendL_step {T : List IE} {ws : List Int} (hm : ∀ z ∈ ws, mayW z) {k : Nat} {p : List Int} (hR : CutR ws.length p (k : Int)) {fr to : Int} (h : mdO ws k p = some (fr, to)) :
  mendL T ws k p = mendL T ws k (p.set (bsS T p (k : Int) fr to p.length).1.toNat to) := by
 obtain ⟨i, c, hi, hc, rfl, hb, _, _, hR', hmu⟩ := md_step (T := T) hm hR h
 unfold mendL
 rw [mdF, h]
 dsimp only
 rw [hb, Int.toNat_natCast]
 exact mdF_same hm _ _ _ hR' (by omega) (by omega)
theorem mend_prop {T : List IE} {ws : List Int} (hm : ∀ z ∈ ws, mayW z) {k : Nat} : ∀ (n : Nat) (p : List Int), muM ws k p < n → CutR ws.length p (k : Int) → CutR ws.length (mendL T ws k p) (k : Int) ∧ goodM ws k (mendL T ws k p)
 | 0, _, h, _ => absurd h (Nat.not_lt_zero _)
 | n + 1, p, h, hR => by
  cases hO : mdO ws k p with
  | none => rw [mendL_done hO]; exact ⟨hR, (md_good hm hR).1 hO⟩
  | some x =>
   obtain ⟨fr, to⟩ := x
   rw [mendL_step hm hR hO]
   obtain ⟨i, c, hi, hc, rfl, hb, _, _, hR', hmu⟩ := md_step (T := T) hm hR hO
   rw [hb, Int.toNat_natCast]
   exact mend_prop hm n _ (by omega) hR'
end Go.Proofs.YtlkmlppamkidlaaGreat
end
