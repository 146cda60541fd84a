/- Texts one behind the other: RP, RQ. -/
import Derived.Test.YtlkmlppamkidlaaGreatSqCA
import Derived.Test.YtlkmlppamkidlaaGreatSqH
set_option linter.all false
set_option maxRecDepth 100000
set_option maxHeartbeats 2000000
section
namespace Go.Proofs.YtlkmlppamkidlaaGreat
open Go Go.Sx Go.Proofs
def bdA (bd : Int × Int) (to : Int) : Int := if to = 0 then bd.1 else bd.2
def gnL (T : List IE) (p : List Int) : List Int := (List.range T.length).map fun j => gainV T p j (1 - p.getD j 0)
theorem gnL_len (T : List IE) (p : List Int) : (gnL T p).length = T.length := by simp [gnL]
theorem gnL_at {T : List IE} {p : List Int} {j : Nat} (h : j < T.length) : (gnL T p).getD j 0 = gainV T p j (1 - p.getD j 0) := by
 unfold gnL
 rw [List.getD_eq_getElem?_getD, List.getElem?_map, List.getElem?_range h]; rfl
theorem gainV_in {T : List IE} (hW : Wf T) (p : List Int) (i : Nat) (v : Int) : -((T.length : Int) * 1099511627776) ≤ gainV T p i v ∧ gainV T p i v ≤ (T.length : Int) * 1099511627776 := by
 have h1 := rowC_in hW p i v
 have h2 := rowC_in hW p i (p.getD i 0)
 unfold gainV; omega
def updR (d : Nat → Int → Int) (ga : List Int) : IE → List Int
 | [] => ga
 | x :: es => updR d (ga.set x.1.toNat (ga.getD x.1.toNat 0 + d x.1.toNat x.2)) es
theorem updR_snoc (d : Nat → Int → Int) (ga : List Int) (es : IE) (x : Int × Int) : updR d ga (es ++ [x]) = (updR d ga es).set x.1.toNat ((updR d ga es).getD x.1.toNat 0 + d x.1.toNat x.2) := by
 induction es generalizing ga with
 | nil => rfl
 | cons y es ih => exact ih _
theorem updR_len (d : Nat → Int → Int) (ga : List Int) (es : IE) : (updR d ga es).length = ga.length := by
 induction es generalizing ga with
 | nil => rfl
 | cons y es ih => rw [updR, ih, List.length_set]
theorem updR_at {n : Nat} {d : Nat → Int → Int} (hd : ∀ j, d j 0 = 0) : ∀ {es : IE}, Asc ltI es → (∀ x ∈ es, 0 ≤ x.1 ∧ x.1 < (n : Int)) → ∀ (ga : List Int), ga.length = n → ∀ j : Nat, (updR d ga es).getD j 0 = ga.getD j 0 + d j ((getE es (j : Int)).getD 0)
 | [], _, _, ga, _, j => by simp [updR, getE, hd]
 | x :: es, ha, hk, ga, hl, j => by
  have hx := hk x List.mem_cons_self
  rw [updR, updR_at hd (List.pairwise_cons.1 ha).2 (fun y hy => hk y (List.mem_cons_of_mem _ hy)) _ (by rw [List.length_set, hl]) j, getD_setI _ _ _ _ (by omega), getE_cons]
  by_cases h : j = x.1.toNat
  ·rw [if_pos h, if_pos (by omega)]
   have : getE es (j : Int) = none := by
    cases hg : getE es (j : Int) with
    | none => rfl
    | some v =>
     have hm := (getE_some ltI_ok (List.pairwise_cons.1 ha).2).1 hg
     have h3 := (List.pairwise_cons.1 ha).1 _ hm
     simp only [ltI, decide_eq_true_eq] at h3
     omega
   rw [this, h]; simp [hd]
  ·rw [if_neg h, if_neg (by omega)]
def two (p : List Int) : Prop := ∀ j, j < p.length → p.getD j 0 = 0 ∨ p.getD j 0 = 1
theorem two_of {n : Nat} {p : List Int} (h : CutR n p 2) : two p := fun j hj => by have := h.2.2 j hj; unfold badP at this; omega
theorem two_set {p : List Int} (h : two p) (i : Nat) : two (p.set i (1 - p.getD i 0)) := fun j hj => by
 rw [List.length_set] at hj
 by_cases hi : i < p.length
 ·rw [getD_setI _ _ _ _ hi]
  split
  ·have := h i hi; omega
  ·exact h j hj
 ·rw [List.set_eq_of_length_le (by omega)]; exact h j hj
def mvD (p : List Int) (fr : Int) (j : Nat) (w : Int) : Int := if p.getD j 0 = fr then 2 * w else -(2 * w)
theorem gain_moved {T : List IE} (hW : Wf T) {p : List Int} (hl : p.length = T.length) (h2 : two p) {i : Nat} (hi : i < T.length) :
  updR (mvD (p.set i (1 - p.getD i 0)) (p.getD i 0)) ((gnL T p).set i (-(gnL T p).getD i 0)) (rowT T (i : Int)) = gnL T (p.set i (1 - p.getD i 0)) := by
 have hgl := gnL_len T p
 refine extI (by rw [updR_len, List.length_set, gnL_len, gnL_len]) fun j hj => ?_
 rw [updR_len, List.length_set, gnL_len] at hj
 rw [updR_at (n := T.length) (fun j => by unfold mvD; split <;> rfl) (hW.rasc _) (fun x hx => ⟨(hW.rkey hx).1, (hW.rkey hx).2.1⟩) _ (by rw [List.length_set, gnL_len]) j, getD_setI _ _ _ _ (by omega), gnL_at (p := p.set i (1 - p.getD i 0)) hj]
 have hb : (getE (rowT T (i : Int)) (j : Int)).getD 0 = btw T (i : Int) (j : Int) := rfl
 rw [hb]
 have hpi := h2 i (by omega)
 by_cases hji : j = i
 ·rw [if_pos hji, hji, btw_self0 hW, gnL_at hi, getD_setI p i i _ (by omega), if_pos rfl]
  have h3 := gain_back hW hl hi (1 - p.getD i 0)
  rw [show 1 - (1 - p.getD i 0) = p.getD i 0 by omega, h3]
  unfold mvD
  split <;> omega
 ·rw [if_neg hji, gnL_at hj, getD_setI p i j _ (by omega), if_neg hji]
  have hpj := h2 j (by omega)
  have hr : ∀ v : Int, rowC T (p.set i (1 - p.getD i 0)) j v = rowC T p j v + ((if v = 1 - p.getD i 0 then 0 else btw T (j : Int) (i : Int)) - (if v = p.getD i 0 then 0 else btw T (j : Int) (i : Int))) := fun v => by
   unfold rowC
   rw [sumN_one (g := fun b => if v = p.getD b 0 then 0 else btw T (j : Int) (b : Int)) hi (fun b _ hne => by rw [getD_setI p i b _ (by omega), if_neg hne]), getD_setI p i i _ (by omega), if_pos rfl]
  unfold gainV
  rw [getD_setI p i j _ (by omega), if_neg hji, hr, hr, btw_sym hW (i : Int) (j : Int)]
  unfold mvD
  rw [getD_setI p i j _ (by omega), if_neg hji]
  generalize btw T (j : Int) (i : Int) = B
  generalize rowC T p j (p.getD j 0) = R1
  generalize rowC T p j (1 - p.getD j 0) = R2
  rcases hpi with e1 | e1 <;> rcases hpj with e2 | e2 <;> rw [e1, e2] <;> simp <;> omega
abbrev RS := List Int × List Bool
def mayR (ws : List Int) (bd : Int × Int) (s : RS) (i : Nat) : Prop := s.2.getD i false = false ∧ wtAt ws s.1 (1 - s.1.getD i 0).toNat s.1.length + ws.getD i 0 ≤ bdA bd (1 - s.1.getD i 0)
instance (ws : List Int) (bd : Int × Int) (s : RS) (i : Nat) : Decidable (mayR ws bd s i) := by unfold mayR; infer_instance
def nxR (ws : List Int) (bd : Int × Int) (ga : List Int) (s : RS) : Nat → Int
 | 0 => -1
 | k + 1 => if mayR ws bd s k ∧ (nxR ws bd ga s k = -1 ∨ ga.getD (nxR ws bd ga s k).toNat 0 < ga.getD k 0) then (k : Int) else nxR ws bd ga s k
theorem nxR_char (ws : List Int) (bd : Int × Int) (ga : List Int) (s : RS) : ∀ k,
  (nxR ws bd ga s k = -1 ∧ ∀ j, j < k → ¬ mayR ws bd s j) ∨
  (∃ z : Nat, z < k ∧ nxR ws bd ga s k = (z : Int) ∧ mayR ws bd s z ∧ ∀ j, j < k → mayR ws bd s j → ga.getD j 0 ≤ ga.getD z 0)
 | 0 => .inl ⟨rfl, fun j h => absurd h (Nat.not_lt_zero _)⟩
 | k + 1 => by
  have ih := nxR_char ws bd ga s k
  rw [nxR]
  by_cases hm : mayR ws bd s k
  ·rcases ih with ⟨h1, h2⟩ | ⟨z, hz, h1, h2, h3⟩
   ·rw [if_pos ⟨hm, .inl h1⟩]
    refine .inr ⟨k, by omega, rfl, hm, fun j hj hmj => ?_⟩
    rcases Nat.lt_or_ge j k with h | h
    ·exact absurd hmj (h2 j h)
    ·rw [show j = k by omega]; exact Int.le_refl _
   ·rw [h1, Int.toNat_natCast]
    by_cases hg : ga.getD z 0 < ga.getD k 0
    ·rw [if_pos ⟨hm, .inr hg⟩]
     refine .inr ⟨k, by omega, rfl, hm, fun j hj hmj => ?_⟩
     rcases Nat.lt_or_ge j k with h | h
     ·have := h3 j h hmj; omega
     ·rw [show j = k by omega]; exact Int.le_refl _
    ·rw [if_neg (by rintro ⟨_, h' | h'⟩ <;> omega)]
     refine .inr ⟨z, by omega, rfl, h2, fun j hj hmj => ?_⟩
     rcases Nat.lt_or_ge j k with h | h
     ·exact h3 j h hmj
     ·rw [show j = k by omega]; omega
  ·rw [if_neg (fun h => hm h.1)]
   rcases ih with ⟨h1, h2⟩ | ⟨z, hz, h1, h2, h3⟩
   ·refine .inl ⟨h1, fun j hj hmj => ?_⟩
    rcases Nat.lt_or_ge j k with h | h
    ·exact h2 j h hmj
    ·exact hm (by rw [show k = j by omega]; exact hmj)
   ·refine .inr ⟨z, by omega, h1, h2, fun j hj hmj => ?_⟩
    rcases Nat.lt_or_ge j k with h | h
    ·exact h3 j h hmj
    ·exact absurd hmj (by rw [show j = k by omega]; exact hm)
def nxA (T : List IE) (ws : List Int) (bd : Int × Int) (s : RS) : Int := nxR ws bd (gnL T s.1) s T.length
def stR (s : RS) (i : Nat) : RS := (s.1.set i (1 - s.1.getD i 0), s.2.set i true)
def rs (T : List IE) (ws : List Int) (bd : Int × Int) (p : List Int) : Nat → RS
 | 0 => (p, List.replicate p.length false)
 | t + 1 => if nxA T ws bd (rs T ws bd p t) = -1 then rs T ws bd p t else stR (rs T ws bd p t) (nxA T ws bd (rs T ws bd p t)).toNat
def mvU (T : List IE) (ws : List Int) (bd : Int × Int) (p : List Int) : Nat → List (Int × Int)
 | 0 => []
 | t + 1 => mvU T ws bd p t ++ if nxA T ws bd (rs T ws bd p t) = -1 then [] else [(nxA T ws bd (rs T ws bd p t), (gnL T (rs T ws bd p t).1).getD (nxA T ws bd (rs T ws bd p t)).toNat 0)]
def mvL (T : List IE) (ws : List Int) (bd : Int × Int) (p : List Int) : List (Int × Int) := if CutR T.length p 2 ∧ bd ≠ (0, 0) then mvU T ws bd p T.length else []
theorem getD_setB (xs : List Bool) (i j : Nat) (z : Bool) (hi : i < xs.length) : (xs.set i z).getD j false = if j = i then z else xs.getD j false := by
 rw [List.getD_eq_getElem?_getD, List.getD_eq_getElem?_getD, List.getElem?_set]
 by_cases h : i = j
 ·subst h; simp [hi]
 ·rw [if_neg h, if_neg (fun h' => h h'.symm)]
def cB (mv : List Bool) (n : Nat) : Int := sumN n fun j => if mv.getD j false = true then 1 else 0
structure RI (T : List IE) (s : RS) : Prop where
 len : s.1.length = T.length
 ml : s.2.length = T.length
 val : two s.1
theorem ri_st {T : List IE} {s : RS} (h : RI T s) (i : Nat) : RI T (stR s i) := ⟨by unfold stR; rw [List.length_set, h.len], by unfold stR; rw [List.length_set, h.ml], two_set h.val i⟩
theorem ri_all {T : List IE} {ws : List Int} {bd : Int × Int} {p : List Int} (hp : two p) (hl : p.length = T.length) : ∀ t, RI T (rs T ws bd p t)
 | 0 => ⟨hl, by rw [rs, List.length_replicate, hl], hp⟩
 | t + 1 => by
  rw [rs]
  split
  ·exact ri_all hp hl t
  ·exact ri_st (ri_all hp hl t) _
theorem nxA_char {T : List IE} {ws : List Int} {bd : Int × Int} {s : RS} :
  (nxA T ws bd s = -1 ∧ ∀ j, j < T.length → ¬ mayR ws bd s j) ∨
  (∃ z : Nat, z < T.length ∧ nxA T ws bd s = (z : Int) ∧ mayR ws bd s z ∧ ∀ j, j < T.length → mayR ws bd s j → (gnL T s.1).getD j 0 ≤ (gnL T s.1).getD z 0) := nxR_char ws bd (gnL T s.1) s T.length
theorem rs_count {T : List IE} {ws : List Int} {bd : Int × Int} {p : List Int} (hp : two p) (hl : p.length = T.length) : ∀ t, nxA T ws bd (rs T ws bd p t) = -1 ∨ (cB (rs T ws bd p t).2 T.length = (t : Int) ∧ (mvU T ws bd p t).length = t)
 | 0 => .inr ⟨by
   unfold cB
   have e : ∀ j, (List.replicate p.length false).getD j false = false := fun j => by rw [List.getD_eq_getElem?_getD, List.getElem?_replicate]; split <;> rfl
   rw [rs, sumN_congr (g := fun _ => 0) (fun j hj => by rw [e, if_neg (by decide)]), sumN_zero]; rfl, rfl⟩
 | t + 1 => by
  have ih := rs_count (ws := ws) (bd := bd) hp hl t
  have hI := ri_all (ws := ws) (bd := bd) hp hl t
  rw [rs, mvU]
  rcases ih with h | ⟨h, h4⟩
  ·rw [if_pos h]; exact .inl h
  ·rcases nxA_char (T := T) (ws := ws) (bd := bd) (s := rs T ws bd p t) with ⟨h1, _⟩ | ⟨z, hz, h1, h2, _⟩
   ·rw [if_pos h1]; exact .inl h1
   ·rw [h1, if_neg (by omega), if_neg (by omega), Int.toNat_natCast]
    refine .inr ⟨?_, by rw [List.length_append, h4]; rfl⟩
    unfold cB stR
    rw [sumN_one (g := fun j => if (rs T ws bd p t).2.getD j false = true then 1 else 0) hz (fun j _ hne => by rw [getD_setB _ _ _ _ (by rw [hI.ml]; exact hz), if_neg hne]), getD_setB _ _ _ _ (by rw [hI.ml]; exact hz), if_pos rfl, h2.1]
    unfold cB at h
    rw [if_pos rfl, if_neg (by decide), h]
    push_cast; omega
theorem rs_end {T : List IE} {ws : List Int} {bd : Int × Int} {p : List Int} (hp : two p) (hl : p.length = T.length) : nxA T ws bd (rs T ws bd p T.length) = -1 := by
 rcases rs_count (ws := ws) (bd := bd) hp hl T.length with h | ⟨h, _⟩
 ·exact h
 ·rcases nxA_char (T := T) (ws := ws) (bd := bd) (s := rs T ws bd p T.length) with ⟨h1, _⟩ | ⟨z, hz, h1, h2, _⟩
  ·exact h1
  ·exfalso
   have e := sumN_one (n := T.length) (f := fun j => if (rs T ws bd p T.length).2.getD j false = true then (1 : Int) else 0) (g := fun j => if j = z then 1 else if (rs T ws bd p T.length).2.getD j false = true then (1 : Int) else 0) hz (fun j _ hne => by rw [if_neg hne])
   have e2 := sumN_le (n := T.length) (f := fun j => if j = z then 1 else if (rs T ws bd p T.length).2.getD j false = true then (1 : Int) else 0) (g := fun _ => 1) (fun j _ => by split <;> (try split) <;> omega)
   rw [sumN_const] at e2
   unfold cB at h
   rw [h, if_pos rfl, h2.1, if_neg (by decide)] at e
   omega
theorem rs_stop {T : List IE} {ws : List Int} {bd : Int × Int} {p : List Int} {t : Nat} (h : nxA T ws bd (rs T ws bd p t) = -1) : ∀ d, rs T ws bd p (t + d) = rs T ws bd p t ∧ mvU T ws bd p (t + d) = mvU T ws bd p t
 | 0 => ⟨rfl, rfl⟩
 | d + 1 => by
  have ih := rs_stop h d
  rw [Nat.add_succ, rs, mvU, ih.1, ih.2, if_pos h, if_pos h, List.append_nil]
  exact ⟨rfl, rfl⟩
end Go.Proofs.YtlkmlppamkidlaaGreat
namespace Go.Proofs.YtlkmlppamkidlaaGreat
open Go Go.Sx Go.Proofs
structure PS where
 now : List Int
 best : List Int
 all : Int
 most : Int
def psF (s : PS) (x : Int × Int) : PS :=
 if s.most < s.all + x.2 then ⟨s.now.set x.1.toNat (1 - s.now.getD x.1.toNat 0), s.now.set x.1.toNat (1 - s.now.getD x.1.toNat 0), s.all + x.2, s.all + x.2⟩
 else ⟨s.now.set x.1.toNat (1 - s.now.getD x.1.toNat 0), s.best, s.all + x.2, s.most⟩
def psU (p : List Int) (l : List (Int × Int)) : PS := l.foldl psF ⟨p, p, 0, 0⟩
theorem psU_snoc (p : List Int) (l : List (Int × Int)) (x : Int × Int) : psU p (l ++ [x]) = psF (psU p l) x := by unfold psU; rw [List.foldl_append]; rfl
def passL (T : List IE) (ws : List Int) (bd : Int × Int) (p : List Int) : List Int × Int := ((psU p (mvL T ws bd p)).best, (psU p (mvL T ws bd p)).most)
theorem rs_move {T : List IE} (hW : Wf T) {ws : List Int} {bd : Int × Int} {p : List Int} (hp : two p) (hl : p.length = T.length) {t z : Nat} (hz : z < T.length) (h : nxA T ws bd (rs T ws bd p t) = (z : Int)) :
  (rs T ws bd p (t + 1)).1 = (rs T ws bd p t).1.set z (1 - (rs T ws bd p t).1.getD z 0) ∧ cutM T (rs T ws bd p t).1 - cutM T (rs T ws bd p (t + 1)).1 = (gnL T (rs T ws bd p t).1).getD z 0 ∧ mvU T ws bd p (t + 1) = mvU T ws bd p t ++ [((z : Int), (gnL T (rs T ws bd p t).1).getD z 0)] := by
 have hI := ri_all (ws := ws) (bd := bd) hp hl t
 have e1 : (rs T ws bd p (t + 1)).1 = (rs T ws bd p t).1.set z (1 - (rs T ws bd p t).1.getD z 0) := by rw [rs, h, if_neg (by omega), Int.toNat_natCast]; rfl
 refine ⟨e1, ?_, ?_⟩
 ·rw [e1, cut_move hW hI.len hz, gnL_at hz]
 ·rw [mvU, h, if_neg (by omega), Int.toNat_natCast]
structure PI (T : List IE) (ws : List Int) (bd : Int × Int) (p : List Int) (t : Nat) (s : PS) : Prop where
 now : s.now = (rs T ws bd p t).1
 all : s.all = cutM T p - cutM T (rs T ws bd p t).1
 best : ∃ t', s.best = (rs T ws bd p t').1 ∧ s.most = cutM T p - cutM T (rs T ws bd p t').1
 nn : 0 ≤ s.most
 zero : s.most = 0 → s.best = p
theorem pi_all {T : List IE} (hW : Wf T) {ws : List Int} {bd : Int × Int} {p : List Int} (hp : two p) (hl : p.length = T.length) : ∀ t, PI T ws bd p t (psU p (mvU T ws bd p t))
 | 0 => ⟨rfl, by show (0 : Int) = cutM T p - cutM T p; omega, ⟨0, rfl, by show (0 : Int) = cutM T p - cutM T p; omega⟩, Int.le_refl _, fun _ => rfl⟩
 | t + 1 => by
  have ih := pi_all hW (ws := ws) (bd := bd) hp hl t
  rcases nxA_char (T := T) (ws := ws) (bd := bd) (s := rs T ws bd p t) with ⟨h1, _⟩ | ⟨z, hz, h1, _, _⟩
  ·have := rs_stop h1 1
   rw [this.2]
   exact ⟨by rw [this.1]; exact ih.now, by rw [this.1]; exact ih.all, ih.best, ih.nn, ih.zero⟩
  ·obtain ⟨e1, e2, e3⟩ := rs_move hW hp hl hz h1
   rw [e3, psU_snoc]
   revert ih
   generalize psU p (mvU T ws bd p t) = s
   intro ih
   have hnow : s.now.set z (1 - s.now.getD z 0) = (rs T ws bd p (t + 1)).1 := by rw [e1, ih.now]
   have hall := ih.all
   unfold psF
   dsimp only
   rw [Int.toNat_natCast, hnow]
   split
   ·rename_i h
    refine ⟨rfl, by dsimp only; omega, ⟨t + 1, rfl, by dsimp only; omega⟩, by have := ih.nn; dsimp only; omega, fun h0 => ?_⟩
    exfalso
    have := ih.nn
    dsimp only at h0
    omega
   ·exact ⟨rfl, by dsimp only; omega, ih.best, ih.nn, ih.zero⟩
structure PassP (T : List IE) (ws : List Int) (bd : Int × Int) (p : List Int) (x : List Int × Int) : Prop where
 two : two x.1
 len : x.1.length = T.length
 gain : x.2 = cutM T p - cutM T x.1
 nn : 0 ≤ x.2
 zero : x.2 = 0 → x.1 = p
 fit : ∀ c, c < 2 → wtAt ws p c p.length ≤ bdA bd (c : Int) → wtAt ws x.1 c p.length ≤ bdA bd (c : Int)
theorem wtAt_set {ws p : List Int} {z n c : Nat} (hz : z < n) (hl : p.length = n) (v : Int) : wtAt ws (p.set z v) c n = wtAt ws p c n + ((if v = (c : Int) then ws.getD z 0 else 0) - (if p.getD z 0 = (c : Int) then ws.getD z 0 else 0)) := by
 unfold wtAt
 rw [sumN_one (g := fun t => if p.getD t 0 = (c : Int) then ws.getD t 0 else 0) hz (fun j _ hne => by rw [getD_setI _ _ _ _ (by omega), if_neg hne]), getD_setI _ _ _ _ (by omega), if_pos rfl]
theorem rs_fit {T : List IE} {ws : List Int} (h0 : ∀ j, 0 ≤ ws.getD j 0) {bd : Int × Int} {p : List Int} (hp : two p) (hl : p.length = T.length) {c : Nat} (hc : c < 2) (h : wtAt ws p c p.length ≤ bdA bd (c : Int)) : ∀ t, wtAt ws (rs T ws bd p t).1 c p.length ≤ bdA bd (c : Int)
  | 0 => h
  | t + 1 => by
    have ih := rs_fit h0 (ws := ws) (bd := bd) hp hl hc h t
    have hI := ri_all (ws := ws) (bd := bd) hp hl t
    rcases nxA_char (T := T) (ws := ws) (bd := bd) (s := rs T ws bd p t) with ⟨h1, _⟩ | ⟨z, hz, h1, h2, _⟩
    · rw [rs, if_pos h1]; exact ih
    · rw [rs, h1, if_neg (by omega), Int.toNat_natCast]
      unfold stR
      have hmay := h2.2
      rw [hI.len] at hmay
      rw [hl] at ih ⊢
      rw [wtAt_set hz hI.len]
      have hv := hI.val z (by rw [hI.len]; exact hz)
      have := h0 z
      generalize (rs T ws bd p t).1 = q at *
      by_cases hcz : 1 - q.getD z 0 = (c : Int)
      · rw [if_pos hcz, if_neg (by omega)]
        rw [show (1 - q.getD z 0).toNat = c by omega, hcz] at hmay
        omega
      · rw [if_neg hcz]
        split <;> omega
theorem pass_prop {T : List IE} (hW : Wf T) {ws : List Int} (h0 : ∀ j, 0 ≤ ws.getD j 0) {bd : Int × Int} {p : List Int} (hp : two p) (hl : p.length = T.length) : PassP T ws bd p (passL T ws bd p) := by
  unfold passL mvL
  split
  · have h := pi_all hW (ws := ws) (bd := bd) hp hl T.length
    obtain ⟨t, h1, h2⟩ := h.best
    have hI := ri_all (ws := ws) (bd := bd) hp hl t
    refine ⟨by rw [h1]; exact hI.val, by rw [h1]; exact hI.len, by dsimp only; rw [h1]; exact h2, h.nn, h.zero, fun c hc hf => by rw [h1]; exact rs_fit h0 hp hl hc hf t⟩
  · exact ⟨hp, hl, by show (0 : Int) = cutM T p - cutM T p; omega, Int.le_refl _, fun _ => rfl, fun c hc hf => hf⟩
theorem pass_no {T : List IE} {ws : List Int} {bd : Int × Int} {p : List Int} (h : ¬ (CutR T.length p 2 ∧ bd ≠ (0, 0))) : passL T ws bd p = (p, 0) := by
 unfold passL mvL
 rw [if_neg h]; rfl
theorem pass_zero {T : List IE} (hW : Wf T) {ws : List Int} (h0 : ∀ j, 0 ≤ ws.getD j 0) {bd : Int × Int} {p : List Int} (h : (passL T ws bd p).2 = 0) : (passL T ws bd p).1 = p := by
 by_cases hc : CutR T.length p 2 ∧ bd ≠ (0, 0)
 ·exact (pass_prop hW h0 (two_of hc.1) hc.1.2.1).zero h
 ·rw [pass_no hc]
def refF (T : List IE) (ws : List Int) (bd : Int × Int) : Nat → List Int → List Int
 | 0, p => p
 | k + 1, p => if (passL T ws bd p).2 = 0 then (passL T ws bd p).1 else refF T ws bd k (passL T ws bd p).1
def refineL (T : List IE) (ws : List Int) (bd : Int × Int) (p : List Int) : List Int := refF T ws bd ((cutM T p).toNat + 1) p
theorem pass_falls {T : List IE} (hW : Wf T) {ws : List Int} (h0 : ∀ j, 0 ≤ ws.getD j 0) {bd : Int × Int} {p : List Int} (h : ¬ (passL T ws bd p).2 = 0) : CutR T.length p 2 ∧ PassP T ws bd p (passL T ws bd p) ∧ (cutM T (passL T ws bd p).1).toNat < (cutM T p).toNat := by
 by_cases hc : CutR T.length p 2 ∧ bd ≠ (0, 0)
 ·have hp := pass_prop hW h0 (bd := bd) (two_of hc.1) hc.1.2.1
  refine ⟨hc.1, hp, ?_⟩
  have h1 := cutM_in hW (passL T ws bd p).1
  have h2 := hp.gain
  have h3 := hp.nn
  omega
 ·rw [pass_no hc] at h; exact absurd rfl h
theorem refF_same {T : List IE} (hW : Wf T) {ws : List Int} (h0 : ∀ j, 0 ≤ ws.getD j 0) {bd : Int × Int} : ∀ (k k' : Nat) (p : List Int), (cutM T p).toNat < k → (cutM T p).toNat < k' → refF T ws bd k p = refF T ws bd k' p
 | 0, _, _, h, _ => absurd h (Nat.not_lt_zero _)
 | _ + 1, 0, _, _, h => absurd h (Nat.not_lt_zero _)
 | k + 1, k' + 1, p, h, h' => by
  rw [refF, refF]
  by_cases hz : (passL T ws bd p).2 = 0
  ·rw [if_pos hz, if_pos hz]
  ·rw [if_neg hz, if_neg hz]
   have := (pass_falls hW h0 hz).2.2
   exact refF_same hW h0 k k' _ (by omega) (by omega)
theorem refineL_step {T : List IE} (hW : Wf T) {ws : List Int} (h0 : ∀ j, 0 ≤ ws.getD j 0) {bd : Int × Int} (p : List Int) : refineL T ws bd p = if (passL T ws bd p).2 = 0 then p else refineL T ws bd (passL T ws bd p).1 := by
 by_cases hz : (passL T ws bd p).2 = 0
 ·rw [if_pos hz]
  unfold refineL
  rw [refF, if_pos hz]
  exact pass_zero hW h0 hz
 ·rw [if_neg hz]
  unfold refineL
  rw [refF, if_neg hz]
  have := (pass_falls hW h0 hz).2.2
  exact refF_same hW h0 _ _ _ (by omega) (by omega)
end Go.Proofs.YtlkmlppamkidlaaGreat
end
