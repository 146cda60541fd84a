/- Plain laws of growing: what pulls a thing, which is next, the two parts. -/
import Derived.Test.YtpbknokakooekaaH4
import Derived.Test.YtpbknokakooekaaU1
namespace Go.Proofs.Ytpbknokakooekaa
set_option linter.all false
open Go Go.Sx Go.Proofs
theorem sumN_one {n z : Nat} {f g : Nat → Int} (hz : z < n) (h : ∀ j, j < n → j ≠ z → f j = g j) : sumN n f = sumN n g + (f z - g z) := by
  induction n with
  | zero => omega
  | succ n ih =>
    rw [sumN_succ, sumN_succ]
    by_cases hzn : z = n
    · subst hzn
      rw [sumN_congr (fun i hi => h i (by omega) (by omega))]; omega
    · rw [ih (by omega) (fun j hj hne => h j (by omega) hne), h n (by omega) (fun e => hzn e.symm)]; omega
theorem sumN_le {n : Nat} {f g : Nat → Int} (h : ∀ j, j < n → f j ≤ g j) : sumN n f ≤ sumN n g := by
  induction n with
  | zero => exact Int.le_refl _
  | succ n ih => rw [sumN_succ, sumN_succ]; have := ih (fun j hj => h j (by omega)); have := h n (by omega); omega
theorem sumN_const (n : Nat) (c : Int) : sumN n (fun _ => c) = (n : Int) * c := by
  induction n with
  | zero => simp [sumN]
  | succ n ih => rw [sumN_succ, ih, Int.natCast_succ, Int.add_mul, Int.one_mul]
theorem getD_setI (xs : List Int) (i j : Nat) (z : Int) (hi : i < xs.length) : (xs.set i z).getD j 0 = if j = i then z else xs.getD j 0 := by
  rw [List.getD_eq_getElem?_getD, List.getD_eq_getElem?_getD, List.getElem?_set]
  by_cases h : i = j
  · subst h; simp [hi]
  · rw [if_neg h, if_neg (fun h' => h h'.symm)]
theorem extI {xs ys : List Int} (hl : xs.length = ys.length) (h : ∀ j, j < xs.length → xs.getD j 0 = ys.getD j 0) : xs = ys := by
  refine List.ext_getElem hl fun j h1 h2 => ?_
  have := h j h1
  rw [List.getD_eq_getElem?_getD, List.getD_eq_getElem?_getD, List.getElem?_eq_getElem h1, List.getElem?_eq_getElem h2] at this
  exact this
/-! ### pulls -/
def plT (T : List IE) (p : List Int) (i : Nat) : Int := sumN T.length fun b => if p.getD b 0 = 0 then btw T (i : Int) (b : Int) else 0
def plL (T : List IE) (p : List Int) : List Int := (List.range T.length).map (plT T p)
theorem plL_len (T : List IE) (p : List Int) : (plL T p).length = T.length := by simp [plL]
theorem plL_at {T : List IE} {p : List Int} {j : Nat} (h : j < T.length) : (plL T p).getD j 0 = plT T p j := by
  unfold plL
  rw [List.getD_eq_getElem?_getD, List.getElem?_map, List.getElem?_range h]; rfl
theorem plT_in {T : List IE} (hW : Wf T) (p : List Int) (i : Nat) : 0 ≤ plT T p i ∧ plT T p i ≤ (T.length : Int) * 1099511627776 := by
  constructor
  · rw [← sumN_zero T.length]
    refine sumN_le fun j _ => ?_
    have := hW.btw_le (i : Int) (j : Int)
    split <;> omega
  · rw [← sumN_const]
    refine sumN_le fun j _ => ?_
    have := hW.btw_le (i : Int) (j : Int)
    split <;> omega
theorem plT_set {T : List IE} {p : List Int} {z : Nat} (hz : z < T.length) (hl : p.length = T.length) (h1 : p.getD z 0 = 1) (i : Nat) : plT T (p.set z 0) i = plT T p i + btw T (i : Int) (z : Int) := by
  unfold plT
  rw [sumN_one (g := fun b => if p.getD b 0 = 0 then btw T (i : Int) (b : Int) else 0) hz (fun j _ hne => by rw [getD_setI _ _ _ _ (by omega), if_neg hne])]
  rw [getD_setI _ _ _ _ (by omega), if_pos rfl, h1]
  simp
theorem plT_ones {T : List IE} {p : List Int} (h : ∀ j, j < T.length → p.getD j 0 = 1) (i : Nat) : plT T p i = 0 := by
  unfold plT
  exact (sumN_congr (g := fun _ => 0) fun j hj => by rw [h j hj, if_neg (by decide)]).trans (sumN_zero _)
theorem plR_fold {T : List IE} (hW : Wf T) (p : List Int) (i : Nat) : ∀ k, ((mineU T i k).map (fun x => if p.getD x.2.1.toNat 0 = 0 then x.2.2 else 0)).sum = sumN k fun b => if p.getD b 0 = 0 then btw T (i : Int) (b : Int) else 0
  | 0 => rfl
  | k + 1 => by
    rw [mineU_succ, List.map_append, List.sum_append, plR_fold hW p i k, sumN_succ]
    have hb := hW.btw_le (i : Int) (k : Int)
    by_cases hp : 0 < btw T (i : Int) (k : Int)
    · rw [if_pos hp]; simp
    · rw [if_neg hp, show btw T (i : Int) (k : Int) = 0 by omega]; simp
theorem plR_all {T : List IE} (hW : Wf T) (p : List Int) (i : Nat) : ((rowT T (i : Int)).map (fun x => if p.getD x.1.toNat 0 = 0 then x.2 else 0)).sum = plT T p i := by
  unfold plT
  rw [← plR_fold hW p i T.length, mine_all hW]
  unfold nearN
  rw [List.map_map]; rfl
theorem degT_sum {T : List IE} (hW : Wf T) (i : Nat) : degT T (i : Int) = sumN T.length fun b => btw T (i : Int) (b : Int) := by
  unfold degT
  rw [sum_keys (hW.rasc _) (n := T.length) fun x hx => ⟨(hW.rkey hx).1, (hW.rkey hx).2.1⟩]
  rfl
/-! ### pulls, one by one -/
def addR (pl : List Int) : IE → List Int
  | [] => pl
  | x :: es => addR (pl.set x.1.toNat (pl.getD x.1.toNat 0 + x.2)) es
theorem addR_snoc (pl : List Int) (es : IE) (x : Int × Int) : addR pl (es ++ [x]) = (addR pl es).set x.1.toNat ((addR pl es).getD x.1.toNat 0 + x.2) := by
  induction es generalizing pl with
  | nil => rfl
  | cons y es ih => exact ih _
theorem addR_len (pl : List Int) (es : IE) : (addR pl es).length = pl.length := by
  induction es generalizing pl with
  | nil => rfl
  | cons y es ih => rw [addR, ih, List.length_set]
theorem addR_at {n : Nat} : ∀ {es : IE}, Asc ltI es → (∀ x ∈ es, 0 ≤ x.1 ∧ x.1 < (n : Int)) → ∀ (pl : List Int), pl.length = n → ∀ j : Nat, (addR pl es).getD j 0 = pl.getD j 0 + (getE es (j : Int)).getD 0
  | [], _, _, pl, _, j => by simp [addR, getE]
  | x :: es, ha, hk, pl, hl, j => by
    have hx := hk x List.mem_cons_self
    rw [addR, addR_at (List.pairwise_cons.1 ha).2 (fun y hy => hk y (List.mem_cons_of_mem _ hy)) _ (by rw [List.length_set, hl]) j, getD_setI _ _ _ _ (by omega), getE_cons]
    by_cases h : j = x.1.toNat
    · rw [if_pos h, if_pos (by omega)]
      have : getE es (j : Int) = none := by
        cases hg : getE es (j : Int) with
        | none => rfl
        | some v =>
          have hm := (getE_some ltI_ok (List.pairwise_cons.1 ha).2).1 hg
          have h3 := (List.pairwise_cons.1 ha).1 _ hm
          simp only [ltI, decide_eq_true_eq] at h3
          omega
      rw [this, h]; simp
    · rw [if_neg h, if_neg (by omega)]
theorem addR_pull {T : List IE} (hW : Wf T) {p : List Int} {z : Nat} (hz : z < T.length) (hl : p.length = T.length) (h1 : p.getD z 0 = 1) : addR (plL T p) (rowT T (z : Int)) = plL T (p.set z 0) := by
  refine extI (by rw [addR_len, plL_len, plL_len]) fun j hj => ?_
  rw [addR_len, plL_len] at hj
  rw [addR_at (n := T.length) (hW.rasc _) (fun x hx => ⟨(hW.rkey hx).1, (hW.rkey hx).2.1⟩) _ (plL_len T p) j, plL_at hj, plL_at hj, plT_set hz hl h1, btw_sym hW]
  rfl
/-! ### next -/
def nxF (ws pl : List Int) (room : Int) (b i : Int) : Int := if ws.getD i.toNat 0 ≤ room ∧ (b = -1 ∨ pl.getD b.toNat 0 < pl.getD i.toNat 0) then i else b
def nxS (ws pl p : List Int) (room : Int) (k : Nat) : Int := (sdU p 1 k).foldl (nxF ws pl room) (-1)
def nxZ (ws pl p : List Int) (room : Int) : Int := (sdL p 1).foldl (nxF ws pl room) (-1)
theorem nxS_yes {ws pl p : List Int} {room : Int} {k : Nat} (h : p.getD k 0 = 1) : nxS ws pl p room (k + 1) = nxF ws pl room (nxS ws pl p room k) (k : Int) := by
  unfold nxS; rw [sdU_yes h, List.foldl_append]; rfl
theorem nxS_no {ws pl p : List Int} {room : Int} {k : Nat} (h : ¬ p.getD k 0 = 1) : nxS ws pl p room (k + 1) = nxS ws pl p room k := by
  unfold nxS; rw [sdU_no h]
theorem nxS_char (ws pl p : List Int) (room : Int) : ∀ k,
    (nxS ws pl p room k = -1 ∧ ∀ j, j < k → p.getD j 0 = 1 → ¬ ws.getD j 0 ≤ room) ∨
    (∃ z : Nat, z < k ∧ nxS ws pl p room k = (z : Int) ∧ p.getD z 0 = 1 ∧ ws.getD z 0 ≤ room)
  | 0 => .inl ⟨rfl, fun j hj => absurd hj (Nat.not_lt_zero _)⟩
  | k + 1 => by
    have ih := nxS_char ws pl p room k
    by_cases h : p.getD k 0 = 1
    · rw [nxS_yes h]
      unfold nxF
      rw [Int.toNat_natCast]
      by_cases hw : ws.getD k 0 ≤ room
      · rcases ih with ⟨h1, h2⟩ | ⟨z, hz, h1, h2, h3⟩
        · rw [h1, if_pos ⟨hw, .inl rfl⟩]
          exact .inr ⟨k, by omega, rfl, h, hw⟩
        · split
          · exact .inr ⟨k, by omega, rfl, h, hw⟩
          · exact .inr ⟨z, by omega, h1, h2, h3⟩
      · rw [if_neg (fun h' => hw h'.1)]
        rcases ih with ⟨h1, h2⟩ | ⟨z, hz, h1, h2, h3⟩
        · refine .inl ⟨h1, fun j hj hp => ?_⟩
          rcases Nat.lt_or_ge j k with hj1 | hj1
          · exact h2 j hj1 hp
          · rw [show j = k by omega]; exact hw
        · exact .inr ⟨z, by omega, h1, h2, h3⟩
    · rw [nxS_no h]
      rcases ih with ⟨h1, h2⟩ | ⟨z, hz, h1, h2, h3⟩
      · refine .inl ⟨h1, fun j hj hp => ?_⟩
        rcases Nat.lt_or_ge j k with hj1 | hj1
        · exact h2 j hj1 hp
        · rw [show j = k by omega] at hp; exact absurd hp h
      · exact .inr ⟨z, by omega, h1, h2, h3⟩
/-! ### the two parts -/
def wt0 (ws p : List Int) (n : Nat) : Int := sumN n fun j => if p.getD j 0 = 0 then ws.getD j 0 else 0
def zc (p : List Int) (n : Nat) : Int := sumN n fun j => if p.getD j 0 = 0 then 1 else 0
def zAt (T : List IE) (ws : List Int) (most : Int) (p : List Int) : Int := nxZ ws (plL T p) p (most - wt0 ws p T.length)
def stp (T : List IE) (ws : List Int) (most : Int) (p : List Int) : List Int := if zAt T ws most p = -1 then p else p.set (zAt T ws most p).toNat 0
def hlv (T : List IE) (ws : List Int) (most : Int) : Nat → List Int
  | 0 => List.replicate T.length 1
  | k + 1 => stp T ws most (hlv T ws most k)
def halveL (T : List IE) (ws : List Int) (most : Int) : List Int := hlv T ws most T.length
theorem ones_at {n j : Nat} (h : j < n) : (List.replicate n (1 : Int)).getD j 0 = 1 := by
  rw [List.getD_eq_getElem?_getD, List.getElem?_replicate, if_pos h]; rfl
theorem wt0_set {ws p : List Int} {n z : Nat} (hz : z < n) (hl : p.length = n) (h1 : p.getD z 0 = 1) : wt0 ws (p.set z 0) n = wt0 ws p n + ws.getD z 0 := by
  unfold wt0
  rw [sumN_one (g := fun j => if p.getD j 0 = 0 then ws.getD j 0 else 0) hz (fun j _ hne => by rw [getD_setI _ _ _ _ (by omega), if_neg hne])]
  rw [getD_setI _ _ _ _ (by omega), if_pos rfl, h1]; simp
theorem zc_set {p : List Int} {n z : Nat} (hz : z < n) (hl : p.length = n) (h1 : p.getD z 0 = 1) : zc (p.set z 0) n = zc p n + 1 := by
  unfold zc
  rw [sumN_one (g := fun j => if p.getD j 0 = 0 then 1 else 0) hz (fun j _ hne => by rw [getD_setI _ _ _ _ (by omega), if_neg hne])]
  rw [getD_setI _ _ _ _ (by omega), if_pos rfl, h1]; simp
theorem zc_le (p : List Int) (n : Nat) : zc p n ≤ (n : Int) := by
  have h := sumN_le (n := n) (f := fun j => if p.getD j 0 = 0 then 1 else 0) (g := fun _ => 1) (fun j _ => by split <;> omega)
  rw [sumN_const] at h
  unfold zc; omega
structure GI (T : List IE) (ws : List Int) (most : Int) (p : List Int) : Prop where
  len : p.length = T.length
  val : ∀ j, j < T.length → p.getD j 0 = 0 ∨ p.getD j 0 = 1
  nn : 0 ≤ wt0 ws p T.length
  le : wt0 ws p T.length ≤ max most 0
theorem gi_zero (T : List IE) (ws : List Int) (most : Int) : GI T ws most (hlv T ws most 0) := by
  have h0 : wt0 ws (hlv T ws most 0) T.length = 0 := by
    unfold wt0
    exact (sumN_congr (g := fun _ => 0) fun j hj => by rw [hlv, ones_at hj, if_neg (by decide)]).trans (sumN_zero _)
  exact ⟨List.length_replicate, fun j hj => .inr (ones_at hj), by omega, by omega⟩
theorem zAt_char {T : List IE} {ws : List Int} {most : Int} {p : List Int} (hl : p.length = T.length) :
    (zAt T ws most p = -1 ∧ ∀ j, j < T.length → p.getD j 0 = 1 → ¬ ws.getD j 0 ≤ most - wt0 ws p T.length) ∨
    (∃ z : Nat, z < T.length ∧ zAt T ws most p = (z : Int) ∧ p.getD z 0 = 1 ∧ ws.getD z 0 ≤ most - wt0 ws p T.length) := by
  have h := nxS_char ws (plL T p) p (most - wt0 ws p T.length) T.length
  have e : zAt T ws most p = nxS ws (plL T p) p (most - wt0 ws p T.length) T.length := by unfold zAt nxZ nxS sdL; rw [hl]
  rw [e]; exact h
theorem gi_set {T : List IE} {ws : List Int} {most : Int} {p : List Int} (h : GI T ws most p) {z : Nat} (hz : z < T.length) (h1 : p.getD z 0 = 1) (h2 : ws.getD z 0 ≤ most - wt0 ws p T.length) (h0 : 0 ≤ ws.getD z 0) : GI T ws most (p.set z 0) := by
  have hn := h.nn
  refine ⟨by rw [List.length_set, h.len], fun j hj => ?_, ?_, ?_⟩
  · rw [getD_setI _ _ _ _ (by rw [h.len]; exact hz)]
    split
    · exact .inl rfl
    · exact h.val j hj
  · rw [wt0_set hz h.len h1]; omega
  · rw [wt0_set hz h.len h1]; omega
theorem gi_all {T : List IE} {ws : List Int} (h0 : ∀ j, j < T.length → 0 ≤ ws.getD j 0) (most : Int) : ∀ k, GI T ws most (hlv T ws most k)
  | 0 => gi_zero T ws most
  | k + 1 => by
    have ih := gi_all h0 most k
    rw [hlv]
    unfold stp
    rcases zAt_char (ws := ws) (most := most) ih.len with ⟨h1, _⟩ | ⟨z, hz, h1, h2, h3⟩
    · rw [if_pos h1]; exact ih
    · rw [h1, if_neg (by omega), Int.toNat_natCast]
      exact gi_set ih hz h2 h3 (h0 z hz)
theorem hlv_stop {T : List IE} {ws : List Int} {most : Int} {k : Nat} (h : zAt T ws most (hlv T ws most k) = -1) : ∀ n, k ≤ n → hlv T ws most n = hlv T ws most k
  | 0, hk => by rw [show k = 0 by omega]
  | n + 1, hk => by
    by_cases he : k = n + 1
    · rw [he]
    · have ih := hlv_stop h n (by omega)
      rw [hlv, ih]
      unfold stp
      rw [if_pos h]
theorem hlv_zc {T : List IE} {ws : List Int} (h0 : ∀ j, j < T.length → 0 ≤ ws.getD j 0) (most : Int) : ∀ k, zAt T ws most (hlv T ws most k) = -1 ∨ zc (hlv T ws most k) T.length = (k : Int)
  | 0 => by
    right
    unfold zc
    rw [sumN_congr (g := fun _ => 0) (fun j hj => by rw [hlv, ones_at hj, if_neg (by decide)]), sumN_zero]; rfl
  | k + 1 => by
    rcases hlv_zc h0 most k with h | h
    · left; rw [hlv_stop h (k + 1) (by omega)]; exact h
    · rcases zAt_char (ws := ws) (most := most) (gi_all h0 most k).len with ⟨h1, _⟩ | ⟨z, hz, h1, h2, _⟩
      · left; rw [hlv_stop h1 (k + 1) (by omega)]; exact h1
      · right
        rw [hlv]
        unfold stp
        rw [h1, if_neg (by omega), Int.toNat_natCast, zc_set hz (gi_all h0 most k).len h2, h]; omega
theorem halve_stop {T : List IE} {ws : List Int} (h0 : ∀ j, j < T.length → 0 ≤ ws.getD j 0) (most : Int) : zAt T ws most (halveL T ws most) = -1 := by
  rcases hlv_zc h0 most T.length with h | h
  · exact h
  · rcases zAt_char (ws := ws) (most := most) (gi_all h0 most T.length).len with ⟨h1, _⟩ | ⟨z, hz, h1, h2, _⟩
    · exact h1
    · exfalso
      have h3 := zc_set hz (gi_all h0 most T.length).len h2
      have h4 := zc_le ((hlv T ws most T.length).set z 0) T.length
      omega
theorem halve_full {T : List IE} {ws : List Int} (h0 : ∀ j, j < T.length → 0 ≤ ws.getD j 0) (most : Int) (j : Nat) (hj : j < T.length) (hp : (halveL T ws most).getD j 0 = 1) : ¬ ws.getD j 0 ≤ most - wt0 ws (halveL T ws most) T.length := by
  rcases zAt_char (ws := ws) (most := most) (gi_all h0 most T.length).len with ⟨_, h1⟩ | ⟨z, _, h1, _⟩
  · exact h1 j hj hp
  · have := halve_stop h0 most
    unfold halveL at this
    omega
end Go.Proofs.Ytpbknokakooekaa

