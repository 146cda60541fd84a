/- Plain laws of a table: all that is between two, added up; what joins in whichever order give. -/
import Derived.Test.YtpbknokakooekaaG6
namespace Go.Proofs.Ytpbknokakooekaa
set_option linter.all false
open Go Go.Sx Go.Proofs
def sumN (n : Nat) (f : Nat → Int) : Int := ((List.range n).map f).sum
theorem sumN_succ (n : Nat) (f : Nat → Int) : sumN (n + 1) f = sumN n f + f n := by unfold sumN; rw [List.range_succ, List.map_append, List.sum_append]; simp
theorem sumN_congr {n : Nat} {f g : Nat → Int} (h : ∀ i, i < n → f i = g i) : sumN n f = sumN n g := by
  unfold sumN
  congr 1
  exact List.map_congr_left fun i hi => h i (List.mem_range.1 hi)
theorem sumN_add (n : Nat) (f g : Nat → Int) : sumN n (fun i => f i + g i) = sumN n f + sumN n g := by
  induction n with
  | zero => rfl
  | succ n ih => rw [sumN_succ, sumN_succ, sumN_succ, ih]; omega
theorem sumN_zero (n : Nat) : sumN n (fun _ => 0) = 0 := by
  induction n with
  | zero => rfl
  | succ n ih => rw [sumN_succ, ih]; rfl
theorem sumN_upd {n k : Nat} (v : Int) {g : Nat → Int} (hk : k < n) (hg : g k = 0) : sumN n (fun j => if j = k then v else g j) = v + sumN n g := by
  induction n with
  | zero => omega
  | succ n ih =>
    rw [sumN_succ, sumN_succ]
    by_cases h : k = n
    · subst h
      rw [if_pos rfl, hg, Int.add_zero, Int.add_comm]
      congr 1
      exact sumN_congr fun i hi => if_neg (by omega)
    · rw [ih (by omega), if_neg (fun e => h e.symm)]; omega
theorem sumN_sym {f : Nat → Nat → Int} (hs : ∀ i j, f i j = f j i) (h0 : ∀ i, f i i = 0) (n : Nat) :
    sumN n (fun i => sumN n (f i)) = 2 * sumN n (fun i => sumN n (fun j => if i ≤ j then f i j else 0)) := by
  induction n with
  | zero => rfl
  | succ n ih =>
    have e1 : sumN (n + 1) (fun i => sumN (n + 1) (f i)) = sumN n (fun i => sumN n (f i)) + 2 * sumN n (fun i => f i n) := by
      rw [sumN_succ, sumN_congr (g := fun i => sumN n (f i) + f i n) (fun i _ => sumN_succ n (f i)), sumN_add, sumN_succ, h0, sumN_congr (f := f n) (g := fun i => f i n) (fun i _ => hs n i)]
      omega
    have e2 : sumN (n + 1) (fun i => sumN (n + 1) (fun j => if i ≤ j then f i j else 0)) = sumN n (fun i => sumN n (fun j => if i ≤ j then f i j else 0)) + sumN n (fun i => f i n) := by
      rw [sumN_succ, sumN_congr (g := fun i => sumN n (fun j => if i ≤ j then f i j else 0) + f i n) (fun i hi => by rw [sumN_succ, if_pos (by omega)]), sumN_add, sumN_succ, h0]
      have : sumN n (fun j => if n ≤ j then f n j else 0) = 0 := by
        rw [sumN_congr (g := fun _ => 0) (fun i hi => if_neg (by omega)), sumN_zero]
      rw [this]
      split <;> omega
    rw [e1, e2, ih]
    omega
def mat (T : List IE) (i j : Nat) : Int := (getE (T.getD i []) (j : Int)).getD 0
theorem sum_keys {n : Nat} : ∀ {es : IE}, Asc ltI es → (∀ x ∈ es, 0 ≤ x.1 ∧ x.1 < (n : Int)) → (es.map (·.2)).sum = sumN n (fun j => (getE es (j : Int)).getD 0)
  | [], _, _ => (sumN_zero n).symm
  | (k, v) :: es, ha, hk => by
    have ha2 := List.pairwise_cons.1 ha
    have h1 := hk (k, v) List.mem_cons_self
    simp only at h1
    obtain ⟨m, rfl⟩ : ∃ m : Nat, k = (m : Int) := ⟨k.toNat, by omega⟩
    have hno : getE es (m : Int) = none := getE_none (by
      cases ht : thereE es (m : Int) with
      | false => rfl
      | true =>
        obtain ⟨u, hu⟩ := there_iff.1 ht
        have := ha2.1 _ hu
        simp only at this
        rw [ltI_ok.irr] at this; cases this)
    rw [List.map_cons, List.sum_cons, sum_keys ha2.2 (fun x hx => hk x (List.mem_cons_of_mem _ hx)), ← sumN_upd (k := m) v (by omega) (by rw [hno]; rfl)]
    refine sumN_congr fun i _ => ?_
    rw [getE_cons]
    by_cases h : i = m
    · subst h; rw [if_pos rfl, if_pos rfl]; rfl
    · rw [if_neg h, if_neg (by simp only; omega)]
theorem get_drop {T : List IE} (hW : Wf T) (i : Nat) (j : Int) : getE ((T.getD i []).drop (rkE ltI (T.getD i []) (i : Int))) j = if (i : Int) ≤ j then getE (T.getD i []) j else none := by
  have ha := hW.gasc i
  have hr := asc_rkAt ltI_ok ha (i : Int)
  have hm : ∀ (x : Int × Int), x ∈ (T.getD i []).drop (rkE ltI (T.getD i []) (i : Int)) ↔ x ∈ T.getD i [] ∧ (i : Int) ≤ x.1 := by
    intro x
    constructor
    · intro hx
      obtain ⟨k, hk⟩ := List.getElem?_of_mem hx
      rw [List.getElem?_drop] at hk
      have := hr.hi _ x hk (Nat.le_add_right _ _)
      unfold ltI at this
      have := of_decide_eq_false this
      exact ⟨List.mem_of_getElem? hk, by omega⟩
    · rintro ⟨hx, hge⟩
      obtain ⟨k, hk⟩ := List.getElem?_of_mem hx
      rcases Nat.lt_or_ge k (rkE ltI (T.getD i []) (i : Int)) with h | h
      · have := of_decide_eq_true (hr.lo k x hk h)
        omega
      · refine List.mem_of_getElem? (i := k - rkE ltI (T.getD i []) (i : Int)) ?_
        rw [List.getElem?_drop, Nat.add_sub_cancel' h, hk]
  apply Option.ext
  intro u
  rw [getE_some ltI_ok (List.Pairwise.drop ha), hm]
  by_cases h : (i : Int) ≤ j
  · rw [if_pos h, getE_some ltI_ok ha]; exact ⟨fun x => x.1, fun x => ⟨x, h⟩⟩
  · rw [if_neg h]; exact ⟨fun x => absurd x.2 h, fun x => by cases x⟩
theorem sum_flat (T : List IE) : ∀ a, ((edgesU T a).map (·.2.2)).sum = sumN a (fun i => ((edgeR T i).map (·.2.2)).sum)
  | 0 => rfl
  | a + 1 => by rw [edgesU_succ, List.map_append, List.sum_append, sum_flat T a, sumN_succ]
/-- all degrees are twice all edges. -/
theorem deg_edges {T : List IE} (hW : Wf T) : sumN T.length (fun i => degT T (i : Int)) = 2 * ((edgesT T).map (·.2.2)).sum := by
  have hk : ∀ i : Nat, ∀ x ∈ T.getD i [], 0 ≤ x.1 ∧ x.1 < (T.length : Int) := fun i x hx => by
    rw [← rowT_nat] at hx
    exact ⟨(hW.rkey hx).1, (hW.rkey hx).2.1⟩
  have e1 : ∀ i : Nat, degT T (i : Int) = sumN T.length (mat T i) := fun i => by
    unfold degT mat
    rw [rowT_nat, sum_keys (hW.gasc i) (hk i)]
  have e2 : ∀ i : Nat, ((edgeR T i).map (·.2.2)).sum = sumN T.length (fun j => if i ≤ j then mat T i j else 0) := fun i => by
    have : ((edgeR T i).map (·.2.2)) = ((T.getD i []).drop (rkE ltI (T.getD i []) (i : Int))).map (·.2) := by unfold edgeR; rw [List.map_map]; rfl
    rw [this, sum_keys (n := T.length) (List.Pairwise.drop (hW.gasc i)) (fun x hx => hk i x (List.mem_of_mem_drop hx))]
    refine sumN_congr fun j _ => ?_
    rw [get_drop hW]
    unfold mat
    by_cases h : i ≤ j
    · rw [if_pos (by omega), if_pos h]
    · rw [if_neg (by omega), if_neg h]; rfl
  unfold edgesT
  rw [sumN_congr (g := fun i => sumN T.length (mat T i)) (fun i _ => e1 i), sum_flat, sumN_congr (f := fun i => ((edgeR T i).map (·.2.2)).sum) (fun i _ => e2 i)]
  refine sumN_sym (fun i j => by unfold mat; rw [hW.sym]) (fun i => ?_) _
  unfold mat
  cases hg : getE (T.getD i []) (i : Int) with
  | none => rfl
  | some v =>
    have hm := (getE_some ltI_ok (hW.gasc i)).1 hg
    rw [← rowT_nat] at hm
    exact absurd rfl (hW.rkey hm).2.2
theorem edges_mem {T : List IE} (hW : Wf T) {x : OpA} {a : Nat} (hx : x ∈ edgesU T a) : x.1 < x.2.1 ∧ 1 ≤ x.2.2 ∧ x.2.2 ≤ 1099511627776 := by
  unfold edgesU at hx
  obtain ⟨i, _, hi⟩ := List.mem_flatMap.1 hx
  unfold edgeR at hi
  obtain ⟨y, hy, rfl⟩ := List.mem_map.1 hi
  have ha := hW.gasc i
  have hr := asc_rkAt ltI_ok ha (i : Int)
  obtain ⟨k, hk⟩ := List.getElem?_of_mem hy
  rw [List.getElem?_drop] at hk
  have h1 := of_decide_eq_false (hr.hi _ y hk (Nat.le_add_right _ _))
  have hm := List.mem_of_getElem? hk
  rw [← rowT_nat] at hm
  have h2 := (hW.rkey hm).2.2
  have h3 := hW.rval hm
  simp only
  omega
theorem edges_len {T : List IE} (hW : Wf T) : ∀ a, (edgesU T a).length ≤ a * T.length
  | 0 => by simp [edgesU]
  | a + 1 => by
    rw [edgesU_succ, List.length_append, Nat.succ_mul]
    have h1 := edges_len hW a
    have h2 := hW.rlen (a : Int)
    rw [rowT_nat] at h2
    have h3 : (edgeR T a).length ≤ (T.getD a []).length := by unfold edgeR; rw [List.length_map, List.length_drop]; omega
    omega
theorem btw_sym {T : List IE} (hW : Wf T) (a b : Int) : btw T a b = btw T b a := by
  have hout : ∀ a b : Int, ¬ (0 ≤ a) → btw T b a = 0 := by
    intro a b h
    unfold btw
    cases hg : getE (rowT T b) a with
    | none => rfl
    | some v => exact absurd (hW.rkey ((getE_some ltI_ok (hW.rasc b)).1 hg)).1 h
  by_cases ha : 0 ≤ a
  · by_cases hb : 0 ≤ b
    · obtain ⟨i, rfl⟩ : ∃ i : Nat, a = (i : Int) := ⟨a.toNat, by omega⟩
      obtain ⟨j, rfl⟩ : ∃ j : Nat, b = (j : Int) := ⟨b.toNat, by omega⟩
      unfold btw
      rw [rowT_nat, rowT_nat, hW.sym]
    · rw [hout b a hb]
      unfold btw rowT
      rw [if_neg hb]; rfl
  · rw [hout a b ha]
    unfold btw rowT
    rw [if_neg ha]; rfl
/-- what a join adds. -/
def ctr (o : OpA) (x y : Int) : Int := if (x = o.1 ∧ y = o.2.1) ∨ (x = o.2.1 ∧ y = o.1) then o.2.2 else 0
theorem ctr_swap (o : OpA) (x y : Int) : ctr (o.2.1, o.1, o.2.2) x y = ctr o x y := by
  unfold ctr
  by_cases h : (x = o.1 ∧ y = o.2.1) ∨ (x = o.2.1 ∧ y = o.1)
  · rw [if_pos h, if_pos h.symm]
  · rw [if_neg h, if_neg (fun h2 => h h2.symm)]
theorem joinN_btw {T : List IE} (hW : Wf T) {n : Nat} (hl : T.length = n) (a b z : Int) (h0 : (joinN T n a b z).1 = 0) (x y : Int) : btw (joinN T n a b z).2 x y = btw T x y + ctr (a, b, z) x y := by
  unfold joinN at h0 ⊢
  split at h0
  · rename_i h
    rw [if_pos h]
    split at h0
    · rename_i hz
      rw [if_pos hz]
      obtain ⟨ha, hb, hab⟩ := h
      unfold inR at ha hb
      obtain ⟨i, rfl⟩ : ∃ i : Nat, a = (i : Int) := ⟨a.toNat, by omega⟩
      obtain ⟨j, rfl⟩ : ∃ j : Nat, b = (j : Int) := ⟨b.toNat, by omega⟩
      simp only [Int.toNat_natCast]
      rw [joinT_btw hW _ (by omega) (by omega) (by omega)]
      unfold ctr
      simp only
      by_cases h : (x = (i : Int) ∧ y = (j : Int)) ∨ (x = (j : Int) ∧ y = (i : Int))
      · rw [if_pos h, if_pos h]
        rcases h with ⟨rfl, rfl⟩ | ⟨rfl, rfl⟩
        · rfl
        · rw [btw_sym hW]
      · rw [if_neg h, if_neg h, Int.add_zero]
    · cases h0
  · cases h0
theorem btw_ext {S T : List IE} (hS : Wf S) (hT : Wf T) (hl : S.length = T.length) (h : ∀ x y, btw S x y = btw T x y) : S = T := by
  have hg : ∀ {U : List IE}, Wf U → ∀ (i : Nat) (k : Int), getE (U.getD i []) k = if btw U (i : Int) k = 0 then none else some (btw U (i : Int) k) := by
    intro U hU i k
    unfold btw
    rw [rowT_nat]
    cases hg : getE (U.getD i []) k with
    | none => rfl
    | some v =>
      have hm := (getE_some ltI_ok (hU.gasc i)).1 hg
      rw [← rowT_nat] at hm
      have := (hU.rval hm).1
      simp only [Option.getD_some]
      rw [if_neg (by simp only at this; omega)]
  apply List.ext_getElem?
  intro i
  by_cases hi : i < S.length
  · have e : S.getD i [] = T.getD i [] := getI_ext (hS.gasc i) (hT.gasc i) fun k => by rw [hg hS, hg hT, h]
    rw [List.getD_eq_getElem?_getD, List.getD_eq_getElem?_getD, List.getElem?_eq_getElem hi, List.getElem?_eq_getElem (by omega)] at e
    rw [List.getElem?_eq_getElem hi, List.getElem?_eq_getElem (by omega)]
    exact congrArg some e
  · rw [List.getElem?_eq_none (by omega), List.getElem?_eq_none (by omega)]
end Go.Proofs.Ytpbknokakooekaa

