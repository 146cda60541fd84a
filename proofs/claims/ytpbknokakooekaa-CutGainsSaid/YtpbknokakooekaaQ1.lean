/- Plain laws of keys in order, each with something. -/
import Derived.Test.YtpbknokakooekaaK11
namespace Go.Sx
set_option linter.all false
structure LtOk {κ : Type} (lt : κ → κ → Bool) : Prop where
  irr : ∀ a, lt a a = false
  tr : ∀ {a b c}, lt a b = true → lt b c = true → lt a c = true
  tri : ∀ {a b}, lt a b = false → lt b a = false → a = b
theorem LtOk.asym {κ : Type} {lt : κ → κ → Bool} (o : LtOk lt) {a b : κ} (h : lt a b = true) : lt b a = false := by
  cases hb : lt b a with
  | false => rfl
  | true => have := o.tr h hb; rw [o.irr] at this; cases this
theorem LtOk.ne {κ : Type} {lt : κ → κ → Bool} (o : LtOk lt) {a b : κ} (h : lt a b = true) : a ≠ b := by
  intro e; subst e; rw [o.irr] at h; cases h
section
variable {κ ν : Type} [DecidableEq κ] {lt : κ → κ → Bool}
def Asc (lt : κ → κ → Bool) (es : List (κ × ν)) : Prop := es.Pairwise fun x y => lt x.1 y.1 = true
def rkE (lt : κ → κ → Bool) (es : List (κ × ν)) (k : κ) : Nat := es.countP fun e => lt e.1 k
def thereE (es : List (κ × ν)) (k : κ) : Bool := es.any fun e => decide (e.1 = k)
def getE (es : List (κ × ν)) (k : κ) : Option ν := (es.find? fun e => decide (e.1 = k)).map (·.2)
def dropE (es : List (κ × ν)) (k : κ) : List (κ × ν) := es.filter fun e => decide (e.1 ≠ k)
def putE (lt : κ → κ → Bool) (es : List (κ × ν)) (k : κ) (v : ν) : List (κ × ν) := (es.filter fun e => lt e.1 k) ++ (k, v) :: es.filter fun e => lt k e.1
structure RkAt (lt : κ → κ → Bool) (es : List (κ × ν)) (k : κ) (r : Nat) : Prop where
  le : r ≤ es.length
  lo : ∀ i x, es[i]? = some x → i < r → lt x.1 k = true
  hi : ∀ i x, es[i]? = some x → r ≤ i → lt x.1 k = false
theorem RkAt.take {es : List (κ × ν)} {k : κ} {r : Nat} (h : RkAt lt es k r) : es.take r = es.filter fun e => lt e.1 k := by
  have h1 : (es.take r).filter (fun e => lt e.1 k) = es.take r := by
    rw [List.filter_eq_self]
    intro x hx
    obtain ⟨i, hi⟩ := List.getElem?_of_mem hx
    rw [List.getElem?_take] at hi
    split at hi
    · exact h.lo i x hi ‹_›
    · cases hi
  have h2 : (es.drop r).filter (fun e => lt e.1 k) = [] := by
    rw [List.filter_eq_nil_iff]
    intro x hx
    obtain ⟨i, hi⟩ := List.getElem?_of_mem hx
    rw [List.getElem?_drop] at hi
    rw [h.hi _ x hi (Nat.le_add_right _ _)]
    decide
  conv => rhs; rw [← List.take_append_drop r es, List.filter_append, h1, h2, List.append_nil]
theorem RkAt.eq {es : List (κ × ν)} {k : κ} {r : Nat} (h : RkAt lt es k r) : r = rkE lt es k := by
  unfold rkE
  rw [List.countP_eq_length_filter, ← h.take, List.length_take, Nat.min_eq_left h.le]
theorem asc_lt {es : List (κ × ν)} (ha : Asc lt es) {i j : Nat} {x y : κ × ν} (hx : es[i]? = some x) (hy : es[j]? = some y) (hij : i < j) : lt x.1 y.1 = true := by
  obtain ⟨h1, rfl⟩ := List.getElem?_eq_some_iff.1 hx
  obtain ⟨h2, rfl⟩ := List.getElem?_eq_some_iff.1 hy
  exact List.pairwise_iff_getElem.1 ha i j h1 h2 hij
theorem asc_rkAt (o : LtOk lt) : ∀ {es : List (κ × ν)}, Asc lt es → ∀ k, RkAt lt es k (rkE lt es k) := by
  intro es ha k
  induction es with
  | nil => exact ⟨Nat.le_refl _, fun i x h => by simp at h, fun i x h => by simp at h⟩
  | cons a es ih =>
    have ha2 := List.pairwise_cons.1 ha
    have h := ih ha2.2
    unfold rkE at h ⊢
    rw [List.countP_cons]
    cases hk : lt a.1 k with
    | true =>
      simp only [if_true]
      refine ⟨by have := h.le; simp; omega, fun i x hx hi => ?_, fun i x hx hi => ?_⟩
      · cases i with
        | zero => simp at hx; subst hx; exact hk
        | succ i => exact h.lo i x (by simpa using hx) (by omega)
      · cases i with
        | zero => omega
        | succ i => exact h.hi i x (by simpa using hx) (by omega)
    | false =>
      have h0 : es.countP (fun e => lt e.1 k) = 0 := by
        rw [List.countP_eq_zero]
        intro x hx hxk
        have := o.tr (ha2.1 x hx) hxk
        rw [hk] at this; cases this
      rw [h0] at h ⊢
      simp only [Bool.false_eq_true, if_false, Nat.add_zero]
      refine ⟨Nat.zero_le _, fun i x hx hi => by omega, fun i x hx hi => ?_⟩
      cases i with
      | zero => simp at hx; subst hx; exact hk
      | succ i => exact h.hi i x (by simpa using hx) (Nat.zero_le _)
theorem asc_inj (o : LtOk lt) {es : List (κ × ν)} (ha : Asc lt es) {x y : κ × ν} (hx : x ∈ es) (hy : y ∈ es) (hk : x.1 = y.1) : x = y := by
  obtain ⟨i, hi⟩ := List.getElem?_of_mem hx
  obtain ⟨j, hj⟩ := List.getElem?_of_mem hy
  rcases Nat.lt_trichotomy i j with h | h | h
  · exact absurd hk (o.ne (asc_lt ha hi hj h))
  · subst h; rw [hi] at hj; exact Option.some.inj hj
  · exact absurd hk.symm (o.ne (asc_lt ha hj hi h))
theorem there_iff {es : List (κ × ν)} {k : κ} : thereE es k = true ↔ ∃ v, (k, v) ∈ es := by
  unfold thereE
  rw [List.any_eq_true]
  constructor
  · rintro ⟨⟨a, v⟩, hx, h⟩
    have h1 := of_decide_eq_true h
    simp only at h1
    subst h1
    exact ⟨v, hx⟩
  · rintro ⟨v, h⟩; exact ⟨_, h, decide_eq_true rfl⟩
theorem getE_some (o : LtOk lt) {es : List (κ × ν)} (ha : Asc lt es) {k : κ} {v : ν} : getE es k = some v ↔ (k, v) ∈ es := by
  unfold getE
  rw [Option.map_eq_some_iff]
  constructor
  · rintro ⟨⟨a, b⟩, hx, rfl⟩
    have h0 := List.find?_some hx
    have h1 : a = k := by simpa using h0
    subst h1
    exact List.mem_of_find?_eq_some hx
  · intro h
    cases hf : es.find? fun e => decide (e.1 = k) with
    | none => exact absurd (List.find?_eq_none.1 hf _ h) (by simp)
    | some x =>
      have h0 := List.find?_some hf
      have h1 : x.1 = k := by simpa using h0
      exact ⟨x, rfl, by rw [asc_inj o ha (List.mem_of_find?_eq_some hf) h h1]⟩
theorem getE_none {es : List (κ × ν)} {k : κ} (h : thereE es k = false) : getE es k = none := by
  unfold getE
  have : es.find? (fun e => decide (e.1 = k)) = none := by
    rw [List.find?_eq_none]
    intro x hx hk
    have : thereE es k = true := there_iff.2 ⟨x.2, by rw [← of_decide_eq_true hk]; exact hx⟩
    rw [h] at this; cases this
  rw [this]; rfl
/-- at the rank stands the key, if it is there. -/
theorem rk_there (o : LtOk lt) {es : List (κ × ν)} (ha : Asc lt es) {k : κ} {r : Nat} (h : RkAt lt es k r) : thereE es k = true ↔ ∃ v, es[r]? = some (k, v) := by
  rw [there_iff]
  constructor
  · rintro ⟨v, hm⟩
    obtain ⟨i, hi⟩ := List.getElem?_of_mem hm
    refine ⟨v, ?_⟩
    rcases Nat.lt_trichotomy i r with h1 | h1 | h1
    · have := h.lo i _ hi h1; rw [o.irr] at this; cases this
    · subst h1; exact hi
    · have hr : r < es.length := by have := (List.getElem?_eq_some_iff.1 hi).1; omega
      have h2 := asc_lt ha (List.getElem?_eq_getElem hr) hi h1
      have := h.hi r _ (List.getElem?_eq_getElem hr) (Nat.le_refl _)
      rw [h2] at this; cases this
  · rintro ⟨v, hv⟩; exact ⟨v, List.mem_of_getElem? hv⟩
theorem rk_get (o : LtOk lt) {es : List (κ × ν)} (ha : Asc lt es) {k : κ} {v : ν} {i : Nat} (hi : es[i]? = some (k, v)) : getE es k = some v := (getE_some o ha).2 (List.mem_of_getElem? hi)
theorem asc_filter {es : List (κ × ν)} (p : κ × ν → Bool) (ha : Asc lt es) : Asc lt (es.filter p) := List.Pairwise.filter p ha
theorem asc_drop {es : List (κ × ν)} (ha : Asc lt es) (k : κ) : Asc lt (dropE es k) := asc_filter _ ha
theorem asc_put (o : LtOk lt) {es : List (κ × ν)} (ha : Asc lt es) (k : κ) (v : ν) : Asc lt (putE lt es k v) := by
  unfold putE Asc
  rw [List.pairwise_append, List.pairwise_cons]
  refine ⟨asc_filter _ ha, ⟨fun y hy => (List.mem_filter.1 hy).2, asc_filter _ ha⟩, fun x hx y hy => ?_⟩
  have h1 := (List.mem_filter.1 hx).2
  rcases List.mem_cons.1 hy with rfl | hy
  · exact h1
  · exact o.tr h1 (List.mem_filter.1 hy).2
theorem mem_put (o : LtOk lt) {es : List (κ × ν)} {k : κ} {v : ν} {x : κ × ν} : x ∈ putE lt es k v ↔ x = (k, v) ∨ x ∈ es ∧ x.1 ≠ k := by
  unfold putE
  rw [List.mem_append, List.mem_cons, List.mem_filter, List.mem_filter]
  constructor
  · rintro (⟨h1, h2⟩ | h | ⟨h1, h2⟩)
    · exact .inr ⟨h1, o.ne h2⟩
    · exact .inl h
    · exact .inr ⟨h1, (o.ne h2).symm⟩
  · rintro (h | ⟨h1, h2⟩)
    · exact .inr (.inl h)
    · cases ha : lt x.1 k with
      | true => exact .inl ⟨h1, rfl⟩
      | false =>
        cases hb : lt k x.1 with
        | true => exact .inr (.inr ⟨h1, rfl⟩)
        | false => exact absurd (o.tri ha hb) h2
theorem mem_drop {es : List (κ × ν)} {k : κ} {x : κ × ν} : x ∈ dropE es k ↔ x ∈ es ∧ x.1 ≠ k := by
  unfold dropE; rw [List.mem_filter, decide_eq_true_iff]
theorem asc_ext (o : LtOk lt) : ∀ {a b : List (κ × ν)}, Asc lt a → Asc lt b → (∀ x, x ∈ a ↔ x ∈ b) → a = b
  | [], [], _, _, _ => rfl
  | [], y :: b, _, _, h => by have := (h y).2 List.mem_cons_self; cases this
  | x :: a, [], _, _, h => by have := (h x).1 List.mem_cons_self; cases this
  | x :: a, y :: b, ha, hb, h => by
    have ha2 := List.pairwise_cons.1 ha
    have hb2 := List.pairwise_cons.1 hb
    have hxy : x = y := by
      rcases List.mem_cons.1 ((h x).1 List.mem_cons_self) with h1 | h1
      · exact h1
      rcases List.mem_cons.1 ((h y).2 List.mem_cons_self) with h2 | h2
      · exact h2.symm
      have h3 := hb2.1 x h1
      have h4 := ha2.1 y h2
      rw [o.asym h3] at h4; cases h4
    subst hxy
    congr 1
    refine asc_ext o ha2.2 hb2.2 fun z => ?_
    constructor
    · intro hz
      rcases List.mem_cons.1 ((h z).1 (List.mem_cons_of_mem _ hz)) with h1 | h1
      · subst h1; have := ha2.1 z hz; rw [o.irr] at this; cases this
      · exact h1
    · intro hz
      rcases List.mem_cons.1 ((h z).2 (List.mem_cons_of_mem _ hz)) with h1 | h1
      · subst h1; have := hb2.1 z hz; rw [o.irr] at this; cases this
      · exact h1
/-- what Put does to a row. -/
theorem put_set (o : LtOk lt) {es : List (κ × ν)} (ha : Asc lt es) {k : κ} {u v : ν} {r : Nat} (h : RkAt lt es k r) (hr : es[r]? = some (k, u)) : es.set r (k, v) = putE lt es k v := by
  obtain ⟨hlt, hg⟩ := List.getElem?_eq_some_iff.1 hr
  rw [List.set_eq_take_append_cons_drop, if_pos hlt, h.take]
  unfold putE
  congr 2
  have h1 : (es.drop (r + 1)).filter (fun e => lt k e.1) = es.drop (r + 1) := by
    rw [List.filter_eq_self]
    intro x hx
    obtain ⟨i, hi⟩ := List.getElem?_of_mem hx
    rw [List.getElem?_drop] at hi
    exact asc_lt ha hr hi (by omega)
  have h2 : (es.take (r + 1)).filter (fun e => lt k e.1) = [] := by
    rw [List.filter_eq_nil_iff]
    intro x hx
    obtain ⟨i, hi⟩ := List.getElem?_of_mem hx
    rw [List.getElem?_take] at hi
    split at hi
    · rename_i hir
      rcases Nat.lt_or_ge i r with h3 | h3
      · rw [o.asym (h.lo i x hi h3)]; decide
      · have : i = r := by omega
        subst this
        rw [hr] at hi
        cases hi
        rw [o.irr]; decide
    · cases hi
  conv => rhs; rw [← List.take_append_drop (r + 1) es, List.filter_append, h1, h2, List.nil_append]
theorem rk_gt (o : LtOk lt) {es : List (κ × ν)} {k : κ} {r : Nat} (h : RkAt lt es k r) (hn : thereE es k = false) : es.drop r = es.filter fun e => lt k e.1 := by
  have h1 : (es.drop r).filter (fun e => lt k e.1) = es.drop r := by
    rw [List.filter_eq_self]
    intro x hx
    obtain ⟨i, hi⟩ := List.getElem?_of_mem hx
    rw [List.getElem?_drop] at hi
    cases hb : lt k x.1 with
    | true => rfl
    | false =>
      have e := o.tri (h.hi _ x hi (Nat.le_add_right _ _)) hb
      have : thereE es k = true := there_iff.2 ⟨x.2, by rw [← e]; exact List.mem_of_getElem? hi⟩
      rw [hn] at this; cases this
  have h2 : (es.take r).filter (fun e => lt k e.1) = [] := by
    rw [List.filter_eq_nil_iff]
    intro x hx
    obtain ⟨i, hi⟩ := List.getElem?_of_mem hx
    rw [List.getElem?_take] at hi
    split at hi
    · rw [o.asym (h.lo i x hi ‹_›)]; decide
    · cases hi
  conv => rhs; rw [← List.take_append_drop r es, List.filter_append, h1, h2, List.nil_append]
theorem put_insert (o : LtOk lt) {es : List (κ × ν)} {k : κ} {v : ν} {r : Nat} (h : RkAt lt es k r) (hn : thereE es k = false) : es.take r ++ (k, v) :: es.drop r = putE lt es k v := by
  unfold putE; rw [h.take, rk_gt o h hn]
theorem drop_erase (o : LtOk lt) {es : List (κ × ν)} (ha : Asc lt es) {k : κ} {u : ν} {r : Nat} (hr : es[r]? = some (k, u)) : es.take r ++ es.drop (r + 1) = dropE es k := by
  unfold dropE
  have hne : ∀ i x, es[i]? = some x → i ≠ r → x.1 ≠ k := by
    intro i x hi hir e
    have := asc_inj o ha (List.mem_of_getElem? hi) (List.mem_of_getElem? hr) e
    subst this
    rcases Nat.lt_or_gt_of_ne hir with h1 | h1
    · exact o.ne (asc_lt ha hi hr h1) rfl
    · exact o.ne (asc_lt ha hr hi h1) rfl
  have h1 : (es.take r).filter (fun e => decide (e.1 ≠ k)) = es.take r := by
    rw [List.filter_eq_self]
    intro x hx
    obtain ⟨i, hi⟩ := List.getElem?_of_mem hx
    rw [List.getElem?_take] at hi
    split at hi
    · exact decide_eq_true (hne i x hi (by omega))
    · cases hi
  have h2 : (es.drop (r + 1)).filter (fun e => decide (e.1 ≠ k)) = es.drop (r + 1) := by
    rw [List.filter_eq_self]
    intro x hx
    obtain ⟨i, hi⟩ := List.getElem?_of_mem hx
    rw [List.getElem?_drop] at hi
    exact decide_eq_true (hne _ x hi (by omega))
  obtain ⟨hlt, hg⟩ := List.getElem?_eq_some_iff.1 hr
  conv => rhs; rw [← List.take_append_drop r es, List.filter_append, h1, List.drop_eq_getElem_cons hlt, List.filter_cons, hg]
  simp only [ne_eq, not_true_eq_false, decide_false, Bool.false_eq_true, if_false, h2]
theorem drop_none {es : List (κ × ν)} {k : κ} (hn : thereE es k = false) : dropE es k = es := by
  unfold dropE
  rw [List.filter_eq_self]
  intro x hx
  refine decide_eq_true fun e => ?_
  have : thereE es k = true := there_iff.2 ⟨x.2, by rw [← e]; exact hx⟩
  rw [hn] at this; cases this
theorem put_len_le {es : List (κ × ν)} {k : κ} {v : ν} (o : LtOk lt) (ha : Asc lt es) : (putE lt es k v).length ≤ es.length + 1 := by
  have h := asc_rkAt o ha k
  cases hn : thereE es k with
  | false => rw [← put_insert o h hn]; simp; omega
  | true =>
    obtain ⟨u, hu⟩ := (rk_there o ha h).1 hn
    rw [← put_set o ha h hu]; simp
theorem drop_len_le {es : List (κ × ν)} {k : κ} : (dropE es k).length ≤ es.length := List.length_filter_le _ _
theorem put_there (o : LtOk lt) {es : List (κ × ν)} {k k' : κ} {v : ν} : thereE (putE lt es k v) k' = (decide (k' = k) || thereE es k') := by
  rw [Bool.eq_iff_iff, Bool.or_eq_true, there_iff, there_iff, decide_eq_true_iff]
  constructor
  · rintro ⟨u, hu⟩
    rcases (mem_put o).1 hu with h | ⟨h, _⟩
    · exact .inl (Prod.mk.inj h).1
    · exact .inr ⟨u, h⟩
  · rintro (rfl | ⟨u, hu⟩)
    · exact ⟨v, (mem_put o).2 (.inl rfl)⟩
    · by_cases hk : k' = k
      · subst hk; exact ⟨v, (mem_put o).2 (.inl rfl)⟩
      · exact ⟨u, (mem_put o).2 (.inr ⟨hu, hk⟩)⟩
end
def ltI (a b : Int) : Bool := decide (a < b)
theorem ltI_ok : LtOk ltI := ⟨fun a => by simp [ltI], fun h1 h2 => by simp [ltI] at *; omega, fun h1 h2 => by simp [ltI] at *; omega⟩
end Go.Sx

