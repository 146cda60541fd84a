/- More rules: what is appended to, as a row with room behind, and back. -/
import Derived.Test.YtlkmlppamkidlaaGreatSqKA
set_option linter.all false
set_option maxRecDepth 100000
set_option maxHeartbeats 2000000
section
namespace Go.Sx
open Go Go.Shelf Go.Proofs
variable {w w0 : World} {M : Nat → Prop} {L : List Cap} {DD : List Nat}
theorem St.rowAppS {i g len cap sz : Nat} {T : TypeId} {l : List Value} (H : St M w0 w L DD) (hi : L[i]? = some (.row g T l)) (hl : l.length = cap * sz) (hle : len ≤ cap) (hc : cap ≤ maxLen) : St M w0 w (L.set i (.app (some ⟨g, 0, Option.none⟩) len cap T sz (l.take (len * sz)))) DD := by
 refine H.weak hi (fun ho => ?_) (fun b hb => ?_)
 ·refine ⟨?_, .inr ⟨g, ⟨l⟩, rfl, ho, hle, hc, hl, rfl⟩⟩
  rw [List.length_take, hl, Nat.min_eq_left (Nat.mul_le_mul_right _ hle)]
 ·obtain ⟨o, s, hq⟩ := hb
  cases hq
  rfl
end Go.Sx
end
section
namespace Go.Sx
structure LeOk {β : Type} (le : β → β → Prop) : Prop where
 tot : ∀ a b, le a b ∨ le b a
 tr : ∀ {a b c}, le a b → le b c → le a c
theorem LeOk.rfl {β : Type} {le : β → β → Prop} (o : LeOk le) (a : β) : le a a := (o.tot a a).elim id id
variable {β : Type} {le : β → β → Prop}
def swL (K : List β) (i j : Nat) : List β := match K[i]?, K[j]? with
 | some x, some y => (K.set i y).set j x
 | _, _ => K
theorem swL_eq {K : List β} {i j : Nat} {x y : β} (hi : K[i]? = some x) (hj : K[j]? = some y) : swL K i j = (K.set i y).set j x := by unfold swL; rw [hi, hj]
theorem swL_len (K : List β) (i j : Nat) : (swL K i j).length = K.length := by unfold swL; split <;> simp
theorem swL_at {K : List β} {i j : Nat} {x y : β} (hi : K[i]? = some x) (hj : K[j]? = some y) (m : Nat) : (swL K i j)[m]? = if m = j then some x else if m = i then some y else K[m]? := by
 have hil := (List.getElem?_eq_some_iff.1 hi).1
 have hjl := (List.getElem?_eq_some_iff.1 hj).1
 rw [swL_eq hi hj]
 by_cases h1 : m = j
 ·subst h1; rw [List.getElem?_set_self (by rw [List.length_set]; exact hjl), if_pos rfl]
 ·rw [List.getElem?_set_ne (Ne.symm h1), if_neg h1]
  by_cases h2 : m = i
  ·subst h2; rw [List.getElem?_set_self hil, if_pos rfl]
  ·rw [List.getElem?_set_ne (Ne.symm h2), if_neg h2]
theorem set_perm {K : List β} : ∀ {i : Nat} {x : β} (y : β), K[i]? = some x → (x :: K.set i y).Perm (y :: K) := by
 induction K with
 | nil => intro i x y h; cases h
 | cons a r ih =>
  intro i x y h
  cases i with
  | zero => cases h; exact List.Perm.swap _ _ _
  | succ i =>
   rw [List.set_cons_succ]
   exact (List.Perm.swap _ _ _).trans (((ih y h).cons a).trans (List.Perm.swap _ _ _))
theorem swL_perm (K : List β) (i j : Nat) : (swL K i j).Perm K := by
 unfold swL
 split
 ·rename_i x y hi hj
  by_cases hij : i = j
  ·subst hij
   rw [hi] at hj; cases hj
   rw [List.set_set]
   have h := set_perm (x := x) x hi
   exact h.cons_inv
  ·have h1 := set_perm (x := x) y hi
   have h2 := set_perm (K := K.set i y) (i := j) (x := y) x (by rw [List.getElem?_set_ne hij]; exact hj)
   exact (h2.trans h1).cons_inv
 ·exact List.Perm.refl _
def HpP (le : β → β → Prop) (K : List β) : Prop := ∀ j x y, 0 < j → K[j]? = some x → K[(j - 1) / 2]? = some y → le y x
def UpI (le : β → β → Prop) (K : List β) (i : Nat) : Prop := (∀ j x y, 0 < j → j ≠ i → K[j]? = some x → K[(j - 1) / 2]? = some y → le y x) ∧
 (∀ j x y, 0 < i → (j - 1) / 2 = i → 0 < j → K[j]? = some x → K[(i - 1) / 2]? = some y → le y x)
def DnI (le : β → β → Prop) (K : List β) (i : Nat) : Prop := (∀ j x y, 0 < j → (j - 1) / 2 ≠ i → K[j]? = some x → K[(j - 1) / 2]? = some y → le y x) ∧
 (∀ j x y, 0 < i → (j - 1) / 2 = i → 0 < j → K[j]? = some x → K[(i - 1) / 2]? = some y → le y x)
theorem UpI.stop {K : List β} {i : Nat} (h : UpI le K i) (hi : i = 0 ∨ ∃ x y, K[i]? = some x ∧ K[(i - 1) / 2]? = some y ∧ le y x) : HpP le K := fun j x y hj hx hy => by
 by_cases hji : j = i
 ·subst hji
  rcases hi with h0 | ⟨x', y', hx', hy', hle⟩
  ·omega
  ·rw [hx] at hx'; rw [hy] at hy'; cases hx'; cases hy'; exact hle
 ·exact h.1 j x y hj hji hx hy
theorem UpI.step (o : LeOk le) {K : List β} {i : Nat} {x y : β} (h : UpI le K i) (hi : 0 < i) (hx : K[i]? = some x) (hy : K[(i - 1) / 2]? = some y) (hle : le x y) : UpI le (swL K i ((i - 1) / 2)) ((i - 1) / 2) := by
 have hpi : (i - 1) / 2 ≠ i := by omega
 refine ⟨fun j a b hj hji ha hb => ?_, fun j a b hp hjp hj ha hb => ?_⟩
 ·rw [swL_at hx hy] at ha hb
  rw [if_neg hji] at ha
  by_cases h1 : j = i
  ·subst h1
   rw [if_pos rfl] at ha
   rw [if_pos rfl] at hb
   cases ha; cases hb
   exact hle
  ·rw [if_neg h1] at ha
   by_cases h2 : (j - 1) / 2 = (i - 1) / 2
   ·rw [if_pos h2] at hb
    cases hb
    exact o.tr hle (h.1 j a y hj h1 ha (by rw [h2]; exact hy))
   ·rw [if_neg h2] at hb
    by_cases h3 : (j - 1) / 2 = i
    ·rw [if_pos h3] at hb
     cases hb
     exact h.2 j a y hi h3 hj ha hy
    ·rw [if_neg h3] at hb
     exact h.1 j a b hj h1 ha hb
 ·rw [swL_at hx hy] at ha hb
  rw [if_neg (show ¬ ((i - 1) / 2 - 1) / 2 = (i - 1) / 2 by omega), if_neg (show ¬ ((i - 1) / 2 - 1) / 2 = i by omega)] at hb
  have hby := h.1 ((i - 1) / 2) y b hp hpi hy hb
  rw [if_neg (show ¬ j = (i - 1) / 2 by omega)] at ha
  by_cases h1 : j = i
  ·rw [if_pos h1] at ha; cases ha; exact hby
  ·rw [if_neg h1] at ha
   exact o.tr hby (h.1 j a y hj h1 ha (by rw [hjp]; exact hy))
theorem HpP.push {K : List β} (h : HpP le K) (x : β) : UpI le (K ++ [x]) K.length := by
 refine ⟨fun j a b hj hji ha hb => ?_, fun j a b _ hjp hj ha _ => ?_⟩
 ·have hjl := (List.getElem?_eq_some_iff.1 ha).1
  rw [List.length_append, List.length_singleton] at hjl
  rw [List.getElem?_append_left (by omega)] at ha
  rw [List.getElem?_append_left (by omega)] at hb
  exact h j a b hj ha hb
 ·have hjl := (List.getElem?_eq_some_iff.1 ha).1
  rw [List.length_append, List.length_singleton] at hjl
  omega
theorem DnI.stop {K : List β} {i : Nat} (h : DnI le K i) (hc : ∀ j x y, (j - 1) / 2 = i → 0 < j → K[j]? = some x → K[i]? = some y → le y x) : HpP le K := fun j x y hj hx hy => by
 by_cases hji : (j - 1) / 2 = i
 ·rw [hji] at hy; exact hc j x y hji hj hx hy
 ·exact h.1 j x y hj hji hx hy
theorem DnI.step {K : List β} {i l : Nat} {x y : β} (h : DnI le K i) (hl : (l - 1) / 2 = i) (hl0 : 0 < l) (hx : K[i]? = some x) (hy : K[l]? = some y) (hle : le y x) (hc : ∀ j z, (j - 1) / 2 = i → 0 < j → K[j]? = some z → le y z) : DnI le (swL K i l) l := by
 have hil : i ≠ l := by omega
 refine ⟨fun j a b hj hjl ha hb => ?_, fun j a b _ hjl hj ha hb => ?_⟩
 ·rw [swL_at hx hy] at ha hb
  rw [if_neg hjl] at hb
  by_cases h1 : (j - 1) / 2 = i
  ·rw [if_pos h1] at hb
   cases hb
   by_cases h2 : j = l
   ·rw [if_pos h2] at ha; cases ha; exact hle
   ·rw [if_neg h2, if_neg (show ¬ j = i by omega)] at ha
    exact hc j a h1 hj ha
  ·rw [if_neg h1] at hb
   rw [if_neg (show ¬ j = l from fun e => h1 (by rw [e]; exact hl))] at ha
   by_cases h3 : j = i
   ·rw [if_pos h3] at ha
    cases ha
    rw [h3] at hb
    exact h.2 l y b (by omega) hl hl0 hy hb
   ·rw [if_neg h3] at ha
    exact h.1 j a b hj h1 ha hb
 ·rw [swL_at hx hy] at ha hb
  rw [if_neg (show ¬ (l - 1) / 2 = l by omega), if_pos hl] at hb
  cases hb
  rw [if_neg (show ¬ j = l by omega), if_neg (show ¬ j = i by omega)] at ha
  exact h.1 j a y hj (by omega) ha (by rw [hjl]; exact hy)
theorem HpP.min (o : LeOk le) {K : List β} (h : HpP le K) {x : β} (hx : K[0]? = some x) : ∀ (n j : Nat) (y : β), j < n → K[j]? = some y → le x y
 | 0, j, y, hj, _ => absurd hj (Nat.not_lt_zero _)
 | n + 1, j, y, hj, hy => by
  by_cases h0 : j = 0
  ·subst h0; rw [hx] at hy; cases hy; exact o.rfl x
  ·have hjl := (List.getElem?_eq_some_iff.1 hy).1
   obtain ⟨z, hz⟩ : ∃ z, K[(j - 1) / 2]? = some z := ⟨_, List.getElem?_eq_getElem (by omega)⟩
   exact o.tr (HpP.min o h hx n ((j - 1) / 2) z (by omega) hz) (h j y z (by omega) hy hz)
theorem HpP.pop {K : List β} (h : HpP le K) {n : Nat} (hn : K.length = n + 1) : DnI le ((swL K 0 n).take n) 0 := by
 obtain ⟨x, hx⟩ : ∃ x, K[0]? = some x := ⟨_, List.getElem?_eq_getElem (by omega)⟩
 obtain ⟨y, hy⟩ : ∃ y, K[n]? = some y := ⟨_, List.getElem?_eq_getElem (by omega)⟩
 refine ⟨fun j a b hj hp ha hb => ?_, fun j a b h0 => absurd h0 (Nat.lt_irrefl 0)⟩
 have hjl := (List.getElem?_eq_some_iff.1 ha).1
 rw [List.length_take, swL_len] at hjl
 rw [List.getElem?_take_of_lt (by omega), swL_at hx hy, if_neg (by omega), if_neg (by omega)] at ha
 rw [List.getElem?_take_of_lt (by omega), swL_at hx hy, if_neg (by omega), if_neg hp] at hb
 exact h j a b hj ha hb
theorem pop_perm {K : List β} {n : Nat} (hn : K.length = n + 1) {x : β} (hx : K[0]? = some x) : (x :: (swL K 0 n).take n).Perm K := by
 obtain ⟨y, hy⟩ : ∃ y, K[n]? = some y := ⟨_, List.getElem?_eq_getElem (by omega)⟩
 have h1 := swL_perm K 0 n
 have h2 : swL K 0 n = (swL K 0 n).take n ++ [x] := by
  have h3 : (swL K 0 n)[n]? = some x := by rw [swL_at hx hy, if_pos rfl]
  have hl := swL_len K 0 n
  conv => lhs; rw [← List.take_append_drop n (swL K 0 n)]
  congr 1
  have : (swL K 0 n).drop n = x :: (swL K 0 n).drop (n + 1) := by
   rw [List.drop_eq_getElem_cons (by omega)]
   congr 1
   have := (List.getElem?_eq_some_iff.1 h3).2
   exact this
  rw [this, List.drop_eq_nil_of_le (by omega)]
 rw [h2] at h1
 exact (List.perm_append_comm (l₁ := [x])).trans h1
structure LessOk {α : Type} (lt : α → α → Bool) : Prop where
 asym : ∀ {a b}, lt a b = true → lt b a = false
 ntr : ∀ {a b c}, lt a b = false → lt b c = false → lt a c = false
theorem lessOk_key {α κ : Type} {lt : κ → κ → Bool} (o : LtOk lt) (f : α → κ) : LessOk fun a b => lt (f a) (f b) := ⟨fun h => o.asym h, fun {a b c} h1 h2 => by
 cases h : lt (f a) (f c) with
 | false => rfl
 | true =>
  exfalso
  cases h3 : lt (f b) (f a) with
  | true => rw [o.tr h3 h] at h2; cases h2
  | false =>
   have := o.tri h1 h3
   rw [this] at h
   rw [h] at h2; cases h2⟩
variable {α : Type} {lt : α → α → Bool}
def ahI (lt : α → α → Bool) (a b : α × Nat) : Bool := lt a.1 b.1 || (!lt b.1 a.1 && decide (a.2 < b.2))
def leI (lt : α → α → Bool) (a b : α × Nat) : Prop := ahI lt b a = false
theorem leI_iff {a b : α × Nat} : leI lt a b ↔ lt b.1 a.1 = false ∧ (lt a.1 b.1 = true ∨ a.2 ≤ b.2) := by
 unfold leI ahI
 cases h1 : lt b.1 a.1 <;> cases h2 : lt a.1 b.1 <;> simp
theorem leI_ok (o : LessOk lt) : LeOk (leI lt) := ⟨fun a b => by
 rw [leI_iff, leI_iff]
 cases h1 : lt a.1 b.1 with
 | true => exact .inl ⟨o.asym h1, .inl rfl⟩
 | false =>
  cases h2 : lt b.1 a.1 with
  | true => exact .inr ⟨rfl, .inl rfl⟩
  | false =>
   rcases Nat.le_total a.2 b.2 with h | h
   ·exact .inl ⟨rfl, .inr h⟩
   ·exact .inr ⟨rfl, .inr h⟩, fun {a b c} h1 h2 => by
 rw [leI_iff] at h1 h2 ⊢
 refine ⟨o.ntr h2.1 h1.1, ?_⟩
 cases h : lt a.1 c.1 with
 | true => exact .inl rfl
 | false =>
  refine .inr ?_
  rcases h1.2 with h3 | h3
  ·rw [o.ntr h h2.1] at h3; cases h3
  ·rcases h2.2 with h4 | h4
   ·rw [o.ntr h1.1 h] at h4; cases h4
   ·omega⟩
def SrtP (lt : α → α → Bool) (l : List α) : Prop := l.Pairwise fun a b => lt b a = false
theorem srt_of {l : List (α × Nat)} (h : l.Pairwise (leI lt)) : SrtP lt (l.map (·.1)) := by
 unfold SrtP
 rw [List.pairwise_map]
 exact h.imp fun h => (leI_iff.1 h).1
theorem srt_uniq {κ : Type} [DecidableEq κ] {lk : κ → κ → Bool} (o : LtOk lk) {f : α → κ} {a b : List α} (ha : SrtP (fun x y => lk (f x) (f y)) a) (hb : SrtP (fun x y => lk (f x) (f y)) b) (hn : (a.map f).Nodup) (hp : a.Perm b) : a = b := by
 have key : ∀ l : List α, SrtP (fun x y => lk (f x) (f y)) l → (l.map f).Nodup → Asc lk (l.map fun x => (f x, x)) := fun l h hn => by
  unfold Asc
  rw [List.pairwise_map]
  have hn2 : l.Pairwise fun x y => f x ≠ f y := by
   have := hn
   unfold List.Nodup at this
   rwa [List.pairwise_map] at this
  refine (List.Pairwise.and h hn2).imp fun {x y} hxy => ?_
  cases hlt : lk (f x) (f y) with
  | true => rfl
  | false => exact absurd (o.tri hlt hxy.1) hxy.2
 have hnb : (b.map f).Nodup := (hp.map f).nodup_iff.1 hn
 have e := asc_ext o (key a ha hn) (key b hb hnb) fun x => (hp.map fun x => (f x, x)).mem_iff
 have := congrArg (List.map Prod.snd) e
 rw [List.map_map, List.map_map, show (Prod.snd ∘ fun x => (f x, x)) = id from rfl, List.map_id, List.map_id] at this
 exact this
end Go.Sx
end
section
namespace Go.Sx
open Go Go.Shelf Go.Proofs
variable {P : Program} {r : Option Nat} {n : Nat} {D DD : List Nat} {a : Act} {e : Env} {w w' w0 : World}
variable {ops : Array Oper} {os : List Oper} {Q : Post} {d : Nat} {ty : TypeId} {pos : String} {af : Array Edge}
variable {M : Nat → Prop} {L : List Cap}
def LessC (P : Program) {α : Type} (cl : α → List Value) (lt : α → α → Bool) (fv : Value) (pa : Option Addr) (ca : List Value) : Prop :=
 ∃ g first cap, fv = .func (.func g) first cap ∧ Enters P g ∧ ∀ x y w, SlH (hp w) pa ca → CallsV P g ⟨first.toList ++ [.agg ⟨cl x⟩, .agg ⟨cl y⟩] ++ cap.toList⟩ w fun v w' => v = .bool (lt x y) ∧ St Pu w w' [] []
def icl {α : Type} (cl : α → List Value) (x : α × Nat) : List Value := cl x.1 ++ [.int .u64 (x.2 : Int)]
theorem icl_len {α : Type} {cl : α → List Value} {k : Nat} (h : ∀ x, (cl x).length = k) (x : α × Nat) : (icl cl x).length = k + 1 := by unfold icl; rw [List.length_append, h]; rfl
theorem icl_one {α : Type} {cl : α → List Value} (h : ∀ x, ∀ v ∈ cl x, Value.oneCell' v = true) (x : α × Nat) : ∀ v ∈ icl cl x, Value.oneCell' v = true := fun v hv => by
 rcases List.mem_append.1 hv with h1 | h1
 ·exact h _ v h1
 ·rw [List.mem_singleton.1 h1]; rfl
theorem flat_ones {α : Type} {f : α → List Value} (h : ∀ x, ∀ v ∈ f x, Value.oneCell' v = true) (K : List α) : ∀ v ∈ K.flatMap f, Value.oneCell' v = true := fun v hv => by
 obtain ⟨x, _, hx⟩ := List.mem_flatMap.1 hv
 exact h x v hx
theorem flatW_set {α : Type} {f : α → List Value} {k : Nat} (hk : ∀ o, (f o).length = k) : ∀ {K : List α} {m : Nat} (z : α), m < K.length → (K.flatMap f).take (m * k) ++ f z ++ (K.flatMap f).drop (m * k + k) = (K.set m z).flatMap f
 | [], m, z, h => absurd h (Nat.not_lt_zero _)
 | a :: K, 0, z, h => by
  rw [Nat.zero_mul, List.take_zero, List.nil_append, Nat.zero_add, List.set_cons_zero, List.flatMap_cons, List.flatMap_cons, List.drop_append, hk, Nat.sub_self, List.drop_zero, List.drop_eq_nil_of_le (by rw [hk]; exact Nat.le_refl _), List.nil_append]
 | a :: K, m + 1, z, h => by
  have ih := flatW_set hk (K := K) (m := m) z (by simpa using h)
  rw [List.set_cons_succ, List.flatMap_cons, List.flatMap_cons, ← ih, show (m + 1) * k = k + m * k by rw [Nat.succ_mul]; omega, List.take_append, hk, List.take_of_length_le (by rw [hk]; omega), show k + m * k - k = m * k by omega, show k + m * k + k = k + (m * k + k) by omega, List.drop_append, hk, List.drop_eq_nil_of_le (by rw [hk]; omega), show k + (m * k + k) - k = m * k + k by omega, List.nil_append, List.append_assoc, List.append_assoc, List.append_assoc]
theorem ow_storeEl {α : Type} {f : α → List Value} {k : Nat} {T T' : TypeId} {t : TyI} {x y : Operand} {i b o m len cap : Nat} {K : List α} {z : α} (hk : ∀ o, (f o).length = k) (hf1 : ∀ x, ∀ v ∈ f x, Value.oneCell' v = true) (H : St M w0 w L DD) (ht : TyI.of P T = some t) (hsz : k = t.size) (hx : ev e x = .pointer (some ⟨b, o, none⟩)) (ho : o = 0 + m * k) (hi : L[i]? = some (.app (some ⟨b, 0, none⟩) len cap T' k (K.flatMap f)))
  (hy : ev e y = .agg ⟨f z⟩) (hm : m < K.length) (h : ∀ w', St M w0 w' (L.set i (.app (some ⟨b, 0, none⟩) len cap T' k ((K.set m z).flatMap f))) DD → OW P r n ops os e D w' Q) :
  OW P r n ops (⟨none, .store T x y, ty, pos, af, none⟩ :: os) e D w Q := by
 obtain ⟨zs, h1, h2, h3, h4, H1⟩ := H.appRow hi
 have hlt : i < L.length := (List.getElem?_eq_some_iff.1 hi).1
 have hfl := flat_len hk K
 have hmk : m * k + k ≤ K.length * k := by rw [← Nat.succ_mul]; exact Nat.mul_le_mul_right _ hm
 subst ho
 rw [Nat.zero_add] at hx
 refine ow_storeA (i := i) H1 ht (by rw [hk]; exact hsz) hx (List.getElem?_set_self hlt) hy (hf1 z) (by rw [hk, List.length_append, hfl]; omega) fun w' H2 => ?_
 rw [List.set_set] at H2
 refine h w' ?_
 have e1 : ((K.flatMap f) ++ zs).take (m * k) ++ f z ++ ((K.flatMap f) ++ zs).drop (m * k + (f z).length) = ((K.set m z).flatMap f) ++ zs := by
  rw [hk, List.take_append_of_le_length (by rw [hfl]; omega), List.drop_append_of_le_length (by rw [hfl]; omega), ← flatW_set hk z hm]; simp only [List.append_assoc]
 rw [e1] at H2
 have hl2 : ((K.set m z).flatMap f).length = len * k := by rw [flat_len hk, List.length_set, ← hfl, h1]
 have H3 := H2.rowToApp (List.getElem?_set_self hlt) hl2 (by rw [List.length_append, hl2, ← h1, ← List.length_append, h4]) h2 h3
 rwa [List.set_set] at H3
theorem ow_indexArr {T E : TypeId} {t et : TyI} {x i : Operand} {k : IntKind} {m : Int} {len : Nat} {l : List Value} {v : Value} (hd : Nat.blt d n = true) (ht : TyI.of P T = some t) (htd : t.desc = .array len E) (het : TyI.of P E = some et) (hna : et.isAgg = false)
  (hx : ev e x = .agg ⟨l⟩) (hi : ev e i = .int k m) (h0 : 0 ≤ m) (h1 : m < len) (hv : l[m.toNat * et.size]? = some v) (h : OW P r n ops os (upd e d v) D w Q) : OW P r n ops (⟨some d, .index T x i, ty, pos, af, none⟩ :: os) e D w Q := by
 have hp : (part E ⟨l⟩ (m.toNat * et.size)).run P w = .ok v w := part_one het hna (by simpa using hv)
 refine ow_val (w' := w) rfl (fun _ h => by cases h) rfl hd ?_ h
 simp [execOp, hx, hi, Instr.index, asIntOf, TyI.run_underlying ht, htd, Result.andThen, h0, h1, TyI.run_sizeOf het, hp]
theorem takeH_snoc {β : Type} {l : List β} {i : Nat} {x : β} (h : l[i]? = some x) : l.take (i + 1) = l.take i ++ [x] := by rw [List.take_add_one, h]; rfl
theorem row_take {l : List Value} {k : Nat} (h : l.length = k) : (l.drop 0).take k = l := by rw [List.drop_zero, List.take_of_length_le (by omega)]
theorem row_all {l l' : List Value} (h : l'.length = l.length) : l.take 0 ++ l' ++ l.drop (0 + l'.length) = l' := by simp [h]
theorem icl_take {α : Type} {cl : α → List Value} {k : Nat} (hcl : ∀ x, (cl x).length = k) (x : α × Nat) : ((icl cl x).drop 0).take k = cl x.1 := by
 unfold icl; rw [List.drop_zero, List.take_append_of_le_length (by rw [hcl]; exact Nat.le_refl _), List.take_of_length_le (by rw [hcl]; exact Nat.le_refl _)]
theorem icl_last {α : Type} {cl : α → List Value} {k : Nat} (hcl : ∀ x, (cl x).length = k) (x : α × Nat) : (icl cl x)[k]? = some (.int .u64 (x.2 : Int)) := by
 unfold icl; rw [List.getElem?_append_right (by rw [hcl]; exact Nat.le_refl _), hcl, Nat.sub_self]; rfl
def IterS (P : Program) (fv : Value) {σ α : Type} (A : σ → World → Prop) (S : σ → List Cap) (Nx : σ → α → σ → Prop) (val : α → List Value) (En : σ → Prop) (s0 : σ) : Prop :=
 ∃ g first cap, fv = .func (.func g) first cap ∧ Enters P g ∧
  ∀ (l : Nat) (M : Nat → Prop) (w0 : World) (X : List Cap) (I : σ → List Cap → Prop) (Ix : List Cap → Prop) (w : World) (L : List Cap),
   I s0 L → St M w0 w (S s0 ++ (L ++ X)) [] →
   (∀ s L X w, I s L → St M w0 w (S s ++ (L ++ X)) [] → A s w) →
   (∀ s x s' L X w, Nx s x s' → I s L → St M w0 w (S s' ++ (L ++ X)) [] →
    YieldV P l ⟨val x⟩ w fun b w' => if b then ∃ L', I s' L' ∧ St M w0 w' (S s' ++ (L' ++ X)) [] else ∃ L', Ix L' ∧ St M w0 w' (L' ++ X) []) →
   CallsV P g (first ++ #[.func (.yield l) #[] #[]] ++ cap) w fun _ w' => (∃ s L', En s ∧ I s L' ∧ St M w0 w' (S s ++ (L' ++ X)) []) ∨ (∃ L', Ix L' ∧ St M w0 w' (L' ++ X) [])
theorem swp3 {A B C : List Cap} {c : Cap} : (A ++ ((B ++ [c]) ++ C)).Perm ((A ++ B) ++ (c :: C)) := by
 rw [List.append_assoc, List.append_assoc]; exact List.Perm.refl _
theorem wc_rangeS {f : Operand} {ps : Array Tmp} {assign body : Code} {fv : Value} {σ α : Type} {A : σ → World → Prop} {S : σ → List Cap} {Nx : σ → α → σ → Prop} {val : α → List Value} {En : σ → Prop} {s0 : σ}
  (hit : IterS P fv A S Nx val En s0) (hf : ev e f = fv) (hps : ps.toList.all (Nat.blt · n) = true) (hsz : ∀ x, (val x).length = ps.size)
  (H : St M w0 w (S s0 ++ L) D) (I : σ → List Cap → Prop) (Ix : Code → List Cap → Prop) (h0 : I s0 L)
  (hA : ∀ s L X w, I s L → St M w0 w (S s ++ (L ++ X)) [] → A s w)
  (round : ∀ l s x s' L X w, Nx s x s' → I s L → St M w0 w ((S s' ++ L) ++ X) [] → WC P (some l) n assign (putL ps.toList (val x) e) [] w fun y e1 D1 w1 => y = .normal ∧ D1 = [] ∧ ∃ L1, St M w0 w1 (L1 ++ X) [] ∧
   ∀ w2 X', St M w0 w2 (L1 ++ X') [] → RecIn l X' → WC P (some l) n body e1 [] w2 (roundQ M w0 (fun L' => ∃ L, I s' L ∧ L' = S s' ++ L) Ix X'))
  (done : ∀ d w' s L', En s → I s L' → St M w0 w' (S s ++ L') (d :: D) → Q .normal e (d :: D) w')
  (jump : ∀ d w' L' c, Ix c L' → St M w0 w' L' (d :: D) → WC P none n c e (d :: D) w' Q) :
  WC P none n (.rangeFunc f ps assign body) e D w Q := by
 obtain ⟨g, first, cap, rfl, hen, hit⟩ := hit
 refine ⟨fun a ha => ?_⟩
 refine wpIn_rangeFunc ?_
 intro fn _
 obtain ⟨rec, hrec⟩ : ∃ rec : LoopState → Option Code → Loop, rec = fun st pe => { state := st, pending := pe, fn, tmps := a.tmps, params := ps, assign, body, defers := w.heap.size } := ⟨_, rfl⟩
 have hN1 := NewB.mk w (.deferred (some []))
 have hN2 := NewB.mk (w.alloc (.deferred (some []))) (.loop (rec .ready none))
 rw [World.size_alloc] at hN2
 have H1 := (H.new hN1).new hN2
 have H2 : St M w0 ((w.alloc (.deferred (some []))).alloc (.loop (rec .ready none))) (S s0 ++ ((L ++ [.blk (w.heap.size + 1) (.loop (rec .ready none))]) ++ (w.heap.size :: D).map .dfr)) [] := by
  unfold St at H1 ⊢
  rw [List.map_nil, List.append_nil]
  refine St0.perm H1 ?_
  refine List.Perm.trans ?_ swp3.symm
  simp only [List.map_cons, List.cons_append]
  exact (List.Perm.cons _ (List.perm_middle (l₁ := S s0 ++ L)).symm).trans (List.perm_middle (l₁ := S s0 ++ L)).symm
 refine ⟨w.heap.size + 1, [mark w.heap.size], (w.alloc (.deferred (some []))).alloc (.loop (rec .ready none)), { target := .fn (.func g) cap, args := first ++ #[.func (.yield (w.heap.size + 1)) #[] #[]] }, (w.alloc (.deferred (some []))).alloc (.loop (rec .ready none)), g,
  first ++ #[.func (.yield (w.heap.size + 1)) #[] #[]] ++ cap, (w.alloc (.deferred (some []))).alloc (.loop (rec .ready none)), by rw [hrec]; exact run_enterLoop_outer _ _ _ _ _, ?_, fun _ _ => trivial, ?_, fun hh => by simp [Fz, Fence.wide] at hh, ?_⟩
 ·simp only [resolve, ha.eval, hf, Deferred.ofValue, List.map_toArray, List.map_cons, List.map_nil]
  rfl
 ·simp [invoke]; exact hen _ _
 ·have hcall := hit (w.heap.size + 1) M w0 ((w.heap.size :: D).map .dfr) (fun s L' => ∃ L, I s L ∧ L' = L ++ [.blk (w.heap.size + 1) (.loop (rec .ready none))])
   (fun L' => ∃ L c, Ix c L ∧ L' = L ++ [.blk (w.heap.size + 1) (.loop (rec .done (some c)))]) _ _ ⟨L, h0, rfl⟩ H2
   (by
    rintro s L' X w ⟨L, hI, rfl⟩ H
    rw [List.append_assoc L] at H
    exact hA s L _ w hI H)
   (by
    rintro s x s' L' X w2 hx ⟨L, hI, rfl⟩ H
    replace H : St M w0 w2 ((S s' ++ L) ++ (.blk (w.heap.size + 1) (.loop (rec .ready none)) :: X)) [] := H.perm swp3
    have := round_sound (P := P) (I := fun L' => ∃ L, I s' L ∧ L' = S s' ++ L) (Ix := Ix) (x := val x) (X := X) (l := _) (fn := fn) (assign := assign) (body := body) (dfr := _) hps (hsz x) ha.size ha.get (by rw [hrec] at H; exact H)
     (fun X H => round _ s x s' L X w2 hx hI H)
    refine YieldAt.mono this ?_
    rintro z w3 ⟨b, rfl, hb⟩
    refine ⟨b, rfl, ?_⟩
    cases b with
    | true =>
     obtain ⟨L3, ⟨L4, hI3, rfl⟩, H3⟩ := hb
     refine ⟨_, ⟨L4, hI3, rfl⟩, ?_⟩
     rw [hrec]
     exact H3.perm swp3.symm
    | false =>
     obtain ⟨L3, c, hI3, H3⟩ := hb
     exact ⟨_, ⟨L3, c, hI3, rfl⟩, by rw [List.append_assoc, hrec]; exact H3⟩)
  refine CallsIn.mono hcall ?_
  have fin : ∀ (st : LoopState) (pe : Option Code) (L3 : List Cap) (w3 : World), st ≠ .busy → St M w0 w3 (L3 ++ [.blk (w.heap.size + 1) (.loop (rec st pe))] ++ (w.heap.size :: D).map .dfr) [] →
    ∃ w4, (Instr.endLoop (w.heap.size + 1)).run P w3 = .ok pe w4 ∧ St M w0 w4 L3 (w.heap.size :: D) := by
   intro st pe L3 w3 hst H3
   rw [List.append_assoc] at H3
   have hl3 : w3.heap[(w.heap.size + 1)]? = some (.loop (rec st pe)) := H3.cap (i := L3.length) (c := .blk _ _) (by simp)
   have hpe : (rec st pe).pending = pe := by rw [hrec]
   have hst' : (rec st pe).state ≠ .busy := by rw [hrec]; exact hst
   refine ⟨w3.putObj (w.heap.size + 1) (.loop { rec st pe with state := .exhausted }), (run_endLoop (P := P) hl3 hst').trans (congrArg (fun x => Result.ok x _) hpe), ?_⟩
   have H4 := H3.setAt (putObj_SetB w3 (w.heap.size + 1) (.loop { rec st pe with state := .exhausted }))
   have H5 := H4.sub (L' := L3 ++ (w.heap.size :: D).map .dfr) ((List.Sublist.refl L3).append (List.sublist_cons_self _ _))
   unfold St at H5 ⊢
   rwa [List.map_nil, List.append_nil] at H5
  rintro z w3 ⟨v, rfl, (⟨s, _, hE, ⟨L3, hI3, rfl⟩, H3⟩ | ⟨_, ⟨L3, c, hI3, rfl⟩, H3⟩)⟩
  ·obtain ⟨w4, hr4, H4⟩ := fin .ready none (S s ++ L3) w3 (by simp) (by rw [← List.append_assoc, ← List.append_assoc] at H3; exact H3)
   exact ⟨none, w4, hr4, e, _, ⟨ha.size, ha.get, by rw [ha.defs]; rfl⟩, done _ _ _ _ hE hI3 H4⟩
  ·obtain ⟨w4, hr4, H4⟩ := fin .done (some c) L3 w3 (by simp) H3
   exact ⟨some c, w4, hr4, (jump _ _ _ _ hI3 H4).out _ ⟨ha.size, ha.get, by rw [ha.defs]; rfl⟩⟩
theorem flatW_take {α : Type} {f : α → List Value} {k : Nat} (hk : ∀ o, (f o).length = k) : ∀ (K : List α) (n : Nat), (K.flatMap f).take (n * k) = (K.take n).flatMap f
 | [], n => by simp
 | a :: K, 0 => by simp
 | a :: K, n + 1 => by
  rw [List.take_succ_cons, List.flatMap_cons, List.flatMap_cons, ← flatW_take hk K n, show (n + 1) * k = k + n * k by rw [Nat.succ_mul]; omega, List.take_append, hk, List.take_of_length_le (by rw [hk]; omega), show k + n * k - k = n * k by omega]
structure LstI {β : Type} (le : β → β → Prop) (K : List β) (i k l : Nat) : Prop where
 at_ : l = i ∨ ∃ j, j < k ∧ l = 2 * i + 1 + j ∧ l < K.length
 own : ∀ x y, K[l]? = some x → K[i]? = some y → le x y
 all : ∀ x, K[l]? = some x → ∀ j, j < k → ∀ y, K[2 * i + 1 + j]? = some y → le x y
theorem LstI.zero {β : Type} {le : β → β → Prop} (o : LeOk le) (K : List β) (i : Nat) : LstI le K i 0 i := ⟨.inl rfl, fun x y hx hy => by rw [hx] at hy; cases hy; exact o.rfl x, fun _ _ j hj => absurd hj (Nat.not_lt_zero _)⟩
theorem LstI.stay {β : Type} {le : β → β → Prop} {K : List β} {i k l : Nat} (h : LstI le K i k l) (hs : ∀ x y, K[l]? = some x → K[2 * i + 1 + k]? = some y → le x y) : LstI le K i (k + 1) l := ⟨h.at_.imp id fun ⟨j, h1, h2⟩ => ⟨j, by omega, h2⟩, h.own, fun x hx j hj y hy => by
 by_cases hjk : j = k
 ·subst hjk; exact hs x y hx hy
 ·exact h.all x hx j (by omega) y hy⟩
theorem LstI.take {β : Type} {le : β → β → Prop} (o : LeOk le) {K : List β} {i k l : Nat} {x y : β} (h : LstI le K i k l) (hx : K[l]? = some x) (hy : K[2 * i + 1 + k]? = some y) (hle : le y x) : LstI le K i (k + 1) (2 * i + 1 + k) :=
 ⟨.inr ⟨k, by omega, rfl, (List.getElem?_eq_some_iff.1 hy).1⟩, fun a b ha hb => by rw [hy] at ha; cases ha; exact o.tr hle (h.own x b hx hb), fun a ha j hj b hb => by
  rw [hy] at ha; cases ha
  by_cases hjk : j = k
  ·subst hjk; rw [hy] at hb; cases hb; exact o.rfl y
  ·exact o.tr hle (h.all x hx j (by omega) b hb)⟩
end Go.Sx
end
section
namespace Go.Sx
open Go Go.Shelf Go.Proofs Go.MapKept
variable {P : Program} {r : Option Nat} {n : Nat} {D DD : List Nat} {e : Env} {w w' w0 : World} {M : Nat → Prop} {L : List Cap}
variable {ops : Array Oper} {os : List Oper} {Q : Post} {d : Nat} {ty : TypeId} {pos : String} {af : Array Edge}
theorem baBeq (a b : ByteArray) : (a == b) = decide (a = b) := by
 obtain ⟨x⟩ := a; obtain ⟨y⟩ := b
 show ByteArray.beq _ _ = _
 simp only [ByteArray.beq, ByteArray.mk.injEq]
 by_cases h : x = y
 ·subst h; simp
 ·rw [decide_eq_false h]; exact beq_false_of_ne h
abbrev SV := List (ByteArray × Value)
def mrowS (x : ByteArray × Value) : Value × Value := (.string x.1, x.2)
def mapOkS (h : Hp) (b : Nat) (ms : SV) : Prop := ∃ es clock, h b = some (.map es clock) ∧ es.toList.map (fun e => (e.key, e.val)) = ms.map mrowS
def Cap.msv (b : Nat) (ms : SV) : Cap := ⟨(· = b), fun h => mapOkS h b ms, fun _ _ h1 ⟨es, c, h2, h3⟩ => ⟨es, c, (h1 b rfl).trans h2, h3⟩⟩
def lookMS : SV → ByteArray → Option Value
 | [], _ => none
 | a :: l, k => if a.1 = k then some a.2 else lookMS l k
def putMS : SV → ByteArray → Value → SV
 | [], k, v => [(k, v)]
 | a :: l, k, v => if a.1 = k then (k, v) :: l else a :: putMS l k v
theorem lookM_putS : ∀ (ms : SV) (k k' : ByteArray) (v : Value), lookMS (putMS ms k v) k' = if k = k' then some v else lookMS ms k'
 | [], k, k', v => by simp [putMS, lookMS]
 | a :: l, k, k', v => by
  by_cases h : a.1 = k
  ·rw [putMS, if_pos h, lookMS, lookMS]
   by_cases h2 : k = k'
   ·simp [h2]
   ·have h3 : a.1 ≠ k' := fun e => h2 (h.symm.trans e)
    simp [h2, h3]
  ·rw [putMS, if_neg h, lookMS, lookM_putS l k k' v, lookMS]
   by_cases h2 : a.1 = k'
   ·have h3 : k ≠ k' := fun e => h (h2.trans e.symm)
    simp [h2, h3]
   ·simp [h2]
theorem findNow_msv (k : ByteArray) : ∀ (es : List MapEntry) (ms : SV) (i : Nat), es.map (fun e => (e.key, e.val)) = ms.map mrowS →
  (lookMS ms k = none ∧ Instr.findNow .string (.string k) es i = some none) ∨ ∃ j x e, es[j]? = some e ∧ ms[j]? = some x ∧ x.1 = k ∧ lookMS ms k = some x.2 ∧ Instr.findNow .string (.string k) es i = some (some (i + j, x.2)) ∧ e.key = .string k ∧ putMS ms k = fun v => ms.set j (k, v)
 | [], [], i, _ => .inl ⟨rfl, rfl⟩
 | [], _ :: _, _, h => by simp at h
 | _ :: _, [], _, h => by simp at h
 | e :: es, a :: ms, i, h => by
  simp only [List.map_cons, List.cons.injEq] at h
  obtain ⟨h1, h2⟩ := h
  have hk : e.key = .string a.1 := congrArg Prod.fst h1
  have hv : e.val = a.2 := congrArg Prod.snd h1
  by_cases ha : a.1 = k
  ·refine .inr ⟨0, a, e, rfl, rfl, ha, by rw [lookMS, if_pos ha], ?_, by rw [hk, ha], ?_⟩
   ·rw [Instr.findNow, hk, hv]; simp [Instr.sameNow, ha, baBeq]
   ·funext v; rw [putMS, if_pos ha]; rfl
  ·have hs : Instr.findNow .string (.string k) (e :: es) i = Instr.findNow .string (.string k) es (i + 1) := by
    have hne : (k == a.1) = false := by rw [baBeq]; exact decide_eq_false fun h => ha h.symm
    rw [Instr.findNow, hk]; simp [Instr.sameNow, hne]
   rcases findNow_msv k es ms (i + 1) h2 with ⟨h3, h4⟩ | ⟨j, x, e', h3, h4, h5, h6, h7, h8, h9⟩
   ·exact .inl ⟨by rw [lookMS, if_neg ha, h3], by rw [hs, h4]⟩
   ·refine .inr ⟨j + 1, x, e', by simpa using h3, by simpa using h4, h5, by rw [lookMS, if_neg ha, h6], ?_, h8, ?_⟩
    ·rw [hs, h7]; congr 3; omega
    ·funext v; rw [putMS, if_neg ha, h9]; rfl
theorem putM_noneS : ∀ {ms : SV} {k : ByteArray} (v : Value), lookMS ms k = none → putMS ms k v = ms ++ [(k, v)]
 | [], _, _, _ => rfl
 | a :: l, k, v, h => by
  rw [lookMS] at h
  by_cases ha : a.1 = k
  ·rw [if_pos ha] at h; cases h
  ·rw [if_neg ha] at h; rw [putMS, if_neg ha, putM_noneS v h]; rfl
theorem ow_makeMapS {T : TypeId} (H : St M w0 w L DD) (hd : Nat.blt d n = true) (h : ∀ b w', St M w0 w' (.msv b [] :: L) DD → OW P r n ops os (upd e d (.map (some b))) D w' Q) :
  OW P r n ops (⟨some d, .makeMap T none, ty, pos, af, none⟩ :: os) e D w Q := by
 have hN := NewB.mk w (.map #[] 0)
 have H1 := H.new hN
 have H2 : St M w0 (w.alloc (.map #[] 0)) (.msv w.heap.size [] :: L) DD := H1.weak (i := 0) rfl (fun hb => ⟨#[], 0, hb, rfl⟩) (fun _ h => h)
 refine ow_val (v := .map (some w.heap.size)) (w' := w.alloc (.map #[] 0)) rfl (fun _ h => by cases h) rfl hd ?_ (h _ _ H2)
 simp [execOp, run_makeMap_plain, Result.andThen]
theorem run_lookupS {T K E : TypeId} {t kt et : TyI} {b : Nat} {k : ByteArray} {z : Value} {ms : SV} (hm : mapOkS (hp w) b ms) (ht : TyI.of P T = some t) (htd : t.desc = .map K E) (hk : TyI.of P K = some kt) (hkd : kt.desc = .string)
  (hE : TyI.of P E = some et) (hEz : et.zero = z) (c : Bool) : (Instr.lookup T (.map (some b)) (.string k) c).run P w = .ok (if c then .tuple #[(lookMS ms k).getD z, .bool (lookMS ms k).isSome] else (lookMS ms k).getD z) w := by
 obtain ⟨es, clock, hb, hms⟩ := hm
 have hb' : w.heap[b]? = some (.map es clock) := hb
 have hT := (TyI.spec ht).1
 rw [htd] at hT
 have hK := (TyI.spec hk).1
 rw [hkd] at hK
 have hik : IsKey .string (.string k) := by simp [IsKey]
 rcases findNow_msv k es.toList ms 0 hms with ⟨h1, h2⟩ | ⟨j, x, e', _, _, _, h6, h7, _, _⟩
 ·have h3 := run_findKey (w := w) hK h2
  rw [h1]
  cases c <;> simp [Instr.lookup, run_underlying hT, MapKept.run_getObj_map hb', run_checkKey hK hik, h3, TyI.run_zero hE, hEz, Result.andThen]
 ·have h3 := run_findKey (w := w) hK h7
  rw [h6]
  cases c <;> simp [Instr.lookup, run_underlying hT, MapKept.run_getObj_map hb', run_checkKey hK hik, h3, Result.andThen]
theorem ow_lookupS {T K E : TypeId} {t kt et : TyI} {x y : Operand} {b : Nat} {k : ByteArray} {z : Value} {ms : SV} (hm : mapOkS (hp w) b ms) (hd : Nat.blt d n = true) (ht : TyI.of P T = some t) (htd : t.desc = .map K E) (hk : TyI.of P K = some kt) (hkd : kt.desc = .string)
  (hE : TyI.of P E = some et) (hEz : et.zero = z) (hx : ev e x = .map (some b)) (hy : ev e y = .string k) (h : OW P r n ops os (upd e d (.tuple #[(lookMS ms k).getD z, .bool (lookMS ms k).isSome])) D w Q) :
  OW P r n ops (⟨some d, .lookup T x y true, ty, pos, af, none⟩ :: os) e D w Q := by
 refine ow_val (w' := w) rfl (fun _ h => by cases h) rfl hd ?_ h
 simp [execOp, hx, hy, run_lookupS hm ht htd hk hkd hE hEz true, Result.andThen]
theorem ow_lookupS1 {T K E : TypeId} {t kt et : TyI} {x y : Operand} {b : Nat} {k : ByteArray} {z : Value} {ms : SV} (hm : mapOkS (hp w) b ms) (hd : Nat.blt d n = true) (ht : TyI.of P T = some t) (htd : t.desc = .map K E) (hk : TyI.of P K = some kt) (hkd : kt.desc = .string)
  (hE : TyI.of P E = some et) (hEz : et.zero = z) (hx : ev e x = .map (some b)) (hy : ev e y = .string k) (h : OW P r n ops os (upd e d ((lookMS ms k).getD z)) D w Q) :
  OW P r n ops (⟨some d, .lookup T x y false, ty, pos, af, none⟩ :: os) e D w Q := by
 refine ow_val (w' := w) rfl (fun _ h => by cases h) rfl hd ?_ h
 simp [execOp, hx, hy, run_lookupS hm ht htd hk hkd hE hEz false, Result.andThen]
theorem mapOkS.old (H : St M w0 w L DD) {b : Nat} {ms : SV} (h : mapOkS (msk M w0) b ms) : mapOkS (hp w) b ms := by
 obtain ⟨es, c, h1, h2⟩ := h
 exact ⟨es, c, H.oldM h1, h2⟩
theorem mapOkS.oldP (H : St Pu w0 w L DD) {b : Nat} {ms : SV} (h : mapOkS (hp w0) b ms) : mapOkS (hp w) b ms := mapOkS.old H (by rw [msk_pu]; exact h)
theorem ow_mapUpdateS {T K E : TypeId} {t kt : TyI} {x y z : Operand} {i b : Nat} {k : ByteArray} {v : Value} {ms : SV} (H : St M w0 w L DD) (hi : L[i]? = some (.msv b ms)) (ht : TyI.of P T = some t) (htd : t.desc = .map K E) (hk : TyI.of P K = some kt) (hkd : kt.desc = .string)
  (hx : ev e x = .map (some b)) (hy : ev e y = .string k) (hz : ev e z = v) (h : ∀ w', St M w0 w' (L.set i (.msv b (putMS ms k v))) DD → OW P r n ops os e D w' Q) :
  OW P r n ops (⟨none, .mapUpdate T x y z, ty, pos, af, none⟩ :: os) e D w Q := by
 obtain ⟨es, clock, hb, hms⟩ : mapOkS (hp w) b ms := H.cap hi
 have hb' : w.heap[b]? = some (.map es clock) := hb
 have hT := (TyI.spec ht).1
 rw [htd] at hT
 have hK := (TyI.spec hk).1
 rw [hkd] at hK
 have hik : IsKey .string (.string k) := by simp [IsKey]
 have hlt := (Array.getElem?_eq_some_iff.1 hb').1
 have key : ∃ es' clock', (Instr.mapUpdate T (.map (some b)) (.string k) (v)).run P w = .ok () { w with heap := w.heap.setIfInBounds b (.map es' clock') } ∧ es'.toList.map (fun e => (e.key, e.val)) = (putMS ms k v).map mrowS := by
  rcases findNow_msv k es.toList ms 0 hms with ⟨h1, h2⟩ | ⟨j, x, e', he, hxj, _, h6, h7, hek, hput⟩
  ·have h3 := run_findKey (w := w) hK h2
   refine ⟨es.push { key := .string k, val := v, born := clock }, clock + 1, ?_, ?_⟩
   ·simp [Instr.mapUpdate, run_underlying hT, MapKept.run_getObj_map hb', run_checkKey hK hik, h3, MapKept.run_setObj_map _ hb', Result.andThen]
   ·rw [putM_noneS v h1]; simp [hms, mrowS]
  ·have h3 := run_findKey (w := w) hK h7
   have he2 : es[j]? = some e' := by simpa using he
   have hkeep : (Instr.keyThatStays (.string k) (.string k)).run P w = .ok (.string k) w := run_keyThatStays hik
   refine ⟨es.modify j fun e => { e with key := .string k, val := v }, clock, ?_, ?_⟩
   ·simp [Instr.mapUpdate, run_underlying hT, MapKept.run_getObj_map hb', run_checkKey hK hik, h3, he2, hek, hkeep, MapKept.run_setObj_map _ hb', Result.andThen]
   ·rw [hput]
    apply List.ext_getElem?
    intro m
    have hm := congrArg (fun l => l[m]?) hms
    simp only [List.getElem?_map, Array.getElem?_toList] at hm
    simp only [List.getElem?_map, Array.getElem?_toList, Array.getElem?_modify]
    by_cases hjm : j = m
    ·subst hjm
     rw [List.getElem?_set_self (List.getElem?_eq_some_iff.1 hxj).1, he2]
     simp [mrowS]
    ·rw [List.getElem?_set_ne hjm, if_neg hjm]
     exact hm
 obtain ⟨es', clock', hr, hms'⟩ := key
 refine ow_skip (w' := { w with heap := w.heap.setIfInBounds b (.map es' clock') }) rfl (fun _ h => by cases h) rfl ?_ (h _ (H.modify hi rfl rfl rfl ?_ ?_ ?_ ?_))
 ·simp [execOp, hx, hy, hz, hr, Result.andThen]
 ·simp
 ·intro c hc hne
  have : c ≠ b := fun e => hne e
  exact Array.getElem?_setIfInBounds_ne (fun h => this h.symm)
 ·exact ⟨es', clock', by simp [hp, hlt], hms'⟩
 ·intro c hc
  have hcb : c = b := hc
  subst hcb
  exact ⟨.inr rfl, by simpa using hlt⟩
end Go.Sx
end
