/- Slices of anything that came in: their elements' cells, one behind the other. -/
import Derived.Test.YtpbknokakooekaaK7
import Derived.ChangeShapes
import Derived.ChangeArms
import Derived.ChangeSlices
namespace Go.Sx
set_option linter.all false
open Go Go.Shelf Go.Proofs Go.ChangeShapes
variable {H : Type} {enc : TypeId × Value → H} {P : Program} {w : World} {base : Nat} {spare : Nat → Bool} {held : Bool}
theorem list_choose {α : Type} {f : α → List Value} {wf : α → Prop} : ∀ {rows : List (List Value)}, (∀ r ∈ rows, ∃ o, wf o ∧ r = f o) → ∃ os : List α, (∀ o ∈ os, wf o) ∧ rows = os.map f
  | [], _ => ⟨[], (fun _ h => absurd h List.not_mem_nil), rfl⟩
  | r :: rows, h => by
    obtain ⟨o, h1, rfl⟩ := h r List.mem_cons_self
    obtain ⟨os, h2, rfl⟩ := list_choose (rows := rows) (fun r hr => h r (List.mem_cons_of_mem _ hr))
    refine ⟨o :: os, fun x hx => ?_, rfl⟩
    rcases List.mem_cons.1 hx with rfl | hx
    · exact h1
    · exact h2 x hx
/-- cell j of element i, one behind the other. -/
theorem flat_at {α : Type} {f : α → List Value} {k : Nat} (hk : ∀ o, (f o).length = k) : ∀ {os : List α} {i : Nat} {o : α}, os[i]? = some o → ∀ j, j < k → (os.flatMap f)[i * k + j]? = (f o)[j]?
  | [], i, o, h, _, _ => by simp at h
  | x :: os, 0, o, h, j, hj => by
    simp at h; subst h
    rw [List.flatMap_cons, Nat.zero_mul, Nat.zero_add, List.getElem?_append_left (by rw [hk]; exact hj)]
  | x :: os, i + 1, o, h, j, hj => by
    simp only [List.getElem?_cons_succ] at h
    rw [List.flatMap_cons, List.getElem?_append_right (by rw [hk, Nat.add_mul]; omega), hk, show (i + 1) * k + j - k = i * k + j by rw [Nat.add_mul]; omega]
    exact flat_at hk h j hj
theorem flat_len {α : Type} {f : α → List Value} {k : Nat} (hk : ∀ o, (f o).length = k) (os : List α) : (os.flatMap f).length = os.length * k := by
  induction os with
  | nil => simp
  | cons o os ih => rw [List.flatMap_cons, List.length_append, ih, hk, List.length_cons, Nat.add_mul]; omega
theorem flat_take {α : Type} {f : α → List Value} {k : Nat} (hk : ∀ o, (f o).length = k) {os : List α} {i : Nat} {o : α} (h : os[i]? = some o) : ((os.flatMap f).drop (i * k)).take k = f o := by
  apply List.ext_getElem?
  intro j
  by_cases hj : j < k
  · rw [List.getElem?_take, if_pos hj, List.getElem?_drop]; exact flat_at hk h j hj
  · rw [List.getElem?_take, if_neg hj, List.getElem?_eq_none (by rw [hk]; omega)]
theorem open_sl {α : Type} {t e : TypeId} {k fuel : Nat} {x : DataW H × List MemPlace} {a : Option Addr} {len cap : Nat} (f : α → List Value) (wf : α → Prop) (hk : ∀ o, (f o).length = k) (hk0 : 0 < k) (ht : P.underlying t = some (.slice e)) (hc : P.cellsOf e = k)
    (hR : ∀ fuel cs x, DataW.trod enc P w base spare held fuel e cs = some x → cs.length = k → ∃ o, wf o ∧ cs = f o)
    (h : DataW.trod enc P w base spare held fuel t [.slice a len cap] = some x) :
    ∃ os : List α, os.length = len ∧ len ≤ cap ∧ cap ≤ maxLen ∧ (∀ o ∈ os, wf o) ∧ SlH (hp w) a (os.flatMap f) := by
  rcases DataW.trod_slice ht h with ⟨h0, _⟩ | ⟨a', len', cap', elems, rest, n, _, hcs, rfl, hb, hl, hm, hlen, hel, _, _⟩
  · simp at h0
    obtain ⟨rfl, rfl, rfl⟩ := h0
    exact ⟨[], rfl, Nat.le_refl _, Nat.zero_le _, (fun _ h => absurd h List.not_mem_nil), SlH.nil _ _⟩
  · simp at hcs
    obtain ⟨rfl, rfl, rfl⟩ := hcs
    have each : ∀ i, i < len → ∃ o, wf o ∧ ∀ j, j < k → w.cell? (a'.add (i * k + j)) = (f o)[j]? := by
      intro i hi
      have h1 := hel i hi
      rw [List.getElem?_eq_getElem (by omega), Option.bind_eq_some_iff, hc] at h1
      obtain ⟨cs, h2, h3⟩ := h1
      obtain ⟨_, hcl, hcell⟩ := World.cells?_some h2
      obtain ⟨o, hwf, rfl⟩ := hR _ _ _ h3 hcl
      refine ⟨o, hwf, fun j hj => ?_⟩
      have := hcell j hj
      rwa [Addr.add_add] at this
    obtain ⟨os, hol, hos⟩ : ∃ os : List α, os.length = len ∧ ∀ i (hi : i < os.length), wf os[i] ∧ ∀ j, j < k → w.cell? (a'.add (i * k + j)) = (f os[i])[j]? := by
      refine ⟨(List.range len).pmap (fun i hi => Classical.choose (each i hi)) (fun i hi => List.mem_range.1 hi), by simp, fun i hi => ?_⟩
      simp only [List.getElem_pmap, List.getElem_range]
      exact Classical.choose_spec (each i (by simpa using hi))
    refine ⟨os, hol, hl, hm, fun o ho => ?_, ?_⟩
    · obtain ⟨i, hi, rfl⟩ := List.getElem_of_mem ho
      exact (hos i hi).1
    · intro j v hj
      have hlt : j < os.length * k := by
        have := flat_len hk os
        rcases Nat.lt_or_ge j (os.length * k) with h | h
        · exact h
        · rw [List.getElem?_eq_none (by omega)] at hj; cases hj
      have hi : j / k < os.length := Nat.div_lt_of_lt_mul (by rw [Nat.mul_comm]; exact hlt)
      have hr := Nat.mod_lt j hk0
      have hji : j / k * k + j % k = j := by rw [Nat.mul_comm]; exact Nat.div_add_mod j k
      have h1 := (hos _ hi).2 _ hr
      rw [hji] at h1
      have h2 := flat_at hk (List.getElem?_eq_getElem hi) _ hr
      rw [hji, hj] at h2
      rw [← h2] at h1
      have h0 := (hos 0 (Nat.lt_of_le_of_lt (Nat.zero_le _) hi)).2 0 hk0
      have hx : ∃ b o, a' = ⟨b, o, none⟩ := by
        obtain ⟨b, o, s⟩ := a'
        have : s = none := by
          cases s with
          | none => rfl
          | some s =>
            exfalso
            rw [List.getElem?_eq_getElem (by rw [hk]; exact hk0)] at h0
            simp only [Nat.zero_mul, Nat.zero_add, Addr.add, if_true, World.cell?] at h0
            split at h0 <;> simp at h0
        subst this; exact ⟨b, o, rfl⟩
      obtain ⟨b, o, rfl⟩ := hx
      exact ⟨b, o, rfl, by rw [add_none, cell_eq] at h1; exact h1⟩
theorem SlH.elem {α : Type} {f : α → List Value} {k : Nat} (hk : ∀ o, (f o).length = k) {os : List α} {i : Nat} {o : α} {b off : Nat} (hs : SlH (hp w) (some ⟨b, off, none⟩) (os.flatMap f)) (h : os[i]? = some o) : ∀ j v, (f o)[j]? = some v → w.cell? ((⟨b, off + i * k, none⟩ : Addr).add j) = some v := by
  intro j v hj
  have hlt : j < k := by
    rcases Nat.lt_or_ge j k with h | h
    · exact h
    · rw [List.getElem?_eq_none (by rw [hk]; exact h)] at hj; cases hj
  have := flat_at hk h j hlt
  rw [hj] at this
  have h2 := hs.cell this
  rw [add_none, Nat.add_assoc]; exact h2
theorem cells2 {cs : List Value} {a b : Value} (hl : cs.length = 2) (h0 : (cs.drop 0).take 1 = [a]) (h1 : (cs.drop 1).take 1 = [b]) : cs = [a, b] := by
  match cs, hl with
  | [x, y], _ => simp at h0 h1; simp [h0, h1]
theorem cells3 {cs : List Value} {a b c : Value} (hl : cs.length = 3) (h0 : (cs.drop 0).take 1 = [a]) (h1 : (cs.drop 1).take 1 = [b]) (h2 : (cs.drop 2).take 1 = [c]) : cs = [a, b, c] := by
  match cs, hl with
  | [x, y, z], _ => simp at h0 h1 h2; simp [h0, h1, h2]
theorem int_wf {z : Int} (h : (Lit.int .i64 z).wf = true) : -9223372036854775808 ≤ z ∧ z ≤ 9223372036854775807 := int_of_i64 h
end Go.Sx

