/- Regions that draw: what stands behind an operation by way of others. -/
import Derived.Test.YtpbknokakooekaaK13
namespace Go.Sx
set_option linter.all false
open Go Go.Shelf Go.Proofs
variable {P : Program} {r : Option Nat} {n : Nat} {D DD : List Nat} {a : Act} {e : Env} {w w' w0 : World}
variable {ops : Array Oper} {os : List Oper} {Q : Post} {d : Nat} {M : Nat → Prop} {L : List Cap}
def hasB (o : Oper) (i : Nat) (X : List Nat) : Bool := o.after.any fun e => Region.binds .any e && (Nat.beq e.on i || X.any (Nat.beq e.on))
/-- those that hang on i. -/
def hangs (ops : Array Oper) (i : Nat) : Nat → Nat → List Nat → List Nat
  | 0, _, X => X
  | m + 1, j, X => hangs ops i m (j + 1) (match ops[j]? with
    | some o => if hasB o i X then j :: X else X
    | none => X)
def hangB (ops : Array Oper) (listed : Array Bool) (i : Nat) (X : List Nat) : Bool :=
  X.all fun x => !listed.getD x false && !Nat.beq x i && match ops[x]? with
    | some o => hasB o i X
    | none => false
theorem hang_not {i j : Nat} {X : List Nat} {listed : Array Bool} (hX : ∀ x ∈ X, listed.getD x false = false) (hB : ∀ x ∈ X, ∀ o, ops[x]? = some o → hasB o i X = true) (hr : i ∈ Region.ready .any ops listed) (hj : j ∈ Region.ready .any ops listed) : j ∉ X := by
  intro hm
  obtain ⟨_, oj, hoj, hall⟩ := mem_ready.1 hj
  have h := hB j hm oj hoj
  unfold hasB at h
  rw [Array.any_eq_true'] at h
  obtain ⟨e, he, hb⟩ := h
  rw [Bool.and_eq_true] at hb
  have h1 := hall e he hb.1
  rcases (by simpa only [Bool.or_eq_true] using hb.2 : Nat.beq e.on i = true ∨ X.any (Nat.beq e.on) = true) with h2 | h2
  · rw [Nat.eq_of_beq_eq_true h2] at h1
    have h0 := (mem_ready.1 hr).1
    rcases Nat.lt_or_ge i listed.size with h' | h'
    · simp [h'] at h0 h1; rw [h0] at h1; cases h1
    · simp [Array.getElem?_eq_none h'] at h1
  · obtain ⟨x, hx, h3⟩ := List.any_eq_true.1 h2
    rw [Nat.eq_of_beq_eq_true h3, hX x hx] at h1
    cases h1
theorem anyK_firstX {QQ : Exit → Act → World → Prop} {S : World → Prop} {i k : Nat} {oi : Oper} {v : Value} {X : List Nat} (hi : ops[i]? = some oi) (hsel : ∀ (j : Nat) (o : Oper) cs b, ops[j]? = some o → o.op ≠ .select cs b)
    (hkX : k ∈ X) (hiX : ∀ x ∈ X, x ≠ i) (hB : ∀ x ∈ X, ∀ o, ops[x]? = some o → hasB o i X = true)
    (hQ : ∀ c a w, QQ (.panic c) (a.put oi.dst v) w → QQ (.panic c) a w) :
    ∀ (fuel : Nat) (listed : Array Bool) (a : Act) (w : World),
      (∀ j oj, ops[j]? = some oj → j ≠ i → listed.getD j true = false → (∀ e ∈ oj.after, Region.binds .any e = true → e.on ≠ i) → oi.apart ops oj = true) →
      i ∈ Region.ready .any ops listed → (∀ x ∈ X, listed.getD x false = false) → YieldsIf P ops S oi v a → S w →
      AnyK P r ops QQ S k fuel (listed.setIfInBounds i true) (a.put oi.dst v) w → AnyK P r ops QQ S k (fuel + 1) listed a w := by
  have hki : k ≠ i := hiX k hkX
  intro fuel
  induction fuel with
  | zero =>
    intro listed a w _ hr _ hy hS H
    refine ⟨fun h => (by rw [h] at hr; cases hr), fun j hj => ?_⟩
    by_cases hji : j = i
    · subst hji; exact hop_yields hi hy hS ⟨fun _ => hS, H⟩
    · have := ready_mono hj hji
      rw [H.1] at this
      cases this
  | succ fuel ih =>
    intro listed a w hfree hr hX hy hS H
    refine ⟨fun h => (by rw [h] at hr; cases hr), fun j hj => ?_⟩
    by_cases hji : j = i
    · subst hji; exact hop_yields hi hy hS ⟨fun _ => hS, H⟩
    · have h1 := H.2 j (ready_mono hj hji)
      have hjX := hang_not hX hB hr hj
      obtain ⟨hjun, oj, hoj, hall⟩ := mem_ready.1 hj
      have hnot : ∀ e ∈ oj.after, Region.binds .any e = true → e.on ≠ i := fun e he hb heq => by
        have h1 := hall e he hb
        have h0 := (mem_ready.1 hr).1
        rw [heq] at h1
        rcases Nat.lt_or_ge i listed.size with h' | h'
        · simp [h'] at h0 h1; rw [h0] at h1; cases h1
        · simp [Array.getElem?_eq_none h'] at h1
      have hjk : j ≠ k := fun h : j = k => hjX (by rw [h]; exact hkX)
      have hX' : ∀ x ∈ X, (listed.setIfInBounds j true).getD x false = false := fun x hx => by
        rw [getD_set_ne false (fun h : j = x => hjX (by rw [h]; exact hx))]; exact hX x hx
      have hkl2 : ((listed.setIfInBounds i true).setIfInBounds j true).getD k false = false := by
        rw [getD_set_ne false hjk, getD_set_ne false (Ne.symm hki)]; exact hX k hkX
      have h2 := hop_put hoj (hfree j oj hoj hji hjun hnot) (fun cs b => hsel i oi cs b hi) (fun cs b => hsel j oj cs b hoj) hQ hy h1
      have hfree' : ∀ k ok, ops[k]? = some ok → k ≠ i → (listed.setIfInBounds j true).getD k true = false →
          (∀ e ∈ ok.after, Region.binds .any e = true → e.on ≠ i) → oi.apart ops ok = true := fun k ok hk hki hun hno => by
        refine hfree k ok hk hki ?_ hno
        by_cases hjk : j = k
        · subst hjk; exact hjun
        · rw [getD_set_ne true hjk] at hun; exact hun
      refine hop_mono (fun a' w' h3 => ⟨fun _ => h3.2.1 hkl2, ih (listed.setIfInBounds j true) a' w' hfree' (ready_mono hr (Ne.symm hji)) hX' h3.1 (h3.2.1 hkl2) ?_⟩) h2
      rw [Array.setIfInBounds_comm _ _ hji]
      exact h3.2.2
def takeXB (ops : Array Oper) (listed : Array Bool) (k i : Nat) (X : List Nat) : Bool :=
  Region.noSelect ops && Region.free .any ops listed i && (Region.ready .any ops listed).contains i && X.any (Nat.beq k) && hangB ops listed i X
theorem ak_takeX {S : World → Prop} {fuel k : Nat} {listed : Array Bool} {o : Oper} {i : Nat} {v : Value} (hi : ops[i]? = some o) (hdst : o.dst = some d) (hd : Nat.blt d n = true) (hpl : isPlain o.op = true)
    (hb : takeXB ops listed k i (hangs ops i ops.size 0 []) = true) (hS : S w)
    (hy : ∀ w (Q' : Post), S w → Q' .normal (upd e d v) D w → OW P none n ops [o] e D w Q') (h : AK P r n ops S k fuel (listed.setIfInBounds i true) (upd e d v) D w Q) : AK P r n ops S k (fuel + 1) listed e D w Q := by
  refine ⟨fun hQ a ha => ?_⟩
  have hd' : d < n := by simpa [Nat.blt_eq] using hd
  have hY := yields_of hpl hdst hd ha hy ⟨w, hS⟩
  generalize hangs ops i ops.size 0 [] = X at hb
  simp only [takeXB, Bool.and_eq_true] at hb
  obtain ⟨⟨⟨⟨hs, hf⟩, hr⟩, hl⟩, hB⟩ := hb
  have hk : k ∈ X := by
    obtain ⟨x, hx, hq⟩ := List.any_eq_true.1 hl
    rw [Nat.eq_of_beq_eq_true hq]; exact hx
  have hall := List.all_eq_true.1 hB
  refine anyK_firstX (X := X) hi (Region.noSelect_spec hs) hk (fun x hx h => ?_) (fun x hx o ho => ?_) (fun c a w hq => by obtain ⟨e', D', _, hq⟩ := hq; exact (hQ _ _ _ _ hq).elim) fuel listed a w (Region.free_spec hi hf) (by simpa using hr) (fun x hx => ?_) hY hS ?_
  · have := hall x hx
    subst h
    simp only [Bool.and_eq_true, nbeq_self, Bool.not_true, Bool.false_eq_true, and_false, false_and] at this
  · have := hall x hx
    rw [ho] at this
    simp only [Bool.and_eq_true] at this
    exact this.2
  · have := hall x hx
    simp only [Bool.and_eq_true, Bool.not_eq_true'] at this
    exact this.1.1
  · rw [hdst]; exact h.out hQ _ (ha.put hd' v)
theorem St.pickD {L' : List Cap} (H : St M w0 w L D) (is : List Nat) (h : L'.map Option.some = is.map (fun i => L[i]?)) (hn : is.Nodup) : St M w0 w L' D := by
  have H1 : St M w0 w L [] := H.toNil.sub (List.sublist_append_left _ _)
  have H2 : St0 M w0 w (L' ++ []) := H1.pick is h hn
  rw [List.append_nil] at H2
  have H0 : St0 M w0 w (L ++ D.map .dfr) := H
  have hmem : ∀ c ∈ L', c ∈ L := by
    intro c hc
    have h1 : some c ∈ L'.map Option.some := List.mem_map.2 ⟨c, hc, rfl⟩
    rw [h] at h1
    obtain ⟨i, _, hi⟩ := List.mem_map.1 h1
    exact List.mem_of_getElem? hi
  show St0 M w0 w (L' ++ D.map .dfr)
  refine ⟨H0.os, H0.tape, H0.output, H0.size, H0.old, fun c hc => ?_, fun c hc => ?_, List.pairwise_append.2 ⟨H2.apart, (List.pairwise_append.1 H0.apart).2.1, fun a ha b hb => (List.pairwise_append.1 H0.apart).2.2 a (hmem a ha) b hb⟩⟩
  · rcases List.mem_append.1 hc with h1 | h1
    · exact H2.oks c h1
    · exact H0.oks c (List.mem_append_right _ h1)
  · rcases List.mem_append.1 hc with h1 | h1
    · exact H2.own c h1
    · exact H0.own c (List.mem_append_right _ h1)
end Go.Sx

