/- Rules for regions that draw their order: what is asked of memory is asked until one operation, the region's last that turns it, has come. -/
import Derived.Test.YtpbknokakooekaaK4
namespace Go.Sx
set_option linter.all false
open Go Go.Shelf Go.Proofs
variable {P : Program} {r : Option Nat} {n : Nat} {D DD : List Nat} {a : Act} {e : Env} {w w' w0 : World}
variable {ops : Array Oper} {os : List Oper} {Q : Post} {d : Nat} {M : Nat → Prop} {L : List Cap}
def AnyK (P : Program) (r : Option Nat) (ops : Array Oper) (Q : Exit → Act → World → Prop) (S : World → Prop) (k : Nat) : Nat → Array Bool → Act → World → Prop
  | 0, listed, a, w => Region.ready .any ops listed = [] ∧ Q .normal a w
  | fuel + 1, listed, a, w =>
    (Region.ready .any ops listed = [] → Q .normal a w) ∧
    ∀ i ∈ Region.ready .any ops listed, hop P r ops Q i (fun a' w' => ((listed.setIfInBounds i true).getD k false = false → S w') ∧ AnyK P r ops Q S k fuel (listed.setIfInBounds i true) a' w') a w
theorem anyK_wp {QQ : Exit → Act → World → Prop} {S : World → Prop} {k : Nat} (hnd : ∀ (j : Nat) (o : Oper), ops[j]? = some o → isDefer o.op = false) : ∀ (fuel : Nat) (listed : Array Bool) (a : Act) (w : World), AnyK P r ops QQ S k fuel listed a w → wpAnyIn (Fz r) 0 P .any ops QQ fuel listed a w
  | 0, _, _, _, h => h
  | fuel + 1, _, _, _, h => ⟨h.1, fun i hi => hop_wp hnd (hop_mono (fun a' w' h' => anyK_wp hnd fuel _ a' w' h'.2) (h.2 i hi))⟩
/-- nothing is asked any more. -/
def lateB (ops : Array Oper) (k i : Nat) : Bool := !Nat.beq k i && match ops[k]? with
  | some o => o.after.any fun e => Region.binds .any e && Nat.beq e.on i
  | none => true
theorem anyK_first {QQ : Exit → Act → World → Prop} {S : World → Prop} {i k : Nat} {oi : Oper} {v : Value} (hi : ops[i]? = some oi) (hsel : ∀ (j : Nat) (o : Oper) cs b, ops[j]? = some o → o.op ≠ .select cs b) (hk : lateB ops k i = true)
    (hQ : ∀ c a w, QQ (.panic c) (a.put oi.dst v) w → QQ (.panic c) a w) :
    ∀ (fuel : Nat) (listed : Array Bool) (a : Act) (w : World),
      (∀ j oj, ops[j]? = some oj → j ≠ i → listed.getD j true = false → (∀ e ∈ oj.after, Region.binds .any e = true → e.on ≠ i) → oi.apart ops oj = true) →
      i ∈ Region.ready .any ops listed → listed.getD k false = false → YieldsIf P ops S oi v a → S w →
      AnyK P r ops QQ S k fuel (listed.setIfInBounds i true) (a.put oi.dst v) w → AnyK P r ops QQ S k (fuel + 1) listed a w := by
  have hki : k ≠ i := by
    intro h; subst h; unfold lateB at hk; rw [nbeq_self] at hk; simp at hk
  intro fuel
  induction fuel with
  | zero =>
    intro listed a w _ hr _ hy hS H
    refine ⟨fun h => (by rw [h] at hr; cases hr), fun j hj => ?_⟩
    by_cases hji : j = i
    · subst hji; exact hop_yields hi hy hS ⟨fun _ => hS, H⟩
    · have := ready_mono hj hji
      rw [H.1] at this
      cases this
  | succ fuel ih =>
    intro listed a w hfree hr hkl hy hS H
    refine ⟨fun h => (by rw [h] at hr; cases hr), fun j hj => ?_⟩
    by_cases hji : j = i
    · subst hji; exact hop_yields hi hy hS ⟨fun _ => hS, H⟩
    · have h1 := H.2 j (ready_mono hj hji)
      obtain ⟨hjun, oj, hoj, hall⟩ := mem_ready.1 hj
      have hnot : ∀ e ∈ oj.after, Region.binds .any e = true → e.on ≠ i := fun e he hb heq => by
        have h1 := hall e he hb
        have h0 := (mem_ready.1 hr).1
        rw [heq] at h1
        rcases Nat.lt_or_ge i listed.size with h' | h'
        · simp [h'] at h0 h1; rw [h0] at h1; cases h1
        · simp [Array.getElem?_eq_none h'] at h1
      have hjk : j ≠ k := by
        intro h; subst h
        unfold lateB at hk
        rw [hoj] at hk
        simp only [Bool.and_eq_true, Array.any_eq_true'] at hk
        obtain ⟨_, e, he, hb, heq⟩ := hk
        exact hnot e he hb (Nat.eq_of_beq_eq_true heq)
      have hkl' : (listed.setIfInBounds j true).getD k false = false := by rw [getD_set_ne false hjk]; exact hkl
      have hkl2 : ((listed.setIfInBounds i true).setIfInBounds j true).getD k false = false := by rw [getD_set_ne false hjk, getD_set_ne false (Ne.symm hki)]; exact hkl
      have h2 := hop_put hoj (hfree j oj hoj hji hjun hnot) (fun cs b => hsel i oi cs b hi) (fun cs b => hsel j oj cs b hoj) hQ hy h1
      have hfree' : ∀ k ok, ops[k]? = some ok → k ≠ i → (listed.setIfInBounds j true).getD k true = false →
          (∀ e ∈ ok.after, Region.binds .any e = true → e.on ≠ i) → oi.apart ops ok = true := fun k ok hk hki hun hno => by
        refine hfree k ok hk hki ?_ hno
        by_cases hjk : j = k
        · subst hjk; exact hjun
        · rw [getD_set_ne true hjk] at hun; exact hun
      refine hop_mono (fun a' w' h3 => ⟨fun _ => h3.2.1 hkl2, ih (listed.setIfInBounds j true) a' w' hfree' (ready_mono hr (Ne.symm hji)) hkl' h3.1 (h3.2.1 hkl2) ?_⟩) h2
      rw [Array.setIfInBounds_comm _ _ hji]
      exact h3.2.2

/-- nothing that panics is asked for. -/
def NP (Q : Post) : Prop := ∀ c e D w, Q (.panic c) e D w → False
structure AK (P : Program) (r : Option Nat) (n : Nat) (ops : Array Oper) (S : World → Prop) (k : Nat) (fuel : Nat) (listed : Array Bool) (e : Env) (D : List Nat) (w : World) (Q : Post) : Prop where
  out : NP Q → ∀ a, Rel n D a e → AnyK P r ops (lift n Q) S k fuel listed a w
theorem wc_drawK {id : Nat} (S : World → Prop) (k : Nat) (hm : P.follows .mixedOrders = true) (hnd : noDefer ops = true) (hQ : NP Q) (h : AK P r n ops S k ops.size (Array.replicate ops.size false) e D { w with drawn := w.drawn + 1 } Q) : WC P r n (.region id ops true) e D w Q := by
  refine ⟨fun a ha => wpIn_region_any hm (anyK_wp (fun j o ho => ?_) _ _ _ _ (h.out hQ a ha))⟩
  simp only [noDefer, List.all_eq_true] at hnd
  have := hnd o (by rw [← Array.getElem?_toList] at ho; exact List.mem_of_getElem? ho)
  simpa using this
/-- all that is asked of an operation that is taken first. -/
def takeB (ops : Array Oper) (listed : Array Bool) (k i : Nat) : Bool :=
  Region.noSelect ops && Region.free .any ops listed i && (Region.ready .any ops listed).contains i && lateB ops k i && !listed.getD k false
section
variable {S : World → Prop} {fuel k : Nat} {listed : Array Bool}
theorem ak_take {o : Oper} {i : Nat} {v : Value} (hi : ops[i]? = some o) (hdst : o.dst = some d) (hd : Nat.blt d n = true) (hpl : isPlain o.op = true)
    (hb : takeB ops listed k i = true) (hS : S w)
    (hy : ∀ w (Q' : Post), S w → Q' .normal (upd e d v) D w → OW P none n ops [o] e D w Q') (h : AK P r n ops S k fuel (listed.setIfInBounds i true) (upd e d v) D w Q) : AK P r n ops S k (fuel + 1) listed e D w Q := by
  refine ⟨fun hQ a ha => ?_⟩
  have hd' : d < n := by simpa [Nat.blt_eq] using hd
  have hY := yields_of hpl hdst hd ha hy ⟨w, hS⟩
  simp only [takeB, Bool.and_eq_true, Bool.not_eq_true'] at hb
  obtain ⟨⟨⟨⟨hs, hf⟩, hr⟩, hl⟩, hkl⟩ := hb
  refine anyK_first hi (Region.noSelect_spec hs) hl (fun c a w hq => by obtain ⟨e', D', _, hq⟩ := hq; exact (hQ _ _ _ _ hq).elim) fuel listed a w (Region.free_spec hi hf) (by simpa using hr) hkl hY hS ?_
  rw [hdst]; exact h.out hQ _ (ha.put hd' v)
/-- but one may come. -/
theorem ak_one {o : Oper} {i : Nat} (hr : Region.ready .any ops listed = [i]) (hi : ops[i]? = some o) (hnd : isDefer o.op = false)
    (h : OW P r n ops [o] e D w (thn (fun e' D' w' => ((listed.setIfInBounds i true).getD k false = false → S w') ∧ AK P r n ops S k fuel (listed.setIfInBounds i true) e' D' w' Q) Q)) : AK P r n ops S k (fuel + 1) listed e D w Q := by
  refine ⟨fun hQ a ha => ⟨(fun h0 => by rw [hr] at h0; cases h0), fun j hj => ?_⟩⟩
  rw [hr] at hj
  obtain rfl := List.mem_singleton.1 hj
  have h1 := h.out a ha
  unfold hop
  simp only [hi]
  simp only [wpL] at h1
  have conv : ∀ a' w', lift n (thn (fun e' D' w' => ((listed.setIfInBounds j true).getD k false = false → S w') ∧ AK P r n ops S k fuel (listed.setIfInBounds j true) e' D' w' Q) Q) .normal a' w' → ((listed.setIfInBounds j true).getD k false = false → S w') ∧ AnyK P r ops (lift n Q) S k fuel (listed.setIfInBounds j true) a' w' := by
    rintro a' w' ⟨e', D', hrel, hS, hA⟩
    exact ⟨hS, hA.out hQ a' hrel⟩
  split at h1
  · rename_i hw
    rw [if_pos hw]
    have h1 := h1.2
    rw [Oper.semAt_eq _ _ _ (fun c hc => by rw [hc] at hnd; cases hnd)] at h1
    generalize (execOp a.eval o).run P w = x at h1
    cases x with
    | ok x w' =>
      cases x <;> simp only [Oper.uponIn] at h1 ⊢ <;>
        first
          | exact conv _ _ h1
          | exact ⟨h1.1, CallsIn.mono h1.2 (fun e w'' he => by cases e <;> first | exact conv _ _ he | exact he)⟩
          | exact ⟨h1.1, RowsIn.mono h1.2 (fun _ _ he => conv _ _ he)⟩
          | exact ⟨h1.1, RoundIn.mono h1.2 (fun e w'' he => by cases e <;> first | exact conv _ _ he | exact he)⟩
    | halt x w' => cases x <;> simp only [Oper.uponIn] at h1 ⊢ <;> exact h1
  · rename_i hw
    rw [if_neg hw]
    exact conv _ _ h1.2
theorem ak_done (hr : Region.ready .any ops listed = []) (h : Q .normal e D w) : AK P r n ops S k fuel listed e D w Q := by
  refine ⟨fun _ a ha => ?_⟩
  cases fuel with
  | zero => exact ⟨hr, e, D, ha, h⟩
  | succ fuel => exact ⟨fun _ => ⟨e, D, ha, h⟩, by rw [hr]; simp⟩
theorem ak_guard_dec {dj : Nat} {p : Prop} {_ : Decidable p} (he : e dj = .bool (decide p)) (h1 : p → AK P r n ops S k fuel listed (upd e dj (.bool true)) D w Q) (h2 : ¬ p → AK P r n ops S k fuel listed (upd e dj (.bool false)) D w Q) :
    AK P r n ops S k fuel listed e D w Q := by
  by_cases hp : p
  · have := h1 hp; rwa [upd_self (by rw [he]; simp [hp])] at this
  · have := h2 hp; rwa [upd_self (by rw [he]; simp [hp])] at this
end
end Go.Sx

