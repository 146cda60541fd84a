/- More rules: bytes out of a constant text, texts that are compared and loaded. -/
import Derived.Test.YtpbknokakooekaaK5
namespace Go.Sx
set_option linter.all false
open Go Go.Shelf Go.Proofs
variable {P : Program} {r : Option Nat} {n : Nat} {D DD : List Nat} {e : Env} {w w' w0 : World}
variable {ops : Array Oper} {os : List Oper} {Q : Post} {d : Nat} {ty : TypeId} {pos : String} {af : Array Edge}
variable {M : Nat → Prop} {L : List Cap}
theorem ow_convLit {T E E' : TypeId} {t et : TyI} {x : Operand} {i b m c : Nat} {l : List Value} (H : St M w0 w L DD) (hi : L[i]? = some (.row b E' l)) (hd : Nat.blt d n = true) (hx : ev e x = .slice (some ⟨b, 0, none⟩) m c) (ht : TyI.of P T = some t) (htd : t.desc = .slice E) (hE : TyI.of P E = some et) (hEd : et.desc = .int .u8)
    (h : ∀ w', St M w0 w' (L.set i (.sl (some ⟨b, 0, none⟩) l)) DD → OW P r n ops os (upd e d (.slice (some ⟨b, 0, none⟩) m c)) D w' Q) :
    OW P r n ops (⟨some d, .convert T T x, ty, pos, af, none⟩ :: os) e D w Q := by
  have h1 := (TyI.spec ht).1; rw [htd] at h1
  have h2 := (TyI.spec hE).1; rw [hEd] at h2
  have hb : w.heap[b]? = some (.cells ⟨l⟩ E' (0, 0)) := H.cap hi
  have hlt := (Array.getElem?_eq_some_iff.1 hb).1
  have hsh : w.shape? b = some (E', l.length) := by unfold World.shape?; rw [hb]; simp
  have hfz : ∀ k, (w.freeze ⟨b, l.length, none⟩ 1).heap[k]? = if k = b then some (.cells ⟨l⟩ E' (l.length, l.length + 1)) else w.heap[k]? := by
    intro k
    unfold World.freeze
    rw [if_neg (by decide)]
    simp only [Array.getElem?_modify]
    by_cases hk : b = k
    · subst hk; simp [hb]
    · simp [hk, Ne.symm hk]
  refine ow_val (w' := w.freeze ⟨b, l.length, none⟩ 1) rfl (fun _ h => by cases h) rfl hd ?_ (h _ (H.modify hi ?_ ?_ ?_ ?_ ?_ ?_ ?_))
  · have key : (Go.convert T T (.slice (some ⟨b, 0, none⟩) m c)).run P w = .ok (.slice (some ⟨b, 0, none⟩) m c) (w.freeze ⟨b, l.length, none⟩ 1) := by
      simp [Go.convert, run_underlying h1, run_underlying h2, markStringish, hsh, Result.andThen]
    simp only [execOp, hx, Sem.run_bind, key, Result.andThen]; rfl
  · simp [World.freeze]
  · simp [World.freeze]
  · simp [World.freeze]
  · simp [World.freeze]
  · intro k _ hk
    rw [hfz k, if_neg (show ¬ k = b from hk)]
  · intro j v hj
    refine ⟨b, 0, rfl, ?_⟩
    simp only [cellH, hp, hfz b, if_true, Nat.zero_add]
    simpa using hj
  · intro k hk
    obtain ⟨o, s, hq⟩ := hk
    cases hq
    refine ⟨.inr rfl, ?_⟩
    have := hfz b
    rw [if_pos rfl] at this
    exact (Array.getElem?_eq_some_iff.1 this).1
theorem wc_drawW {id : Nat} (k : Nat) (hm : P.follows .mixedOrders = true) (hnd : noDefer ops = true) (hQ : NP Q) (h : AK P r n ops (fun x => x = { w with drawn := w.drawn + 1 }) k ops.size (Array.replicate ops.size false) e D { w with drawn := w.drawn + 1 } Q) : WC P r n (.region id ops true) e D w Q :=
  wc_drawK _ k hm hnd hQ h
theorem hop_of_ow {a : Act} {S : World → Prop} {fuel k i : Nat} {listed : Array Bool} {o : Oper} (hQ : NP Q) (hi : ops[i]? = some o) (hnd : isDefer o.op = false)
    (h : OW P r n ops [o] e D w (thn (fun e' D' w' => ((listed.setIfInBounds i true).getD k false = false → S w') ∧ AK P r n ops S k fuel (listed.setIfInBounds i true) e' D' w' Q) Q)) (ha : Rel n D a e) :
    hop P r ops (lift n Q) i (fun a' w' => ((listed.setIfInBounds i true).getD k false = false → S w') ∧ AnyK P r ops (lift n Q) S k fuel (listed.setIfInBounds i true) a' w') a w := by
  have h1 := h.out a ha
  unfold hop
  simp only [hi]
  simp only [wpL] at h1
  have conv : ∀ a' w', lift n (thn (fun e' D' w' => ((listed.setIfInBounds i true).getD k false = false → S w') ∧ AK P r n ops S k fuel (listed.setIfInBounds i true) e' D' w' Q) Q) .normal a' w' → ((listed.setIfInBounds i true).getD k false = false → S w') ∧ AnyK P r ops (lift n Q) S k fuel (listed.setIfInBounds i true) a' w' := by
    rintro a' w' ⟨e', D', hrel, hS, hA⟩
    exact ⟨hS, hA.out hQ a' hrel⟩
  split at h1
  · rename_i hw
    rw [if_pos hw]
    have h1 := h1.2
    rw [Oper.semAt_eq _ _ _ (fun c hc => by rw [hc] at hnd; cases hnd)] at h1
    generalize (execOp a.eval o).run P w = x at h1
    cases x with
    | ok x w' =>
      cases x <;> simp only [Oper.uponIn] at h1 ⊢ <;>
        first
          | exact conv _ _ h1
          | exact ⟨h1.1, CallsIn.mono h1.2 (fun e w'' he => by cases e <;> first | exact conv _ _ he | exact he)⟩
          | exact ⟨h1.1, RowsIn.mono h1.2 (fun _ _ he => conv _ _ he)⟩
          | exact ⟨h1.1, RoundIn.mono h1.2 (fun e w'' he => by cases e <;> first | exact conv _ _ he | exact he)⟩
    | halt x w' => cases x <;> simp only [Oper.uponIn] at h1 ⊢ <;> exact h1
  · rename_i hw
    rw [if_neg hw]
    exact conv _ _ h1.2
/-- one of two may come. -/
theorem ak_two {S : World → Prop} {fuel k i j : Nat} {listed : Array Bool} {o o' : Oper} (hr : Region.ready .any ops listed = [i, j]) (hi : ops[i]? = some o) (hnd : isDefer o.op = false) (hj : ops[j]? = some o') (hnd' : isDefer o'.op = false)
    (h : OW P r n ops [o] e D w (thn (fun e' D' w' => ((listed.setIfInBounds i true).getD k false = false → S w') ∧ AK P r n ops S k fuel (listed.setIfInBounds i true) e' D' w' Q) Q))
    (h' : OW P r n ops [o'] e D w (thn (fun e' D' w' => ((listed.setIfInBounds j true).getD k false = false → S w') ∧ AK P r n ops S k fuel (listed.setIfInBounds j true) e' D' w' Q) Q)) : AK P r n ops S k (fuel + 1) listed e D w Q := by
  refine ⟨fun hQ a ha => ⟨(fun h0 => by rw [hr] at h0; cases h0), fun x hx => ?_⟩⟩
  rw [hr] at hx
  rcases List.mem_cons.1 hx with rfl | hx
  · exact hop_of_ow hQ hi hnd h ha
  · obtain rfl := List.mem_singleton.1 hx
    exact hop_of_ow hQ hj hnd' h' ha
end Go.Sx

