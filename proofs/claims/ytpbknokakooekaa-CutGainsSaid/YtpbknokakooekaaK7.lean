/- More rules: a cell of a slice that is appended to is set. -/
import Derived.Test.YtpbknokakooekaaK6
namespace Go.Sx
set_option linter.all false
open Go Go.Shelf Go.Proofs
variable {P : Program} {r : Option Nat} {n : Nat} {D DD : List Nat} {e : Env} {w w' w0 : World}
variable {ops : Array Oper} {os : List Oper} {Q : Post} {d : Nat} {ty : TypeId} {pos : String} {af : Array Edge}
variable {M : Nat → Prop} {L : List Cap}
theorem appOk.some {h : Hp} {p : Option Addr} {len cap : Nat} {T : TypeId} {sz : Nat} {cs : List Value} (ho : appOk h p len cap T sz cs) (h0 : 0 < cs.length) : ∃ b, p = some ⟨b, 0, none⟩ := by
  rcases ho.2 with ⟨rfl, rfl, rfl⟩ | ⟨g, cur, h, _⟩
  · have := ho.1; omega
  · exact ⟨g, h⟩
theorem ow_storeApp {T T' : TypeId} {t : TyI} {x y : Operand} {i b o len cap sz : Nat} {cs : List Value} {v : Value} (H : St M w0 w L DD) (ht : TyI.of P T = some t) (hsz : t.size = 1) (hx : ev e x = .pointer (some ⟨b, o, none⟩)) (hi : L[i]? = some (.app (some ⟨b, 0, none⟩) len cap T' sz cs))
    (hy : ev e y = v) (h1 : Value.one v = true) (ho : o < cs.length) (h : ∀ w', St M w0 w' (L.set i (.app (some ⟨b, 0, none⟩) len cap T' sz (cs.set o v))) DD → OW P r n ops os e D w' Q) :
    OW P r n ops (⟨none, .store T x y, ty, pos, af, none⟩ :: os) e D w Q := by
  have hcap : appOk (hp w) (some ⟨b, 0, none⟩) len cap T' sz cs := H.cap hi
  rcases hcap.2 with ⟨h0, _⟩ | ⟨g, cur, hg, hb, h3, h4, h5, h6⟩
  · cases h0
  cases hg
  have hb' : w.heap[b]? = some (.cells cur T' (0, 0)) := hb
  have hlen := hcap.1
  have hoc : o < cur.size := by
    have := congrArg List.length h6
    simp at this; omega
  have hcell : w.cell? ⟨b, o, none⟩ = some cur[o] := by
    rw [cell_eq]; simp only [cellH, hp, hb']; simp [hoc]
  have hfrz : w.frozen? ⟨b, o, none⟩ = false := by simp [World.frozen?, hb']
  have hS : SetB w b (w.setCell ⟨b, o, none⟩ v) (.cells ⟨cur.toList.set o v⟩ T' (0, 0)) := by
    have : cur = ⟨cur.toList⟩ := rfl
    exact setCell_SetB (l := cur.toList) hb'
  have hlt := (Array.getElem?_eq_some_iff.1 hb').1
  have hnew : ∀ k, (w.setCell ⟨b, o, none⟩ v).heap[k]? = if k = b then some (.cells ⟨cur.toList.set o v⟩ T' (0, 0)) else w.heap[k]? := by
    intro k
    rw [hS.1]
    by_cases hk : k = b
    · subst hk; rw [if_pos rfl]; simp [hlt]
    · rw [if_neg hk, Array.getElem?_setIfInBounds_ne (fun h => hk h.symm)]
  refine ow_skip (w' := w.setCell ⟨b, o, none⟩ v) rfl (fun _ h => by cases h) rfl ?_ (h _ (H.modify hi hS.2.1 hS.2.2.1 hS.2.2.2 ?_ ?_ ?_ ?_))
  · have hadd : (⟨b, o, none⟩ : Addr).add 0 = ⟨b, o, none⟩ := by simp [Addr.add]
    simp [execOp, Instr.storeAt, Instr.sureAddr, hx, hy, storeVar, one_cells h1, TyI.run_sizeOf ht, hsz, Result.andThen, storeCells, hadd, run_store1 h1 hcell hfrz]
  · rw [hS.1]; simp
  · intro k _ hk
    rw [hnew k, if_neg]
    intro hkb; exact hk ⟨0, none, by rw [hkb]⟩
  · refine ⟨by rw [List.length_set]; exact hlen, .inr ⟨b, ⟨cur.toList.set o v⟩, rfl, ?_, h3, h4, by simpa using h5, ?_⟩⟩
    · show (w.setCell ⟨b, o, none⟩ v).heap[b]? = _
      rw [hnew b, if_pos rfl]
    · show (cur.toList.set o v).take (len * sz) = cs.set o v
      rw [List.take_set, h6]
  · intro k hk
    obtain ⟨o', s, hq⟩ := hk
    cases hq
    refine ⟨.inr ⟨0, none, rfl⟩, ?_⟩
    rw [hS.1]; simpa using hlt
end Go.Sx

