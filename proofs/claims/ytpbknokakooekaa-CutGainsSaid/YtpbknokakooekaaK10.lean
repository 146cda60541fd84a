/- A literal of structs: []T{a, b}, and an element stored whole. -/
import Derived.Test.YtpbknokakooekaaK9
namespace Go.Sx
set_option linter.all false
open Go Go.Shelf Go.Proofs
variable {P : Program} {r : Option Nat} {n : Nat} {D DD : List Nat} {e : Env} {w w' w0 : World} {M : Nat → Prop} {L : List Cap}
variable {ops : Array Oper} {os : List Oper} {Q : Post} {d : Nat} {ty : TypeId} {pos : String} {af : Array Edge}
theorem ow_buildSliceA {T E : TypeId} {t et : TyI} {len : Nat} {parts : Array (Nat × Operand)} {zs l : List Value} {vs : List (Nat × Value)} (H : St M w0 w L DD) (hd : Nat.blt d n = true) (ht : TyI.of P T = some t) (htd : t.desc = .slice E) (het : TyI.of P E = some et)
    (hlen : Nat.ble (len * et.size) 1000000 = true) (hne : (len * et.size == 0) = false) (hp : (parts.toList.map fun x => (x.1, ev e x.2)) = vs)
    (hz : ((Array.range (len * et.size)).map fun x => et.zero.cells[x % et.zero.cells.size]!) = ⟨zs⟩) (hf : Instr.fill (fun i => some (i * et.size, et.size)) ⟨zs⟩ vs = some ⟨l⟩)
    (h : ∀ b w', St M w0 w' (.row b E l :: L) DD → OW P r n ops os (upd e d (.slice (some ⟨b, 0, none⟩) len len)) D w' Q) :
    OW P r n ops (⟨some d, .buildSlice T len parts, ty, pos, af, none⟩ :: os) e D w Q := by
  have hle' : len * et.size ≤ 1000000 := by simpa [Nat.ble_eq] using hlen
  have hN := NewB.mk w (.cells ⟨l⟩ E)
  refine ow_val (v := .slice (some ⟨w.heap.size, 0, none⟩) len len) rfl (fun _ h => by cases h) rfl hd ?_ (h _ _ (H.new hN))
  have key := run_buildSlice (P := P) (w := w) (len := len) (parts := parts.map fun (i, x) => (i, ev e x)) (l := l) (zs := zs) ht htd het (by omega)
    (fun h0 => by rw [h0] at hne; cases hne) (fun _ => hz) (by
    have hpl : (parts.map fun (i, x) => (i, ev e x)).toList = vs := by rw [Array.toList_map, ← hp]
    rw [hpl]; exact hf)
  simp only [execOp, Sem.run_bind, key, Result.andThen]
  rfl
theorem ow_buildSlice0 {T E : TypeId} {t et : TyI} (H : St M w0 w L DD) (hd : Nat.blt d n = true) (ht : TyI.of P T = some t) (htd : t.desc = .slice E) (het : TyI.of P E = some et)
    (h : ∀ b w', St M w0 w' (.row b E [] :: L) DD → OW P r n ops os (upd e d (.slice (some ⟨b, 0, none⟩) 0 0)) D w' Q) :
    OW P r n ops (⟨some d, .buildSlice T 0 #[], ty, pos, af, none⟩ :: os) e D w Q := by
  have hN := NewB.mk w (.cells ⟨[]⟩ E)
  refine ow_val (v := .slice (some ⟨w.heap.size, 0, none⟩) 0 0) rfl (fun _ h => by cases h) rfl hd ?_ (h _ _ (H.new hN))
  have key := run_buildSlice (P := P) (w := w) (len := 0) (parts := #[]) (l := []) (zs := []) ht htd het (by omega)
    (fun _ => rfl) (fun h0 => absurd (Nat.zero_mul _) h0) rfl
  simp only [execOp, Sem.run_bind]
  rw [Array.map_empty, key]
  rfl
theorem row_slH {h : Hp} {b : Nat} {T : TypeId} {l : List Value} (ho : (Cap.row b T l).ok h) : SlH h (some ⟨b, 0, none⟩) l := by
  intro j v hj
  refine ⟨b, 0, rfl, ?_⟩
  have h1 : h b = some (.cells ⟨l⟩ T (0, 0)) := ho
  simp only [cellH, h1, Nat.zero_add]
  simpa using hj
theorem St.weak {M : Nat → Prop} {w0 w : World} {L : List Cap} {D : List Nat} {i : Nat} {c c' : Cap} (H : St M w0 w L D) (hi : L[i]? = some c) (hok : c.ok (hp w) → c'.ok (hp w)) (hfp : ∀ b, c'.fp b → c.fp b) : St M w0 w (L.set i c') D :=
  H.modify hi rfl rfl rfl (Nat.le_refl _) (fun _ _ _ => rfl) (hok (H.cap hi)) (fun b hb => ⟨.inr (hfp b hb), (St0.own H c (List.mem_append_left _ (List.mem_of_getElem? hi)) b (hfp b hb)).2⟩)
theorem St.appToSl {M : Nat → Prop} {w0 w : World} {L : List Cap} {D : List Nat} {i len cap sz : Nat} {p : Option Addr} {T : TypeId} {cs : List Value} (H : St M w0 w L D) (hi : L[i]? = some (.app p len cap T sz cs)) : St M w0 w (L.set i (.sl p cs)) D :=
  H.weak hi (fun h => appOk.sl h) (fun _ h => h)
theorem St.rowToSl {M : Nat → Prop} {w0 w : World} {L : List Cap} {D : List Nat} {i b : Nat} {T : TypeId} {cs : List Value} (H : St M w0 w L D) (hi : L[i]? = some (.row b T cs)) : St M w0 w (L.set i (.sl (some (⟨b, 0, Option.none⟩ : Addr)) cs)) D :=
  H.weak hi (fun h => row_slH h) (fun x h => by obtain ⟨o, s, hq⟩ := h; cases hq; rfl)
end Go.Sx

