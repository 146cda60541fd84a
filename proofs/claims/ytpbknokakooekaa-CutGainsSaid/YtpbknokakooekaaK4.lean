/- What a call may read while it turns what it was handed: memory without the blocks that are turned. -/
import Derived.Test.YtpbknokakooekaaK3
namespace Go.Sx
set_option linter.all false
open Go Go.Shelf Go.Proofs
variable {P : Program} {n : Nat} {D DD : List Nat} {e : Env} {w w' w0 : World} {M S : Nat → Prop} {C L : List Cap}
open Classical in
noncomputable def msk (S : Nat → Prop) (w : World) : Hp := fun b => if S b then none else w.heap[b]?
theorem msk_pu (w : World) : msk Pu w = hp w := by funext b; simp [msk, hp]
theorem msk_off {b : Nat} (h : ¬ S b) : msk S w b = hp w b := by simp [msk, hp, h]
theorem msk_some {b : Nat} {o : Obj} (h : msk S w b = some o) : ¬ S b ∧ hp w b = some o := by
  unfold msk at h
  split at h
  · cases h
  · exact ⟨by assumption, h⟩
theorem cellH_msk {b i : Nat} {v : Value} (h : cellH (msk S w) b i = some v) : ¬ S b ∧ cellH (hp w) b i = some v := by
  obtain ⟨o, ho⟩ := lt_of_cellH h
  have hm := msk_some ho
  exact ⟨hm.1, by rw [← h]; exact cellH_congr (by rw [ho, hm.2])⟩
theorem SlH.unmsk {p : Option Addr} {cs : List Value} (hs : SlH (msk S w) p cs) : SlH (hp w) p cs := by
  intro j v hj
  obtain ⟨b, o, rfl, hc⟩ := hs j v hj
  exact ⟨b, o, rfl, (cellH_msk hc).2⟩
theorem St.begin (H : St M w0 w (C ++ L) D) : St (fps C) w w C [] := by
  unfold St at H ⊢
  rw [List.map_nil, List.append_nil]
  rw [List.append_assoc] at H
  exact ⟨rfl, rfl, rfl, Nat.le_refl _, fun _ _ _ => rfl, fun c hc => H.oks c (List.mem_append_left _ hc), fun c hc b hb => ⟨.inr ⟨c, hc, hb⟩, (H.own c (List.mem_append_left _ hc) b hb).2⟩, (List.pairwise_append.1 H.apart).1⟩
theorem St.oldM {b : Nat} (H : St M w0 w L D) {o : Obj} (h : msk M w0 b = some o) : hp w b = some o := by
  obtain ⟨h1, h2⟩ := msk_some h
  have hb : b < w0.heap.size := (Array.getElem?_eq_some_iff.1 h2).1
  have := H.old b hb h1
  show w.heap[b]? = _; rw [this]; exact h2
theorem St.rd (H : St M w0 w L D) {p : Option Addr} {cs : List Value} (hs : SlH (msk M w0) p cs) : SlH (hp w) p cs := by
  intro j v hj
  obtain ⟨b, o, rfl, hc⟩ := hs j v hj
  obtain ⟨ob, hob⟩ := lt_of_cellH hc
  exact ⟨b, o, rfl, by rw [← hc]; exact cellH_congr (by rw [hob, H.oldM hob])⟩
theorem St.offC (H : St M w0 w (C ++ L) D) {b : Nat} {o : Obj} (h : msk M w0 b = some o) : msk (fps C) w b = some o := by
  obtain ⟨h1, h2⟩ := msk_some h
  have hb : b < w0.heap.size := (Array.getElem?_eq_some_iff.1 h2).1
  rw [msk_off, H.oldM h]
  rintro ⟨c, hc, hcb⟩
  rcases (H.own c (List.mem_append_left _ (List.mem_append_left _ hc)) b hcb).1 with h | h
  · omega
  · exact h1 h
theorem St.rdC (H : St M w0 w (C ++ L) D) {p : Option Addr} {cs : List Value} (hs : SlH (msk M w0) p cs) : SlH (msk (fps C) w) p cs := by
  intro j v hj
  obtain ⟨b, o, rfl, hc⟩ := hs j v hj
  obtain ⟨ob, hob⟩ := lt_of_cellH hc
  exact ⟨b, o, rfl, by rw [← hc]; exact cellH_congr (by rw [hob, H.offC hob])⟩
theorem St.capC (H : St M w0 w (C ++ L) D) {i : Nat} {c : Cap} (hi : L[i]? = some c) : c.ok (msk (fps C) w) := by
  have hm : c ∈ L := List.mem_of_getElem? hi
  refine c.loc _ _ (fun b hb => msk_off ?_) (H.oks c (List.mem_append_left _ (List.mem_append_right _ hm)))
  rintro ⟨d, hd, hdb⟩
  have h1 := (List.pairwise_append.1 (List.pairwise_append.1 H.apart).1).2.2 d hd c hm b hdb hb
  exact h1
theorem St.only (H : St M w0 w L D) {i : Nat} {c : Cap} (hi : L[i]? = some c) : St M w0 w [c] D := H.sub (List.singleton_sublist.2 (List.mem_of_getElem? hi))
theorem St.none (H : St M w0 w L D) : St M w0 w [] D := H.sub (List.nil_sublist _)
end Go.Sx

