/- Rules: cap, three-index slices, copy, clear, append in place, append of zeros, overlaps, nil funcs. -/
import Derived.Test.YtpbknokakooekaaK10
import Derived.Lib.AppendZerosOnto
import Derived.Lib.Overlaps
import Derived.Laws.CopyRow
namespace Go.Sx
set_option linter.all false
open Go Go.Shelf Go.Proofs
variable {P : Program} {r : Option Nat} {n : Nat} {D DD : List Nat} {e : Env} {w w' w0 : World} {M : Nat → Prop} {L : List Cap}
variable {ops : Array Oper} {os : List Oper} {Q : Post} {d : Nat} {ty : TypeId} {pos : String} {af : Array Edge}
theorem ow_cap {x : Operand} {t E : TypeId} {ti : TyI} {p : Option Addr} {l c : Nat} (hd : Nat.blt d n = true) (hx : ev e x = .slice p l c) (ht : TyI.of P t = some ti) (htd : ti.desc = .slice E) (h : OW P r n ops os (upd e d (.int .i64 c)) D w Q) :
    OW P r n ops (⟨some d, .call ⟨.builtin .cap, #[x], #[t]⟩, ty, pos, af, none⟩ :: os) e D w Q :=
  ow_val (w' := w) rfl (fun _ h => by cases h) rfl hd (by simp [execOp, resolve, invoke, builtin, hx, Builtin.cap_, TyI.run_underlying ht, htd, Result.andThen, goInt]) h
theorem ow_slice3 {T E : TypeId} {t et : TyI} {x i j l : Operand} {k k' k2 : IntKind} {m m' m2 : Int} {p : Option Addr} {len cap : Nat} (hd : Nat.blt d n = true) (ht : TyI.of P T = some t) (htd : t.desc = .slice E) (het : TyI.of P E = some et)
    (hx : ev e x = .slice p len cap) (hi : ev e i = .int k m) (hj : ev e j = .int k' m') (hl : ev e l = .int k2 m2) (h0 : 0 ≤ m) (h1 : m ≤ m') (h2 : m' ≤ m2) (h3 : m2 ≤ cap) (h : OW P r n ops os (upd e d (.slice (subP p m2.toNat m.toNat et.size) (m'.toNat - m.toNat) (m2.toNat - m.toNat))) D w Q) :
    OW P r n ops (⟨some d, .slice T x (some i) (some j) (some l), ty, pos, af, none⟩ :: os) e D w Q := by
  refine ow_val (w' := w) rfl (fun _ h => by cases h) rfl hd ?_ h
  have a1 : 0 ≤ m' := by omega
  have a2 : m ≤ max m' 0 := by omega
  have a3 : 0 ≤ m2 := by omega
  have a4 : m' ≤ max m2 0 := by omega
  simp [execOp, Instr.sliceAt, Instr.slice, TyI.run_underlying ht, htd, hx, Result.andThen, Instr.sliceBounds, Instr.sliceBound, asIntOf, hi, hj, hl, h0, h1, h2, h3, a1, a2, a3, a4, TyI.run_sizeOf het, subP]
theorem subP_some (b o c k sz : Nat) (h : c ≠ k) : subP (some ⟨b, o, none⟩) c k sz = some ⟨b, o + k * sz, none⟩ := by simp [subP, h, add_none]
theorem subP_zero (p : Option Addr) (c sz : Nat) (h : ∀ a, p = some a → a.spot = none) : subP p c 0 sz = p := by
  unfold subP
  split
  · rfl
  · cases p with
    | none => rfl
    | some a => obtain ⟨b, o, s⟩ := a; have := h _ rfl; simp only at this; subst this; simp [add_none]
/-- a guard that itself was not reached. -/
theorem ow_guard_un {o : Oper} {j dj d : Nat} {want : Bool} (hg : o.guard = some (j, want)) (hdst : o.dst = some d) (hdn : Nat.blt d n = true) (hj : (ops[j]?).bind (·.dst) = some dj) (hd : Nat.blt dj n = true) (he : e dj = undef)
    (h : OW P r n ops os (upd e d undef) D w Q) : OW P r n ops (o :: os) e D w Q := by
  refine ⟨fun a ha => ?_⟩
  have hdj : dj < n := by simpa [Nat.blt_eq] using hd
  have hy : yielded ops a.tmps j = none := by simp [yielded, hj, ha.at hdj, he, undef]
  have hw : Region.wanted o (yielded ops a.tmps) = false := by simp [Region.wanted, hg, hy]
  simp only [wpL, hw]
  have hd' : d < n := by simpa [Nat.blt_eq] using hdn
  refine ⟨fun _ _ => trivial, ?_⟩
  rw [hdst]; exact h.out _ (ha.put hd' undef)
/-! ### rows and what is appended to -/
theorem St.appRow {i len cap sz : Nat} {b : Nat} {T : TypeId} {cs : List Value} (H : St M w0 w L D) (hi : L[i]? = some (.app (some (⟨b, 0, Option.none⟩ : Addr)) len cap T sz cs)) :
    ∃ zs, cs.length = len * sz ∧ len ≤ cap ∧ cap ≤ maxLen ∧ (cs ++ zs).length = cap * sz ∧ St M w0 w (L.set i (.row b T (cs ++ zs))) D := by
  have ho : appOk (hp w) (some (⟨b, 0, Option.none⟩ : Addr)) len cap T sz cs := H.cap hi
  obtain ⟨h1, h2⟩ := ho
  rcases h2 with ⟨h, _⟩ | ⟨g, cur, h, hg, h3, h4, h5, h6⟩
  · cases h
  cases h
  have hcur : cur.toList = cs ++ cur.toList.drop (len * sz) := by rw [← h6]; exact (List.take_append_drop _ _).symm
  have hw : ∀ c' : Cap, c' = .row b T cur.toList → St M w0 w (L.set i c') D := by
    rintro c' rfl
    exact H.weak hi (fun _ => by show _ = _; rw [hg]) (fun b' hb' => by have : b' = b := hb'; subst this; exact ⟨0, Option.none, rfl⟩)
  exact ⟨cur.toList.drop (len * sz), h1, h3, h4, by rw [← hcur]; simpa using h5, by rw [← hcur]; exact hw _ rfl⟩
theorem St.rowToApp {i b len cap sz : Nat} {T : TypeId} {cs zs : List Value} (H : St M w0 w L D) (hi : L[i]? = some (.row b T (cs ++ zs))) (hcs : cs.length = len * sz) (hl : (cs ++ zs).length = cap * sz) (hle : len ≤ cap) (hm : cap ≤ maxLen) :
    St M w0 w (L.set i (.app (some (⟨b, 0, Option.none⟩ : Addr)) len cap T sz cs)) D :=
  H.weak hi (fun h => ⟨hcs, .inr ⟨b, ⟨cs ++ zs⟩, rfl, h, hle, hm, by simpa using hl, by simp [← hcs]⟩⟩) (fun b' ⟨o, s, h⟩ => by cases h; rfl)
theorem ow_copyA {x y : Operand} {T T2 E Te : TypeId} {t et : TyI} {i g o dl dc sl sc : Nat} {a : Addr} {l ys : List Value} (dst : Option Nat) (e' : Env)
    (H : St M w0 w L DD) (hi : L[i]? = some (.row g Te l)) (ht : TyI.of P T = some t) (htd : t.desc = .slice E) (het : TyI.of P E = some et)
    (hx : ev e x = .slice (some ⟨g, o, none⟩) dl dc) (hy : ev e y = .slice (some a) sl sc) (hs : SlH (hp w) (some a) ys) (hn : ys.length = min sl dl * et.size) (hfit : o + ys.length ≤ l.length) (h1 : ∀ v ∈ ys, v.oneCell' = true)
    (hdst : dst = none ∧ e' = e ∨ ∃ d, dst = some d ∧ Nat.blt d n = true ∧ e' = upd e d (.int .i64 (min sl dl : Nat)))
    (h : ∀ w', St M w0 w' (L.set i (.row g Te (l.take o ++ ys ++ l.drop (o + ys.length)))) DD → OW P r n ops os e' D w' Q) :
    OW P r n ops (⟨dst, .call ⟨.builtin .copy, #[x, y], #[T, T2]⟩, ty, pos, af, none⟩ :: os) e D w Q := by
  obtain ⟨hu, ti, hi0, hi1, hi2, hi3⟩ := TyI.spec het
  have hT := (TyI.spec ht).1
  rw [htd] at hT
  have hg : w.heap[g]? = some (.cells ⟨l⟩ Te (0, 0)) := H.cap hi
  have hl := run_loadCells_list (P := P) w a ys hs.add
  have hst := run_storeCells_at P g o Te ys 0 ⟨l⟩ w hg (by simpa using hfit) h1
  have hr : (Builtin.copy_ #[T, T2] ty #[.slice (some ⟨g, o, none⟩) dl dc, .slice (some a) sl sc]).run P w = .ok (goInt (Nat.min sl dl)) (w.setRow g ⟨l.take o ++ ys ++ l.drop (o + ys.length)⟩) := by
    have hn' : Nat.min sl dl * ti.size = ys.length := by rw [hi1, hn]
    simp [Builtin.copy_, run_underlying hT, Builtin.lenOf, Builtin.firstCells, sizeOf, typeInfo, hi0, hn', hl, hst]
  have hS := setRow_SetB (l' := l.take o ++ ys ++ l.drop (o + ys.length)) hg
  have hx1 : (execOp (ev e) (⟨dst, .call ⟨.builtin .copy, #[x, y], #[T, T2]⟩, ty, pos, af, none⟩ : Oper)).run P w = .ok (.value (.int .i64 (min sl dl : Nat))) (w.setRow g ⟨l.take o ++ ys ++ l.drop (o + ys.length)⟩) := by
    simp [execOp, resolve, invoke, builtin, hx, hy, hr, Result.andThen, goInt]
  rcases hdst with ⟨rfl, rfl⟩ | ⟨d, rfl, hd, rfl⟩
  · exact ow_val0 rfl (fun _ h => by cases h) rfl hx1 (h _ (H.set hi hS))
  · exact ow_val rfl (fun _ h => by cases h) rfl hd hx1 (h _ (H.set hi hS))
theorem zero_ones {z : List Value} (m : Nat) (h1 : ∀ v ∈ z, v.oneCell' = true) : ∀ v ∈ (Builtin.zeroCells ⟨z⟩ m).toList, v.oneCell' = true := by
  intro v hv
  simp only [Builtin.zeroCells, Array.toList_map, List.mem_map] at hv
  obtain ⟨i, hi, rfl⟩ := hv
  simp only [Array.toList_range, List.mem_range] at hi
  have h0 : 0 < z.length := by
    rcases Nat.eq_zero_or_pos z.length with h | h
    · simp [h] at hi
    · exact h
  have hlt := Nat.mod_lt i h0
  have : (⟨z⟩ : Array Value)[i % (⟨z⟩ : Array Value).size]! = z[i % z.length] := by simp [hlt]
  rw [this]
  exact h1 _ (List.getElem_mem _)
theorem ow_clearA {x : Operand} {T E Te : TypeId} {t et : TyI} {i g o m c : Nat} {l z : List Value} (dst : Option Nat) (e' : Env)
    (H : St M w0 w L DD) (hi : L[i]? = some (.row g Te l)) (ht : TyI.of P T = some t) (htd : t.desc = .slice E) (het : TyI.of P E = some et) (hz : et.zero.cells = ⟨z⟩) (hz1 : ∀ v ∈ z, v.oneCell' = true)
    (hx : ev e x = .slice (some ⟨g, o, none⟩) m c) (hfit : o + m * z.length ≤ l.length)
    (hdst : dst = none ∧ e' = e ∨ ∃ d, dst = some d ∧ Nat.blt d n = true ∧ e' = upd e d (.tuple #[]))
    (h : ∀ w' ys, ys.length = m * z.length → St M w0 w' (L.set i (.row g Te (l.take o ++ ys ++ l.drop (o + ys.length)))) DD → OW P r n ops os e' D w' Q) :
    OW P r n ops (⟨dst, .call ⟨.builtin .clear, #[x], #[T]⟩, ty, pos, af, none⟩ :: os) e D w Q := by
  have hT := (TyI.spec ht).1
  rw [htd] at hT
  have hg : w.heap[g]? = some (.cells ⟨l⟩ Te (0, 0)) := H.cap hi
  obtain ⟨ys, hys⟩ : ∃ ys, (Builtin.zeroCells ⟨z⟩ m).toList = ys := ⟨_, rfl⟩
  have hlen : ys.length = m * z.length := by rw [← hys]; simp [Builtin.zeroCells]
  have h1 : ∀ v ∈ ys, v.oneCell' = true := by rw [← hys]; exact zero_ones m hz1
  have hst := run_storeCells_at P g o Te ys 0 ⟨l⟩ w hg (by simp; omega) h1
  have hS := setRow_SetB (l' := l.take o ++ ys ++ l.drop (o + ys.length)) hg
  have hr : ∃ w1, (Builtin.clear_ #[T] ty #[.slice (some ⟨g, o, none⟩) m c]).run P w = .ok (.tuple #[]) w1 ∧ St M w0 w1 (L.set i (.row g Te (l.take o ++ ys ++ l.drop (o + ys.length)))) DD := by
    rcases Nat.eq_zero_or_pos m with h0 | h0
    · subst h0
      have hy0 : ys = [] := List.eq_nil_of_length_eq_zero (by simpa using hlen)
      subst hy0
      refine ⟨w, ?_, H.weak hi (fun h => ?_) (fun _ h => h)⟩
      · simp [Builtin.clear_, run_underlying hT]
      · show _ = _
        rw [h]
        simp
    · obtain ⟨m', rfl⟩ : ∃ m', m = m' + 1 := ⟨m - 1, by omega⟩
      refine ⟨_, ?_, H.set hi hS⟩
      simp [Builtin.clear_, run_underlying hT, TyI.run_zero het, hz, hys, hst]
  obtain ⟨w1, hr, H1⟩ := hr
  have hx1 : (execOp (ev e) (⟨dst, .call ⟨.builtin .clear, #[x], #[T]⟩, ty, pos, af, none⟩ : Oper)).run P w = .ok (.value (.tuple #[])) w1 := by
    simp [execOp, resolve, invoke, builtin, hx, hr, Result.andThen]
  rcases hdst with ⟨rfl, rfl⟩ | ⟨d, rfl, hd, rfl⟩
  · exact ow_val0 rfl (fun _ h => by cases h) rfl hx1 (h _ ys hlen H1)
  · exact ow_val rfl (fun _ h => by cases h) rfl hd hx1 (h _ ys hlen H1)
/-- what is appended fits into the row. -/
theorem ow_appendIn {x y : Operand} {T E : TypeId} {t et : TyI} {i g len cap m c : Nat} {a : Addr} {l ys : List Value} (H : St M w0 w L DD) (hi : L[i]? = some (.row g E l))
    (hd : Nat.blt d n = true) (ht : TyI.of P T = some t) (htd : t.desc = .slice E) (het : TyI.of P E = some et)
    (hx : ev e x = .slice (some ⟨g, 0, none⟩) len cap) (hy : ev e y = .slice (some a) m c) (hs : SlH (hp w) (some a) ys) (hl : ys.length = m * et.size) (h1 : ∀ u ∈ ys, u.oneCell' = true)
    (hroom : len + m ≤ cap) (hfit : len * et.size + ys.length ≤ l.length)
    (h : ∀ w', St M w0 w' (L.set i (.row g E (l.take (len * et.size) ++ ys ++ l.drop (len * et.size + ys.length)))) DD → OW P r n ops os (upd e d (.slice (some ⟨g, 0, none⟩) (len + m) cap)) D w' Q) :
    OW P r n ops (⟨some d, .call ⟨.builtin .append, #[x, y], #[T, T]⟩, ty, pos, af, none⟩ :: os) e D w Q := by
  obtain ⟨hu, ti, hi0, hi1, hi2, hi3⟩ := TyI.spec het
  have hT := (TyI.spec ht).1
  rw [htd] at hT
  have hg : w.heap[g]? = some (.cells ⟨l⟩ E (0, 0)) := H.cap hi
  have hr := run_append_room (P := P) w T ty E ti hT hi0 g len cap ⟨l⟩ hg a m c ys (by rw [hi1]; exact hl) hs.add h1 hroom (by rw [hi1]; simpa using hfit)
  rw [hi1] at hr
  have hS := setRow_SetB (l' := l.take (len * et.size) ++ ys ++ l.drop (len * et.size + ys.length)) hg
  refine ow_val (w' := w.setRow g ⟨l.take (len * et.size) ++ ys ++ l.drop (len * et.size + ys.length)⟩) rfl (fun _ h => by cases h) rfl hd ?_ (h _ (H.set hi hS))
  simp [execOp, resolve, invoke, builtin, hx, hy, hr, Result.andThen]
/-- what is appended are zeros, and a new row is needed. -/
theorem ow_appendZ {x y : Operand} {T TN E : TypeId} {t tn et : TyI} {kq kn : IntKind} {len cap k : Nat} {p : Option Addr} {cs z : List Value} (H : St M w0 w L DD)
    (hd : Nat.blt d n = true) (ht : TyI.of P T = some t) (htd : t.desc = .slice E) (htn : TyI.of P TN = some tn) (htnd : tn.desc = .int kn) (het : TyI.of P E = some et) (hz : et.zero.cells = ⟨z⟩) (hzl : z.length = et.size) (hpos : 0 < et.size)
    (hx : ev e x = .slice p len cap) (hy : ev e y = .int kq (k : Int)) (hs : SlH (hp w) p cs) (hl : cs.length = len * et.size) (h0 : 0 < k) (hg : cap < len + k)
    (hb : (len + k) * et.bytes ≤ 140737488355328) (hb2 : len + k ≤ 140737488355328)
    (h : ∀ b cap' zs w', cap' ≤ maxLen → len + k ≤ cap' → (cs ++ zs).length = cap' * et.size → St M w0 w' (.row b E (cs ++ zs) :: L) DD → OW P r n ops os (upd e d (.slice (some ⟨b, 0, none⟩) (len + k) cap')) D w' Q) :
    OW P r n ops (⟨some d, .call ⟨.builtin .append, #[x, y], #[T, TN]⟩, ty, pos, af, none⟩ :: os) e D w Q := by
  obtain ⟨hu, ti, hi0, hi1, hi2, hi3⟩ := TyI.spec het
  have hT := (TyI.spec ht).1
  rw [htd] at hT
  have hTN := (TyI.spec htn).1
  rw [htnd] at hTN
  have hold : (Builtin.firstCells ti.size len (.slice p len cap)).run P w.drew = .ok cs.toArray w.drew := by
    rw [hi1]
    cases p with
    | none =>
      have : cs = [] := by
        cases cs with
        | nil => rfl
        | cons c cs => obtain ⟨b, o, h, _⟩ := hs 0 c rfl; cases h
      subst this
      rfl
    | some a =>
      have := run_loadCells_list (P := P) w.drew a cs (fun j v hj => hs.add j v hj)
      simp only [Builtin.firstCells, ← hl]
      exact this
  have hfit : Builtin.nextslicecap (len + k) cap * ti.bytes ≤ 281474976710656 := by
    rw [hi2]
    exact growslice_fits (by omega) hb
  have hkb : k * ti.bytes ≤ 281474976710656 := by
    rw [hi2]
    exact Nat.le_trans (Nat.mul_le_mul_right _ (Nat.le_add_left k len)) (Nat.le_trans hb (by decide))
  have hr := Lib.run_append_grow_zeros (P := P) w T TN ty E ti et.zero kq kn hT hTN hi0 hi3 p len cap cs hold k h0 (by rw [hi1]; exact hpos) hg (by omega) hkb hfit
  have hge := grownCap_ge w (len + k) cap E
  have hcm : grownCap w (len + k) cap E ≤ maxLen := grownCap_le_maxLen w (len + k) cap E (by simp only [maxLen]; omega)
  obtain ⟨cp, hcp⟩ : ∃ cp, grownCap w (len + k) cap E = cp := ⟨_, rfl⟩
  rw [hcp] at hr hge hcm
  obtain ⟨zs, hzs⟩ : ∃ zs, (Builtin.zeroCells et.zero.cells k ++ Builtin.zeroCells et.zero.cells (cp - (len + k))).toList = zs := ⟨_, rfl⟩
  have hrow : cs.toArray ++ Builtin.zeroCells et.zero.cells k ++ Builtin.zeroCells et.zero.cells (cp - (len + k)) = ⟨cs ++ zs⟩ := by
    rw [← hzs]; apply Array.ext'; simp
  rw [hrow] at hr
  have hzl' : zs.length = (k + (cp - (len + k))) * et.size := by
    rw [← hzs, Nat.add_mul]; simp [size_zeroCells, hz, hzl]
  have hN : NewB w w.heap.size (w.drew.alloc (.cells ⟨cs ++ zs⟩ E)) (.cells ⟨cs ++ zs⟩ E) := ⟨rfl, rfl, rfl, rfl, rfl⟩
  refine ow_val (v := .slice (some ⟨w.heap.size, 0, none⟩) (len + k) cp) (w' := w.drew.alloc (.cells ⟨cs ++ zs⟩ E)) rfl (fun _ h => by cases h) rfl hd ?_ (h w.heap.size cp zs _ hcm hge ?_ (H.new hN))
  · simp [execOp, resolve, invoke, builtin, hx, hy, hr, Result.andThen]
  · rw [List.length_append, hl, hzl', ← Nat.add_mul]; congr 1; omega
theorem ow_overlaps {x y : Operand} {ats : Array TypeId} {f : FuncId} {fn : Func} {tS tR E : TypeId} {t et : TyI} {i j a b oa ob la ca lb cb : Nat} {ta tb : TypeId} {xs ys : List Value} (H : St M w0 w L DD)
    (hd : Nat.blt d n = true) (hf : P.funcs[f]? = some fn) (hname : (fn.name == "runtime.NumGoroutine") = false) (hb : fn.body.isNone = true) (hn : Extern.findNext fn = none) (he : Extern.find fn = some (Extern.SlicesOverlaps.overlaps #[tS, tS] #[tR]))
    (ht : TyI.of P tS = some t) (htd : t.desc = .slice E) (het : TyI.of P E = some et)
    (hx : ev e x = .slice (some ⟨a, oa, none⟩) la ca) (hy : ev e y = .slice (some ⟨b, ob, none⟩) lb cb) (hi : L[i]? = some (.row a ta xs)) (hj : L[j]? = some (.row b tb ys)) (hij : i ≠ j) (hys : ys ≠ [])
    (h : OW P r n ops os (upd e d (.bool false)) D w Q) :
    OW P r n ops (⟨some d, .call ⟨.value (.func f), #[x, y], ats⟩, ty, pos, af, none⟩ :: os) e D w Q := by
  have hT := (TyI.spec ht).1
  rw [htd] at hT
  have hga : w.heap[a]? = some (.cells ⟨xs⟩ ta (0, 0)) := H.cap hi
  have hgb : w.heap[b]? = some (.cells ⟨ys⟩ tb (0, 0)) := H.cap hj
  have hne : a ≠ b := by
    intro hab
    subst hab
    have hap := St0.apart H
    have hi' : (L ++ DD.map .dfr)[i]? = some (.row a ta xs) := idx_app hi
    have hj' : (L ++ DD.map .dfr)[j]? = some (.row a tb ys) := idx_app hj
    obtain ⟨h1, h2⟩ := List.getElem?_eq_some_iff.1 hi'
    obtain ⟨h3, h4⟩ := List.getElem?_eq_some_iff.1 hj'
    rcases Nat.lt_or_gt_of_ne hij with hlt | hlt
    · have := List.pairwise_iff_getElem.1 hap i j h1 h3 hlt
      rw [h2, h4] at this
      exact this a rfl rfl
    · have := List.pairwise_iff_getElem.1 hap j i h3 h1 hlt
      rw [h2, h4] at this
      exact this a rfl rfl
  have hr := Lib.run_overlaps_apart (P := P) w tS tR E hT et.size (fun w => TyI.run_sizeOf het) ⟨a, oa, none⟩ ⟨b, ob, none⟩ la ca lb cb hne ta tb xs.length ys.length
    (by simp [World.shape?, hga]) (by simp [World.shape?, hgb]) (by intro h0; exact hys (List.eq_nil_of_length_eq_zero h0)) (by simp [World.frozen?, hga]) (by simp [World.frozen?, hga])
  have hc := run_callFunc_extern (P := P) hf hname hb hn he #[.slice (some ⟨a, oa, none⟩) la ca, .slice (some ⟨b, ob, none⟩) lb cb] w
  rw [hr] at hc
  refine ow_val (w' := w) rfl (fun _ h => by cases h) rfl hd ?_ h
  have hfe : ev e (.func f) = .func (.func f) #[] #[] := rfl
  simp [execOp, resolve, invoke, Deferred.ofValue, hx, hy, hfe, hc, Result.andThen]
end Go.Sx

