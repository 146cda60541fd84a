/- Rules: maps of Go from whole numbers to bools. -/
import Derived.Test.YtpbknokakooekaaK12
import Derived.MapKept
import Derived.WideMake
namespace Go.Sx
set_option linter.all false
open Go Go.Shelf Go.Proofs Go.MapKept
variable {P : Program} {r : Option Nat} {n : Nat} {D DD : List Nat} {e : Env} {w w' w0 : World} {M : Nat → Prop} {L : List Cap}
variable {ops : Array Oper} {os : List Oper} {Q : Post} {d : Nat} {ty : TypeId} {pos : String} {af : Array Edge}
abbrev IB := List (Int × Bool)
def mrow (x : Int × Bool) : Value × Value := (.int .i64 x.1, .bool x.2)
def mapOk (h : Hp) (b : Nat) (ms : IB) : Prop := ∃ es clock, h b = some (.map es clock) ∧ es.toList.map (fun e => (e.key, e.val)) = ms.map mrow
def Cap.mib (b : Nat) (ms : IB) : Cap := ⟨(· = b), fun h => mapOk h b ms, fun _ _ h1 ⟨es, c, h2, h3⟩ => ⟨es, c, (h1 b rfl).trans h2, h3⟩⟩
def lookM : IB → Int → Option Bool
  | [], _ => none
  | a :: l, k => if a.1 = k then some a.2 else lookM l k
def putM : IB → Int → Bool → IB
  | [], k, v => [(k, v)]
  | a :: l, k, v => if a.1 = k then (k, v) :: l else a :: putM l k v
theorem lookM_put : ∀ (ms : IB) (k k' : Int) (v : Bool), lookM (putM ms k v) k' = if k = k' then some v else lookM ms k'
  | [], k, k', v => by simp [putM, lookM]
  | a :: l, k, k', v => by
    by_cases h : a.1 = k
    · rw [putM, if_pos h, lookM, lookM]
      by_cases h2 : k = k'
      · simp [h2]
      · have h3 : a.1 ≠ k' := fun e => h2 (h.symm.trans e)
        simp [h2, h3]
    · rw [putM, if_neg h, lookM, lookM_put l k k' v, lookM]
      by_cases h2 : a.1 = k'
      · have h3 : k ≠ k' := fun e => h (h2.trans e.symm)
        simp [h2, h3]
      · simp [h2]
theorem findNow_mib (k : Int) : ∀ (es : List MapEntry) (ms : IB) (i : Nat), es.map (fun e => (e.key, e.val)) = ms.map mrow →
    (lookM ms k = none ∧ Instr.findNow (.int .i64) (.int .i64 k) es i = some none) ∨ ∃ j x e, es[j]? = some e ∧ ms[j]? = some x ∧ x.1 = k ∧ lookM ms k = some x.2 ∧ Instr.findNow (.int .i64) (.int .i64 k) es i = some (some (i + j, .bool x.2)) ∧ e.key = .int .i64 k ∧ putM ms k = fun v => ms.set j (k, v)
  | [], [], i, _ => .inl ⟨rfl, rfl⟩
  | [], _ :: _, _, h => by simp at h
  | _ :: _, [], _, h => by simp at h
  | e :: es, a :: ms, i, h => by
    simp only [List.map_cons, List.cons.injEq] at h
    obtain ⟨h1, h2⟩ := h
    have hk : e.key = .int .i64 a.1 := congrArg Prod.fst h1
    have hv : e.val = .bool a.2 := congrArg Prod.snd h1
    by_cases ha : a.1 = k
    · refine .inr ⟨0, a, e, rfl, rfl, ha, by rw [lookM, if_pos ha], ?_, by rw [hk, ha], ?_⟩
      · rw [Instr.findNow, hk, hv]; simp [Instr.sameNow, ha]
      · funext v; rw [putM, if_pos ha]; rfl
    · have hs : Instr.findNow (.int .i64) (.int .i64 k) (e :: es) i = Instr.findNow (.int .i64) (.int .i64 k) es (i + 1) := by
        have hne : (k == a.1) = false := by simpa using fun h => ha h.symm
        rw [Instr.findNow, hk]; simp [Instr.sameNow, hne]
      rcases findNow_mib k es ms (i + 1) h2 with ⟨h3, h4⟩ | ⟨j, x, e', h3, h4, h5, h6, h7, h8, h9⟩
      · exact .inl ⟨by rw [lookM, if_neg ha, h3], by rw [hs, h4]⟩
      · refine .inr ⟨j + 1, x, e', by simpa using h3, by simpa using h4, h5, by rw [lookM, if_neg ha, h6], ?_, h8, ?_⟩
        · rw [hs, h7]; congr 3; omega
        · funext v; rw [putM, if_neg ha, h9]; rfl
theorem putM_none : ∀ {ms : IB} {k : Int} (v : Bool), lookM ms k = none → putM ms k v = ms ++ [(k, v)]
  | [], _, _, _ => rfl
  | a :: l, k, v, h => by
    rw [lookM] at h
    by_cases ha : a.1 = k
    · rw [if_pos ha] at h; cases h
    · rw [if_neg ha] at h; rw [putM, if_neg ha, putM_none v h]; rfl
theorem ow_makeMap {T : TypeId} (H : St M w0 w L DD) (hd : Nat.blt d n = true) (h : ∀ b w', St M w0 w' (.mib b [] :: L) DD → OW P r n ops os (upd e d (.map (some b))) D w' Q) :
    OW P r n ops (⟨some d, .makeMap T none, ty, pos, af, none⟩ :: os) e D w Q := by
  have hN := NewB.mk w (.map #[] 0)
  have H1 := H.new hN
  have H2 : St M w0 (w.alloc (.map #[] 0)) (.mib w.heap.size [] :: L) DD := H1.weak (i := 0) rfl (fun hb => ⟨#[], 0, hb, rfl⟩) (fun _ h => h)
  refine ow_val (v := .map (some w.heap.size)) (w' := w.alloc (.map #[] 0)) rfl (fun _ h => by cases h) rfl hd ?_ (h _ _ H2)
  simp [execOp, run_makeMap_plain, Result.andThen]
theorem ow_lookup {T K E : TypeId} {t kt et : TyI} {x y : Operand} {i b : Nat} {k : Int} {ms : IB} (H : St M w0 w L DD) (hi : L[i]? = some (.mib b ms)) (hd : Nat.blt d n = true) (ht : TyI.of P T = some t) (htd : t.desc = .map K E) (hk : TyI.of P K = some kt) (hkd : kt.desc = .int .i64)
    (hE : TyI.of P E = some et) (hEz : et.zero = .bool false) (hx : ev e x = .map (some b)) (hy : ev e y = .int .i64 k) (h : OW P r n ops os (upd e d (.bool ((lookM ms k).getD false))) D w Q) :
    OW P r n ops (⟨some d, .lookup T x y false, ty, pos, af, none⟩ :: os) e D w Q := by
  obtain ⟨es, clock, hb, hms⟩ : mapOk (hp w) b ms := H.cap hi
  have hb' : w.heap[b]? = some (.map es clock) := hb
  have hT := (TyI.spec ht).1
  rw [htd] at hT
  have hK := (TyI.spec hk).1
  rw [hkd] at hK
  have hik : IsKey (.int .i64) (.int .i64 k) := by simp [IsKey]
  have hr : (Instr.lookup T (.map (some b)) (.int .i64 k) false).run P w = .ok (.bool ((lookM ms k).getD false)) w := by
    rcases findNow_mib k es.toList ms 0 hms with ⟨h1, h2⟩ | ⟨j, x, e', _, _, _, h6, h7, _, _⟩
    · have h3 := run_findKey (w := w) hK h2
      rw [h1]
      simp [Instr.lookup, run_underlying hT, MapKept.run_getObj_map hb', run_checkKey hK hik, h3, TyI.run_zero hE, hEz, Result.andThen]
    · have h3 := run_findKey (w := w) hK h7
      rw [h6]
      simp [Instr.lookup, run_underlying hT, MapKept.run_getObj_map hb', run_checkKey hK hik, h3, Result.andThen]
  refine ow_val (w' := w) rfl (fun _ h => by cases h) rfl hd ?_ h
  simp [execOp, hx, hy, hr, Result.andThen]
theorem ow_mapUpdate {T K E : TypeId} {t kt : TyI} {x y z : Operand} {i b : Nat} {k : Int} {v : Bool} {ms : IB} (H : St M w0 w L DD) (hi : L[i]? = some (.mib b ms)) (ht : TyI.of P T = some t) (htd : t.desc = .map K E) (hk : TyI.of P K = some kt) (hkd : kt.desc = .int .i64)
    (hx : ev e x = .map (some b)) (hy : ev e y = .int .i64 k) (hz : ev e z = .bool v) (h : ∀ w', St M w0 w' (L.set i (.mib b (putM ms k v))) DD → OW P r n ops os e D w' Q) :
    OW P r n ops (⟨none, .mapUpdate T x y z, ty, pos, af, none⟩ :: os) e D w Q := by
  obtain ⟨es, clock, hb, hms⟩ : mapOk (hp w) b ms := H.cap hi
  have hb' : w.heap[b]? = some (.map es clock) := hb
  have hT := (TyI.spec ht).1
  rw [htd] at hT
  have hK := (TyI.spec hk).1
  rw [hkd] at hK
  have hik : IsKey (.int .i64) (.int .i64 k) := by simp [IsKey]
  have hlt := (Array.getElem?_eq_some_iff.1 hb').1
  have key : ∃ es' clock', (Instr.mapUpdate T (.map (some b)) (.int .i64 k) (.bool v)).run P w = .ok () { w with heap := w.heap.setIfInBounds b (.map es' clock') } ∧ es'.toList.map (fun e => (e.key, e.val)) = (putM ms k v).map mrow := by
    rcases findNow_mib k es.toList ms 0 hms with ⟨h1, h2⟩ | ⟨j, x, e', he, hxj, _, h6, h7, hek, hput⟩
    · have h3 := run_findKey (w := w) hK h2
      refine ⟨es.push { key := .int .i64 k, val := .bool v, born := clock }, clock + 1, ?_, ?_⟩
      · simp [Instr.mapUpdate, run_underlying hT, MapKept.run_getObj_map hb', run_checkKey hK hik, h3, MapKept.run_setObj_map _ hb', Result.andThen]
      · rw [putM_none v h1]; simp [hms, mrow]
    · have h3 := run_findKey (w := w) hK h7
      have he2 : es[j]? = some e' := by simpa using he
      have hkeep : (Instr.keyThatStays (.int .i64 k) (.int .i64 k)).run P w = .ok (.int .i64 k) w := run_keyThatStays hik
      refine ⟨es.modify j fun e => { e with key := .int .i64 k, val := .bool v }, clock, ?_, ?_⟩
      · simp [Instr.mapUpdate, run_underlying hT, MapKept.run_getObj_map hb', run_checkKey hK hik, h3, he2, hek, hkeep, MapKept.run_setObj_map _ hb', Result.andThen]
      · rw [hput]
        apply List.ext_getElem?
        intro m
        have hm := congrArg (fun l => l[m]?) hms
        simp only [List.getElem?_map, Array.getElem?_toList] at hm
        simp only [List.getElem?_map, Array.getElem?_toList, Array.getElem?_modify]
        by_cases hjm : j = m
        · subst hjm
          rw [List.getElem?_set_self (List.getElem?_eq_some_iff.1 hxj).1, he2]
          simp [mrow]
        · rw [List.getElem?_set_ne hjm, if_neg hjm]
          exact hm
  obtain ⟨es', clock', hr, hms'⟩ := key
  refine ow_skip (w' := { w with heap := w.heap.setIfInBounds b (.map es' clock') }) rfl (fun _ h => by cases h) rfl ?_ (h _ (H.modify hi rfl rfl rfl ?_ ?_ ?_ ?_))
  · simp [execOp, hx, hy, hz, hr, Result.andThen]
  · simp
  · intro c hc hne
    have : c ≠ b := fun e => hne e
    exact Array.getElem?_setIfInBounds_ne (fun h => this h.symm)
  · exact ⟨es', clock', by simp [hp, hlt], hms'⟩
  · intro c hc
    have hcb : c = b := hc
    subst hcb
    exact ⟨.inr rfl, by simpa using hlt⟩
end Go.Sx

