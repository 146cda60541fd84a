/- The statement's function 'sandtablelaw07.RankedDrops' returns true at every input, and changes nothing that was there. -/
import Derived.Test.YtgliblmpiilloaaRA2
import Derived.Test.YtgliblmpiilloaaK13
import Derived.Test.YtgliblmpiilloaaRO
namespace Go.Proofs.Ytgliblmpiilloaa
set_option linter.all false
open Go Go.Sx Go.Proofs
set_option maxRecDepth 100000
set_option maxHeartbeats 2000000
theorem getE_put {es : IE} (ha : Asc ltI es) (k k' v : Int) : getE (putE ltI es k v) k' = if k' = k then some v else getE es k' := by
  apply Option.ext
  intro u
  rw [getE_some ltI_ok (asc_put ltI_ok ha k v), mem_put ltI_ok]
  by_cases h : k' = k
  · subst h
    rw [if_pos rfl]
    simp [eq_comm]
  · rw [if_neg h, getE_some ltI_ok ha]
    constructor
    · rintro (h1 | h1)
      · exact absurd (Prod.mk.inj h1).1 h
      · exact h1.1
    · exact fun h1 => .inr ⟨h1, h⟩
theorem getE_ext {a b : IE} (ha : Asc ltI a) (hb : Asc ltI b) (h : ∀ k, getE a k = getE b k) : a = b :=
  asc_ext ltI_ok ha hb fun x => by rw [show x = (x.1, x.2) from rfl, ← getE_some ltI_ok ha, ← getE_some ltI_ok hb, h]
theorem getE_there {es : IE} (ha : Asc ltI es) (k : Int) : thereE es k = (getE es k).isSome := by
  cases hg : getE es k with
  | some v => exact there_iff.2 ⟨v, (getE_some ltI_ok ha).1 hg⟩
  | none =>
    cases ht : thereE es k with
    | false => rfl
    | true => obtain ⟨v, hv⟩ := there_iff.1 ht; rw [(getE_some ltI_ok ha).2 hv] at hg; cases hg
/-- all keys put, each with its place. -/
def putsE (es : IE) (keys : List Int) : Nat → IE
  | 0 => es
  | i + 1 => putE ltI (putsE es keys i) (keys.getD i 0) (i : Int)
theorem putsE_asc {es : IE} (ha : Asc ltI es) (keys : List Int) : ∀ i, Asc ltI (putsE es keys i)
  | 0 => ha
  | i + 1 => asc_put ltI_ok (putsE_asc ha keys i) _ _
theorem putsE_len {es : IE} (ha : Asc ltI es) (keys : List Int) : ∀ i, (putsE es keys i).length ≤ es.length + i
  | 0 => Nat.le_refl _
  | i + 1 => by have := putsE_len ha keys i; have := put_len_le (k := keys.getD i 0) (v := (i : Int)) ltI_ok (putsE_asc ha keys i); rw [putsE]; omega
theorem putsE_get (keys : List Int) (k : Int) : ∀ i, (∃ u, ∀ es, Asc ltI es → getE (putsE es keys i) k = some u) ∨ ((∀ es, Asc ltI es → getE (putsE es keys i) k = getE es k))
  | 0 => .inr fun es _ => rfl
  | i + 1 => by
    by_cases h : k = keys.getD i 0
    · exact .inl ⟨(i : Int), fun es ha => by rw [putsE, getE_put (putsE_asc ha keys i), if_pos h]⟩
    · rcases putsE_get keys k i with ⟨u, hu⟩ | hu
      · exact .inl ⟨u, fun es ha => by rw [putsE, getE_put (putsE_asc ha keys i), if_neg h, hu es ha]⟩
      · exact .inr fun es ha => by rw [putsE, getE_put (putsE_asc ha keys i), if_neg h, hu es ha]
theorem putsE_again {es : IE} (ha : Asc ltI es) (keys : List Int) (n : Nat) (h : ∀ k, thereE es k = thereE (putsE [] keys n) k) : putsE es keys n = putsE [] keys n := by
  have h0 : Asc ltI ([] : IE) := List.Pairwise.nil
  refine getE_ext (putsE_asc ha keys n) (putsE_asc h0 keys n) fun k => ?_
  rcases putsE_get keys k n with ⟨u, hu⟩ | hu
  · rw [hu es ha, hu [] h0]
  · rw [hu es ha, hu [] h0]
    have h1 := h k
    rw [getE_there ha, getE_there (putsE_asc h0 keys n), hu [] h0] at h1
    cases hg : getE es k with
    | none => rfl
    | some v => rw [hg] at h1; cases h1
def frM (ms : IB) (k : Int) : Bool := (lookM ms k).getD false
theorem frM_put (ms : IB) (k k' : Int) (v : Bool) : frM (putM ms k v) k' = if k = k' then v else frM ms k' := by
  unfold frM; rw [lookM_put]; split <;> rfl
/-- what was put over es0, and what of it is fresh. -/
structure Over (es0 es : IE) (ms : IB) (rest : List Int) : Prop where
  asc : Asc ltI es
  all : ∀ k, thereE es k = (thereE es0 k || frM ms k)
  old : ∀ k, thereE es0 k = true → frM ms k = false
  new : ∀ k, frM ms k = true → k ∈ rest
theorem Over.put {es0 es : IE} {ms : IB} {more : List Int} {i : Nat} {k : Int} (h : Over es0 es ms (more.take i)) (hk : more[i]? = some k) :
    Over es0 (putE ltI es k (-1)) (if thereE es k then ms else putM ms k true) (more.take (i + 1)) := by
  have hmem : ∀ x, x ∈ more.take i → x ∈ more.take (i + 1) := fun x hx => by rw [take_snoc hk]; exact List.mem_append_left _ hx
  cases ht : thereE es k with
  | true =>
    rw [if_pos rfl]
    refine ⟨asc_put ltI_ok h.asc _ _, fun k' => ?_, h.old, fun k' hk' => hmem _ (h.new k' hk')⟩
    rw [put_there ltI_ok, ← h.all]
    by_cases e : k' = k
    · subst e; rw [ht, Bool.or_true]
    · rw [decide_eq_false e, Bool.false_or]
  | false =>
    rw [if_neg (by decide)]
    have hk0 := h.all k
    rw [ht] at hk0
    have hk1 := Bool.or_eq_false_iff.1 hk0.symm
    refine ⟨asc_put ltI_ok h.asc _ _, fun k' => ?_, fun k' hk' => ?_, fun k' hk' => ?_⟩
    · rw [put_there ltI_ok, h.all, frM_put]
      by_cases e : k = k'
      · subst e; rw [decide_eq_true rfl, if_pos rfl, Bool.true_or, Bool.or_true]
      · rw [decide_eq_false (fun x => e x.symm), if_neg e, Bool.false_or]
    · rw [frM_put]
      by_cases e : k = k'
      · subst e; rw [hk1.1] at hk'; cases hk'
      · rw [if_neg e]; exact h.old k' hk'
    · rw [frM_put] at hk'
      by_cases e : k = k'
      · subst e; rw [take_snoc hk]; exact List.mem_append_right _ (List.mem_singleton.2 rfl)
      · rw [if_neg e] at hk'; exact hmem _ (h.new k' hk')
theorem drop_there {es : IE} {k k' : Int} : thereE (dropE es k) k' = (!decide (k' = k) && thereE es k') := by
  rw [Bool.eq_iff_iff, Bool.and_eq_true, there_iff, there_iff, Bool.not_eq_true', decide_eq_false_iff_not]
  constructor
  · rintro ⟨v, hv⟩; exact ⟨(mem_drop.1 hv).2, v, (mem_drop.1 hv).1⟩
  · rintro ⟨h, v, hv⟩; exact ⟨v, mem_drop.2 ⟨hv, h⟩⟩
theorem Over.drop {es0 es : IE} {ms : IB} {more : List Int} {i : Nat} {k : Int} (h : Over es0 es ms (more.drop i)) (hk : more[i]? = some k) :
    (frM ms k = true → Over es0 (dropE es k) (putM ms k false) (more.drop (i + 1))) ∧ (frM ms k = false → Over es0 es ms (more.drop (i + 1))) := by
  have hd := drop_snoc hk
  constructor
  · intro hf
    have h0 : thereE es0 k = false := by
      cases hz : thereE es0 k with
      | false => rfl
      | true => rw [h.old k hz] at hf; cases hf
    refine ⟨asc_drop h.asc _, fun k' => ?_, fun k' hk' => ?_, fun k' hk' => ?_⟩
    · rw [drop_there, h.all, frM_put]
      by_cases e : k = k'
      · subst e; rw [decide_eq_true rfl, if_pos rfl, h0]; rfl
      · rw [decide_eq_false (fun x => e x.symm), if_neg e]; rfl
    · rw [frM_put]
      split
      · rfl
      · exact h.old k' hk'
    · rw [frM_put] at hk'
      by_cases e : k = k'
      · rw [if_pos e] at hk'; cases hk'
      · rw [if_neg e] at hk'
        have := h.new k' hk'
        rw [hd] at this
        rcases List.mem_cons.1 this with h1 | h1
        · exact absurd h1.symm e
        · exact h1
  · intro hf
    refine ⟨h.asc, h.all, h.old, fun k' hk' => ?_⟩
    have := h.new k' hk'
    rw [hd] at this
    rcases List.mem_cons.1 this with h1 | h1
    · subst h1; rw [hf] at hk'; cases hk'
    · exact h1
abbrev drC (b2 : Nat) (p2 : Option Addr) (c2 : Nat) (pl : Option Addr) (cl : Nat) (es0 : IE) : List Cap := mpA b2 p2 c2 es0 ++ [.app pl es0.length cl 42 2 (es0.flatMap entA)]
theorem law07Drops (q q2 : Option Addr) (cap cap2 : Nat) (keys more : List Int) (hm : keys.length ≤ 9223372036854775807) (hm2 : more.length ≤ 9223372036854775807) (w0 : World) (hq : SlH (hp w0) q (ints .i64 keys)) (hq2 : SlH (hp w0) q2 (ints .i64 more)) :
    CallsV Try.prog 6 #[.slice q keys.length cap, .slice q2 more.length cap2] w0 fun v w => v = .bool true ∧ St Pu w0 w [] [] := by
  refine callsV_of Try.func6 rfl rfl ?_
  have h0 : Asc ltI ([] : IE) := List.Pairwise.nil
  refine wc_seq ?_
  refine wc_region ?_
  (apply ow_assign; (· rfl); (· ((conv => lhs; whnf) <;> rfl)))
  refine ow_nil ?_
  refine wc_seq ?_
  refine wc_seq ?_
  refine wc_region ?_
  refine ow_call rfl rfl (ent (by kernel_rfl)) (CallsV.mono (alive07 w0) ?_) rfl
  rintro v w ⟨rfl, H⟩
  refine ow_not rfl rfl ?_
  refine ow_nil ?_
  refine wc_cond_false rfl ?_
  refine wc_skip ?_
  refine wc_seq ?_
  refine wc_seq ?_
  refine wc_region ?_
  (apply ow_move; (· rfl); (· ((conv => lhs; whnf) <;> rfl)))
  refine ow_len rfl rfl (tyAt rfl) rfl ?_
  refine ow_gtr rfl rfl rfl ?_
  (apply ow_move; (· rfl); (· ((conv => lhs; whnf) <;> rfl)))
  refine ow_guard_dec rfl rfl rfl (fun h => ?_) (fun h => ?_) <;> try dsimp only at h
  · refine ow_guard_no rfl rfl rfl rfl rfl rfl rfl ?_
    refine ow_guard_no rfl rfl rfl rfl rfl rfl rfl ?_
    refine ow_guard_no rfl rfl rfl rfl rfl rfl rfl ?_
    (apply ow_pick_t; (· rfl); (· rfl); (· ((conv => lhs; whnf) <;> rfl)))
    refine ow_nil ?_
    refine wc_cond_true rfl ?_
    refine wc_seq ?_
    refine wc_region ?_
    (apply ow_assign; (· rfl); (· ((conv => lhs; whnf) <;> rfl)))
    refine ow_nil ?_
    refine wc_ret ?_
    obtain ⟨w, hT, H⟩ := H.takes Try.prog
    refine ⟨.inr rfl, w, hT, _, .tmp .nil, ?_⟩
    exact ⟨rfl, H⟩
  have h60 : keys.length ≤ 60 := by omega
  clear h
  refine ow_guard_yes rfl rfl rfl rfl ?_
  (apply ow_move; (· rfl); (· ((conv => lhs; whnf) <;> rfl)))
  refine ow_guard_yes rfl rfl rfl rfl ?_
  refine ow_len rfl rfl (tyAt rfl) rfl ?_
  refine ow_guard_yes rfl rfl rfl rfl ?_
  refine ow_gtr rfl rfl rfl ?_
  (apply ow_pick_f; (· rfl); (· rfl); (· ((conv => lhs; whnf) <;> rfl)))
  refine ow_nil ?_
  refine wc_cond_dec rfl (fun h => ?_) (fun h => ?_) <;> try dsimp only at h
  · refine wc_seq ?_
    refine wc_region ?_
    (apply ow_assign; (· rfl); (· ((conv => lhs; whnf) <;> rfl)))
    refine ow_nil ?_
    refine wc_ret ?_
    obtain ⟨w, hT, H⟩ := H.takes Try.prog
    refine ⟨.inr rfl, w, hT, _, .tmp .nil, ?_⟩
    exact ⟨rfl, H⟩
  have h60' : more.length ≤ 60 := by omega
  clear h
  refine wc_skip ?_
  refine wc_seq ?_
  refine wc_region ?_
  refine ow_alloc (l := [.slice none 0 0]) H rfl (tyAt rfl) rfl (fun b w H => ?_)
  replace H : St Pu w0 w (mpA b none 0 [] ++ []) [] := (H.nilApp 122 2).perm (List.Perm.swap _ _ _)
  refine ow_nil ?_
  refine wc_seq ?_
  refine wc_seq ?_
  refine wc_region ?_
  (apply ow_move; (· rfl); (· ((conv => lhs; whnf) <;> rfl)))
  refine ow_len rfl rfl (tyAt rfl) rfl ?_
  (apply ow_move; (· rfl); (· ((conv => lhs; whnf) <;> rfl)))
  refine ow_nil ?_
  refine wc_blockJ [6, 7, 29, 30, 31, 32, 33, 34, 35, 36, 37] (fun (_ : Unit) e => e) (fun _ D w => D = [] ∧ ∃ p c, St Pu w0 w (mpA b p c (putsE [] keys keys.length) ++ []) []) ?_ ?_
  · refine wc_loopS [6, 7, 29, 30, 31, 32, 33, 34, 35, 36, 37] (fun (s : Nat) e => upd e 29 (.int .i64 s)) (fun s D w => D = [] ∧ s ≤ keys.length ∧ ∃ p c, St Pu w0 w (mpA b p c (putsE [] keys s) ++ []) []) (fun s _ => keys.length - s) 0 (by first | exact rfl | exact upd_self' rfl rfl | exact upd_self' rfl (upd_self' rfl rfl) | exact upd_self' rfl (upd_self' rfl (upd_self' rfl rfl)) | exact upd_self' rfl (upd_self' rfl (upd_self' rfl (upd_self' rfl rfl))))
      ⟨rfl, Nat.zero_le _, none, 0, H⟩ ?_
    clear H w
    rintro i j D w ⟨rfl, hi, p, c, H⟩
    refine wc_seq ?_
    refine wc_region ?_
    refine ow_lss rfl rfl rfl ?_
    refine ow_nil ?_
    refine wc_seq ?_
    refine wc_cond_dec rfl (fun h => ?_) (fun h => ?_) <;> try dsimp only at h
    · have hlt : i < keys.length := by omega
      have hel := putsE_len h0 keys i
      rw [List.length_nil] at hel
      have hq' := H.oldSl hq
      obtain ⟨bq, oq, rfl⟩ := hq'.some_of (by simp; omega)
      refine wc_skip ?_
      refine wc_seq ?_
      refine wc_block ?_
      refine wc_seq ?_
      refine wc_region ?_
      (apply ow_move; (· rfl); (· ((conv => lhs; whnf) <;> rfl)))
      refine ow_idx1 (j := i) rfl (tyAt rfl) rfl (tyAt rfl) rfl rfl rfl hlt rfl ?_
      refine ow_load rfl (tyAt rfl) rfl rfl (hq'.int hlt) ?_
      (apply ow_assign; (· rfl); (· ((conv => lhs; whnf) <;> rfl)))
      (apply ow_assign; (· rfl); (· ((conv => lhs; whnf) <;> rfl)))
      refine ow_nil ?_
      refine wc_region ?_
      (apply ow_move; (· rfl); (· ((conv => lhs; whnf) <;> rfl)))
      (apply ow_move; (· rfl); (· ((conv => lhs; whnf) <;> rfl)))
      refine ow_call rfl rfl (ent (by kernel_rfl)) (CallsV.mono (putA_spec b p c (putsE [] keys i) (keys.getD i 0) (i : Int) (by omega) (putsE_asc h0 keys i) _ H.begin) ?_) rfl
      rintro u w ⟨rfl, p2, c2, H'⟩
      replace H := H.callC (fun _ h => h) H'
      clear H'
      refine ow_nil ?_
      refine wc_region ?_
      refine ow_add rfl rfl rfl (by simp only [InK]; omega) ?_
      (apply ow_move; (· rfl); (· ((conv => lhs; whnf) <;> rfl)))
      refine ow_nil ?_
      exact ⟨i + 1, by first | exact rfl | exact upd_self' rfl rfl | exact upd_self' rfl (upd_self' rfl rfl) | exact upd_self' rfl (upd_self' rfl (upd_self' rfl rfl)) | exact upd_self' rfl (upd_self' rfl (upd_self' rfl (upd_self' rfl rfl))), by repeat (first | with_reducible exact Off.mix | with_reducible exact Off.refl | ((with_reducible refine Off.upd ?_ ?_); (· rfl))), ⟨rfl, hlt, p2, c2, H⟩, by omega⟩
    · have hi' : i = keys.length := by omega
      subst hi'
      refine wc_exit ?_
      exact ⟨(), rfl, by repeat (first | with_reducible exact Off.mix | with_reducible exact Off.refl | ((with_reducible refine Off.upd ?_ ?_); (· rfl))), ⟨rfl, p, c, H⟩⟩
  clear H w
  rintro _ j D w ⟨rfl, p, c, H⟩
  have hel := putsE_len h0 keys keys.length
  rw [List.length_nil] at hel
  have ha := putsE_asc h0 keys keys.length
  have hfin := fun (es : IE) (hes : Asc ltI es) => putsE_again hes keys keys.length
  generalize hes0 : putsE [] keys keys.length = es0 at H hel ha hfin
  refine wc_seq ?_
  refine wc_region ?_
  refine ow_call rfl rfl (ent (by kernel_rfl)) (CallsV.mono (lawAll_spec b p c es0 (by omega) _ (mpA_at H (i := 0) (j := 1) rfl rfl)) ?_) rfl
  rintro u w ⟨pl, cl, rfl, H'⟩
  replace H : St Pu w0 w (mpA b p c es0 ++ [.app pl es0.length cl 42 2 (es0.flatMap entA)]) [] := (H.call H').pick [1, 2, 0] rfl (by decide)
  clear H'
  (apply ow_assign; (· rfl); (· ((conv => lhs; whnf) <;> rfl)))
  refine ow_nil ?_
  refine wc_seq ?_
  refine wc_region ?_
  refine ow_call rfl rfl (ent (by kernel_rfl)) (CallsV.mono (cloneA_spec b p c es0 (by omega) _ (mpA_at H (i := 0) (j := 1) rfl rfl)) ?_) rfl
  rintro u w ⟨b2, p2, c2, rfl, H'⟩
  replace H : St Pu w0 w (mpA b p c es0 ++ drC b2 p2 c2 pl cl es0) [] := (H.call H').pick [2, 3, 0, 1, 4] rfl (by decide)
  clear H'
  (apply ow_assign; (· rfl); (· ((conv => lhs; whnf) <;> rfl)))
  refine ow_nil ?_
  refine wc_seq ?_
  refine wc_region ?_
  refine ow_makeMap H rfl (fun bm w H => ?_)
  replace H : St Pu w0 w (mpA b p c es0 ++ (.mib bm [] :: drC b2 p2 c2 pl cl es0)) [] := H.pick [1, 2, 0, 3, 4, 5] rfl (by decide)
  have hO0 : Over es0 es0 [] (more.take 0) := ⟨ha, fun k => by rw [show frM [] k = false from rfl, Bool.or_false], fun _ _ => rfl, fun k hk => by cases hk⟩
  (apply ow_assign; (· rfl); (· ((conv => lhs; whnf) <;> rfl)))
  refine ow_nil ?_
  refine wc_seq ?_
  refine wc_seq ?_
  refine wc_region ?_
  (apply ow_move; (· rfl); (· ((conv => lhs; whnf) <;> rfl)))
  refine ow_len rfl rfl (tyAt rfl) rfl ?_
  (apply ow_move; (· rfl); (· ((conv => lhs; whnf) <;> rfl)))
  refine ow_nil ?_
  refine wc_blockJ [12, 43, 44, 45, 46, 47, 48, 49, 50, 51] (fun (_ : Unit) e => e) (fun _ D w => D = [] ∧ ∃ es ms p c, Over es0 es ms more ∧ es.length ≤ 120 ∧ St Pu w0 w (mpA b p c es ++ (.mib bm ms :: drC b2 p2 c2 pl cl es0)) []) ?_ ?_
  · refine wc_loopS [12, 43, 44, 45, 46, 47, 48, 49, 50, 51] (fun (s : Nat) e => upd e 43 (.int .i64 s)) (fun s D w => D = [] ∧ s ≤ more.length ∧ ∃ es ms p c, Over es0 es ms (more.take s) ∧ es.length ≤ 60 + s ∧ St Pu w0 w (mpA b p c es ++ (.mib bm ms :: drC b2 p2 c2 pl cl es0)) []) (fun s _ => more.length - s) 0 (by first | exact rfl | exact upd_self' rfl rfl | exact upd_self' rfl (upd_self' rfl rfl) | exact upd_self' rfl (upd_self' rfl (upd_self' rfl rfl)) | exact upd_self' rfl (upd_self' rfl (upd_self' rfl (upd_self' rfl rfl))))
      ⟨rfl, Nat.zero_le _, es0, [], p, c, hO0, by omega, H⟩ ?_
    clear H w
    rintro i j D w ⟨rfl, hi, es, ms, p, c, hO, hl, H⟩
    refine wc_seq ?_
    refine wc_region ?_
    refine ow_lss rfl rfl rfl ?_
    refine ow_nil ?_
    refine wc_seq ?_
    refine wc_cond_dec rfl (fun h => ?_) (fun h => ?_) <;> try dsimp only at h
    · have hlt : i < more.length := by omega
      have hx : more[i]? = some (more.getD i 0) := by rw [List.getD_eq_getElem?_getD, List.getElem?_eq_getElem hlt]; rfl
      have hO' := hO.put hx
      have hl' := put_len_le (k := more.getD i 0) (v := -1) ltI_ok hO.asc
      have hq' := H.oldSl hq2
      obtain ⟨bq, oq, rfl⟩ := hq'.some_of (by simp; omega)
      refine wc_skip ?_
      refine wc_seq ?_
      refine wc_block ?_
      refine wc_seq ?_
      refine wc_region ?_
      refine ow_idx1 (j := i) rfl (tyAt rfl) rfl (tyAt rfl) rfl rfl rfl hlt rfl ?_
      refine ow_load rfl (tyAt rfl) rfl rfl (hq'.int hlt) ?_
      (apply ow_assign; (· rfl); (· ((conv => lhs; whnf) <;> rfl)))
      refine ow_nil ?_
      refine wc_seq ?_
      refine wc_region ?_
      (apply ow_move; (· rfl); (· ((conv => lhs; whnf) <;> rfl)))
      refine ow_call rfl rfl (ent (by kernel_rfl)) (CallsV.mono (putA_spec b p c es (more.getD i 0) (-1) (by omega) hO.asc _ H.begin) ?_) rfl
      rintro u w ⟨rfl, p3, c3, H'⟩
      replace H := H.callC (fun _ h => h) H'
      clear H'
      cases hth : thereE es (more.getD i 0) with
      | true =>
        rw [hth, if_pos rfl] at hO'
        refine ow_nil ?_
        refine wc_cond_false rfl ?_
        refine wc_skip ?_
        refine wc_region ?_
        refine ow_add rfl rfl rfl (by simp only [InK]; omega) ?_
        (apply ow_move; (· rfl); (· ((conv => lhs; whnf) <;> rfl)))
        refine ow_nil ?_
        exact ⟨i + 1, by first | exact rfl | exact upd_self' rfl rfl | exact upd_self' rfl (upd_self' rfl rfl) | exact upd_self' rfl (upd_self' rfl (upd_self' rfl rfl)) | exact upd_self' rfl (upd_self' rfl (upd_self' rfl (upd_self' rfl rfl))), by repeat (first | with_reducible exact Off.mix | with_reducible exact Off.refl | ((with_reducible refine Off.upd ?_ ?_); (· rfl))), ⟨rfl, hlt, _, _, p3, c3, hO', by omega, H⟩, by omega⟩
      | false =>
        rw [hth, if_neg (by decide)] at hO'
        refine ow_nil ?_
        refine wc_cond_true rfl ?_
        refine wc_region ?_
        (apply ow_move; (· rfl); (· ((conv => lhs; whnf) <;> rfl)))
        (apply ow_move; (· rfl); (· ((conv => lhs; whnf) <;> rfl)))
        refine ow_mapUpdate (i := 2) H rfl (tyAt rfl) rfl (tyAt rfl) rfl rfl rfl rfl (fun w H => ?_)
        refine ow_nil ?_
        refine wc_region ?_
        refine ow_add rfl rfl rfl (by simp only [InK]; omega) ?_
        (apply ow_move; (· rfl); (· ((conv => lhs; whnf) <;> rfl)))
        refine ow_nil ?_
        exact ⟨i + 1, by first | exact rfl | exact upd_self' rfl rfl | exact upd_self' rfl (upd_self' rfl rfl) | exact upd_self' rfl (upd_self' rfl (upd_self' rfl rfl)) | exact upd_self' rfl (upd_self' rfl (upd_self' rfl (upd_self' rfl rfl))), by repeat (first | with_reducible exact Off.mix | with_reducible exact Off.refl | ((with_reducible refine Off.upd ?_ ?_); (· rfl))), ⟨rfl, hlt, _, _, p3, c3, hO', by omega, H⟩, by omega⟩
    · have hi' : i = more.length := by omega
      subst hi'
      rw [List.take_length] at hO
      refine wc_exit ?_
      exact ⟨(), rfl, by repeat (first | with_reducible exact Off.mix | with_reducible exact Off.refl | ((with_reducible refine Off.upd ?_ ?_); (· rfl))), ⟨rfl, es, ms, p, c, hO, by omega, H⟩⟩
  clear H hO0
  rintro _ j D w ⟨rfl, es, ms, p, c, hO, hl, H⟩
  refine wc_seq ?_
  refine wc_seq ?_
  refine wc_region ?_
  (apply ow_move; (· rfl); (· ((conv => lhs; whnf) <;> rfl)))
  refine ow_len rfl rfl (tyAt rfl) rfl ?_
  (apply ow_move; (· rfl); (· ((conv => lhs; whnf) <;> rfl)))
  refine ow_nil ?_
  refine wc_blockJ [4, 14, 54, 55, 56, 57, 58, 59, 60, 61, 62, 63, 64, 65, 66, 67, 68, 69, 70] (fun (_ : Unit) e => e) (fun _ D w => D = [] ∧ ∃ es ms p c, Over es0 es ms [] ∧ es.length ≤ 120 ∧ St Pu w0 w (mpA b p c es ++ (.mib bm ms :: drC b2 p2 c2 pl cl es0)) []) ?_ ?_
  · refine wc_loopS [4, 14, 54, 55, 56, 57, 58, 59, 60, 61, 62, 63, 64, 65, 66, 67, 68, 69, 70] (fun (s : Nat) e => upd e 54 (.int .i64 s)) (fun s D w => D = [] ∧ s ≤ more.length ∧ ∃ es ms p c, Over es0 es ms (more.drop s) ∧ es.length ≤ 120 ∧ St Pu w0 w (mpA b p c es ++ (.mib bm ms :: drC b2 p2 c2 pl cl es0)) []) (fun s _ => more.length - s) 0 (by first | exact rfl | exact upd_self' rfl rfl | exact upd_self' rfl (upd_self' rfl rfl) | exact upd_self' rfl (upd_self' rfl (upd_self' rfl rfl)) | exact upd_self' rfl (upd_self' rfl (upd_self' rfl (upd_self' rfl rfl))))
      ⟨rfl, Nat.zero_le _, es, ms, p, c, hO, hl, H⟩ ?_
    clear H hO
    rintro i j D w ⟨rfl, hi, es, ms, p, c, hO, hl, H⟩
    refine wc_seq ?_
    refine wc_region ?_
    refine ow_lss rfl rfl rfl ?_
    refine ow_nil ?_
    refine wc_seq ?_
    refine wc_cond_dec rfl (fun h => ?_) (fun h => ?_) <;> try dsimp only at h
    · have hlt : i < more.length := by omega
      have hx : more[i]? = some (more.getD i 0) := by rw [List.getD_eq_getElem?_getD, List.getElem?_eq_getElem hlt]; rfl
      obtain ⟨hO1, hO2⟩ := hO.drop hx
      have hq' := H.oldSl hq2
      obtain ⟨bq, oq, rfl⟩ := hq'.some_of (by simp; omega)
      refine wc_skip ?_
      refine wc_seq ?_
      refine wc_block ?_
      refine wc_seq ?_
      refine wc_region ?_
      refine ow_idx1 (j := i) rfl (tyAt rfl) rfl (tyAt rfl) rfl rfl rfl hlt rfl ?_
      refine ow_load rfl (tyAt rfl) rfl rfl (hq'.int hlt) ?_
      (apply ow_assign; (· rfl); (· ((conv => lhs; whnf) <;> rfl)))
      refine ow_nil ?_
      refine wc_seq ?_
      refine wc_region ?_
      (apply ow_move; (· rfl); (· ((conv => lhs; whnf) <;> rfl)))
      (apply ow_move; (· rfl); (· ((conv => lhs; whnf) <;> rfl)))
      refine ow_lookup (i := 2) H rfl rfl (tyAt rfl) rfl (tyAt rfl) rfl (tyAt rfl) rfl rfl rfl ?_
      refine ow_nil ?_
      cases hf : frM ms (more.getD i 0) with
      | true =>
        have hO' := hO1 hf
        rw [show (lookM ms (more.getD i 0)).getD false = true from hf]
        have hth : thereE es (more.getD i 0) = true := by rw [hO.all, hf, Bool.or_true]
        have hth2 : thereE (dropE es (more.getD i 0)) (more.getD i 0) = false := there_dropE
        have hdl := drop_len_le (es := es) (k := more.getD i 0)
        refine wc_cond_true rfl ?_
        refine wc_seq ?_
        refine wc_seq ?_
        refine wc_region ?_
        (apply ow_move; (· rfl); (· ((conv => lhs; whnf) <;> rfl)))
        refine ow_call rfl rfl (ent (by kernel_rfl)) (CallsV.mono (dropA_spec b p c es (more.getD i 0) (by omega) hO.asc _ H.begin) ?_) rfl
        rintro u w ⟨rfl, p3, c3, H'⟩
        replace H := H.callC (fun _ h => h) H'
        clear H'
        rw [hth]
        refine ow_not rfl rfl ?_
        (apply ow_move; (· rfl); (· ((conv => lhs; whnf) <;> rfl)))
        refine ow_guard_yes rfl rfl rfl rfl ?_
        (apply ow_move; (· rfl); (· ((conv => lhs; whnf) <;> rfl)))
        refine ow_guard_yes rfl rfl rfl rfl ?_
        refine ow_call rfl rfl (ent (by kernel_rfl)) (CallsV.mono (dropA_spec b p3 c3 (dropE es (more.getD i 0)) (more.getD i 0) (by omega) (asc_drop hO.asc _) _ H.begin) ?_) rfl
        rintro u w ⟨rfl, p4, c4, H'⟩
        replace H := H.callC (fun _ h => h) H'
        clear H'
        rw [hth2]
        rw [drop_none hth2] at H
        (apply ow_pick_f; (· rfl); (· rfl); (· ((conv => lhs; whnf) <;> rfl)))
        refine ow_nil ?_
        refine wc_cond_false rfl ?_
        refine wc_skip ?_
        refine wc_region ?_
        (apply ow_move; (· rfl); (· ((conv => lhs; whnf) <;> rfl)))
        (apply ow_move; (· rfl); (· ((conv => lhs; whnf) <;> rfl)))
        refine ow_mapUpdate (i := 2) H rfl (tyAt rfl) rfl (tyAt rfl) rfl rfl rfl rfl (fun w H => ?_)
        refine ow_nil ?_
        refine wc_region ?_
        refine ow_add rfl rfl rfl (by simp only [InK]; omega) ?_
        (apply ow_move; (· rfl); (· ((conv => lhs; whnf) <;> rfl)))
        refine ow_nil ?_
        exact ⟨i + 1, by first | exact rfl | exact upd_self' rfl rfl | exact upd_self' rfl (upd_self' rfl rfl) | exact upd_self' rfl (upd_self' rfl (upd_self' rfl rfl)) | exact upd_self' rfl (upd_self' rfl (upd_self' rfl (upd_self' rfl rfl))), by repeat (first | with_reducible exact Off.mix | with_reducible exact Off.refl | ((with_reducible refine Off.upd ?_ ?_); (· rfl))), ⟨rfl, hlt, _, _, p4, c4, hO', by omega, H⟩, by omega⟩
      | false =>
        rw [show (lookM ms (more.getD i 0)).getD false = false from hf]
        refine wc_cond_false rfl ?_
        refine wc_skip ?_
        refine wc_region ?_
        refine ow_add rfl rfl rfl (by simp only [InK]; omega) ?_
        (apply ow_move; (· rfl); (· ((conv => lhs; whnf) <;> rfl)))
        refine ow_nil ?_
        exact ⟨i + 1, by first | exact rfl | exact upd_self' rfl rfl | exact upd_self' rfl (upd_self' rfl rfl) | exact upd_self' rfl (upd_self' rfl (upd_self' rfl rfl)) | exact upd_self' rfl (upd_self' rfl (upd_self' rfl (upd_self' rfl rfl))), by repeat (first | with_reducible exact Off.mix | with_reducible exact Off.refl | ((with_reducible refine Off.upd ?_ ?_); (· rfl))), ⟨rfl, hlt, _, _, p, c, hO2 hf, by omega, H⟩, by omega⟩
    · have hi' : i = more.length := by omega
      subst hi'
      rw [List.drop_length] at hO
      refine wc_exit ?_
      exact ⟨(), rfl, by repeat (first | with_reducible exact Off.mix | with_reducible exact Off.refl | ((with_reducible refine Off.upd ?_ ?_); (· rfl))), ⟨rfl, es, ms, p, c, hO, hl, H⟩⟩
  clear H hO
  rintro _ j D w ⟨rfl, es, ms, p, c, hO, hl, H⟩
  have hall : ∀ k, thereE es k = thereE es0 k := fun k => by
    rw [hO.all]
    cases hf : frM ms k with
    | true => cases hO.new k hf
    | false => rw [Bool.or_false]
  have hes := hfin es hO.asc hall
  have hpl := putsE_len hO.asc keys
  have hpa := putsE_asc hO.asc keys
  refine wc_seq ?_
  refine wc_seq ?_
  refine wc_region ?_
  (apply ow_move; (· rfl); (· ((conv => lhs; whnf) <;> rfl)))
  refine ow_len rfl rfl (tyAt rfl) rfl ?_
  (apply ow_move; (· rfl); (· ((conv => lhs; whnf) <;> rfl)))
  refine ow_nil ?_
  refine wc_blockJ [15, 16, 73, 74, 75, 76, 77, 78, 79, 80, 81] (fun (_ : Unit) e => e) (fun _ D w => D = [] ∧ ∃ p c, St Pu w0 w (mpA b p c es0 ++ (.mib bm ms :: drC b2 p2 c2 pl cl es0)) []) ?_ ?_
  · refine wc_loopS [15, 16, 73, 74, 75, 76, 77, 78, 79, 80, 81] (fun (s : Nat) e => upd e 73 (.int .i64 s)) (fun s D w => D = [] ∧ s ≤ keys.length ∧ ∃ p c, St Pu w0 w (mpA b p c (putsE es keys s) ++ (.mib bm ms :: drC b2 p2 c2 pl cl es0)) []) (fun s _ => keys.length - s) 0 (by first | exact rfl | exact upd_self' rfl rfl | exact upd_self' rfl (upd_self' rfl rfl) | exact upd_self' rfl (upd_self' rfl (upd_self' rfl rfl)) | exact upd_self' rfl (upd_self' rfl (upd_self' rfl (upd_self' rfl rfl))))
      ⟨rfl, Nat.zero_le _, p, c, H⟩ ?_
    clear H
    rintro i j D w ⟨rfl, hi, p, c, H⟩
    refine wc_seq ?_
    refine wc_region ?_
    refine ow_lss rfl rfl rfl ?_
    refine ow_nil ?_
    refine wc_seq ?_
    refine wc_cond_dec rfl (fun h => ?_) (fun h => ?_) <;> try dsimp only at h
    · have hlt : i < keys.length := by omega
      have hel := hpl i
      have hq' := H.oldSl hq
      obtain ⟨bq, oq, rfl⟩ := hq'.some_of (by simp; omega)
      refine wc_skip ?_
      refine wc_seq ?_
      refine wc_block ?_
      refine wc_seq ?_
      refine wc_region ?_
      (apply ow_move; (· rfl); (· ((conv => lhs; whnf) <;> rfl)))
      refine ow_idx1 (j := i) rfl (tyAt rfl) rfl (tyAt rfl) rfl rfl rfl hlt rfl ?_
      refine ow_load rfl (tyAt rfl) rfl rfl (hq'.int hlt) ?_
      (apply ow_assign; (· rfl); (· ((conv => lhs; whnf) <;> rfl)))
      (apply ow_assign; (· rfl); (· ((conv => lhs; whnf) <;> rfl)))
      refine ow_nil ?_
      refine wc_region ?_
      (apply ow_move; (· rfl); (· ((conv => lhs; whnf) <;> rfl)))
      (apply ow_move; (· rfl); (· ((conv => lhs; whnf) <;> rfl)))
      refine ow_call rfl rfl (ent (by kernel_rfl)) (CallsV.mono (putA_spec b p c (putsE es keys i) (keys.getD i 0) (i : Int) (by omega) (hpa i) _ H.begin) ?_) rfl
      rintro u w ⟨rfl, p2, c2, H'⟩
      replace H := H.callC (fun _ h => h) H'
      clear H'
      refine ow_nil ?_
      refine wc_region ?_
      refine ow_add rfl rfl rfl (by simp only [InK]; omega) ?_
      (apply ow_move; (· rfl); (· ((conv => lhs; whnf) <;> rfl)))
      refine ow_nil ?_
      exact ⟨i + 1, by first | exact rfl | exact upd_self' rfl rfl | exact upd_self' rfl (upd_self' rfl rfl) | exact upd_self' rfl (upd_self' rfl (upd_self' rfl rfl)) | exact upd_self' rfl (upd_self' rfl (upd_self' rfl (upd_self' rfl rfl))), by repeat (first | with_reducible exact Off.mix | with_reducible exact Off.refl | ((with_reducible refine Off.upd ?_ ?_); (· rfl))), ⟨rfl, hlt, p2, c2, H⟩, by omega⟩
    · have hi' : i = keys.length := by omega
      subst hi'
      rw [hes] at H
      refine wc_exit ?_
      exact ⟨(), rfl, by repeat (first | with_reducible exact Off.mix | with_reducible exact Off.refl | ((with_reducible refine Off.upd ?_ ?_); (· rfl))), ⟨rfl, p, c, H⟩⟩
  clear H
  rintro _ j D w ⟨rfl, p, c, H⟩
  refine wc_seq ?_
  refine wc_region ?_
  refine ow_call rfl rfl (ent (by kernel_rfl)) (CallsV.mono (lawAll_spec b p c es0 (by omega) _ (mpA_at H (i := 0) (j := 1) rfl rfl)) ?_) rfl
  rintro u w ⟨p5, c5, rfl, H'⟩
  replace H := H.call H'
  clear H'
  (apply ow_move; (· rfl); (· ((conv => lhs; whnf) <;> rfl)))
  refine ow_call rfl rfl (ent (by kernel_rfl)) (CallsV.mono (refSame_spec p5 pl _ _ c5 cl es0 es0 rfl rfl (by omega) (by omega) _ (appOk.sl (H.cap (i := 0) rfl)) (appOk.sl (H.cap (i := 6) rfl))) ?_) rfl
  rintro u w ⟨rfl, H'⟩
  replace H := H.call H'
  rw [List.nil_append] at H
  clear H'
  rw [decide_eq_true (rfl : es0 = es0)]
  (apply ow_move; (· rfl); (· ((conv => lhs; whnf) <;> rfl)))
  refine ow_guard_yes rfl rfl rfl rfl ?_
  (apply ow_move; (· rfl); (· ((conv => lhs; whnf) <;> rfl)))
  refine ow_guard_yes rfl rfl rfl rfl ?_
  refine ow_call rfl rfl (ent (by kernel_rfl)) (CallsV.mono (lawAll_spec b2 p2 c2 es0 (by omega) _ (mpA_at H (i := 4) (j := 5) rfl rfl)) ?_) rfl
  rintro u w ⟨p6, c6, rfl, H'⟩
  replace H := H.call H'
  clear H'
  refine ow_guard_yes rfl rfl rfl rfl ?_
  (apply ow_move; (· rfl); (· ((conv => lhs; whnf) <;> rfl)))
  refine ow_guard_yes rfl rfl rfl rfl ?_
  refine ow_call rfl rfl (ent (by kernel_rfl)) (CallsV.mono (refSame_spec p6 pl _ _ c6 cl es0 es0 rfl rfl (by omega) (by omega) _ (appOk.sl (H.cap (i := 0) rfl)) (appOk.sl (H.cap (i := 7) rfl))) ?_) rfl
  rintro u w ⟨rfl, H'⟩
  replace H := H.call H'
  clear H'
  rw [decide_eq_true (rfl : es0 = es0)]
  (apply ow_pick_t; (· rfl); (· rfl); (· ((conv => lhs; whnf) <;> rfl)))
  (apply ow_assign; (· rfl); (· ((conv => lhs; whnf) <;> rfl)))
  refine ow_nil ?_
  refine wc_ret ?_
  obtain ⟨w, hT, H⟩ := H.takes Try.prog
  refine ⟨.inr rfl, w, hT, _, .tmp .nil, ?_⟩
  exact ⟨rfl, H.none⟩
end Go.Proofs.Ytgliblmpiilloaa
