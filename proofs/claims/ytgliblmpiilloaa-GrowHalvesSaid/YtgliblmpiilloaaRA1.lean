/- Keys in order: the document's functions Get, Rank, Drop, Put, Same; all and from of the statements. -/
import Derived.Test.YtgliblmpiilloaaMA2
import Derived.Test.YtgliblmpiilloaaMA3
namespace Go.Proofs.Ytgliblmpiilloaa
set_option linter.all false
open Go Go.Sx Go.Proofs
set_option maxRecDepth 100000
set_option maxHeartbeats 2000000
abbrev IE := List (Int × Int)
theorem take_snoc {α : Type} {xs : List α} {i : Nat} {x : α} (h : xs[i]? = some x) : xs.take (i + 1) = xs.take i ++ [x] := by
  rw [List.take_add_one, h]; rfl
theorem drop_snoc {α : Type} {l : List α} {i : Nat} {x : α} (h : l[i]? = some x) : l.drop i = x :: l.drop (i + 1) := by
  obtain ⟨hlt, rfl⟩ := List.getElem?_eq_some_iff.1 h
  exact List.drop_eq_getElem_cons hlt
theorem getE_cons (x : Int × Int) (es : IE) (k : Int) : getE (x :: es) k = if x.1 = k then some x.2 else getE es k := by
  unfold getE
  rw [List.find?_cons]
  by_cases h : x.1 = k
  · rw [decide_eq_true h, if_pos h]; rfl
  · rw [decide_eq_false h, if_neg h]
theorem thereE_cons (x : Int × Int) (es : IE) (k : Int) : thereE (x :: es) k = (decide (x.1 = k) || thereE es k) := by unfold thereE; rw [List.any_cons]
theorem refGet_spec (q : Option Addr) (len cap : Nat) (es : IE) (k : Int) (hl : len = es.length) (hm : es.length ≤ 1000000) (w0 : World) (hq0 : SlH (hp w0) q (es.flatMap entA)) :
    CallsV Try.prog 20 #[.slice q len cap, .int .i64 k] w0 fun v w => v = .tuple #[.int .i64 ((getE es k).getD 0), .bool (thereE es k)] ∧ w = w0 := by
  subst hl
  refine callsV_of Try.func20 rfl rfl ?_
  refine wc_seq ?_
  refine wc_region ?_
  (apply ow_assign; (· rfl); (· ((conv => lhs; whnf) <;> rfl)))
  (apply ow_assign; (· rfl); (· ((conv => lhs; whnf) <;> rfl)))
  refine ow_nil ?_
  refine wc_seq ?_
  refine wc_seq ?_
  refine wc_region ?_
  (apply ow_assign; (· rfl); (· ((conv => lhs; whnf) <;> rfl)))
  refine ow_nil ?_
  refine wc_block ?_
  refine wc_loopS [4, 5, 6, 7, 8, 9, 10, 11, 12, 13, 14, 15, 16, 17, 18, 19, 20, 21, 22, 23, 24] (fun (s : Nat) e => upd e 6 (.int .i64 s))
    (fun s D w => D = [] ∧ s ≤ es.length ∧ getE es k = getE (es.drop s) k ∧ thereE es k = thereE (es.drop s) k ∧ w = w0) (fun s _ => es.length - s) 0 (by first | exact rfl | exact upd_self' rfl rfl | exact upd_self' rfl (upd_self' rfl rfl) | exact upd_self' rfl (upd_self' rfl (upd_self' rfl rfl)) | exact upd_self' rfl (upd_self' rfl (upd_self' rfl (upd_self' rfl rfl)))) ⟨rfl, Nat.zero_le _, rfl, rfl, rfl⟩ ?_
  rintro i j D w ⟨rfl, hi, hg, ht, rfl⟩
  refine wc_seq ?_
  refine wc_seq ?_
  refine wc_region ?_
  (apply ow_move; (· rfl); (· ((conv => lhs; whnf) <;> rfl)))
  (apply ow_move; (· rfl); (· ((conv => lhs; whnf) <;> rfl)))
  refine ow_len rfl rfl (tyAt rfl) rfl ?_
  refine ow_lss rfl rfl rfl ?_
  refine ow_nil ?_
  refine wc_cond_dec rfl (fun h => ?_) (fun h => ?_) <;> try dsimp only at h
  · have hlt : i < es.length := by omega
    obtain ⟨x, hx⟩ : ∃ x, es[i]? = some x := ⟨_, List.getElem?_eq_getElem hlt⟩
    obtain ⟨b, o, rfl⟩ := hq0.some_of (by rw [flat_len entA_len]; omega)
    rw [drop_snoc hx] at hg ht
    rw [getE_cons] at hg
    rw [thereE_cons] at ht
    refine wc_skip ?_
    refine wc_seq ?_
    refine wc_block ?_
    refine wc_seq ?_
    refine wc_region ?_
    (apply ow_move; (· rfl); (· ((conv => lhs; whnf) <;> rfl)))
    (apply ow_move; (· rfl); (· ((conv => lhs; whnf) <;> rfl)))
    refine ow_idxK (j := i) (sz := 2) rfl (tyAt rfl) rfl (tyAt rfl) rfl rfl rfl hlt rfl ?_
    refine ow_fieldAddr rfl (tyAt rfl) rfl rfl rfl (tyAt rfl) rfl rfl ?_
    refine ow_load rfl (tyAt rfl) rfl rfl (entA_at hq0 hx).1 ?_
    (apply ow_move; (· rfl); (· ((conv => lhs; whnf) <;> rfl)))
    refine ow_eql rfl rfl rfl ?_
    refine ow_nil ?_
    refine wc_cond_dec rfl (fun h => ?_) (fun h => ?_) <;> try dsimp only at h
    · refine wc_seq ?_
      refine wc_region ?_
      (apply ow_move; (· rfl); (· ((conv => lhs; whnf) <;> rfl)))
      (apply ow_move; (· rfl); (· ((conv => lhs; whnf) <;> rfl)))
      refine ow_idxK (j := i) (sz := 2) rfl (tyAt rfl) rfl (tyAt rfl) rfl rfl rfl hlt rfl ?_
      refine ow_fieldAddr rfl (tyAt rfl) rfl rfl rfl (tyAt rfl) rfl rfl ?_
      refine ow_load rfl (tyAt rfl) rfl rfl (entA_at hq0 hx).2 ?_
      (apply ow_assign; (· rfl); (· ((conv => lhs; whnf) <;> rfl)))
      (apply ow_assign; (· rfl); (· ((conv => lhs; whnf) <;> rfl)))
      refine ow_nil ?_
      refine wc_ret ⟨.inr rfl, _, rfl, _, .tmp (.tmp .nil), ?_⟩
      rw [hg, ht, if_pos h, decide_eq_true h]
      exact ⟨rfl, rfl⟩
    · rw [if_neg h] at hg
      rw [decide_eq_false h, Bool.false_or] at ht
      refine wc_skip ?_
      refine wc_region ?_
      (apply ow_move; (· rfl); (· ((conv => lhs; whnf) <;> rfl)))
      refine ow_add rfl rfl rfl (by simp only [InK]; omega) ?_
      (apply ow_assign; (· rfl); (· ((conv => lhs; whnf) <;> rfl)))
      refine ow_nil ?_
      exact ⟨i + 1, by first | exact rfl | exact upd_self' rfl rfl | exact upd_self' rfl (upd_self' rfl rfl) | exact upd_self' rfl (upd_self' rfl (upd_self' rfl rfl)) | exact upd_self' rfl (upd_self' rfl (upd_self' rfl (upd_self' rfl rfl))), by repeat (first | with_reducible exact Off.mix | with_reducible exact Off.refl | ((with_reducible refine Off.upd ?_ ?_); (· rfl))), ⟨rfl, hlt, hg, ht, rfl⟩, by omega⟩
  · have hi' : i = es.length := by omega
    subst hi'
    rw [List.drop_length] at hg ht
    rw [hg, ht]
    refine wc_exit ?_
    refine wc_seq ?_
    refine wc_region ?_
    (apply ow_assign; (· rfl); (· ((conv => lhs; whnf) <;> rfl)))
    (apply ow_assign; (· rfl); (· ((conv => lhs; whnf) <;> rfl)))
    refine ow_nil ?_
    refine wc_ret ⟨.inr rfl, _, rfl, _, .tmp (.tmp .nil), ?_⟩
    exact ⟨rfl, rfl⟩
theorem rkE_snoc (es : IE) (x : Int × Int) (k : Int) : rkE ltI (es ++ [x]) k = rkE ltI es k + if x.1 < k then 1 else 0 := by
  unfold rkE ltI
  rw [List.countP_append, List.countP_singleton]
  by_cases h : x.1 < k <;> simp [h]
theorem rkE_le {κ ν : Type} (lt : κ → κ → Bool) (es : List (κ × ν)) (k : κ) : rkE lt es k ≤ es.length := List.countP_le_length
theorem refRank_spec (q : Option Addr) (len cap : Nat) (es : IE) (k : Int) (hl : len = es.length) (hm : es.length ≤ 1000000) (w0 : World) (hq0 : SlH (hp w0) q (es.flatMap entA)) :
    CallsV Try.prog 21 #[.slice q len cap, .int .i64 k] w0 fun v w => v = .int .i64 (rkE ltI es k : Nat) ∧ w = w0 := by
  subst hl
  refine callsV_of Try.func21 rfl rfl ?_
  refine wc_seq ?_
  refine wc_region ?_
  (apply ow_assign; (· rfl); (· ((conv => lhs; whnf) <;> rfl)))
  refine ow_nil ?_
  refine wc_seq ?_
  refine wc_region ?_
  (apply ow_assign; (· rfl); (· ((conv => lhs; whnf) <;> rfl)))
  refine ow_nil ?_
  refine wc_seq ?_
  refine wc_seq ?_
  refine wc_region ?_
  (apply ow_assign; (· rfl); (· ((conv => lhs; whnf) <;> rfl)))
  refine ow_nil ?_
  refine wc_block ?_
  refine wc_loopS [5, 6, 7, 8, 9, 10, 11, 12, 13, 14, 15, 16, 17, 18, 19, 20, 21] (fun (s : Nat) e => upd (upd e 5 (.int .i64 (rkE ltI (es.take s) k : Nat))) 6 (.int .i64 s))
    (fun s D w => D = [] ∧ s ≤ es.length ∧ w = w0) (fun s _ => es.length - s) 0 (by first | exact rfl | exact upd_self' rfl rfl | exact upd_self' rfl (upd_self' rfl rfl) | exact upd_self' rfl (upd_self' rfl (upd_self' rfl rfl)) | exact upd_self' rfl (upd_self' rfl (upd_self' rfl (upd_self' rfl rfl)))) ⟨rfl, Nat.zero_le _, rfl⟩ ?_
  rintro i j D w ⟨rfl, hi, rfl⟩
  have hrl := rkE_le ltI (es.take i) k
  rw [List.length_take, Nat.min_eq_left hi] at hrl
  refine wc_seq ?_
  refine wc_seq ?_
  refine wc_region ?_
  (apply ow_move; (· rfl); (· ((conv => lhs; whnf) <;> rfl)))
  (apply ow_move; (· rfl); (· ((conv => lhs; whnf) <;> rfl)))
  refine ow_len rfl rfl (tyAt rfl) rfl ?_
  refine ow_lss rfl rfl rfl ?_
  refine ow_nil ?_
  refine wc_cond_dec rfl (fun h => ?_) (fun h => ?_) <;> try dsimp only at h
  · have hlt : i < es.length := by omega
    obtain ⟨x, hx⟩ : ∃ x, es[i]? = some x := ⟨_, List.getElem?_eq_getElem hlt⟩
    obtain ⟨b, o, rfl⟩ := hq0.some_of (by rw [flat_len entA_len]; omega)
    have hsn := rkE_snoc (es.take i) x k
    rw [← take_snoc hx] at hsn
    refine wc_skip ?_
    refine wc_seq ?_
    refine wc_block ?_
    refine wc_seq ?_
    refine wc_region ?_
    (apply ow_move; (· rfl); (· ((conv => lhs; whnf) <;> rfl)))
    (apply ow_move; (· rfl); (· ((conv => lhs; whnf) <;> rfl)))
    refine ow_idxK (j := i) (sz := 2) rfl (tyAt rfl) rfl (tyAt rfl) rfl rfl rfl hlt rfl ?_
    refine ow_fieldAddr rfl (tyAt rfl) rfl rfl rfl (tyAt rfl) rfl rfl ?_
    refine ow_load rfl (tyAt rfl) rfl rfl (entA_at hq0 hx).1 ?_
    (apply ow_move; (· rfl); (· ((conv => lhs; whnf) <;> rfl)))
    refine ow_lss rfl rfl rfl ?_
    refine ow_nil ?_
    refine wc_cond_dec rfl (fun h => ?_) (fun h => ?_) <;> try dsimp only at h
    · rw [if_pos h] at hsn
      refine wc_region ?_
      (apply ow_move; (· rfl); (· ((conv => lhs; whnf) <;> rfl)))
      refine ow_add rfl rfl rfl (by simp only [InK]; omega) ?_
      (apply ow_assign; (· rfl); (· ((conv => lhs; whnf) <;> rfl)))
      refine ow_nil ?_
      refine wc_region ?_
      (apply ow_move; (· rfl); (· ((conv => lhs; whnf) <;> rfl)))
      refine ow_add rfl rfl rfl (by simp only [InK]; omega) ?_
      (apply ow_assign; (· rfl); (· ((conv => lhs; whnf) <;> rfl)))
      refine ow_nil ?_
      refine ⟨i + 1, ?_, by repeat (first | with_reducible exact Off.mix | with_reducible exact Off.refl | ((with_reducible refine Off.upd ?_ ?_); (· rfl))), ⟨rfl, hlt, rfl⟩, by omega⟩
      rw [hsn]
      first | exact rfl | exact upd_self' rfl rfl | exact upd_self' rfl (upd_self' rfl rfl) | exact upd_self' rfl (upd_self' rfl (upd_self' rfl rfl)) | exact upd_self' rfl (upd_self' rfl (upd_self' rfl (upd_self' rfl rfl)))
    · rw [if_neg h, Nat.add_zero] at hsn
      refine wc_skip ?_
      refine wc_region ?_
      (apply ow_move; (· rfl); (· ((conv => lhs; whnf) <;> rfl)))
      refine ow_add rfl rfl rfl (by simp only [InK]; omega) ?_
      (apply ow_assign; (· rfl); (· ((conv => lhs; whnf) <;> rfl)))
      refine ow_nil ?_
      refine ⟨i + 1, ?_, by repeat (first | with_reducible exact Off.mix | with_reducible exact Off.refl | ((with_reducible refine Off.upd ?_ ?_); (· rfl))), ⟨rfl, hlt, rfl⟩, by omega⟩
      rw [hsn]
      first | exact rfl | exact upd_self' rfl rfl | exact upd_self' rfl (upd_self' rfl rfl) | exact upd_self' rfl (upd_self' rfl (upd_self' rfl rfl)) | exact upd_self' rfl (upd_self' rfl (upd_self' rfl (upd_self' rfl rfl)))
  · have hi' : i = es.length := by omega
    subst hi'
    rw [List.take_length]
    refine wc_exit ?_
    refine wc_seq ?_
    refine wc_region ?_
    (apply ow_move; (· rfl); (· ((conv => lhs; whnf) <;> rfl)))
    (apply ow_assign; (· rfl); (· ((conv => lhs; whnf) <;> rfl)))
    refine ow_nil ?_
    refine wc_ret ⟨.inr rfl, _, rfl, _, .tmp .nil, ?_⟩
    exact ⟨rfl, rfl⟩
theorem dropE_snoc (es : IE) (x : Int × Int) (k : Int) : dropE (es ++ [x]) k = dropE es k ++ if x.1 = k then [] else [x] := by
  unfold dropE
  rw [List.filter_append]
  by_cases h : x.1 = k <;> simp [h]
theorem refDrop_spec (q : Option Addr) (len cap : Nat) (es : IE) (k : Int) (hl : len = es.length) (hm : es.length ≤ 1000000) (w0 : World) (hq0 : SlH (hp w0) q (es.flatMap entA)) :
    CallsV Try.prog 26 #[.slice q len cap, .int .i64 k] w0 fun v w => ∃ p c, v = .slice p (dropE es k).length c ∧ St Pu w0 w [.app p (dropE es k).length c 42 2 ((dropE es k).flatMap entA)] [] := by
  subst hl
  refine callsV_of Try.func26 rfl rfl ?_
  have H := St.init w0
  refine wc_seq ?_
  refine wc_region ?_
  (apply ow_assign; (· rfl); (· ((conv => lhs; whnf) <;> rfl)))
  refine ow_nil ?_
  refine wc_seq ?_
  refine wc_region ?_
  refine ow_buildSlice0 H rfl (tyAt rfl) rfl (tyAt rfl) (fun b w H => ?_)
  replace H := H.rowApp (i := 0) (len := 0) (sz := 2) rfl rfl (by omega)
  dsimp only [List.set] at H
  (apply ow_assign; (· rfl); (· ((conv => lhs; whnf) <;> rfl)))
  refine ow_nil ?_
  refine wc_seq ?_
  refine wc_seq ?_
  refine wc_region ?_
  (apply ow_assign; (· rfl); (· ((conv => lhs; whnf) <;> rfl)))
  refine ow_nil ?_
  refine wc_block ?_
  refine wc_loopS [5, 6, 8, 9, 10, 11, 12, 13, 14, 15, 16, 17, 18, 19, 20, 21, 22, 23, 24, 25, 26, 27] (fun (s : Nat × Option Addr × Nat) e => upd (upd e 5 (.slice s.2.1 (dropE (es.take s.1) k).length s.2.2)) 6 (.int .i64 s.1))
    (fun s D w => D = [] ∧ s.1 ≤ es.length ∧ St Pu w0 w [.app s.2.1 (dropE (es.take s.1) k).length s.2.2 42 2 ((dropE (es.take s.1) k).flatMap entA)] []) (fun s _ => es.length - s.1) (0, _, 0) (by first | exact rfl | exact upd_self' rfl rfl | exact upd_self' rfl (upd_self' rfl rfl) | exact upd_self' rfl (upd_self' rfl (upd_self' rfl rfl)) | exact upd_self' rfl (upd_self' rfl (upd_self' rfl (upd_self' rfl rfl)))) ⟨rfl, Nat.zero_le _, H⟩ ?_
  clear H w
  rintro ⟨i, p, c⟩ j D w ⟨rfl, hi, H⟩
  dsimp only at hi H ⊢
  refine wc_seq ?_
  refine wc_seq ?_
  refine wc_region ?_
  (apply ow_move; (· rfl); (· ((conv => lhs; whnf) <;> rfl)))
  (apply ow_move; (· rfl); (· ((conv => lhs; whnf) <;> rfl)))
  refine ow_len rfl rfl (tyAt rfl) rfl ?_
  refine ow_lss rfl rfl rfl ?_
  refine ow_nil ?_
  refine wc_cond_dec rfl (fun h => ?_) (fun h => ?_) <;> try dsimp only at h
  · have hlt : i < es.length := by omega
    obtain ⟨x, hx⟩ : ∃ x, es[i]? = some x := ⟨_, List.getElem?_eq_getElem hlt⟩
    have hs' := H.oldSl hq0
    obtain ⟨b, o, rfl⟩ := hs'.some_of (by rw [flat_len entA_len]; omega)
    have hsn := dropE_snoc (es.take i) x k
    rw [← take_snoc hx] at hsn
    have hdl : (dropE (es.take i) k).length ≤ 1000000 := Nat.le_trans drop_len_le (by rw [List.length_take]; omega)
    refine wc_skip ?_
    refine wc_seq ?_
    refine wc_block ?_
    refine wc_seq ?_
    refine wc_region ?_
    (apply ow_move; (· rfl); (· ((conv => lhs; whnf) <;> rfl)))
    (apply ow_move; (· rfl); (· ((conv => lhs; whnf) <;> rfl)))
    refine ow_idxK (j := i) (sz := 2) rfl (tyAt rfl) rfl (tyAt rfl) rfl rfl rfl hlt rfl ?_
    refine ow_fieldAddr rfl (tyAt rfl) rfl rfl rfl (tyAt rfl) rfl rfl ?_
    refine ow_load rfl (tyAt rfl) rfl rfl (entA_at hs' hx).1 ?_
    (apply ow_move; (· rfl); (· ((conv => lhs; whnf) <;> rfl)))
    refine ow_neq rfl rfl rfl ?_
    refine ow_nil ?_
    refine wc_cond_dec rfl (fun h => ?_) (fun h => ?_) <;> try dsimp only at h
    · rw [if_neg h] at hsn
      have hl2 : (dropE (es.take (i + 1)) k).length = (dropE (es.take i) k).length + 1 := by rw [hsn, List.length_append]; rfl
      refine wc_region ?_
      (apply ow_move; (· rfl); (· ((conv => lhs; whnf) <;> rfl)))
      (apply ow_move; (· rfl); (· ((conv => lhs; whnf) <;> rfl)))
      (apply ow_move; (· rfl); (· ((conv => lhs; whnf) <;> rfl)))
      refine ow_idxK (j := i) (sz := 2) rfl (tyAt rfl) rfl (tyAt rfl) rfl rfl rfl hlt rfl ?_
      refine ow_loadA (l := entA x) rfl (tyAt rfl) rfl rfl rfl (hs'.elem entA_len hx) ?_
      refine ow_buildSliceA (zs := [.int .i64 0, .int .i64 0]) (l := entA x) (vs := [(0, .agg ⟨entA x⟩)]) H rfl (tyAt rfl) rfl (tyAt rfl) rfl rfl rfl (by kernel_rfl) rfl (fun b1 w H => ?_)
      refine ow_append (i := 1) H rfl rfl (tyAt rfl) rfl (tyAt rfl) rfl (by decide) rfl rfl (H.rowSl (i := 0) rfl) rfl (entA_one x) (by dsimp only; omega) (by omega) (fun p2 c2 w H => ?_)
      dsimp only [List.set] at H
      replace H := H.drop
      (apply ow_assign; (· rfl); (· ((conv => lhs; whnf) <;> rfl)))
      refine ow_nil ?_
      refine wc_region ?_
      (apply ow_move; (· rfl); (· ((conv => lhs; whnf) <;> rfl)))
      refine ow_add rfl rfl rfl (by simp only [InK]; omega) ?_
      (apply ow_assign; (· rfl); (· ((conv => lhs; whnf) <;> rfl)))
      refine ow_nil ?_
      refine ⟨(i + 1, p2, c2), ?_, by repeat (first | with_reducible exact Off.mix | with_reducible exact Off.refl | ((with_reducible refine Off.upd ?_ ?_); (· rfl))), ⟨rfl, hlt, ?_⟩, by dsimp only; omega⟩
      · dsimp only
        rw [hl2]
        first | exact rfl | exact upd_self' rfl rfl | exact upd_self' rfl (upd_self' rfl rfl) | exact upd_self' rfl (upd_self' rfl (upd_self' rfl rfl)) | exact upd_self' rfl (upd_self' rfl (upd_self' rfl (upd_self' rfl rfl)))
      · dsimp only
        rw [hl2, hsn, List.flatMap_append, List.flatMap_singleton]
        exact H
    · have hxk : x.1 = k := by omega
      rw [if_pos hxk, List.append_nil] at hsn
      rw [← hsn] at H ⊢
      refine wc_skip ?_
      refine wc_region ?_
      (apply ow_move; (· rfl); (· ((conv => lhs; whnf) <;> rfl)))
      refine ow_add rfl rfl rfl (by simp only [InK]; omega) ?_
      (apply ow_assign; (· rfl); (· ((conv => lhs; whnf) <;> rfl)))
      refine ow_nil ?_
      exact ⟨(i + 1, p, c), by first | exact rfl | exact upd_self' rfl rfl | exact upd_self' rfl (upd_self' rfl rfl) | exact upd_self' rfl (upd_self' rfl (upd_self' rfl rfl)) | exact upd_self' rfl (upd_self' rfl (upd_self' rfl (upd_self' rfl rfl))), by repeat (first | with_reducible exact Off.mix | with_reducible exact Off.refl | ((with_reducible refine Off.upd ?_ ?_); (· rfl))), ⟨rfl, hlt, H⟩, by dsimp only; omega⟩
  · have hi' : i = es.length := by omega
    subst hi'
    rw [List.take_length] at H ⊢
    refine wc_exit ?_
    refine wc_seq ?_
    refine wc_region ?_
    (apply ow_move; (· rfl); (· ((conv => lhs; whnf) <;> rfl)))
    (apply ow_assign; (· rfl); (· ((conv => lhs; whnf) <;> rfl)))
    refine ow_nil ?_
    refine wc_ret ?_
    obtain ⟨w, hT, H⟩ := H.takes Try.prog
    refine ⟨.inr rfl, w, hT, _, .tmp .nil, ?_⟩
    exact ⟨p, c, rfl, H⟩
theorem put_dropE {es : IE} {k v : Int} : putE ltI (dropE es k) k v = putE ltI es k v := by
  unfold putE dropE
  rw [List.filter_filter, List.filter_filter]
  congr 2
  · funext e
    unfold ltI
    by_cases h : e.1 < k
    · have : e.1 ≠ k := by omega
      simp [h, this]
    · simp [h]
  · congr 1
    funext e
    unfold ltI
    by_cases h : k < e.1
    · have : e.1 ≠ k := by omega
      simp [h, this]
    · simp [h]
theorem there_dropE {es : IE} {k : Int} : thereE (dropE es k) k = false := by
  cases h : thereE (dropE es k) k with
  | false => rfl
  | true => obtain ⟨v, hv⟩ := there_iff.1 h; exact absurd rfl (mem_drop.1 hv).2
theorem refPut_spec (q : Option Addr) (len cap : Nat) (es : IE) (k v : Int) (hl : len = es.length) (hm : es.length ≤ 999999) (ha : Asc ltI es) (w0 : World) (hq0 : SlH (hp w0) q (es.flatMap entA)) :
    CallsV Try.prog 24 #[.slice q len cap, .int .i64 k, .int .i64 v] w0 fun u w => ∃ p c, u = .slice p (putE ltI es k v).length c ∧ St Pu w0 w [.app p (putE ltI es k v).length c 42 2 ((putE ltI es k v).flatMap entA)] [] := by
  subst hl
  refine callsV_of Try.func24 rfl rfl ?_
  have hdl : (dropE es k).length ≤ 999999 := Nat.le_trans drop_len_le hm
  have hr := asc_rkAt ltI_ok (asc_drop ha k) k
  rw [← put_dropE, ← put_insert ltI_ok hr there_dropE]
  have hle := hr.le
  refine wc_seq ?_
  refine wc_region ?_
  (apply ow_assign; (· rfl); (· ((conv => lhs; whnf) <;> rfl)))
  refine ow_nil ?_
  refine wc_seq ?_
  refine wc_region ?_
  (apply ow_move; (· rfl); (· ((conv => lhs; whnf) <;> rfl)))
  (apply ow_move; (· rfl); (· ((conv => lhs; whnf) <;> rfl)))
  refine ow_call rfl rfl (ent (by kernel_rfl)) (CallsV.mono (refDrop_spec q _ cap es k rfl (by omega) w0 hq0) ?_) rfl
  rintro u w ⟨p, c, rfl, H⟩
  have hpc := appOk.le (H.cap (i := 0) rfl)
  (apply ow_assign; (· rfl); (· ((conv => lhs; whnf) <;> rfl)))
  refine ow_nil ?_
  refine wc_seq ?_
  refine wc_region ?_
  (apply ow_move; (· rfl); (· ((conv => lhs; whnf) <;> rfl)))
  (apply ow_move; (· rfl); (· ((conv => lhs; whnf) <;> rfl)))
  refine ow_call rfl rfl (ent (by kernel_rfl)) (CallsV.mono (refRank_spec p _ c (dropE es k) k rfl (by omega) w (appOk.sl (H.cap (i := 0) rfl))) ?_) rfl
  rintro u w' ⟨rfl, rfl⟩
  generalize dropE es k = ds at *
  generalize rkE ltI ds k = r at *
  (apply ow_assign; (· rfl); (· ((conv => lhs; whnf) <;> rfl)))
  refine ow_nil ?_
  refine wc_seq ?_
  refine wc_region ?_
  refine ow_buildSlice0 H rfl (tyAt rfl) rfl (tyAt rfl) (fun b w H => ?_)
  replace H := H.rowApp (i := 0) (len := 0) (sz := 2) rfl rfl (by omega)
  dsimp only [List.set] at H
  (apply ow_assign; (· rfl); (· ((conv => lhs; whnf) <;> rfl)))
  refine ow_nil ?_
  refine wc_seq ?_
  refine wc_region ?_
  (apply ow_move; (· rfl); (· ((conv => lhs; whnf) <;> rfl)))
  (apply ow_move; (· rfl); (· ((conv => lhs; whnf) <;> rfl)))
  (apply ow_move; (· rfl); (· ((conv => lhs; whnf) <;> rfl)))
  have hs1 : SlH (hp w) (subP p c 0 2) ((ds.take r).flatMap entA) := by
    have h2 := (appOk.sl (H.cap (i := 1) rfl)).subP (cap := c) (sz := 2) (by rw [flat_len entA_len]; omega) 0 ((ds.take r).flatMap entA).length
    rw [Nat.zero_mul, List.drop_zero] at h2
    have e : (ds.flatMap entA).take ((ds.take r).flatMap entA).length = (ds.take r).flatMap entA := by
      conv => lhs; rw [← List.take_append_drop r ds, List.flatMap_append, List.take_append_drop]
      exact List.take_left
    rwa [e] at h2
  refine ow_sliceHi (m := (r : Int)) rfl (tyAt rfl) rfl (tyAt rfl) rfl rfl (by omega) (by omega) ?_
  rw [Int.toNat_natCast r]
  refine ow_append (i := 0) H rfl rfl (tyAt rfl) rfl (tyAt rfl) rfl (by decide) rfl rfl hs1 (by rw [flat_len entA_len, List.length_take, Nat.min_eq_left hle]) (entsA_one _) (by dsimp only; omega) (by omega) (fun p1 c1 w H => ?_)
  dsimp only [List.set] at H
  clear hs1
  rw [List.nil_append, Nat.zero_add] at H
  (apply ow_assign; (· rfl); (· ((conv => lhs; whnf) <;> rfl)))
  refine ow_nil ?_
  refine wc_seq ?_
  refine wc_region ?_
  (apply ow_move; (· rfl); (· ((conv => lhs; whnf) <;> rfl)))
  (apply ow_move; (· rfl); (· ((conv => lhs; whnf) <;> rfl)))
  (apply ow_move; (· rfl); (· ((conv => lhs; whnf) <;> rfl)))
  refine ow_build (l := entA (k, v)) (vs := [(0, .int .i64 k), (1, .int .i64 v)]) rfl (tyAt rfl) rfl (.cons (tyAt rfl) (.cons (tyAt rfl) .nil)) rfl rfl ?_
  refine ow_buildSliceA (zs := [.int .i64 0, .int .i64 0]) (l := entA (k, v)) (vs := [(0, .agg ⟨entA (k, v)⟩)]) H rfl (tyAt rfl) rfl (tyAt rfl) rfl rfl rfl (by kernel_rfl) rfl (fun vb w H => ?_)
  rw [Nat.zero_add]
  refine ow_append (i := 1) H rfl rfl (tyAt rfl) rfl (tyAt rfl) rfl (by decide) rfl rfl (H.rowSl (i := 0) rfl) rfl (entA_one _) (by dsimp only; omega) (by omega) (fun p2 c2 w H => ?_)
  dsimp only [List.set] at H
  replace H := H.drop
  (apply ow_assign; (· rfl); (· ((conv => lhs; whnf) <;> rfl)))
  refine ow_nil ?_
  refine wc_seq ?_
  refine wc_region ?_
  (apply ow_move; (· rfl); (· ((conv => lhs; whnf) <;> rfl)))
  (apply ow_move; (· rfl); (· ((conv => lhs; whnf) <;> rfl)))
  (apply ow_move; (· rfl); (· ((conv => lhs; whnf) <;> rfl)))
  have hs2 : SlH (hp w) (subP p c r 2) ((ds.drop r).flatMap entA) := by
    have h2 := (appOk.sl (H.cap (i := 1) rfl)).subP (cap := c) (sz := 2) (by rw [flat_len entA_len]; omega) r ((ds.drop r).flatMap entA).length
    have e : ((ds.flatMap entA).drop (r * 2)) = (ds.drop r).flatMap entA := by
      conv => lhs; rw [← List.take_append_drop r ds, List.flatMap_append]
      exact List.drop_left' (by rw [flat_len entA_len, List.length_take, Nat.min_eq_left hle])
    rwa [e, List.take_of_length_le (Nat.le_refl _)] at h2
  refine ow_sliceLo (m := (r : Int)) rfl (tyAt rfl) rfl (tyAt rfl) rfl rfl (by omega) (by omega) ?_
  rw [Int.toNat_natCast r]
  refine ow_append (i := 0) H rfl rfl (tyAt rfl) rfl (tyAt rfl) rfl (by decide) rfl rfl hs2 (by rw [flat_len entA_len, List.length_drop]) (entsA_one _) (by dsimp only; omega) (by omega) (fun p3 c3 w H => ?_)
  dsimp only [List.set] at H
  (apply ow_assign; (· rfl); (· ((conv => lhs; whnf) <;> rfl)))
  refine ow_nil ?_
  refine wc_ret ?_
  obtain ⟨w, hT, H⟩ := H.takes Try.prog
  refine ⟨.inr rfl, w, hT, _, .tmp .nil, ?_⟩
  have hl : (ds.take r ++ (k, v) :: ds.drop r).length = r + 1 + (ds.length - r) := by simp; omega
  rw [hl, List.flatMap_append, List.flatMap_cons, ← List.append_assoc]
  exact ⟨p3, c3, rfl, H.only (i := 0) rfl⟩
/-! ### Same -/
theorem refSame_spec (p q : Option Addr) (n m c c' : Nat) (xs ys : IE) (hn : n = xs.length) (hm : m = ys.length) (hb : xs.length ≤ 1000000) (hb' : ys.length ≤ 1000000) (w0 : World) (hx0 : SlH (hp w0) p (xs.flatMap entA)) (hy0 : SlH (hp w0) q (ys.flatMap entA)) :
    CallsV Try.prog 29 #[.slice p n c, .slice q m c'] w0 fun v w => v = .bool (decide (xs = ys)) ∧ St Pu w0 w [] [] := by
  subst hn hm
  refine callsV_of Try.func29 rfl rfl ?_
  have H := St.init w0
  refine wc_seq ?_
  refine wc_region ?_
  (apply ow_assign; (· rfl); (· ((conv => lhs; whnf) <;> rfl)))
  refine ow_nil ?_
  refine wc_seq ?_
  refine wc_seq ?_
  refine wc_region ?_
  (apply ow_move; (· rfl); (· ((conv => lhs; whnf) <;> rfl)))
  refine ow_len rfl rfl (tyAt rfl) rfl ?_
  (apply ow_move; (· rfl); (· ((conv => lhs; whnf) <;> rfl)))
  refine ow_len rfl rfl (tyAt rfl) rfl ?_
  refine ow_neq rfl rfl rfl ?_
  refine ow_nil ?_
  refine wc_cond_dec rfl (fun h => ?_) (fun h => ?_) <;> try dsimp only at h
  · refine wc_seq ?_
    refine wc_region ?_
    (apply ow_assign; (· rfl); (· ((conv => lhs; whnf) <;> rfl)))
    refine ow_nil ?_
    refine wc_ret ?_
    obtain ⟨w, hT, H⟩ := H.takes Try.prog
    refine ⟨.inr rfl, w, hT, _, .tmp .nil, ?_⟩
    exact ⟨congrArg Value.bool (decide_eq_false (fun e => h (by rw [e]))).symm, H⟩
  have hlen : xs.length = ys.length := by omega
  refine wc_skip ?_
  refine wc_seq ?_
  refine wc_seq ?_
  refine wc_region ?_
  (apply ow_assign; (· rfl); (· ((conv => lhs; whnf) <;> rfl)))
  refine ow_nil ?_
  refine wc_block ?_
  refine wc_loopS [4, 5, 11, 12, 13, 14, 15, 16, 17, 18, 19, 20, 21, 22, 23, 24, 25] (fun (s : Nat) e => upd e 5 (.int .i64 s))
    (fun s D w => D = [] ∧ s ≤ xs.length ∧ xs.take s = ys.take s ∧ St Pu w0 w [] []) (fun s _ => xs.length - s) 0 (by first | exact rfl | exact upd_self' rfl rfl | exact upd_self' rfl (upd_self' rfl rfl) | exact upd_self' rfl (upd_self' rfl (upd_self' rfl rfl)) | exact upd_self' rfl (upd_self' rfl (upd_self' rfl (upd_self' rfl rfl)))) ⟨rfl, Nat.zero_le _, rfl, H⟩ ?_
  clear H h
  rintro i j D w ⟨rfl, hi, he, H⟩
  refine wc_seq ?_
  refine wc_seq ?_
  refine wc_region ?_
  (apply ow_move; (· rfl); (· ((conv => lhs; whnf) <;> rfl)))
  (apply ow_move; (· rfl); (· ((conv => lhs; whnf) <;> rfl)))
  refine ow_len rfl rfl (tyAt rfl) rfl ?_
  refine ow_lss rfl rfl rfl ?_
  refine ow_nil ?_
  refine wc_cond_dec rfl (fun h => ?_) (fun h => ?_) <;> try dsimp only at h
  · have hlt : i < xs.length := by omega
    obtain ⟨x, hx⟩ : ∃ x, xs[i]? = some x := ⟨_, List.getElem?_eq_getElem hlt⟩
    obtain ⟨y, hy⟩ : ∃ y, ys[i]? = some y := ⟨_, List.getElem?_eq_getElem (by omega)⟩
    obtain ⟨b, o, rfl⟩ := hx0.some_of (by rw [flat_len entA_len]; omega)
    obtain ⟨b2, o2, rfl⟩ := hy0.some_of (by rw [flat_len entA_len]; omega)
    refine wc_skip ?_
    refine wc_seq ?_
    refine wc_block ?_
    refine wc_seq ?_
    refine wc_drawK (fun w => St Pu w0 w [] []) 99 (by kernel_rfl) (by kernel_rfl) (by intro c e D w h; first | exact h.elim | (rcases h with ⟨h | h, _⟩ <;> cases h)) ?_
    replace H := H.drew
    apply ak_take (i := 0) rfl rfl rfl rfl (by kernel_rfl) (by with_reducible first | exact H | rfl)
    · intro w Q' HS hq; replace H := HS; clear HS; (apply ow_move; (· rfl); (· ((conv => lhs; whnf) <;> rfl))); exact ow_nil hq
    apply ak_take (i := 1) rfl rfl rfl rfl (by kernel_rfl) (by with_reducible first | exact H | rfl)
    · intro w Q' HS hq; replace H := HS; clear HS; (apply ow_move; (· rfl); (· ((conv => lhs; whnf) <;> rfl))); exact ow_nil hq
    apply ak_take (i := 2) rfl rfl rfl rfl (by kernel_rfl) (by with_reducible first | exact H | rfl)
    · intro w Q' HS hq; replace H := HS; clear HS; refine ow_idxK (j := i) (sz := 2) rfl (tyAt rfl) rfl (tyAt rfl) rfl rfl rfl hlt rfl ?_; exact ow_nil hq
    apply ak_take (i := 3) rfl rfl rfl rfl (by kernel_rfl) (by with_reducible first | exact H | rfl)
    · intro w Q' HS hq; replace H := HS; clear HS; refine ow_loadA (l := entA x) rfl (tyAt rfl) rfl rfl rfl ((H.oldSl hx0).elem entA_len hx) ?_; exact ow_nil hq
    apply ak_take (i := 4) rfl rfl rfl rfl (by kernel_rfl) (by with_reducible first | exact H | rfl)
    · intro w Q' HS hq; replace H := HS; clear HS; (apply ow_move; (· rfl); (· ((conv => lhs; whnf) <;> rfl))); exact ow_nil hq
    apply ak_take (i := 5) rfl rfl rfl rfl (by kernel_rfl) (by with_reducible first | exact H | rfl)
    · intro w Q' HS hq; replace H := HS; clear HS; (apply ow_move; (· rfl); (· ((conv => lhs; whnf) <;> rfl))); exact ow_nil hq
    apply ak_take (i := 6) rfl rfl rfl rfl (by kernel_rfl) (by with_reducible first | exact H | rfl)
    · intro w Q' HS hq; replace H := HS; clear HS; refine ow_idxK (j := i) (sz := 2) rfl (tyAt rfl) rfl (tyAt rfl) rfl rfl rfl (by omega) rfl ?_; exact ow_nil hq
    apply ak_take (i := 7) rfl rfl rfl rfl (by kernel_rfl) (by with_reducible first | exact H | rfl)
    · intro w Q' HS hq; replace H := HS; clear HS; refine ow_loadA (l := entA y) rfl (tyAt rfl) rfl rfl rfl ((H.oldSl hy0).elem entA_len hy) ?_; exact ow_nil hq
    apply ak_take (i := 8) rfl rfl rfl rfl (by kernel_rfl) (by with_reducible first | exact H | rfl)
    · intro w Q' HS hq; replace H := HS; clear HS; refine ow_neqF rfl rfl rfl (tyAt rfl) rfl (by kernel_rfl) (by kernel_rfl) (.int (by decide) (tyAt rfl) rfl rfl rfl rfl (.int (by decide) (tyAt rfl) rfl rfl rfl rfl .nil)) ?_; exact ow_nil hq
    refine ak_done (by kernel_rfl) ?_
    skip
    by_cases hxy : x = y
    · subst hxy
      refine wc_cond_false (by simp [ev, upd]) ?_
      refine wc_skip ?_
      refine wc_region ?_
      (apply ow_move; (· rfl); (· ((conv => lhs; whnf) <;> rfl)))
      refine ow_add rfl rfl rfl (by simp only [InK]; omega) ?_
      (apply ow_assign; (· rfl); (· ((conv => lhs; whnf) <;> rfl)))
      refine ow_nil ?_
      refine ⟨i + 1, by first | exact rfl | exact upd_self' rfl rfl | exact upd_self' rfl (upd_self' rfl rfl) | exact upd_self' rfl (upd_self' rfl (upd_self' rfl rfl)) | exact upd_self' rfl (upd_self' rfl (upd_self' rfl (upd_self' rfl rfl))), by repeat (first | with_reducible exact Off.mix | with_reducible exact Off.refl | ((with_reducible refine Off.upd ?_ ?_); (· rfl))), ⟨rfl, hlt, ?_, H⟩, by omega⟩
      rw [take_snoc hx, take_snoc hy, he]
    · refine wc_cond_true ?_ ?_
      · obtain ⟨x1, x2⟩ := x
        obtain ⟨y1, y2⟩ := y
        simp only [ev, upd, nbeq_self, cond_true]
        refine congrArg Value.bool ?_
        simp only [Bool.not_eq_true', Bool.and_true]
        by_cases h1 : x1 = y1
        · have h2 : x2 ≠ y2 := fun e => hxy (by rw [h1, e])
          simp [h2]
        · simp [h1]
      refine wc_seq ?_
      refine wc_region ?_
      (apply ow_assign; (· rfl); (· ((conv => lhs; whnf) <;> rfl)))
      refine ow_nil ?_
      refine wc_ret ?_
      obtain ⟨w, hT, H⟩ := H.takes Try.prog
      refine ⟨.inr rfl, w, hT, _, .tmp .nil, ?_⟩
      refine ⟨congrArg Value.bool (decide_eq_false (fun e => hxy ?_)).symm, H⟩
      subst e
      rw [hx] at hy
      exact Option.some.inj hy
  · have hi' : i = xs.length := by omega
    subst hi'
    rw [List.take_length, hlen, List.take_length] at he
    refine wc_exit ?_
    refine wc_seq ?_
    refine wc_region ?_
    (apply ow_assign; (· rfl); (· ((conv => lhs; whnf) <;> rfl)))
    refine ow_nil ?_
    refine wc_ret ?_
    obtain ⟨w, hT, H⟩ := H.takes Try.prog
    refine ⟨.inr rfl, w, hT, _, .tmp .nil, ?_⟩
    exact ⟨congrArg Value.bool (decide_eq_true he).symm, H⟩
/-! ### all -/
theorem lawAll_spec (b : Nat) (p : Option Addr) (c : Nat) (es : IE) (hm : es.length ≤ 1000000) (w0 : World) (hM : MapA (hp w0) b p c es) :
    CallsV Try.prog 32 #[.pointer (some ⟨b, 0, none⟩)] w0 fun v w => ∃ p' c', v = .slice p' es.length c' ∧ St Pu w0 w [.app p' es.length c' 42 2 (es.flatMap entA)] [] := by
  refine callsV_of Try.func32 rfl rfl ?_
  have H := St.init w0
  refine wc_seq ?_
  refine wc_region ?_
  (apply ow_assign; (· rfl); (· ((conv => lhs; whnf) <;> rfl)))
  refine ow_nil ?_
  refine wc_seq ?_
  refine wc_region ?_
  refine ow_buildSlice0 H rfl (tyAt rfl) rfl (tyAt rfl) (fun b1 w H => ?_)
  replace H := H.rowApp (i := 0) (len := 0) (sz := 2) rfl rfl (by omega)
  dsimp only [List.set] at H
  refine ow_alloc (l := [.slice none 0 0]) H rfl (tyAt rfl) rfl (fun bo w H => ?_)
  refine ow_store (i := 0) (o := 0) (v := .slice _ _ _) H (tyAt rfl) rfl rfl rfl rfl rfl (by simp) (fun w H => ?_)
  dsimp only [List.set] at H
  refine ow_nil ?_
  refine wc_seq ?_
  refine wc_seq ?_
  refine wc_region ?_
  (apply ow_move; (· rfl); (· ((conv => lhs; whnf) <;> rfl)))
  refine ow_call rfl rfl (ent (by kernel_rfl)) (CallsV.mono (allA_spec b p c es hm w (MapA.old H hM)) ?_) rfl
  rintro v w ⟨bl, p1, c1, rfl, H'⟩
  replace H := H.call H'
  simp only [List.cons_append, List.nil_append] at H
  clear H'
  refine ow_nil ?_
  refine wc_block ?_
  refine wc_range (itA_iter bl p1 c1 es hm) rfl rfl (by intro x hx; obtain ⟨y, _, rfl⟩ := List.mem_map.1 hx; rfl) H
    (fun k L => ∃ p' cap', L = [.row bl 24 [.slice p1 es.length c1], .app p1 es.length c1 122 2 (es.flatMap entA), .row bo 27 [.slice p' k cap'], .app p' k cap' 42 2 ((es.take k).flatMap entA)])
    (fun _ _ => False)
    ⟨_, _, rfl⟩ ?hA ?round ?done ?jump
  case hA =>
    rintro i L X w ⟨p', cap', rfl⟩ H
    exact ⟨H.rowSl (i := 0) rfl, appOk.sl (H.cap (i := 1) rfl)⟩
  case round =>
    rintro l i x L X w hx ⟨p', cap', rfl⟩ H
    rw [List.getElem?_map] at hx
    obtain ⟨y, hat, rfl⟩ := Option.map_eq_some_iff.1 hx
    have hi : i < es.length := (List.getElem?_eq_some_iff.1 hat).1
    refine wc_seq ?_
    refine wc_region ?_
    (apply ow_assign; (· rfl); (· ((conv => lhs; whnf) <;> rfl)))
    refine ow_nil ?_
    refine wc_region ?_
    (apply ow_assign; (· rfl); (· ((conv => lhs; whnf) <;> rfl)))
    refine ow_nil ?_
    refine ⟨rfl, rfl, _, H, fun w X H hrec => ?_⟩
    refine wc_block ?_
    refine wc_region ?_
    refine ow_load rfl (tyAt rfl) rfl rfl (H.cell (i := 2) rfl rfl) ?_
    (apply ow_move; (· rfl); (· ((conv => lhs; whnf) <;> rfl)))
    (apply ow_move; (· rfl); (· ((conv => lhs; whnf) <;> rfl)))
    refine ow_build (l := entA y) (vs := [(0, .int .i64 (y).1), (1, .int .i64 (y).2)]) rfl (tyAt rfl) rfl (.cons (tyAt rfl) (.cons (tyAt rfl) .nil)) rfl rfl ?_
    refine ow_buildSliceA (zs := [.int .i64 0, .int .i64 0]) (l := entA y) (vs := [(0, .agg ⟨entA y⟩)]) H rfl (tyAt rfl) rfl (tyAt rfl) rfl rfl rfl (by kernel_rfl) rfl (fun vb w H => ?_)
    refine ow_append (i := 4) H rfl rfl (tyAt rfl) rfl (tyAt rfl) rfl (by decide) rfl rfl (H.rowSl (i := 0) rfl) rfl (entA_one y) (by dsimp only; omega) (by omega) (fun p2 c2 w H => ?_)
    simp only [List.cons_append, List.nil_append, List.set] at H
    replace H := H.drop
    refine ow_store (i := 2) (o := 0) (v := .slice _ _ _) H (tyAt rfl) rfl rfl rfl rfl rfl (by simp) (fun w H => ?_)
    refine ow_nil ?_
    refine ⟨_, ⟨p2, c2, rfl⟩, ?_⟩
    rw [take_snoc hat, List.flatMap_append, List.flatMap_singleton]
    exact H
  case done =>
    rintro d w L ⟨p', cap', rfl⟩ H
    simp only [List.length_map, List.take_length] at H
    refine wc_seq ?_
    refine wc_region ?_
    refine ow_load rfl (tyAt rfl) rfl rfl (H.cell (i := 2) rfl rfl) ?_
    (apply ow_assign; (· rfl); (· ((conv => lhs; whnf) <;> rfl)))
    refine ow_nil ?_
    refine wc_ret ?_
    obtain ⟨w, hT, H⟩ := H.takes Try.prog
    refine ⟨.inr rfl, w, hT, _, .tmp .nil, ?_⟩
    exact ⟨p', cap', rfl, H.only (i := 3) rfl⟩
  case jump =>
    rintro d w L j h H
    exact h.elim
/-! ### from -/
def fromE (es : IE) (k most : Int) : IE := (es.drop (rkE ltI es k)).take most.toNat
theorem lawFrom_spec (b : Nat) (p : Option Addr) (c : Nat) (es : IE) (k most : Int) (hm : es.length ≤ 1000000) (ha : Asc ltI es) (w0 : World) (hM : MapA (hp w0) b p c es) :
    CallsV Try.prog 30 #[.pointer (some ⟨b, 0, none⟩), .int .i64 k, .int .i64 most] w0 fun v w => ∃ p' c', v = .slice p' (fromE es k most).length c' ∧ St Pu w0 w [.app p' (fromE es k most).length c' 42 2 ((fromE es k most).flatMap entA)] [] := by
  refine callsV_of Try.func30 rfl rfl ?_
  have H := St.init w0
  refine wc_seq ?_
  refine wc_region ?_
  refine ow_box (l := [.int .i64 most]) H rfl rfl rfl (fun bm w H => ?_)
  refine ow_alloc (l := [.slice none 0 0]) H rfl (tyAt rfl) rfl (fun br w H => ?_)
  refine ow_nil ?_
  refine wc_seq ?_
  refine wc_region ?_
  refine ow_buildSlice0 H rfl (tyAt rfl) rfl (tyAt rfl) (fun b1 w H => ?_)
  replace H := H.rowApp (i := 0) (len := 0) (sz := 2) rfl rfl (by omega)
  dsimp only [List.set] at H
  refine ow_alloc (l := [.slice none 0 0]) H rfl (tyAt rfl) rfl (fun bo w H => ?_)
  refine ow_store (i := 0) (o := 0) (v := .slice _ _ _) H (tyAt rfl) rfl rfl rfl rfl rfl (by simp) (fun w H => ?_)
  dsimp only [List.set] at H
  refine ow_nil ?_
  refine wc_seq ?_
  refine wc_seq ?_
  refine wc_region ?_
  refine ow_load rfl (tyAt rfl) rfl rfl (H.cell (i := 3) rfl rfl) ?_
  refine ow_leq rfl rfl rfl ?_
  refine ow_nil ?_
  refine wc_cond_dec rfl (fun h => ?_) (fun h => ?_) <;> try dsimp only at h
  · refine wc_seq ?_
    refine wc_region ?_
    refine ow_load rfl (tyAt rfl) rfl rfl (H.cell (i := 0) rfl rfl) ?_
    refine ow_store (i := 2) (o := 0) (v := .slice _ _ _) H (tyAt rfl) rfl rfl rfl rfl rfl (by simp) (fun w H => ?_)
    refine ow_nil ?_
    refine wc_ret ?_
    obtain ⟨w, hT, H⟩ := H.takes Try.prog
    refine ⟨.inr rfl, w, hT, _, .cell rfl (run_loadVar1 (tyAt rfl) rfl (H.cell (i := 2) rfl rfl)) .nil, ?_⟩
    have ht : fromE es k most = [] := by unfold fromE; rw [show most.toNat = 0 by omega]; rfl
    rw [ht]
    exact ⟨_, _, rfl, H.only (i := 1) rfl⟩
  obtain ⟨mo, rfl⟩ : ∃ mo : Nat, most = (mo : Int) := ⟨most.toNat, by omega⟩
  refine wc_skip ?_
  refine wc_seq ?_
  refine wc_seq ?_
  refine wc_region ?_
  (apply ow_move; (· rfl); (· ((conv => lhs; whnf) <;> rfl)))
  (apply ow_move; (· rfl); (· ((conv => lhs; whnf) <;> rfl)))
  refine ow_call rfl rfl (ent (by kernel_rfl)) (CallsV.mono (fromA_spec b p c es k hm ha w (MapA.old H hM)) ?_) rfl
  rintro v w ⟨bl, p1, c1, rfl, H'⟩
  replace H := H.call H'
  simp only [List.cons_append, List.nil_append] at H
  clear H'
  have hfe : fromE es k (mo : Int) = (es.drop (rkE ltI es k)).take mo := by unfold fromE; rw [Int.toNat_natCast]
  rw [hfe]
  have hdl : (es.drop (rkE ltI es k)).length ≤ 1000000 := by rw [List.length_drop]; omega
  generalize es.drop (rkE ltI es k) = ds at *
  refine ow_nil ?_
  refine wc_block ?_
  refine wc_range (itA_iter bl p1 c1 ds hdl) rfl rfl (by intro x hx; obtain ⟨y, _, rfl⟩ := List.mem_map.1 hx; rfl) H
    (fun k L => ∃ p' cap', L = [.row bl 24 [.slice p1 ds.length c1], .app p1 ds.length c1 122 2 (ds.flatMap entA), .row bo 27 [.slice p' k cap'], .app p' k cap' 42 2 ((ds.take k).flatMap entA), .row br 27 [.slice none 0 0], .row bm 3 [.int .i64 mo]] ∧ (k : Int) < mo)
    (fun j L => ∃ p' k cap', j = .ret ∧ L = [.row bl 24 [.slice p1 ds.length c1], .app p1 ds.length c1 122 2 (ds.flatMap entA), .row bo 27 [.slice p' k cap'], .app p' k cap' 42 2 ((ds.take k).flatMap entA), .row br 27 [.slice p' k cap'], .row bm 3 [.int .i64 mo]] ∧ k = mo ∧ k ≤ ds.length)
    ⟨_, _, rfl, by omega⟩ ?hA ?round ?done ?jump
  case hA =>
    rintro i L X w ⟨p', cap', rfl, _⟩ H
    exact ⟨H.rowSl (i := 0) rfl, appOk.sl (H.cap (i := 1) rfl)⟩
  case round =>
    rintro l i x L X w hx ⟨p', cap', rfl, hm2⟩ H
    rw [List.getElem?_map] at hx
    obtain ⟨y, hat, rfl⟩ := Option.map_eq_some_iff.1 hx
    have hi : i < ds.length := (List.getElem?_eq_some_iff.1 hat).1
    refine wc_seq ?_
    refine wc_region ?_
    (apply ow_assign; (· rfl); (· ((conv => lhs; whnf) <;> rfl)))
    refine ow_nil ?_
    refine wc_region ?_
    (apply ow_assign; (· rfl); (· ((conv => lhs; whnf) <;> rfl)))
    refine ow_nil ?_
    refine ⟨rfl, rfl, _, H, fun w X H hrec => ?_⟩
    refine wc_block ?_
    refine wc_seq ?_
    refine wc_region ?_
    refine ow_load rfl (tyAt rfl) rfl rfl (H.cell (i := 2) rfl rfl) ?_
    (apply ow_move; (· rfl); (· ((conv => lhs; whnf) <;> rfl)))
    (apply ow_move; (· rfl); (· ((conv => lhs; whnf) <;> rfl)))
    refine ow_build (l := entA y) (vs := [(0, .int .i64 (y).1), (1, .int .i64 (y).2)]) rfl (tyAt rfl) rfl (.cons (tyAt rfl) (.cons (tyAt rfl) .nil)) rfl rfl ?_
    refine ow_buildSliceA (zs := [.int .i64 0, .int .i64 0]) (l := entA y) (vs := [(0, .agg ⟨entA y⟩)]) H rfl (tyAt rfl) rfl (tyAt rfl) rfl rfl rfl (by kernel_rfl) rfl (fun vb w H => ?_)
    refine ow_append (i := 4) H rfl rfl (tyAt rfl) rfl (tyAt rfl) rfl (by decide) rfl rfl (H.rowSl (i := 0) rfl) rfl (entA_one y) (by dsimp only; omega) (by omega) (fun p2 c2 w H => ?_)
    simp only [List.cons_append, List.nil_append, List.set] at H
    replace H := H.drop
    refine ow_store (i := 2) (o := 0) (v := .slice _ _ _) H (tyAt rfl) rfl rfl rfl rfl rfl (by simp) (fun w H => ?_)
    refine ow_nil ?_
    refine wc_seq ?_
    refine wc_region ?_
    refine ow_load rfl (tyAt rfl) rfl rfl (H.cell (i := 2) rfl rfl) ?_
    refine ow_len rfl rfl (tyAt rfl) rfl ?_
    refine ow_load rfl (tyAt rfl) rfl rfl (H.cell (i := 5) rfl rfl) ?_
    refine ow_eql rfl rfl rfl ?_
    refine ow_nil ?_
    refine wc_cond_dec rfl (fun h => ?_) (fun h => ?_) <;> try dsimp only at h
    · refine wc_seq ?_
      refine wc_region ?_
      refine ow_load rfl (tyAt rfl) rfl rfl (H.cell (i := 2) rfl rfl) ?_
      refine ow_store (i := 4) (o := 0) (v := .slice _ _ _) H (tyAt rfl) rfl rfl rfl rfl rfl (by simp) (fun w H => ?_)
      refine ow_nil ?_
      refine wc_ret ⟨_, ⟨p2, i + 1, c2, rfl, rfl, by omega, hi⟩, ?_⟩
      rw [take_snoc hat, List.flatMap_append, List.flatMap_singleton]
      exact H
    · refine wc_skip ?_
      refine ⟨_, ⟨p2, c2, rfl, by omega⟩, ?_⟩
      rw [take_snoc hat, List.flatMap_append, List.flatMap_singleton]
      exact H
  case done =>
    rintro d w L ⟨p', cap', rfl, hm2⟩ H
    simp only [List.length_map] at hm2
    refine wc_seq ?_
    refine wc_region ?_
    refine ow_load rfl (tyAt rfl) rfl rfl (H.cell (i := 2) rfl rfl) ?_
    refine ow_store (i := 4) (o := 0) (v := .slice _ _ _) H (tyAt rfl) rfl rfl rfl rfl rfl (by simp) (fun w H => ?_)
    refine ow_nil ?_
    refine wc_ret ?_
    obtain ⟨w, hT, H⟩ := H.takes Try.prog
    refine ⟨.inr rfl, w, hT, _, .cell rfl (run_loadVar1 (tyAt rfl) rfl (H.cell (i := 4) rfl rfl)) .nil, ?_⟩
    rw [List.take_of_length_le (show ds.length ≤ mo by omega)]
    refine ⟨p', cap', by simp [pack], ?_⟩
    have H2 := H.only (i := 3) rfl
    simp only [List.length_map, List.take_length] at H2
    exact H2
  case jump =>
    rintro d w L j ⟨p', k2, cap', rfl, rfl, rfl, hk⟩ H
    refine wc_ret ?_
    obtain ⟨w, hT, H⟩ := H.takes Try.prog
    refine ⟨.inr rfl, w, hT, _, .cell rfl (run_loadVar1 (tyAt rfl) rfl (H.cell (i := 4) rfl rfl)) .nil, ?_⟩
    rw [show (ds.take k2).length = k2 by rw [List.length_take]; omega]
    exact ⟨p', cap', rfl, H.only (i := 3) rfl⟩
end Go.Proofs.Ytgliblmpiilloaa
