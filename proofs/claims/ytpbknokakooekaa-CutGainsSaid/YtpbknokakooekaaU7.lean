/- Cut: may, Right, Weights (functions 124, 126, 137, 125, 100, 74). -/
import Derived.Test.YtpbknokakooekaaU3
namespace Go.Proofs.Ytpbknokakooekaa
set_option linter.all false
open Go Go.Sx Go.Proofs
set_option maxRecDepth 100000
set_option maxHeartbeats 2000000
def badP (k x : Int) : Prop := x < 0 ∨ k ≤ x
instance (k x : Int) : Decidable (badP k x) := inferInstanceAs (Decidable (x < 0 ∨ k ≤ x))
def mayK (k : Int) : Prop := 1 ≤ k ∧ k ≤ 4096
instance (k : Int) : Decidable (mayK k) := inferInstanceAs (Decidable (1 ≤ k ∧ k ≤ 4096))
def CutR (n : Nat) (p : List Int) (k : Int) : Prop := mayK k ∧ p.length = n ∧ ∀ i, i < p.length → ¬ badP k (p.getD i 0)
instance (n : Nat) (p : List Int) (k : Int) : Decidable (CutR n p k) := by unfold CutR; infer_instance
theorem mayK_spec (k : Int) (w0 : World) : CallsV Try.prog 93 #[.int .i64 k] w0 fun v w => v = .bool (decide (mayK k)) ∧ w = w0 := by
  refine callsV_of Try.func93 rfl rfl ?_
  refine wc_seq ?_
  refine wc_region ?_
  (apply ow_assign; (· rfl); (· ((conv => lhs; whnf) <;> rfl)))
  refine ow_nil ?_
  refine wc_seq ?_
  refine wc_region ?_
  (apply ow_move; (· rfl); (· ((conv => lhs; whnf) <;> rfl)))
  refine ow_geq rfl rfl rfl ?_
  (apply ow_move; (· rfl); (· ((conv => lhs; whnf) <;> rfl)))
  refine ow_guard_dec rfl rfl rfl (fun h => ?_) (fun h => ?_) <;> try dsimp only at h
  · refine ow_guard_yes rfl rfl rfl rfl ?_
    (apply ow_move; (· rfl); (· ((conv => lhs; whnf) <;> rfl)))
    refine ow_guard_yes rfl rfl rfl rfl ?_
    refine ow_leq rfl rfl rfl ?_
    (apply ow_pick_t; (· rfl); (· rfl); (· ((conv => lhs; whnf) <;> rfl)))
    (apply ow_assign; (· rfl); (· ((conv => lhs; whnf) <;> rfl)))
    refine ow_nil ?_
    refine wc_ret ⟨.inr rfl, _, rfl, _, .tmp .nil, congrArg Value.bool ?_, rfl⟩
    by_cases h2 : k ≤ 4096
    · exact (decide_eq_true h2).trans (decide_eq_true (show mayK k from ⟨by omega, h2⟩)).symm
    · exact (decide_eq_false h2).trans (decide_eq_false (fun h' : mayK k => h2 h'.2)).symm
  · refine ow_guard_no rfl rfl rfl rfl rfl rfl rfl ?_
    refine ow_guard_no rfl rfl rfl rfl rfl rfl rfl ?_
    (apply ow_pick_f; (· rfl); (· rfl); (· ((conv => lhs; whnf) <;> rfl)))
    (apply ow_assign; (· rfl); (· ((conv => lhs; whnf) <;> rfl)))
    refine ow_nil ?_
    refine wc_ret ⟨.inr rfl, _, rfl, _, .tmp .nil, congrArg Value.bool ?_, rfl⟩
    exact (decide_eq_false (fun h' : mayK k => h (by have := h'.1; omega))).symm
theorem bad_spec (b : Nat) (k x : Int) (w0 : World) (hk : SlH (hp w0) (some ⟨b, 0, none⟩) [.int .i64 k]) : CallsV Try.prog 95 #[.int .i64 x, .pointer (some ⟨b, 0, none⟩)] w0 fun v w => v = .bool (decide (badP k x)) ∧ w = w0 := by
  refine callsV_of Try.func95 rfl rfl ?_
  refine wc_seq ?_
  refine wc_region ?_
  (apply ow_assign; (· rfl); (· ((conv => lhs; whnf) <;> rfl)))
  refine ow_nil ?_
  refine wc_seq ?_
  refine wc_region ?_
  (apply ow_move; (· rfl); (· ((conv => lhs; whnf) <;> rfl)))
  refine ow_lss rfl rfl rfl ?_
  (apply ow_move; (· rfl); (· ((conv => lhs; whnf) <;> rfl)))
  refine ow_guard_dec rfl rfl rfl (fun h => ?_) (fun h => ?_) <;> try dsimp only at h
  · refine ow_guard_no rfl rfl rfl rfl rfl rfl rfl ?_
    refine ow_guard_no rfl rfl rfl rfl rfl rfl rfl ?_
    refine ow_guard_no rfl rfl rfl rfl rfl rfl rfl ?_
    (apply ow_pick_t; (· rfl); (· rfl); (· ((conv => lhs; whnf) <;> rfl)))
    (apply ow_assign; (· rfl); (· ((conv => lhs; whnf) <;> rfl)))
    refine ow_nil ?_
    refine wc_ret ⟨.inr rfl, _, rfl, _, .tmp .nil, congrArg Value.bool (decide_eq_true (.inl h)).symm, rfl⟩
  · refine ow_guard_yes rfl rfl rfl rfl ?_
    (apply ow_move; (· rfl); (· ((conv => lhs; whnf) <;> rfl)))
    refine ow_guard_yes rfl rfl rfl rfl ?_
    refine ow_load rfl (tyAt rfl) rfl rfl (hk.cell (j := 0) rfl) ?_
    refine ow_guard_yes rfl rfl rfl rfl ?_
    refine ow_geq rfl rfl rfl ?_
    (apply ow_pick_f; (· rfl); (· rfl); (· ((conv => lhs; whnf) <;> rfl)))
    (apply ow_assign; (· rfl); (· ((conv => lhs; whnf) <;> rfl)))
    refine ow_nil ?_
    refine wc_ret ⟨.inr rfl, _, rfl, _, .tmp .nil, congrArg Value.bool ?_, rfl⟩
    by_cases h2 : k ≤ x
    · exact (decide_eq_true h2).trans (decide_eq_true (show badP k x from .inr h2)).symm
    · exact (decide_eq_false h2).trans (decide_eq_false (fun h' : badP k x => h'.elim h h2)).symm
theorem badIdx_spec (b : Nat) (k : Int) (p : List Int) (q : Option Addr) (c : Nat) (hm : p.length ≤ 9223372036854775807) (w0 : World) (hk : SlH (hp w0) (some ⟨b, 0, none⟩) [.int .i64 k]) (hs : SlH (hp w0) q (ints .i64 p)) :
    CallsV Try.prog 127 #[.slice q p.length c, .func (.func 95) #[] #[.pointer (some ⟨b, 0, none⟩)]] w0 fun v w => ((∃ i : Nat, i < p.length ∧ badP k (p.getD i 0) ∧ v = .int .i64 (i : Int)) ∨ (v = .int .i64 (-1) ∧ ∀ i, i < p.length → ¬ badP k (p.getD i 0))) ∧ w = w0 := by
  refine callsV_of Try.func127 rfl rfl ?_
  refine wc_seq ?_
  refine wc_region ?_
  (apply ow_assign; (· rfl); (· ((conv => lhs; whnf) <;> rfl)))
  refine ow_nil ?_
  refine wc_seq ?_
  refine wc_seq ?_
  refine wc_region ?_
  (apply ow_move; (· rfl); (· ((conv => lhs; whnf) <;> rfl)))
  refine ow_len rfl rfl (tyAt rfl) rfl ?_
  (apply ow_move; (· rfl); (· ((conv => lhs; whnf) <;> rfl)))
  refine ow_nil ?_
  refine wc_block ?_
  refine wc_loopS [4, 5, 8, 9, 10, 11, 12, 13, 14, 15, 16, 17, 18] (fun (s : Nat) e => upd e 8 (.int .i64 s)) (fun s D w => D = [] ∧ w = w0 ∧ s ≤ p.length ∧ ∀ i, i < s → ¬ badP k (p.getD i 0)) (fun s _ => p.length - s) 0 (by first | exact rfl | exact upd_self' rfl rfl | exact upd_self' rfl (upd_self' rfl rfl) | exact upd_self' rfl (upd_self' rfl (upd_self' rfl rfl)) | exact upd_self' rfl (upd_self' rfl (upd_self' rfl (upd_self' rfl rfl)))) ⟨rfl, rfl, Nat.zero_le _, fun k hk => absurd hk (Nat.not_lt_zero _)⟩ ?_
  rintro i j D w ⟨rfl, rfl, hi, hok⟩
  refine wc_seq ?_
  refine wc_region ?_
  refine ow_lss rfl rfl rfl ?_
  refine ow_nil ?_
  refine wc_seq ?_
  refine wc_cond_dec rfl (fun h => ?_) (fun h => ?_) <;> try dsimp only at h
  · have hlt : i < p.length := by omega
    obtain ⟨bq, o, rfl⟩ := hs.some_of (by simp; omega)
    refine wc_skip ?_
    refine wc_seq ?_
    refine wc_block ?_
    refine wc_seq ?_
    refine wc_region ?_
    (apply ow_move; (· rfl); (· ((conv => lhs; whnf) <;> rfl)))
    (apply ow_assign; (· rfl); (· ((conv => lhs; whnf) <;> rfl)))
    refine ow_nil ?_
    refine wc_seq ?_
    refine wc_region ?_
    (apply ow_move; (· rfl); (· ((conv => lhs; whnf) <;> rfl)))
    (apply ow_move; (· rfl); (· ((conv => lhs; whnf) <;> rfl)))
    (apply ow_move; (· rfl); (· ((conv => lhs; whnf) <;> rfl)))
    refine ow_idx1 (j := i) rfl (tyAt rfl) rfl (tyAt rfl) rfl rfl rfl hlt rfl ?_
    refine ow_load rfl (tyAt rfl) rfl rfl (hs.int hlt) ?_
    refine ow_call rfl rfl (ent (by kernel_rfl)) (CallsV.mono (bad_spec b k (p.getD i 0) w hk) ?_) rfl
    rintro v w' ⟨rfl, rfl⟩
    by_cases hb : badP k (p.getD i 0)
    · rw [decide_eq_true hb]
      refine ow_nil ?_
      refine wc_cond_true rfl ?_
      refine wc_seq ?_
      refine wc_region ?_
      (apply ow_move; (· rfl); (· ((conv => lhs; whnf) <;> rfl)))
      (apply ow_assign; (· rfl); (· ((conv => lhs; whnf) <;> rfl)))
      refine ow_nil ?_
      refine wc_ret ⟨.inr rfl, _, rfl, _, .tmp .nil, .inl ⟨i, hlt, hb, rfl⟩, rfl⟩
    · rw [decide_eq_false hb]
      refine ow_nil ?_
      refine wc_cond_false rfl ?_
      refine wc_skip ?_
      refine wc_region ?_
      refine ow_add rfl rfl rfl (by simp only [InK]; omega) ?_
      (apply ow_move; (· rfl); (· ((conv => lhs; whnf) <;> rfl)))
      refine ow_nil ?_
      refine ⟨i + 1, by first | exact rfl | exact upd_self' rfl rfl | exact upd_self' rfl (upd_self' rfl rfl) | exact upd_self' rfl (upd_self' rfl (upd_self' rfl rfl)) | exact upd_self' rfl (upd_self' rfl (upd_self' rfl (upd_self' rfl rfl))), by repeat (first | with_reducible exact Off.mix | with_reducible exact Off.refl | ((with_reducible refine Off.upd ?_ ?_); (· rfl))), ⟨rfl, rfl, hlt, fun k2 hk2 => ?_⟩, by omega⟩
      rcases Nat.lt_or_ge k2 i with h1 | h1
      · exact hok k2 h1
      · rw [show k2 = i by omega]; exact hb
  · have hi' : i = p.length := by omega
    subst hi'
    refine wc_exit ?_
    refine wc_seq ?_
    refine wc_region ?_
    (apply ow_assign; (· rfl); (· ((conv => lhs; whnf) <;> rfl)))
    refine ow_nil ?_
    refine wc_ret ⟨.inr rfl, _, rfl, _, .tmp .nil, .inr ⟨rfl, hok⟩, rfl⟩
theorem badAny_spec (b : Nat) (k : Int) (p : List Int) (q : Option Addr) (c : Nat) (hm : p.length ≤ 9223372036854775807) (w0 : World) (hk : SlH (hp w0) (some ⟨b, 0, none⟩) [.int .i64 k]) (hs : SlH (hp w0) q (ints .i64 p)) :
    CallsV Try.prog 94 #[.slice q p.length c, .func (.func 95) #[] #[.pointer (some ⟨b, 0, none⟩)]] w0 fun v w => v = .bool (decide (¬ ∀ i, i < p.length → ¬ badP k (p.getD i 0))) ∧ w = w0 := by
  refine callsV_of Try.func94 rfl rfl ?_
  refine wc_seq ?_
  refine wc_region ?_
  (apply ow_assign; (· rfl); (· ((conv => lhs; whnf) <;> rfl)))
  refine ow_nil ?_
  refine wc_seq ?_
  refine wc_region ?_
  (apply ow_move; (· rfl); (· ((conv => lhs; whnf) <;> rfl)))
  (apply ow_move; (· rfl); (· ((conv => lhs; whnf) <;> rfl)))
  refine ow_call rfl rfl (ent (by kernel_rfl)) (CallsV.mono (badIdx_spec b k p q c hm w0 hk hs) ?_) rfl
  rintro v w ⟨(⟨i, hi, hb, rfl⟩ | ⟨rfl, hok⟩), rfl⟩
  · refine ow_geq rfl rfl rfl ?_
    (apply ow_assign; (· rfl); (· ((conv => lhs; whnf) <;> rfl)))
    refine ow_nil ?_
    refine wc_ret ⟨.inr rfl, _, rfl, _, .tmp .nil, ?_, rfl⟩
    rw [decide_eq_true (show ¬ ∀ i, i < p.length → ¬ badP k (p.getD i 0) from fun h => h i hi hb)]
    exact congrArg Value.bool (decide_eq_true (by omega))
  · refine ow_geq rfl rfl rfl ?_
    (apply ow_assign; (· rfl); (· ((conv => lhs; whnf) <;> rfl)))
    refine ow_nil ?_
    refine wc_ret ⟨.inr rfl, _, rfl, _, .tmp .nil, ?_, rfl⟩
    rw [decide_eq_false (show ¬ ¬ ∀ i, i < p.length → ¬ badP k (p.getD i 0) from fun h => h hok)]
    rfl
theorem cutRight_spec (g : GX) (ms : List MpT) (p : List Int) (q : Option Addr) (c : Nat) (k : Int) (hm : p.length ≤ 9223372036854775807) (w0 : World) (hG : Gr (hp w0) g ms) (hs : SlH (hp w0) q (ints .i64 p)) :
    CallsV Try.prog 53 #[.pointer (some ⟨g.b, 0, none⟩), .slice q p.length c, .int .i64 k] w0 fun v w => v = .bool (decide (CutR g.ws.length p k)) ∧ St Pu w0 w [] [] := by
  refine callsV_of Try.func53 rfl rfl ?_
  have H := St.init w0
  refine wc_seq ?_
  refine wc_region ?_
  refine ow_box (l := [.int .i64 k]) H rfl rfl rfl (fun b5 w H => ?_)
  (apply ow_assign; (· rfl); (· ((conv => lhs; whnf) <;> rfl)))
  refine ow_nil ?_
  refine wc_seq ?_
  refine wc_region ?_
  refine ow_load rfl (tyAt rfl) rfl rfl (H.cell (i := 0) rfl rfl) ?_
  refine ow_call rfl rfl (ent (by kernel_rfl)) (CallsV.mono (mayK_spec k w) ?_) rfl
  rintro v w' ⟨rfl, rfl⟩
  by_cases hk : mayK k
  · rw [decide_eq_true hk]
    (apply ow_move; (· rfl); (· ((conv => lhs; whnf) <;> rfl)))
    refine ow_guard_yes rfl rfl rfl rfl ?_
    (apply ow_move; (· rfl); (· ((conv => lhs; whnf) <;> rfl)))
    refine ow_guard_yes rfl rfl rfl rfl ?_
    refine ow_len rfl rfl (tyAt rfl) rfl ?_
    refine ow_guard_yes rfl rfl rfl rfl ?_
    (apply ow_move; (· rfl); (· ((conv => lhs; whnf) <;> rfl)))
    refine ow_guard_yes rfl rfl rfl rfl ?_
    refine ow_call rfl rfl (ent (by kernel_rfl)) (CallsV.mono (glen_spec g ms _ (Gr.old H hG)) ?_) rfl
    rintro v w2 ⟨rfl, rfl⟩
    refine ow_guard_yes rfl rfl rfl rfl ?_
    refine ow_eql rfl rfl rfl ?_
    (apply ow_pick_t; (· rfl); (· rfl); (· ((conv => lhs; whnf) <;> rfl)))
    (apply ow_move; (· rfl); (· ((conv => lhs; whnf) <;> rfl)))
    refine ow_guard_dec rfl rfl rfl (fun h => ?_) (fun h => ?_) <;> try dsimp only at h
    · have hpl : p.length = g.ws.length := by omega
      refine ow_guard_yes rfl rfl rfl rfl ?_
      (apply ow_move; (· rfl); (· ((conv => lhs; whnf) <;> rfl)))
      refine ow_guard_yes rfl rfl rfl rfl ?_
      refine ow_makeFunc (fs := []) (cs := [.pointer _]) rfl rfl rfl ?_
      refine ow_guard_yes rfl rfl rfl rfl ?_
      refine ow_call rfl rfl (ent (by kernel_rfl)) (CallsV.mono (badAny_spec b5 k p q c hm _ (H.rowSl (i := 0) rfl) (H.oldSl hs)) ?_) rfl
      rintro v w3 ⟨rfl, rfl⟩
      refine ow_guard_yes rfl rfl rfl rfl ?_
      refine ow_not_dec rfl rfl ?_
      (apply ow_pick_t; (· rfl); (· rfl); (· ((conv => lhs; whnf) <;> rfl)))
      (apply ow_assign; (· rfl); (· ((conv => lhs; whnf) <;> rfl)))
      refine ow_nil ?_
      refine wc_ret ?_
      obtain ⟨w, hT, H⟩ := H.takes Try.prog
      refine ⟨.inr rfl, w, hT, _, .tmp .nil, ?_⟩
      refine ⟨congrArg Value.bool ?_, H.none⟩
      by_cases hall : ∀ i, i < p.length → ¬ badP k (p.getD i 0)
      · exact (decide_eq_true (show ¬ ¬ (∀ i, i < p.length → ¬ badP k (p.getD i 0)) from fun h => h hall)).trans (decide_eq_true (show CutR g.ws.length p k from ⟨hk, hpl, hall⟩)).symm
      · exact (decide_eq_false (show ¬ ¬ ¬ (∀ i, i < p.length → ¬ badP k (p.getD i 0)) from fun h => h hall)).trans (decide_eq_false (fun h : CutR g.ws.length p k => hall h.2.2)).symm
    · refine ow_guard_no rfl rfl rfl rfl rfl rfl rfl ?_
      refine ow_guard_no rfl rfl rfl rfl rfl rfl rfl ?_
      refine ow_guard_no rfl rfl rfl rfl rfl rfl rfl ?_
      refine ow_guard_no rfl rfl rfl rfl rfl rfl rfl ?_
      (apply ow_pick_f; (· rfl); (· rfl); (· ((conv => lhs; whnf) <;> rfl)))
      (apply ow_assign; (· rfl); (· ((conv => lhs; whnf) <;> rfl)))
      refine ow_nil ?_
      refine wc_ret ?_
      obtain ⟨w, hT, H⟩ := H.takes Try.prog
      refine ⟨.inr rfl, w, hT, _, .tmp .nil, ?_⟩
      exact ⟨congrArg Value.bool (decide_eq_false (fun h' : CutR g.ws.length p k => h (by rw [h'.2.1]))).symm, H.none⟩
  · rw [decide_eq_false hk]
    (apply ow_move; (· rfl); (· ((conv => lhs; whnf) <;> rfl)))
    refine ow_guard_no rfl rfl rfl rfl rfl rfl rfl ?_
    refine ow_guard_no rfl rfl rfl rfl rfl rfl rfl ?_
    refine ow_guard_no rfl rfl rfl rfl rfl rfl rfl ?_
    refine ow_guard_no rfl rfl rfl rfl rfl rfl rfl ?_
    refine ow_guard_no rfl rfl rfl rfl rfl rfl rfl ?_
    (apply ow_pick_f; (· rfl); (· rfl); (· ((conv => lhs; whnf) <;> rfl)))
    (apply ow_move; (· rfl); (· ((conv => lhs; whnf) <;> rfl)))
    refine ow_guard_no rfl rfl rfl rfl rfl rfl rfl ?_
    refine ow_guard_no rfl rfl rfl rfl rfl rfl rfl ?_
    refine ow_guard_no rfl rfl rfl rfl rfl rfl rfl ?_
    refine ow_guard_no rfl rfl rfl rfl rfl rfl rfl ?_
    (apply ow_pick_f; (· rfl); (· rfl); (· ((conv => lhs; whnf) <;> rfl)))
    (apply ow_assign; (· rfl); (· ((conv => lhs; whnf) <;> rfl)))
    refine ow_nil ?_
    refine wc_ret ?_
    obtain ⟨w, hT, H⟩ := H.takes Try.prog
    refine ⟨.inr rfl, w, hT, _, .tmp .nil, ?_⟩
    exact ⟨congrArg Value.bool (decide_eq_false (fun h' : CutR g.ws.length p k => hk h'.1)).symm, H.none⟩
/-! ### Weights -/
def wtAt (ws p : List Int) (j : Nat) (i : Nat) : Int := sumN i fun t => if p.getD t 0 = (j : Int) then ws.getD t 0 else 0
def wtL (ws p : List Int) (k i : Nat) : List Int := (List.range k).map fun j => wtAt ws p j i
theorem wtL_len (ws p : List Int) (k i : Nat) : (wtL ws p k i).length = k := by simp [wtL]
theorem wtL_at {ws p : List Int} {k i j : Nat} (h : j < k) : (wtL ws p k i).getD j 0 = wtAt ws p j i := by
  unfold wtL
  rw [List.getD_eq_getElem?_getD, List.getElem?_map, List.getElem?_range h]; rfl
theorem wtL_zero (ws p : List Int) (k : Nat) : wtL ws p k 0 = List.replicate k 0 := by
  refine extI (by rw [wtL_len, List.length_replicate]) fun j hj => ?_
  rw [wtL_len] at hj
  rw [wtL_at hj, List.getD_eq_getElem?_getD, List.getElem?_replicate, if_pos hj]; rfl
theorem wtL_succ {ws p : List Int} {k i : Nat} (hp : ¬ badP (k : Int) (p.getD i 0)) : wtL ws p k (i + 1) = (wtL ws p k i).set (p.getD i 0).toNat ((wtL ws p k i).getD (p.getD i 0).toNat 0 + ws.getD i 0) := by
  unfold badP at hp
  refine extI (by rw [List.length_set, wtL_len, wtL_len]) fun j hj => ?_
  rw [wtL_len] at hj
  rw [getD_setI _ _ _ _ (by rw [wtL_len]; omega), wtL_at hj, wtL_at hj, wtL_at (by omega)]
  unfold wtAt
  rw [sumN_succ]
  by_cases h : j = (p.getD i 0).toNat
  · rw [if_pos h, if_pos (by omega), h]
  · rw [if_neg h, if_neg (by omega)]; omega
theorem wtAt_in {ws p : List Int} (h : ∀ z ∈ ws, mayW z) (j i : Nat) : 0 ≤ wtAt ws p j i ∧ wtAt ws p j i ≤ (i : Int) * 1099511627776 := by
  unfold wtAt
  constructor
  · refine Int.le_trans (Int.le_of_eq (sumN_zero i).symm) (sumN_le fun t _ => ?_)
    have := ws_nn h t
    split <;> omega
  · rw [← sumN_const]
    refine sumN_le fun t _ => ?_
    have := ws_nn h t
    split <;> omega
theorem weights_spec (g : GX) (ms : List MpT) (p : List Int) (q : Option Addr) (c k : Nat) (hm : p.length ≤ 9223372036854775807) (hmay : ∀ z ∈ g.ws, mayW z) (hn : ms.length = g.ws.length) (h4 : g.ws.length ≤ 4096) (w0 : World) (hG : Gr (hp w0) g ms) (hs : SlH (hp w0) q (ints .i64 p)) :
    CallsV Try.prog 27 #[.pointer (some ⟨g.b, 0, none⟩), .slice q p.length c, .int .i64 (k : Int)] w0 fun v w =>
      (¬ CutR g.ws.length p k ∧ v = .slice none 0 0 ∧ St Pu w0 w [] []) ∨ (CutR g.ws.length p k ∧ ∃ b, v = .slice (some ⟨b, 0, none⟩) k k ∧ St Pu w0 w [.row b 2 (ints .i64 (wtL g.ws p k p.length))] []) := by
  refine callsV_of Try.func27 rfl rfl ?_
  have H := St.init w0
  refine wc_seq ?_
  refine wc_region ?_
  (apply ow_assign; (· rfl); (· ((conv => lhs; whnf) <;> rfl)))
  refine ow_nil ?_
  refine wc_seq ?_
  refine wc_seq ?_
  refine wc_region ?_
  (apply ow_move; (· rfl); (· ((conv => lhs; whnf) <;> rfl)))
  (apply ow_move; (· rfl); (· ((conv => lhs; whnf) <;> rfl)))
  (apply ow_move; (· rfl); (· ((conv => lhs; whnf) <;> rfl)))
  refine ow_call rfl rfl (ent (by kernel_rfl)) (CallsV.mono (cutRight_spec g ms p q c (k : Int) hm w0 hG hs) ?_) rfl
  rintro v w ⟨rfl, H'⟩
  replace H := H.call H'
  rw [List.nil_append] at H
  clear H'
  by_cases hR : ¬ CutR g.ws.length p k
  · rw [decide_eq_false hR]
    refine ow_not rfl rfl ?_
    refine ow_nil ?_
    refine wc_cond_true rfl ?_
    refine wc_seq ?_
    refine wc_region ?_
    (apply ow_assign; (· rfl); (· ((conv => lhs; whnf) <;> rfl)))
    refine ow_nil ?_
    refine wc_ret ?_
    obtain ⟨w, hT, H⟩ := H.takes Try.prog
    refine ⟨.inr rfl, w, hT, _, .tmp .nil, ?_⟩
    exact .inl ⟨hR, rfl, H⟩
  replace hR := Decidable.of_not_not hR
  rw [decide_eq_true hR]
  have hk := hR.1
  unfold mayK at hk
  have hpl := hR.2.1
  refine ow_not rfl rfl ?_
  refine ow_nil ?_
  refine wc_cond_false rfl ?_
  refine wc_skip ?_
  refine wc_seq ?_
  refine wc_region ?_
  (apply ow_move; (· rfl); (· ((conv => lhs; whnf) <;> rfl)))
  refine ow_makeSlice (m := (k : Int)) (z := .int .i64 0) H rfl (tyAt rfl) rfl (tyAt rfl) rfl rfl rfl rfl (by omega) (by show (8 : Int) * _ ≤ _; omega) (by omega) (fun bo w H => ?_)
  rw [Int.toNat_natCast, show List.replicate k (Value.int .i64 0) = ints .i64 (wtL g.ws p k 0) by rw [wtL_zero]; unfold ints; rw [List.map_replicate]] at H
  rw [Int.toNat_natCast]
  (apply ow_assign; (· rfl); (· ((conv => lhs; whnf) <;> rfl)))
  refine ow_nil ?_
  refine wc_seq ?_
  refine wc_seq ?_
  refine wc_region ?_
  (apply ow_move; (· rfl); (· ((conv => lhs; whnf) <;> rfl)))
  refine ow_len rfl rfl (tyAt rfl) rfl ?_
  (apply ow_move; (· rfl); (· ((conv => lhs; whnf) <;> rfl)))
  refine ow_nil ?_
  refine wc_block ?_
  refine wc_loopS [8, 9, 19, 20, 21, 22, 23, 24, 25, 26, 27, 28, 29, 30, 31, 32, 33] (fun (s : Nat) e => upd e 19 (.int .i64 s)) (fun s D w => D = [] ∧ s ≤ p.length ∧ St Pu w0 w [.row bo 2 (ints .i64 (wtL g.ws p k s))] []) (fun s _ => p.length - s) 0 (by first | exact rfl | exact upd_self' rfl rfl | exact upd_self' rfl (upd_self' rfl rfl) | exact upd_self' rfl (upd_self' rfl (upd_self' rfl rfl)) | exact upd_self' rfl (upd_self' rfl (upd_self' rfl (upd_self' rfl rfl)))) ⟨rfl, Nat.zero_le _, H⟩ ?_
  clear H
  rintro i j D w ⟨rfl, hi, H⟩
  refine wc_seq ?_
  refine wc_region ?_
  refine ow_lss rfl rfl rfl ?_
  refine ow_nil ?_
  refine wc_seq ?_
  refine wc_cond_dec rfl (fun h => ?_) (fun h => ?_) <;> try dsimp only at h
  · have hlt : i < p.length := by omega
    have hb := hR.2.2 i hlt
    have hsn := wtL_succ (ws := g.ws) hb
    unfold badP at hb
    have hw := wtAt_in (p := p) hmay (p.getD i 0).toNat i
    have hwl := wtL_at (ws := g.ws) (p := p) (k := k) (i := i) (j := (p.getD i 0).toNat) (by omega)
    have hln := wtL_len g.ws p k i
    have hwn := ws_nn hmay i
    have hwt : wtG g.ws (i : Int) = g.ws.getD i 0 := by unfold wtG; rw [if_pos ⟨by omega, by omega⟩, Int.toNat_natCast]
    have hsx := hs
    obtain ⟨bq, oq, rfl⟩ := hs.some_of (by simp; omega)
    have hsi := (H.oldSl hsx).int hlt
    generalize p.getD i 0 = z at hb hsn hw hwl hsi
    rw [← hwl] at hw
    obtain ⟨l', hl'⟩ : ∃ l', wtL g.ws p k (i + 1) = l' := ⟨_, rfl⟩
    rw [hl'] at hsn
    generalize wtL g.ws p k i = l at hsn hw hln H
    refine wc_skip ?_
    refine wc_seq ?_
    refine wc_block ?_
    refine wc_seq ?_
    refine wc_region ?_
    (apply ow_move; (· rfl); (· ((conv => lhs; whnf) <;> rfl)))
    refine ow_idx1 (j := i) rfl (tyAt rfl) rfl (tyAt rfl) rfl rfl rfl hlt rfl ?_
    refine ow_load rfl (tyAt rfl) rfl rfl hsi ?_
    (apply ow_assign; (· rfl); (· ((conv => lhs; whnf) <;> rfl)))
    (apply ow_assign; (· rfl); (· ((conv => lhs; whnf) <;> rfl)))
    refine ow_nil ?_
    refine wc_drawK (fun w => St Pu w0 w [.row bo 2 (ints .i64 l)] []) 9 (by kernel_rfl) (by kernel_rfl) (by intro c e D w h; first | exact h.elim | (rcases h with ⟨h | h, _⟩ <;> cases h)) ?_
    replace H := H.drew
    apply ak_take (i := 0) rfl rfl rfl rfl (by kernel_rfl) (by with_reducible first | exact H | rfl)
    · intro w Q' HS hq; replace H := HS; clear HS; (apply ow_move; (· rfl); (· ((conv => lhs; whnf) <;> rfl))); exact ow_nil hq
    apply ak_take (i := 1) rfl rfl rfl rfl (by kernel_rfl) (by with_reducible first | exact H | rfl)
    · intro w Q' HS hq; replace H := HS; clear HS; (apply ow_move; (· rfl); (· ((conv => lhs; whnf) <;> rfl))); exact ow_nil hq
    apply ak_take (i := 2) rfl rfl rfl rfl (by kernel_rfl) (by with_reducible first | exact H | rfl)
    · intro w Q' HS hq; replace H := HS; clear HS; refine ow_idx1 (j := z.toNat) rfl (tyAt rfl) rfl (tyAt rfl) rfl rfl (by omega) (by omega) rfl ?_; exact ow_nil hq
    apply ak_take (i := 3) rfl rfl rfl rfl (by kernel_rfl) (by with_reducible first | exact H | rfl)
    · intro w Q' HS hq; replace H := HS; clear HS; refine ow_load rfl (tyAt rfl) rfl rfl (SlH.int (H.rowSl (i := 0) rfl) (by omega)) ?_; exact ow_nil hq
    apply ak_take (i := 4) rfl rfl rfl rfl (by kernel_rfl) (by with_reducible first | exact H | rfl)
    · intro w Q' HS hq; replace H := HS; clear HS; (apply ow_move; (· rfl); (· ((conv => lhs; whnf) <;> rfl))); exact ow_nil hq
    apply ak_take (i := 5) rfl rfl rfl rfl (by kernel_rfl) (by with_reducible first | exact H | rfl)
    · intro w Q' HS hq; replace H := HS; clear HS; (apply ow_move; (· rfl); (· ((conv => lhs; whnf) <;> rfl))); exact ow_nil hq
    apply ak_one (i := 6)
    · kernel_rfl
    · rfl
    · rfl
    refine ow_call rfl rfl (ent (by kernel_rfl)) (CallsV.mono (weight_spec g ms (i : Int) _ (Gr.old H hG)) ?_) rfl
    rintro v w' ⟨rfl, rfl⟩
    rw [hwt]
    refine ow_nil ⟨fun _ => H, ?_⟩
    apply ak_take (i := 7) rfl rfl rfl rfl (by kernel_rfl) (by with_reducible first | exact H | rfl)
    · intro w Q' HS hq; replace H := HS; clear HS; refine ow_add rfl rfl rfl (by simp only [InK]; omega) ?_; exact ow_nil hq
    apply ak_take (i := 8) rfl rfl rfl rfl (by kernel_rfl) (by with_reducible first | exact H | rfl)
    · intro w Q' HS hq; replace H := HS; clear HS; refine ow_idx1 (j := z.toNat) rfl (tyAt rfl) rfl (tyAt rfl) rfl rfl (by omega) (by omega) rfl ?_; exact ow_nil hq
    apply ak_one (i := 9)
    · kernel_rfl
    · rfl
    · rfl
    refine ow_store (i := 0) (o := 0 + z.toNat) (v := .int .i64 (l.getD z.toNat 0 + g.ws.getD i 0)) H (tyAt rfl) rfl rfl rfl rfl rfl (by simp; omega) (fun w H => ?_)
    dsimp only [List.set] at H
    rw [Nat.zero_add, intsI_set, ← hsn] at H
    refine ow_nil ⟨fun h => (by cases h), ?_⟩
    refine ak_done (by kernel_rfl) ?_
    refine wc_region ?_
    refine ow_add rfl rfl rfl (by simp only [InK]; omega) ?_
    (apply ow_move; (· rfl); (· ((conv => lhs; whnf) <;> rfl)))
    refine ow_nil ?_
    exact ⟨i + 1, by first | exact rfl | exact upd_self' rfl rfl | exact upd_self' rfl (upd_self' rfl rfl) | exact upd_self' rfl (upd_self' rfl (upd_self' rfl rfl)) | exact upd_self' rfl (upd_self' rfl (upd_self' rfl (upd_self' rfl rfl))), by repeat (first | with_reducible exact Off.mix | with_reducible exact Off.refl | ((with_reducible refine Off.upd ?_ ?_); (· rfl))), ⟨rfl, hlt, by rw [hl']; exact H⟩, by omega⟩
  · have hi' : i = p.length := by omega
    subst hi'
    refine wc_exit ?_
    refine wc_seq ?_
    refine wc_region ?_
    (apply ow_move; (· rfl); (· ((conv => lhs; whnf) <;> rfl)))
    (apply ow_assign; (· rfl); (· ((conv => lhs; whnf) <;> rfl)))
    refine ow_nil ?_
    refine wc_ret ?_
    obtain ⟨w, hT, H⟩ := H.takes Try.prog
    refine ⟨.inr rfl, w, hT, _, .tmp .nil, ?_⟩
    exact .inr ⟨hR, bo, rfl, H⟩
end Go.Proofs.Ytpbknokakooekaa

