/- Parts: what is good in the document, and alive of the statements. -/
import Derived.Test.YtnkjhmfliinnoaaE8
import Derived.Test.YtnkjhmfliinnoaaEG
import Derived.Test.YtnkjhmfliinnoaaD9
import Derived.Test.YtnkjhmfliinnoaaB14
namespace Go.Proofs.Ytnkjhmfliinnoaa
set_option linter.all false
open Go Go.Sx Go.Proofs
set_option maxRecDepth 100000
set_option maxHeartbeats 2000000
instance (ws : List Int) (k : Nat) (p : List Int) : Decidable (goodM ws k p) := by unfold goodM; infer_instance
instance (ws p : List Int) (k : Int) : Decidable (goodB ws p k) := by unfold goodB; infer_instance
theorem good_spec (x : RX) (rows : List RowR) (p : List Int) (q : Option Addr) (c : Nat) (k : Int) (hm : p.length ≤ 1000000) (h4 : x.ws.length ≤ 4096) (hmay : ∀ z ∈ x.ws, mayW z) (w0 : World) (hR : Rf (hp w0) x rows) (hs : SlH (hp w0) q (ints .i64 p)) :
    CallsV Try.prog 46 #[.agg ⟨rfV x rows⟩, .slice q p.length c, .int .i64 k] w0 fun v w => v = .bool (decide (goodB x.ws p k)) ∧ St Pu w0 w [] [] := by
  refine callsV_of Try.func46 rfl rfl ?_
  have H := St.init w0
  refine wc_seq ?_
  refine wc_region ?_
  refine ow_box (l := rfV x rows) H rfl rfl rfl (fun b3 w H => ?_)
  (apply ow_assign; (· rfl); (· ((conv => lhs; whnf) <;> rfl)))
  refine ow_nil ?_
  refine wc_seq ?_
  refine wc_seq ?_
  refine wc_region ?_
  refine ow_loadA (l := rfV x rows) rfl (tyAt rfl) rfl rfl rfl (H.cells (i := 0) (o := 0) (m := 2) rfl rfl) ?_
  (apply ow_move; (· rfl); (· ((conv => lhs; whnf) <;> rfl)))
  (apply ow_move; (· rfl); (· ((conv => lhs; whnf) <;> rfl)))
  refine ow_call rfl rfl (ent (by kernel_rfl)) (CallsV.mono (refRight9_spec x rows p q c k (by omega) h4 _ (H.oldSl hs)) ?_) rfl
  rintro v w ⟨rfl, H'⟩
  replace H : St Pu w0 w [.row b3 81 (rfV x rows)] [] := H.call H'
  clear H'
  by_cases hC : ¬ CutR x.ws.length p k
  · rw [decide_eq_false hC]
    refine ow_not rfl rfl ?_
    refine ow_nil ?_
    refine wc_cond_true rfl ?_
    refine wc_seq ?_
    refine wc_region ?_
    (apply ow_assign; (· rfl); (· ((conv => lhs; whnf) <;> rfl)))
    refine ow_nil ?_
    refine wc_ret ?_
    obtain ⟨w, hT, H⟩ := H.takes Try.prog
    refine ⟨.inr rfl, w, hT, _, .tmp .nil, ?_⟩
    exact ⟨congrArg Value.bool (decide_eq_false (show ¬ goodB x.ws p k from fun h => hC h.1)).symm, H.none⟩
  replace hC := Decidable.of_not_not hC
  rw [decide_eq_true hC]
  have hk := hC.1
  unfold mayK at hk
  obtain ⟨kn, rfl⟩ : ∃ kn : Nat, k = (kn : Int) := ⟨k.toNat, by omega⟩
  have hgB : goodB x.ws p (kn : Int) ↔ goodM x.ws kn p := by unfold goodB; rw [Int.toNat_natCast]; exact ⟨fun h => h.2, fun h => ⟨hC, h⟩⟩
  rw [show decide (goodB x.ws p (kn : Int)) = decide (goodM x.ws kn p) from decide_eq_decide.2 hgB]
  refine ow_not rfl rfl ?_
  refine ow_nil ?_
  refine wc_cond_false rfl ?_
  refine wc_skip ?_
  refine wc_seq ?_
  refine wc_region ?_
  refine ow_loadA (l := rfV x rows) rfl (tyAt rfl) rfl rfl rfl (H.cells (i := 0) (o := 0) (m := 2) rfl rfl) ?_
  (apply ow_move; (· rfl); (· ((conv => lhs; whnf) <;> rfl)))
  refine ow_call rfl rfl (ent (by kernel_rfl)) (CallsV.mono (refBound_spec x rows (kn : Int) h4 hmay hC.1 _ (Rf.old H hR)) ?_) rfl
  rintro v w ⟨rfl, H'⟩
  replace H : St Pu w0 w [.row b3 81 (rfV x rows)] [] := H.call H'
  clear H'
  (apply ow_assign; (· rfl); (· ((conv => lhs; whnf) <;> rfl)))
  refine ow_nil ?_
  refine wc_seq ?_
  refine wc_region ?_
  refine ow_loadA (l := rfV x rows) rfl (tyAt rfl) rfl rfl rfl (H.cells (i := 0) (o := 0) (m := 2) rfl rfl) ?_
  (apply ow_move; (· rfl); (· ((conv => lhs; whnf) <;> rfl)))
  (apply ow_move; (· rfl); (· ((conv => lhs; whnf) <;> rfl)))
  refine ow_call rfl rfl (ent (by kernel_rfl)) (CallsV.mono (refWeights9_spec x rows p q c kn h4 hmay hC _ (Rf.old H hR) (H.oldSl hs)) ?_) rfl
  rintro v w ⟨bw, rfl, H'⟩
  replace H : St Pu w0 w [.row bw 2 (ints .i64 (wtL x.ws p kn p.length)), .row b3 81 (rfV x rows)] [] := H.call H'
  clear H'
  have hwl := wtL_len x.ws p kn p.length
  (apply ow_assign; (· rfl); (· ((conv => lhs; whnf) <;> rfl)))
  refine ow_nil ?_
  refine wc_seq ?_
  refine wc_seq ?_
  refine wc_region ?_
  (apply ow_assign; (· rfl); (· ((conv => lhs; whnf) <;> rfl)))
  refine ow_nil ?_
  refine wc_block ?_
  refine wc_loopS [6, 9, 22, 23, 24, 25, 26, 27, 28, 29, 30, 31, 32] (fun (s : Nat) e => upd e 9 (.int .i64 s)) (fun s D w => D = [] ∧ s ≤ kn ∧ (∀ c, c < s → wtAt x.ws p c p.length ≤ boundV x.ws (kn : Int)) ∧ St Pu w0 w [.row bw 2 (ints .i64 (wtL x.ws p kn p.length)), .row b3 81 (rfV x rows)] []) (fun s _ => kn - s) 0 (by first | exact rfl | exact upd_self' rfl rfl | exact upd_self' rfl (upd_self' rfl rfl) | exact upd_self' rfl (upd_self' rfl (upd_self' rfl rfl)) | exact upd_self' rfl (upd_self' rfl (upd_self' rfl (upd_self' rfl rfl)))) ⟨rfl, Nat.zero_le _, (fun c hc => absurd hc (Nat.not_lt_zero _)), H⟩ ?_
  clear H
  rintro i j D w ⟨rfl, hi, hall, H⟩
  refine wc_seq ?_
  refine wc_seq ?_
  refine wc_region ?_
  (apply ow_move; (· rfl); (· ((conv => lhs; whnf) <;> rfl)))
  (apply ow_move; (· rfl); (· ((conv => lhs; whnf) <;> rfl)))
  refine ow_lss rfl rfl rfl ?_
  refine ow_nil ?_
  refine wc_cond_dec rfl (fun h => ?_) (fun h => ?_) <;> try dsimp only at h
  · have hlt : i < kn := by omega
    clear h
    refine wc_skip ?_
    refine wc_seq ?_
    refine wc_block ?_
    refine wc_seq ?_
    refine wc_region ?_
    (apply ow_move; (· rfl); (· ((conv => lhs; whnf) <;> rfl)))
    (apply ow_move; (· rfl); (· ((conv => lhs; whnf) <;> rfl)))
    refine ow_idx1 (j := i) rfl (tyAt rfl) rfl (tyAt rfl) rfl rfl rfl hlt rfl ?_
    refine ow_load rfl (tyAt rfl) rfl rfl (SlH.int (H.rowSl (i := 0) rfl) (by omega)) ?_
    rw [wtL_at hlt]
    (apply ow_move; (· rfl); (· ((conv => lhs; whnf) <;> rfl)))
    refine ow_gtr rfl rfl rfl ?_
    refine ow_nil ?_
    refine wc_cond_dec rfl (fun h => ?_) (fun h => ?_) <;> try dsimp only at h
    · refine wc_seq ?_
      refine wc_region ?_
      (apply ow_assign; (· rfl); (· ((conv => lhs; whnf) <;> rfl)))
      refine ow_nil ?_
      refine wc_ret ?_
      obtain ⟨w, hT, H⟩ := H.takes Try.prog
      refine ⟨.inr rfl, w, hT, _, .tmp .nil, ?_⟩
      exact ⟨congrArg Value.bool (decide_eq_false (show ¬ goodM x.ws kn p from fun h' => by have := h'.1 i hlt; omega)).symm, H.none⟩
    · refine wc_skip ?_
      refine wc_region ?_
      (apply ow_move; (· rfl); (· ((conv => lhs; whnf) <;> rfl)))
      refine ow_add rfl rfl rfl (by simp only [InK]; omega) ?_
      (apply ow_assign; (· rfl); (· ((conv => lhs; whnf) <;> rfl)))
      refine ow_nil ?_
      exact ⟨i + 1, by first | exact rfl | exact upd_self' rfl rfl | exact upd_self' rfl (upd_self' rfl rfl) | exact upd_self' rfl (upd_self' rfl (upd_self' rfl rfl)) | exact upd_self' rfl (upd_self' rfl (upd_self' rfl (upd_self' rfl rfl))), by repeat (first | with_reducible exact Off.mix | with_reducible exact Off.refl | ((with_reducible refine Off.upd ?_ ?_); (· rfl))), ⟨rfl, hlt, fun c hc => by
        by_cases hci : c = i
        · subst hci; omega
        · exact hall c (by omega), H⟩, by omega⟩
  have hi' : i = kn := by omega
  subst hi'
  clear h
  refine wc_exit ?_
  refine wc_seq ?_
  refine wc_region ?_
  (apply ow_move; (· rfl); (· ((conv => lhs; whnf) <;> rfl)))
  refine ow_len rfl rfl (tyAt rfl) rfl ?_
  (apply ow_move; (· rfl); (· ((conv => lhs; whnf) <;> rfl)))
  refine ow_lss rfl rfl rfl ?_
  (apply ow_move; (· rfl); (· ((conv => lhs; whnf) <;> rfl)))
  refine ow_guard_dec rfl rfl rfl (fun h => ?_) (fun h => ?_) <;> try dsimp only at h
  · refine ow_guard_no rfl rfl rfl rfl rfl rfl rfl ?_
    refine ow_guard_no rfl rfl rfl rfl rfl rfl rfl ?_
    refine ow_guard_no rfl rfl rfl rfl rfl rfl rfl ?_
    refine ow_guard_no rfl rfl rfl rfl rfl rfl rfl ?_
    refine ow_guard_no rfl rfl rfl rfl rfl rfl rfl ?_
    (apply ow_pick_t; (· rfl); (· rfl); (· ((conv => lhs; whnf) <;> rfl)))
    (apply ow_assign; (· rfl); (· ((conv => lhs; whnf) <;> rfl)))
    refine ow_nil ?_
    refine wc_ret ?_
    obtain ⟨w, hT, H⟩ := H.takes Try.prog
    refine ⟨.inr rfl, w, hT, _, .tmp .nil, ?_⟩
    exact ⟨congrArg Value.bool (decide_eq_true (show goodM x.ws i p from ⟨hall, .inl (by omega)⟩)).symm, H.none⟩
  have hge : ¬ p.length < i := by omega
  clear h
  have hem := emU_nil (p := p) i
  refine ow_guard_yes rfl rfl rfl rfl ?_
  (apply ow_move; (· rfl); (· ((conv => lhs; whnf) <;> rfl)))
  refine ow_guard_yes rfl rfl rfl rfl ?_
  (apply ow_move; (· rfl); (· ((conv => lhs; whnf) <;> rfl)))
  refine ow_guard_yes rfl rfl rfl rfl ?_
  refine ow_call rfl rfl (ent (by kernel_rfl)) (CallsV.mono (refEmpty_spec p q c (i : Int) hm (by omega) _ (H.oldSl hs)) ?_) rfl
  rintro v w ⟨q1, c1, rfl, H'⟩
  replace H := H.call H'
  rw [Int.toNat_natCast]
  have hel := emU_len p i
  refine ow_guard_yes rfl rfl rfl rfl ?_
  refine ow_len rfl rfl (tyAt rfl) rfl ?_
  refine ow_guard_yes rfl rfl rfl rfl ?_
  refine ow_eql rfl rfl rfl ?_
  (apply ow_pick_f; (· rfl); (· rfl); (· ((conv => lhs; whnf) <;> rfl)))
  (apply ow_assign; (· rfl); (· ((conv => lhs; whnf) <;> rfl)))
  refine ow_nil ?_
  refine wc_ret ?_
  obtain ⟨w, hT, H⟩ := H.takes Try.prog
  refine ⟨.inr rfl, w, hT, _, .tmp .nil, ?_⟩
  refine ⟨congrArg Value.bool (decide_eq_decide.2 ?_), H.none⟩
  show (((emU p i).length : Nat) : Int) = 0 ↔ _
  constructor
  · exact fun h => ⟨hall, .inr (hem.1 (by omega))⟩
  · rintro ⟨_, h2⟩
    have := hem.2 (h2.resolve_left hge)
    omega
theorem mendNo_spec (g : GX) (ms : List MpT) (p0 : List Int) (q : Option Addr) (c : Nat) (k : Int) (hm : p0.length ≤ 1000000) (hR : ¬ CutR g.ws.length p0 k) (w0 : World) (hG : Gr (hp w0) g ms) (hs : SlH (hp w0) q (ints .i64 p0)) :
    CallsV Try.prog 47 #[.pointer (some ⟨g.b, 0, none⟩), .slice q p0.length c, .int .i64 k] w0 fun v w => v = .tuple #[.slice none 0 0, .int .i64 1] ∧ St Pu w0 w [] [] := by
  refine callsV_of Try.func47 rfl rfl ?_
  have H := St.init w0
  refine wc_seq ?_
  refine wc_region ?_
  (apply ow_assign; (· rfl); (· ((conv => lhs; whnf) <;> rfl)))
  (apply ow_assign; (· rfl); (· ((conv => lhs; whnf) <;> rfl)))
  refine ow_nil ?_
  refine wc_seq ?_
  refine wc_seq ?_
  refine wc_region ?_
  (apply ow_move; (· rfl); (· ((conv => lhs; whnf) <;> rfl)))
  (apply ow_move; (· rfl); (· ((conv => lhs; whnf) <;> rfl)))
  (apply ow_move; (· rfl); (· ((conv => lhs; whnf) <;> rfl)))
  refine ow_call rfl rfl (ent (by kernel_rfl)) (CallsV.mono (cutRight_spec g ms p0 q c k (by omega) w0 hG hs) ?_) rfl
  rintro v w ⟨rfl, H'⟩
  replace H := H.call H'
  rw [List.nil_append] at H
  clear H'
  rw [decide_eq_false hR]
  refine ow_not rfl rfl ?_
  refine ow_nil ?_
  refine wc_cond_true rfl ?_
  refine wc_seq ?_
  refine wc_region ?_
  (apply ow_assign; (· rfl); (· ((conv => lhs; whnf) <;> rfl)))
  (apply ow_assign; (· rfl); (· ((conv => lhs; whnf) <;> rfl)))
  refine ow_nil ?_
  refine wc_ret ?_
  obtain ⟨w, hT, H⟩ := H.takes Try.prog
  refine ⟨.inr rfl, w, hT, _, .tmp (.tmp .nil), ?_⟩
  exact ⟨rfl, H⟩
end Go.Proofs.Ytnkjhmfliinnoaa

