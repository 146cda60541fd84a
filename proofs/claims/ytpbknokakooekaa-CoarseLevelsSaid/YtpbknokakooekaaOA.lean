/- The document's: In, Lift. -/
import Derived.Test.YtpbknokakooekaaO2
import Derived.Test.YtpbknokakooekaaN9
namespace Go.Proofs.Ytpbknokakooekaa
set_option linter.all false
open Go Go.Sx Go.Proofs
set_option maxRecDepth 100000
set_option maxHeartbeats 2000000
theorem refIn_spec (ws m : List Int) (q : Option Addr) (c : Nat) (hm : m.length ≤ 1000000) (hR : RightP m) (w0 : World) (hs : SlH (hp w0) q (ints .i64 m)) :
    CallsV Try.prog 84 #[.slice q m.length c] w0 fun v w => ∃ q1 c1, v = .tuple #[.slice q1 m.length c1, .int .i64 ((nwL m ws).length : Nat)] ∧ St Pu w0 w [.app q1 m.length c1 3 1 (ints .i64 (inL m ws))] [] := by
  refine callsV_of Try.func84 rfl rfl ?_
  have H := St.init w0
  have hinv := fun i (hi : i ≤ m.length) => nmb_inv (ws := ws) hR i hi
  unfold nwL inL
  refine wc_seq ?_
  refine wc_region ?_
  (apply ow_assign; (· rfl); (· ((conv => lhs; whnf) <;> rfl)))
  (apply ow_assign; (· rfl); (· ((conv => lhs; whnf) <;> rfl)))
  refine ow_nil ?_
  refine wc_seq ?_
  refine wc_region ?_
  refine ow_buildSlice0 H rfl (tyAt rfl) rfl (tyAt rfl) (fun b1 w H => ?_)
  replace H := H.rowApp (i := 0) (len := 0) (sz := 1) rfl rfl (by omega)
  dsimp only [List.set] at H
  (apply ow_assign; (· rfl); (· ((conv => lhs; whnf) <;> rfl)))
  refine ow_nil ?_
  refine wc_seq ?_
  refine wc_region ?_
  (apply ow_assign; (· rfl); (· ((conv => lhs; whnf) <;> rfl)))
  refine ow_nil ?_
  refine wc_seq ?_
  refine wc_seq ?_
  refine wc_region ?_
  (apply ow_assign; (· rfl); (· ((conv => lhs; whnf) <;> rfl)))
  refine ow_nil ?_
  refine wc_block ?_
  refine wc_loopS [4, 5, 6, 8, 9, 10, 11, 12, 13, 14, 15, 16, 17, 18, 19, 20, 21, 22, 23, 24, 25, 26, 27, 28, 29, 30, 31, 32, 33, 34, 35] (fun (s : Nat × Option Addr × Nat) e => upd (upd (upd e 4 (.slice s.2.1 s.1 s.2.2)) 5 (.int .i64 ((nmb m ws s.1).2.length : Nat))) 6 (.int .i64 s.1)) (fun s D w => D = [] ∧ s.1 ≤ m.length ∧ St Pu w0 w [.app s.2.1 s.1 s.2.2 3 1 (ints .i64 (nmb m ws s.1).1)] []) (fun s _ => m.length - s.1) (0, some ⟨b1, 0, none⟩, 0) (by first | exact rfl | exact upd_self' rfl rfl | exact upd_self' rfl (upd_self' rfl rfl) | exact upd_self' rfl (upd_self' rfl (upd_self' rfl rfl)) | exact upd_self' rfl (upd_self' rfl (upd_self' rfl (upd_self' rfl rfl)))) ⟨rfl, Nat.zero_le _, H⟩ ?_
  clear H
  rintro ⟨i, p, cp⟩ j D w ⟨rfl, hi, H⟩
  dsimp only at hi H ⊢
  have hI := hinv i hi
  have hsn : nmb m ws (i + 1) = if m.getD i 0 < (i : Int) then ((nmb m ws i).1 ++ [(nmb m ws i).1.getD (m.getD i 0).toNat 0], (nmb m ws i).2.set ((nmb m ws i).1.getD (m.getD i 0).toNat 0).toNat ((nmb m ws i).2.getD ((nmb m ws i).1.getD (m.getD i 0).toNat 0).toNat 0 + ws.getD i 0))
    else ((nmb m ws i).1 ++ [((nmb m ws i).2.length : Int)], (nmb m ws i).2 ++ [ws.getD i 0]) := rfl
  generalize hsd : nmb m ws i = S at *
  obtain ⟨a, v⟩ := S
  dsimp only at hI hsn H ⊢
  have hal := hI.len
  have hvl := hI.vlen
  refine wc_seq ?_
  refine wc_seq ?_
  refine wc_region ?_
  (apply ow_move; (· rfl); (· ((conv => lhs; whnf) <;> rfl)))
  (apply ow_move; (· rfl); (· ((conv => lhs; whnf) <;> rfl)))
  refine ow_len rfl rfl (tyAt rfl) rfl ?_
  refine ow_lss rfl rfl rfl ?_
  refine ow_nil ?_
  refine wc_cond_dec rfl (fun h => ?_) (fun h => ?_) <;> try dsimp only at h
  · have hlt : i < m.length := by omega
    clear h
    have hok := hR i (by omega)
    have hok0 := hok.1
    have hok1 := hok.2.1
    have hsx := hs
    obtain ⟨bq, oq, rfl⟩ := hs.some_of (by simp; omega)
    have hln : (nmb m ws (i + 1)).2.length = if m.getD i 0 < (i : Int) then v.length else v.length + 1 := by
      rw [hsn]
      split
      · dsimp only; rw [List.length_set]
      · dsimp only; rw [List.length_append]; rfl
    refine wc_skip ?_
    refine wc_seq ?_
    refine wc_block ?_
    refine wc_seq ?_
    refine wc_region ?_
    (apply ow_move; (· rfl); (· ((conv => lhs; whnf) <;> rfl)))
    (apply ow_move; (· rfl); (· ((conv => lhs; whnf) <;> rfl)))
    refine ow_idx1 (j := i) rfl (tyAt rfl) rfl (tyAt rfl) rfl rfl rfl hlt rfl ?_
    refine ow_load rfl (tyAt rfl) rfl rfl ((H.oldSl hsx).int (by omega)) ?_
    obtain ⟨mi, hmid⟩ : ∃ mi, m.getD i 0 = mi := ⟨_, rfl⟩
    rw [hmid] at hok0 hok1 hsn hln ⊢
    (apply ow_move; (· rfl); (· ((conv => lhs; whnf) <;> rfl)))
    refine ow_lss rfl rfl rfl ?_
    refine ow_nil ?_
    refine wc_cond_dec rfl (fun h => ?_) (fun h => ?_) <;> try dsimp only at h
    · rw [if_pos h] at hsn hln
      have hmi : mi.toNat < i := by omega
      obtain ⟨bp, rfl⟩ : ∃ g, p = some ⟨g, 0, none⟩ := appOk.some (H.cap (i := 0) rfl) (by simp; omega)
      refine wc_region ?_
      (apply ow_move; (· rfl); (· ((conv => lhs; whnf) <;> rfl)))
      (apply ow_move; (· rfl); (· ((conv => lhs; whnf) <;> rfl)))
      (apply ow_move; (· rfl); (· ((conv => lhs; whnf) <;> rfl)))
      (apply ow_move; (· rfl); (· ((conv => lhs; whnf) <;> rfl)))
      refine ow_idx1 (j := i) rfl (tyAt rfl) rfl (tyAt rfl) rfl rfl rfl hlt rfl ?_
      refine ow_load rfl (tyAt rfl) rfl rfl ((H.oldSl hsx).int (by omega)) ?_
      rw [hmid]
      skip
      refine ow_idx1 (j := mi.toNat) rfl (tyAt rfl) rfl (tyAt rfl) rfl rfl (by omega) (by omega) rfl ?_
      refine ow_load rfl (tyAt rfl) rfl rfl (SlH.int (appOk.sl (H.cap (i := 0) rfl)) (by omega)) ?_
      skip
      refine ow_buildSlice1 (vs := [.int .i64 (a.getD mi.toNat 0)]) H rfl (tyAt rfl) rfl (tyAt rfl) rfl rfl rfl rfl rfl (by simp [Value.one]) (fun ea w H => ?_)
      refine ow_append (i := 1) H rfl rfl (tyAt rfl) rfl (tyAt rfl) rfl (by decide) rfl rfl (H.rowSl (i := 0) rfl) rfl (by simp [Value.oneCell']) (by dsimp only; omega) (by omega) (fun p1 d1 w H => ?_)
      simp only [List.cons_append, List.nil_append, List.set] at H
      replace H := H.drop
      rw [← ints_snoc1] at H
      (apply ow_assign; (· rfl); (· ((conv => lhs; whnf) <;> rfl)))
      refine ow_nil ?_
      refine wc_region ?_
      (apply ow_move; (· rfl); (· ((conv => lhs; whnf) <;> rfl)))
      refine ow_add rfl rfl rfl (by simp only [InK]; omega) ?_
      (apply ow_assign; (· rfl); (· ((conv => lhs; whnf) <;> rfl)))
      refine ow_nil ?_
      refine ⟨(i + 1, p1, d1), ?_, by repeat (first | with_reducible exact Off.mix | with_reducible exact Off.refl | ((with_reducible refine Off.upd ?_ ?_); (· rfl))), ⟨rfl, hlt, by rw [hsn]; exact H⟩, by dsimp only; omega⟩
      dsimp only
      rw [hln]
      first | exact rfl | exact upd_self' rfl rfl | exact upd_self' rfl (upd_self' rfl rfl) | exact upd_self' rfl (upd_self' rfl (upd_self' rfl rfl)) | exact upd_self' rfl (upd_self' rfl (upd_self' rfl (upd_self' rfl rfl)))
    · rw [if_neg h] at hsn hln
      refine wc_seq ?_
      refine wc_region ?_
      (apply ow_move; (· rfl); (· ((conv => lhs; whnf) <;> rfl)))
      (apply ow_move; (· rfl); (· ((conv => lhs; whnf) <;> rfl)))
      refine ow_buildSlice1 (vs := [.int .i64 ((v.length : Int))]) H rfl (tyAt rfl) rfl (tyAt rfl) rfl rfl rfl rfl rfl (by simp [Value.one]) (fun ea w H => ?_)
      refine ow_append (i := 1) H rfl rfl (tyAt rfl) rfl (tyAt rfl) rfl (by decide) rfl rfl (H.rowSl (i := 0) rfl) rfl (by simp [Value.oneCell']) (by dsimp only; omega) (by omega) (fun p1 d1 w H => ?_)
      simp only [List.cons_append, List.nil_append, List.set] at H
      replace H := H.drop
      rw [← ints_snoc1] at H
      (apply ow_assign; (· rfl); (· ((conv => lhs; whnf) <;> rfl)))
      refine ow_nil ?_
      refine wc_region ?_
      (apply ow_move; (· rfl); (· ((conv => lhs; whnf) <;> rfl)))
      refine ow_add rfl rfl rfl (by simp only [InK]; omega) ?_
      (apply ow_assign; (· rfl); (· ((conv => lhs; whnf) <;> rfl)))
      refine ow_nil ?_
      refine wc_region ?_
      (apply ow_move; (· rfl); (· ((conv => lhs; whnf) <;> rfl)))
      refine ow_add rfl rfl rfl (by simp only [InK]; omega) ?_
      (apply ow_assign; (· rfl); (· ((conv => lhs; whnf) <;> rfl)))
      refine ow_nil ?_
      refine ⟨(i + 1, p1, d1), ?_, by repeat (first | with_reducible exact Off.mix | with_reducible exact Off.refl | ((with_reducible refine Off.upd ?_ ?_); (· rfl))), ⟨rfl, hlt, by rw [hsn]; exact H⟩, by dsimp only; omega⟩
      dsimp only
      rw [hln]
      first | exact rfl | exact upd_self' rfl rfl | exact upd_self' rfl (upd_self' rfl rfl) | exact upd_self' rfl (upd_self' rfl (upd_self' rfl rfl)) | exact upd_self' rfl (upd_self' rfl (upd_self' rfl (upd_self' rfl rfl)))
  · have hi' : i = m.length := by omega
    subst hi'
    rw [hsd]
    refine wc_exit ?_
    refine wc_seq ?_
    refine wc_region ?_
    (apply ow_move; (· rfl); (· ((conv => lhs; whnf) <;> rfl)))
    (apply ow_move; (· rfl); (· ((conv => lhs; whnf) <;> rfl)))
    (apply ow_assign; (· rfl); (· ((conv => lhs; whnf) <;> rfl)))
    (apply ow_assign; (· rfl); (· ((conv => lhs; whnf) <;> rfl)))
    refine ow_nil ?_
    refine wc_ret ?_
    obtain ⟨w, hT, H⟩ := H.takes Try.prog
    refine ⟨.inr rfl, w, hT, _, .tmp (.tmp .nil), ?_⟩
    exact ⟨p, cp, rfl, H⟩
theorem refLift_spec (p a : List Int) (q q2 : Option Addr) (c c2 : Nat) (hpl : p.length ≤ 1000000) (hal : a.length ≤ 1000000) (w0 : World) (hs : SlH (hp w0) q (ints .i64 p)) (hs2 : SlH (hp w0) q2 (ints .i64 a)) :
    CallsV Try.prog 38 #[.slice q p.length c, .slice q2 a.length c2] w0 fun v w => (¬ liftOk p a ∧ v = .tuple #[.slice none 0 0, .bool false] ∧ St Pu w0 w [] []) ∨ (liftOk p a ∧ ∃ q1 c1, v = .tuple #[.slice q1 a.length c1, .bool true] ∧ St Pu w0 w [.app q1 a.length c1 3 1 (ints .i64 (liftL p a))] []) := by
  refine callsV_of Try.func38 rfl rfl ?_
  have H := St.init w0
  have hll : (liftL p a).length = a.length := by unfold liftL; rw [List.length_map]
  refine wc_seq ?_
  refine wc_region ?_
  (apply ow_assign; (· rfl); (· ((conv => lhs; whnf) <;> rfl)))
  (apply ow_assign; (· rfl); (· ((conv => lhs; whnf) <;> rfl)))
  refine ow_nil ?_
  refine wc_seq ?_
  refine wc_region ?_
  refine ow_buildSlice0 H rfl (tyAt rfl) rfl (tyAt rfl) (fun b1 w H => ?_)
  replace H := H.rowApp (i := 0) (len := 0) (sz := 1) rfl rfl (by omega)
  dsimp only [List.set] at H
  (apply ow_assign; (· rfl); (· ((conv => lhs; whnf) <;> rfl)))
  refine ow_nil ?_
  refine wc_seq ?_
  refine wc_seq ?_
  refine wc_region ?_
  (apply ow_assign; (· rfl); (· ((conv => lhs; whnf) <;> rfl)))
  refine ow_nil ?_
  refine wc_block ?_
  refine wc_loopS [4, 5, 6, 7, 9, 10, 11, 12, 13, 14, 15, 16, 17, 18, 19, 20, 21, 22, 23, 24, 25, 26, 27, 28, 29, 30, 31, 32, 33, 34, 35, 36, 37, 38] (fun (s : Nat × Option Addr × Nat) e => upd (upd e 6 (.slice s.2.1 s.1 s.2.2)) 7 (.int .i64 s.1)) (fun s D w => D = [] ∧ s.1 ≤ a.length ∧ (∀ j, j < s.1 → inR p.length (a.getD j 0)) ∧ St Pu w0 w [.app s.2.1 s.1 s.2.2 3 1 (ints .i64 ((liftL p a).take s.1))] []) (fun s _ => a.length - s.1) (0, some ⟨b1, 0, none⟩, 0) (by first | exact rfl | exact upd_self' rfl rfl | exact upd_self' rfl (upd_self' rfl rfl) | exact upd_self' rfl (upd_self' rfl (upd_self' rfl rfl)) | exact upd_self' rfl (upd_self' rfl (upd_self' rfl (upd_self' rfl rfl)))) ⟨rfl, Nat.zero_le _, fun j hj => absurd hj (Nat.not_lt_zero _), H⟩ ?_
  clear H
  rintro ⟨i, po, cp⟩ j D w ⟨rfl, hi, hok, H⟩
  dsimp only at hi hok H ⊢
  refine wc_seq ?_
  refine wc_seq ?_
  refine wc_region ?_
  (apply ow_move; (· rfl); (· ((conv => lhs; whnf) <;> rfl)))
  (apply ow_move; (· rfl); (· ((conv => lhs; whnf) <;> rfl)))
  refine ow_len rfl rfl (tyAt rfl) rfl ?_
  refine ow_lss rfl rfl rfl ?_
  refine ow_nil ?_
  refine wc_cond_dec rfl (fun h => ?_) (fun h => ?_) <;> try dsimp only at h
  · have hlt : i < a.length := by omega
    clear h
    have hsx := hs2
    obtain ⟨bq, oq, rfl⟩ := hs2.some_of (by simp; omega)
    have hbad : ¬ inR p.length (a.getD i 0) → ¬ liftOk p a := fun h h' => h (h' i (by omega))
    have hla := liftL_at (q := p) (a := a) (j := i) (by omega)
    have htk : (liftL p a).take (i + 1) = (liftL p a).take i ++ [(liftL p a).getD i 0] := take_snoc (getD_some (by omega))
    have hok2 : inR p.length (a.getD i 0) → ∀ j, j < i + 1 → inR p.length (a.getD j 0) := fun h j hj => by
      rcases Nat.lt_or_ge j i with h1 | h1
      · exact hok j h1
      · rw [show j = i by omega]; exact h
    obtain ⟨ai, had⟩ : ∃ ai, a.getD i 0 = ai := ⟨_, rfl⟩
    rw [had] at hbad hla hok2
    refine wc_skip ?_
    refine wc_seq ?_
    refine wc_block ?_
    refine wc_seq ?_
    refine wc_seq ?_
    refine wc_region ?_
    (apply ow_move; (· rfl); (· ((conv => lhs; whnf) <;> rfl)))
    (apply ow_move; (· rfl); (· ((conv => lhs; whnf) <;> rfl)))
    refine ow_idx1 (j := i) rfl (tyAt rfl) rfl (tyAt rfl) rfl rfl rfl hlt rfl ?_
    refine ow_load rfl (tyAt rfl) rfl rfl ((H.oldSl hsx).int (by omega)) ?_
    rw [had]
    refine ow_lss rfl rfl rfl ?_
    (apply ow_move; (· rfl); (· ((conv => lhs; whnf) <;> rfl)))
    refine ow_guard_dec rfl rfl rfl (fun h => ?_) (fun h => ?_) <;> try dsimp only at h
    · refine ow_guard_no rfl rfl rfl rfl rfl rfl rfl ?_
      refine ow_guard_no rfl rfl rfl rfl rfl rfl rfl ?_
      refine ow_guard_no rfl rfl rfl rfl rfl rfl rfl ?_
      refine ow_guard_no rfl rfl rfl rfl rfl rfl rfl ?_
      refine ow_guard_no rfl rfl rfl rfl rfl rfl rfl ?_
      refine ow_guard_no rfl rfl rfl rfl rfl rfl rfl ?_
      refine ow_guard_no rfl rfl rfl rfl rfl rfl rfl ?_
      (apply ow_pick_t; (· rfl); (· rfl); (· ((conv => lhs; whnf) <;> rfl)))
      refine ow_nil ?_
      refine wc_cond_true rfl ?_
      refine wc_seq ?_
      refine wc_region ?_
      (apply ow_assign; (· rfl); (· ((conv => lhs; whnf) <;> rfl)))
      (apply ow_assign; (· rfl); (· ((conv => lhs; whnf) <;> rfl)))
      refine ow_nil ?_
      refine wc_ret ?_
      obtain ⟨w, hT, H⟩ := H.takes Try.prog
      refine ⟨.inr rfl, w, hT, _, .tmp (.tmp .nil), ?_⟩
      exact .inl ⟨hbad (fun h' => by have := h'.1; omega), rfl, H.none⟩
    have h0 := h
    clear h
    refine ow_guard_yes rfl rfl rfl rfl ?_
    (apply ow_move; (· rfl); (· ((conv => lhs; whnf) <;> rfl)))
    refine ow_guard_yes rfl rfl rfl rfl ?_
    (apply ow_move; (· rfl); (· ((conv => lhs; whnf) <;> rfl)))
    refine ow_guard_yes rfl rfl rfl rfl ?_
    refine ow_idx1 (j := i) rfl (tyAt rfl) rfl (tyAt rfl) rfl rfl rfl hlt rfl ?_
    refine ow_guard_yes rfl rfl rfl rfl ?_
    refine ow_load rfl (tyAt rfl) rfl rfl ((H.oldSl hsx).int (by omega)) ?_
    rw [had]
    refine ow_guard_yes rfl rfl rfl rfl ?_
    (apply ow_move; (· rfl); (· ((conv => lhs; whnf) <;> rfl)))
    refine ow_guard_yes rfl rfl rfl rfl ?_
    refine ow_len rfl rfl (tyAt rfl) rfl ?_
    refine ow_guard_yes rfl rfl rfl rfl ?_
    refine ow_geq rfl rfl rfl ?_
    (apply ow_pick_f; (· rfl); (· rfl); (· ((conv => lhs; whnf) <;> rfl)))
    refine ow_nil ?_
    refine wc_cond_dec rfl (fun h => ?_) (fun h => ?_) <;> try dsimp only at h
    · refine wc_seq ?_
      refine wc_region ?_
      (apply ow_assign; (· rfl); (· ((conv => lhs; whnf) <;> rfl)))
      (apply ow_assign; (· rfl); (· ((conv => lhs; whnf) <;> rfl)))
      refine ow_nil ?_
      refine wc_ret ?_
      obtain ⟨w, hT, H⟩ := H.takes Try.prog
      refine ⟨.inr rfl, w, hT, _, .tmp (.tmp .nil), ?_⟩
      exact .inl ⟨hbad (fun h' => by have := h'.2; omega), rfl, H.none⟩
    · have hr : inR p.length ai := ⟨by omega, by omega⟩
      clear h
      have hsp := hs
      obtain ⟨bp, op, rfl⟩ := hs.some_of (by simp; have := hr.1; have := hr.2; omega)
      have := hr.1
      have := hr.2
      refine wc_skip ?_
      refine wc_region ?_
      (apply ow_move; (· rfl); (· ((conv => lhs; whnf) <;> rfl)))
      (apply ow_move; (· rfl); (· ((conv => lhs; whnf) <;> rfl)))
      (apply ow_move; (· rfl); (· ((conv => lhs; whnf) <;> rfl)))
      (apply ow_move; (· rfl); (· ((conv => lhs; whnf) <;> rfl)))
      refine ow_idx1 (j := i) rfl (tyAt rfl) rfl (tyAt rfl) rfl rfl rfl hlt rfl ?_
      refine ow_load rfl (tyAt rfl) rfl rfl ((H.oldSl hsx).int (by omega)) ?_
      rw [had]
      skip
      refine ow_idx1 (j := ai.toNat) rfl (tyAt rfl) rfl (tyAt rfl) rfl rfl (by omega) (by omega) rfl ?_
      refine ow_load rfl (tyAt rfl) rfl rfl ((H.oldSl hsp).int (by omega)) ?_
      rw [← hla]
      skip
      refine ow_buildSlice1 (vs := [.int .i64 ((liftL p a).getD i 0)]) H rfl (tyAt rfl) rfl (tyAt rfl) rfl rfl rfl rfl rfl (by simp [Value.one]) (fun ea w H => ?_)
      refine ow_append (i := 1) H rfl rfl (tyAt rfl) rfl (tyAt rfl) rfl (by decide) rfl rfl (H.rowSl (i := 0) rfl) rfl (by simp [Value.oneCell']) (by dsimp only; omega) (by omega) (fun p1 d1 w H => ?_)
      simp only [List.cons_append, List.nil_append, List.set] at H
      replace H := H.drop
      rw [← ints_snoc1] at H
      rw [← htk] at H
      (apply ow_assign; (· rfl); (· ((conv => lhs; whnf) <;> rfl)))
      refine ow_nil ?_
      refine wc_region ?_
      (apply ow_move; (· rfl); (· ((conv => lhs; whnf) <;> rfl)))
      refine ow_add rfl rfl rfl (by simp only [InK]; omega) ?_
      (apply ow_assign; (· rfl); (· ((conv => lhs; whnf) <;> rfl)))
      refine ow_nil ?_
      exact ⟨(i + 1, p1, d1), by first | exact rfl | exact upd_self' rfl rfl | exact upd_self' rfl (upd_self' rfl rfl) | exact upd_self' rfl (upd_self' rfl (upd_self' rfl rfl)) | exact upd_self' rfl (upd_self' rfl (upd_self' rfl (upd_self' rfl rfl))), by repeat (first | with_reducible exact Off.mix | with_reducible exact Off.refl | ((with_reducible refine Off.upd ?_ ?_); (· rfl))), ⟨rfl, hlt, hok2 hr, H⟩, by dsimp only; omega⟩
  · have hi' : i = a.length := by omega
    subst hi'
    rw [List.take_of_length_le (by omega)] at H
    refine wc_exit ?_
    refine wc_seq ?_
    refine wc_region ?_
    (apply ow_move; (· rfl); (· ((conv => lhs; whnf) <;> rfl)))
    (apply ow_assign; (· rfl); (· ((conv => lhs; whnf) <;> rfl)))
    (apply ow_assign; (· rfl); (· ((conv => lhs; whnf) <;> rfl)))
    refine ow_nil ?_
    refine wc_ret ?_
    obtain ⟨w, hT, H⟩ := H.takes Try.prog
    refine ⟨.inr rfl, w, hT, _, .tmp (.tmp .nil), ?_⟩
    exact .inr ⟨fun j hj => hok j (by omega), po, cp, rfl, H⟩
end Go.Proofs.Ytpbknokakooekaa

