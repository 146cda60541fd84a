/- The statement's function 'sandtabletop.WholeSplits' returns true at every input, and changes nothing that was there. -/
import Derived.Test.YtnkjhmfliinnoaaW1
import Derived.Test.YtnkjhmfliinnoaaK19
namespace Go.Proofs.Ytnkjhmfliinnoaa
set_option linter.all false
open Go Go.Sx Go.Proofs
set_option maxRecDepth 100000
set_option maxHeartbeats 2000000
def snM (p : List Int) : Nat → IB
  | 0 => []
  | s + 1 => putM (snM p s) (p.getD s 0) true
theorem snM_is (p : List Int) (c : Nat) : ∀ s, ((lookM (snM p s) (c : Int)).isSome = true ↔ cnAt p c s ≠ 0)
  | 0 => by constructor <;> intro h <;> simp [snM, lookM, cnAt, sumN] at h
  | s + 1 => by
    have ih := snM_is p c s
    have e : cnAt p c (s + 1) = cnAt p c s + (if p.getD s 0 = (c : Int) then 1 else 0) := by unfold cnAt; rw [sumN_succ]
    have h0 := (cnAt_in p c s).1
    rw [snM, lookM_put, e]
    by_cases h : p.getD s 0 = (c : Int)
    · rw [if_pos h, if_pos h]
      exact ⟨fun _ => by omega, fun _ => rfl⟩
    · rw [if_neg h, if_neg h, Int.add_zero]
      exact ih
theorem snM_len {p : List Int} {k : Nat} : ∀ s, (∀ i, i < s → ¬ badP (k : Int) (p.getD i 0)) → ((snM p s).length : Int) = sumN k fun c => if (lookM (snM p s) (c : Int)).isSome = true then 1 else 0
  | 0, _ => by rw [show (sumN k fun c => if (lookM (snM p 0) (c : Int)).isSome = true then (1 : Int) else 0) = sumN k (fun _ => 0) from sumN_congr fun c _ => by simp [snM, lookM], sumN_zero]; rfl
  | s + 1, h => by
    have ih := snM_len (p := p) s fun i hi => h i (by omega)
    have hb := h s (by omega)
    unfold badP at hb
    obtain ⟨z, hz⟩ : ∃ z, p.getD s 0 = z := ⟨_, rfl⟩
    rw [hz] at hb
    rw [snM, hz]
    cases hl : lookM (snM p s) z with
    | some v =>
      rw [putM_len hl, ih]
      refine sumN_congr fun c hc => ?_
      rw [lookM_put]
      by_cases hzc : z = (c : Int)
      · rw [if_pos hzc, ← hzc, hl]; rfl
      · rw [if_neg hzc]
    | none =>
      rw [putM_none true hl, List.length_append, List.length_singleton, ← putM_none true hl]
      rw [sumN_one (n := k) (z := z.toNat) (f := fun c => if (lookM (putM (snM p s) z true) (c : Int)).isSome = true then (1 : Int) else 0) (g := fun c => if (lookM (snM p s) (c : Int)).isSome = true then 1 else 0) (by omega) (fun c hc hne => by
        rw [lookM_put, if_neg (show ¬ z = (c : Int) by omega)]), ← ih, lookM_put, if_pos (show z = ((z.toNat : Nat) : Int) by omega), show ((z.toNat : Nat) : Int) = z by omega, hl]
      simp
theorem snM_all {p : List Int} {k : Nat} (h : ∀ i, i < p.length → ¬ badP (k : Int) (p.getD i 0)) (ha : ∀ c, c < k → cnAt p c p.length ≠ 0) : (snM p p.length).length = k := by
  have e := snM_len (p := p) (k := k) p.length h
  rw [sumN_congr (g := fun _ => 1) (fun c hc => by rw [if_pos ((snM_is p c p.length).2 (ha c hc))]), sumN_const] at e
  omega
theorem sumT_succ {ws : List Int} {s : Nat} (h : s < ws.length) : (ws.take (s + 1)).sum = (ws.take s).sum + ws.getD s 0 := by
  rw [take_snoc (getD_some h), List.sum_append]; simp
theorem up_low {a b : Int} (ha : 0 ≤ a) (hb : 1 ≤ b) : upV a b ≤ (a + b - 1) / b := by
  unfold upV
  by_cases h : a < 1 ∨ b < 1
  · rw [if_pos h]; exact Int.ediv_nonneg (by omega) (by omega)
  · rw [if_neg h, show a + b - 1 = (a - 1) + 1 * b by omega, Int.add_mul_ediv_right _ _ (by omega)]
    exact Int.le_refl _
theorem law08Splits (q q2 : Option Addr) (cap cap2 : Nat) (ws js : List Int) (k : Int) (hm : ws.length ≤ 9223372036854775807) (hm2 : js.length ≤ 9223372036854775807) (w0 : World) (hq : SlH (hp w0) q (ints .i64 ws)) (hq2 : SlH (hp w0) q2 (ints .i64 js)) :
    CallsV Try.prog 3 #[.slice q ws.length cap, .slice q2 js.length cap2, .int .i64 k] w0 fun v w => v = .bool true ∧ St Pu w0 w [] [] := by
  refine callsV_of Try.func3 rfl rfl ?_
  refine wc_seq ?_
  refine wc_region ?_
  (apply ow_assign; (· rfl); (· ((conv => lhs; whnf) <;> rfl)))
  refine ow_nil ?_
  refine wc_seq ?_
  refine wc_seq ?_
  refine wc_region ?_
  refine ow_call rfl rfl (ent (by kernel_rfl)) (CallsV.mono (sound08 w0) ?_) rfl
  rintro v w ⟨rfl, H⟩
  refine ow_not rfl rfl ?_
  refine ow_nil ?_
  refine wc_cond_false rfl ?_
  refine wc_skip ?_
  refine wc_seq ?_
  refine wc_region ?_
  (apply ow_move; (· rfl); (· ((conv => lhs; whnf) <;> rfl)))
  (apply ow_move; (· rfl); (· ((conv => lhs; whnf) <;> rfl)))
  refine ow_call rfl rfl (ent (by kernel_rfl)) (CallsV.mono (mesh_spec q q2 cap cap2 ws js hm hm2 w (H.oldSl hq) (H.oldSl hq2)) ?_) rfl
  rintro v w (⟨rfl, H'⟩ | ⟨g, ms, rfl, rfl, h24, hmay, hW, hn, H'⟩)
  · replace H := H.call H'
    clear H'
    (apply ow_assign; (· rfl); (· ((conv => lhs; whnf) <;> rfl)))
    refine ow_nil ?_
    refine wc_seq ?_
    refine wc_seq ?_
    refine wc_region ?_
    (apply ow_move; (· rfl); (· ((conv => lhs; whnf) <;> rfl)))
    refine ow_eqlPn rfl rfl rfl (tyAt rfl) rfl ?_
    refine ow_nil ?_
    refine wc_cond_true rfl ?_
    refine wc_seq ?_
    refine wc_region ?_
    (apply ow_assign; (· rfl); (· ((conv => lhs; whnf) <;> rfl)))
    refine ow_nil ?_
    refine wc_ret ?_
    obtain ⟨w, hT, H⟩ := H.takes Try.prog
    refine ⟨.inr rfl, w, hT, _, .tmp .nil, ?_⟩
    exact ⟨rfl, H.none⟩
  replace H := H.call H'
  clear H'
  obtain ⟨kz, hkz, ek0⟩ := and_mask k (m := 31) (by decide)
  have ek : Sx.bw .and .i64 k 31 = (kz : Int) := ek0
  (apply ow_assign; (· rfl); (· ((conv => lhs; whnf) <;> rfl)))
  refine ow_nil ?_
  refine wc_seq ?_
  refine wc_seq ?_
  refine wc_region ?_
  (apply ow_move; (· rfl); (· ((conv => lhs; whnf) <;> rfl)))
  refine ow_eqlPn rfl rfl rfl (tyAt rfl) rfl ?_
  refine ow_nil ?_
  refine wc_cond_false rfl ?_
  refine wc_skip ?_
  refine wc_seq ?_
  refine wc_region ?_
  (apply ow_move; (· rfl); (· ((conv => lhs; whnf) <;> rfl)))
  refine ow_and rfl rfl rfl ?_
  refine ow_add rfl rfl rfl (by simp only [InK]; omega) ?_
  (apply ow_assign; (· rfl); (· ((conv => lhs; whnf) <;> rfl)))
  refine ow_nil ?_
  refine wc_seq ?_
  refine wc_region ?_
  (apply ow_move; (· rfl); (· ((conv => lhs; whnf) <;> rfl)))
  (apply ow_move; (· rfl); (· ((conv => lhs; whnf) <;> rfl)))
  rw [ek, show (1 : Int) + (kz : Int) = ((kz + 1 : Nat) : Int) by omega]
  obtain ⟨kn, hkn⟩ : ∃ kn, kz + 1 = kn := ⟨_, rfl⟩
  rw [hkn]
  have hmk : mayK (kn : Int) := by unfold mayK; omega
  skip
  refine ow_call rfl rfl (ent (by kernel_rfl)) (CallsV.mono (split14_spec g ms (kn : Int) hmay hn (by omega) hW _ (gr_at H)) ?_) rfl
  rintro v w hh
  obtain ⟨_, p, q1, c1, hS, rfl, H'⟩ := hh.resolve_left (fun h => h.1 hmk)
  rw [Int.toNat_natCast] at hS H'
  replace H := (H.call H').only (i := 0) rfl
  clear H' hh
  have hR := SplR.right hmk hS
  have hR1 := mend_right (T := tb ms) hmay hR
  have hG1 := mend_good (T := tb ms) hmay hR
  have hml := hR1.2.1
  obtain ⟨m1, hm1⟩ : ∃ m1, mendL (tb ms) g.ws kn p = m1 := ⟨_, rfl⟩
  rw [hm1] at H hml hR1 hG1
  clear hR hm1 hS
  rw [← hml] at H ⊢
  (apply ow_move; (· rfl); (· ((conv => lhs; whnf) <;> rfl)))
  refine ow_extract rfl rfl rfl ?_
  refine ow_extract rfl rfl rfl ?_
  (apply ow_assign; (· rfl); (· ((conv => lhs; whnf) <;> rfl)))
  (apply ow_assign; (· rfl); (· ((conv => lhs; whnf) <;> rfl)))
  refine ow_nil ?_
  refine wc_seq ?_
  refine wc_seq ?_
  refine wc_region ?_
  (apply ow_move; (· rfl); (· ((conv => lhs; whnf) <;> rfl)))
  refine ow_neq rfl rfl rfl ?_
  (apply ow_move; (· rfl); (· ((conv => lhs; whnf) <;> rfl)))
  refine ow_guard_yes rfl rfl rfl rfl ?_
  (apply ow_move; (· rfl); (· ((conv => lhs; whnf) <;> rfl)))
  refine ow_guard_yes rfl rfl rfl rfl ?_
  refine ow_len rfl rfl (tyAt rfl) rfl ?_
  refine ow_guard_yes rfl rfl rfl rfl ?_
  (apply ow_move; (· rfl); (· ((conv => lhs; whnf) <;> rfl)))
  refine ow_guard_yes rfl rfl rfl rfl ?_
  refine ow_len rfl rfl (tyAt rfl) rfl ?_
  refine ow_guard_yes rfl rfl rfl rfl ?_
  refine ow_neq rfl rfl rfl ?_
  (apply ow_pick_f; (· rfl); (· rfl); (· ((conv => lhs; whnf) <;> rfl)))
  refine ow_nil ?_
  refine wc_cond_dec rfl (fun h => ?_) (fun h => ?_) <;> try dsimp only at h
  · exact absurd rfl h
  clear h
  refine wc_skip ?_
  refine wc_seq ?_
  refine wc_region ?_
  (apply ow_assign; (· rfl); (· ((conv => lhs; whnf) <;> rfl)))
  (apply ow_assign; (· rfl); (· ((conv => lhs; whnf) <;> rfl)))
  refine ow_nil ?_
  refine wc_seq ?_
  refine wc_region ?_
  (apply ow_move; (· rfl); (· ((conv => lhs; whnf) <;> rfl)))
  refine ow_makeSlice (m := (kn : Int)) (z := .int .i64 0) H rfl (tyAt rfl) rfl (tyAt rfl) rfl rfl rfl rfl (by omega) (by show (8 : Int) * _ ≤ _; omega) (by omega) (fun bo w H => ?_)
  rw [Int.toNat_natCast, show List.replicate kn (Value.int .i64 0) = ints .i64 (wtL g.ws m1 kn 0) by rw [wtL_zero]; unfold ints; rw [List.map_replicate]] at H
  rw [Int.toNat_natCast]
  (apply ow_assign; (· rfl); (· ((conv => lhs; whnf) <;> rfl)))
  refine ow_nil ?_
  refine wc_seq ?_
  refine wc_region ?_
  refine ow_makeMap H rfl (fun bm w H => ?_)
  (apply ow_assign; (· rfl); (· ((conv => lhs; whnf) <;> rfl)))
  refine ow_nil ?_
  refine wc_seq ?_
  refine wc_seq ?_
  refine wc_region ?_
  (apply ow_move; (· rfl); (· ((conv => lhs; whnf) <;> rfl)))
  refine ow_len rfl rfl (tyAt rfl) rfl ?_
  (apply ow_move; (· rfl); (· ((conv => lhs; whnf) <;> rfl)))
  refine ow_nil ?_
  refine wc_block ?_
  refine wc_loopS [6, 10, 11, 14, 15, 48, 49, 50, 51, 52, 53, 54, 55, 56, 57, 58, 59, 60, 61, 62, 63, 64, 65, 66, 67, 68, 69, 70, 71, 72, 73, 74, 75, 76, 77, 78, 79, 80, 81, 82, 83, 84] (fun (s : Nat) e => upd (upd (upd e 10 (.int .i64 (g.ws.take s).sum)) 11 (.int .i64 (mxW g.ws s))) 48 (.int .i64 s)) (fun s D w => D = [] ∧ s ≤ m1.length ∧ St Pu w0 w [.mib bm (snM m1 s), .row bo 2 (ints .i64 (wtL g.ws m1 kn s)), .app q1 m1.length c1 3 1 (ints .i64 m1)] []) (fun s _ => m1.length - s) 0 (by first | exact rfl | exact upd_self' rfl rfl | exact upd_self' rfl (upd_self' rfl rfl) | exact upd_self' rfl (upd_self' rfl (upd_self' rfl rfl)) | exact upd_self' rfl (upd_self' rfl (upd_self' rfl (upd_self' rfl rfl)))) ⟨rfl, Nat.zero_le _, H⟩ ?_
  clear H
  rintro i j D w ⟨rfl, hi, H⟩
  refine wc_seq ?_
  refine wc_region ?_
  refine ow_lss rfl rfl rfl ?_
  refine ow_nil ?_
  refine wc_seq ?_
  refine wc_cond_dec rfl (fun h => ?_) (fun h => ?_) <;> try dsimp only at h
  · have hlt : i < m1.length := by omega
    clear h
    have hb := hR1.2.2 i hlt
    have hsn := wtL_succ (ws := g.ws) hb
    have hsm : snM m1 (i + 1) = putM (snM m1 i) (m1.getD i 0) true := rfl
    have hst := sumT_succ (ws := g.ws) (s := i) (by omega)
    have hmt := mxW_succ (ws := g.ws) (k := i) (by omega)
    have hsl := sum_le (ws := g.ws.take i) (fun z hz => hmay z (List.mem_of_mem_take hz))
    have htl : (g.ws.take i).length ≤ 24 := by rw [List.length_take]; omega
    have hmn := mxW_nn g.ws i (by omega)
    have hml2 := mxW_le hmay i (by omega)
    have hwn := ws_nn hmay i
    have hbi := badP (kn : Int) (m1.getD i 0)
    unfold badP at hb
    have hw := wtAt_in (p := m1) hmay (m1.getD i 0).toNat i
    have hwl := wtL_at (ws := g.ws) (p := m1) (k := kn) (i := i) (j := (m1.getD i 0).toNat) (by omega)
    have hln := wtL_len g.ws m1 kn i
    have hqx := hq
    obtain ⟨bq, oq, rfl⟩ := hq.some_of (by simp; omega)
    obtain ⟨bq1, rfl⟩ : ∃ g, q1 = some ⟨g, 0, none⟩ := appOk.some (H.cap (i := 2) rfl) (by simp; omega)
    clear hbi
    obtain ⟨z, hz⟩ : ∃ z, m1.getD i 0 = z := ⟨_, rfl⟩
    obtain ⟨u, hu⟩ : ∃ u, g.ws.getD i 0 = u := ⟨_, rfl⟩
    rw [hz] at hb hsn hw hwl hsm
    rw [hu] at hsn hst hmt hwn
    rw [← hwl] at hw
    have hlw : wtL g.ws m1 kn (i + 1) = (wtL g.ws m1 kn i).set z.toNat ((wtL g.ws m1 kn i).getD z.toNat 0 + u) := hsn
    generalize wtL g.ws m1 kn i = l at hsn hw hln H hlw
    generalize snM m1 i = sm at hsm H
    generalize (g.ws.take i).sum = su at hst hsl
    generalize mxW g.ws i = mx at hmt hmn hml2
    refine wc_skip ?_
    refine wc_seq ?_
    refine wc_block ?_
    refine wc_seq ?_
    refine wc_region ?_
    (apply ow_move; (· rfl); (· ((conv => lhs; whnf) <;> rfl)))
    refine ow_idx1 (j := i) rfl (tyAt rfl) rfl (tyAt rfl) rfl rfl rfl hlt rfl ?_
    refine ow_load rfl (tyAt rfl) rfl rfl (SlH.int (appOk.sl (H.cap (i := 2) rfl)) hlt) ?_
    rw [hz]
    (apply ow_assign; (· rfl); (· ((conv => lhs; whnf) <;> rfl)))
    (apply ow_assign; (· rfl); (· ((conv => lhs; whnf) <;> rfl)))
    refine ow_nil ?_
    refine wc_seq ?_
    refine wc_seq ?_
    refine wc_region ?_
    (apply ow_move; (· rfl); (· ((conv => lhs; whnf) <;> rfl)))
    refine ow_lss rfl rfl rfl ?_
    (apply ow_move; (· rfl); (· ((conv => lhs; whnf) <;> rfl)))
    refine ow_guard_dec rfl rfl rfl (fun h => ?_) (fun h => ?_) <;> try dsimp only at h
    · omega
    clear h
    refine ow_guard_yes rfl rfl rfl rfl ?_
    (apply ow_move; (· rfl); (· ((conv => lhs; whnf) <;> rfl)))
    refine ow_guard_yes rfl rfl rfl rfl ?_
    (apply ow_move; (· rfl); (· ((conv => lhs; whnf) <;> rfl)))
    refine ow_guard_yes rfl rfl rfl rfl ?_
    refine ow_geq rfl rfl rfl ?_
    (apply ow_pick_f; (· rfl); (· rfl); (· ((conv => lhs; whnf) <;> rfl)))
    refine ow_nil ?_
    refine wc_cond_dec rfl (fun h => ?_) (fun h => ?_) <;> try dsimp only at h
    · omega
    clear h
    refine wc_skip ?_
    refine wc_seq ?_
    refine wc_drawK (fun w => St Pu w0 w [] []) 99 (by kernel_rfl) (by kernel_rfl) (by intro c e D w h; first | exact h.elim | (rcases h with ⟨h | h, _⟩ <;> cases h)) ?_
    replace H := H.drew
    have G := H
    replace H := H.none
    apply ak_take (i := 0) rfl rfl rfl rfl (by kernel_rfl) (by with_reducible first | exact H | rfl)
    · intro w Q' HS hq; replace H := HS; clear HS; (apply ow_move; (· rfl); (· ((conv => lhs; whnf) <;> rfl))); exact ow_nil hq
    apply ak_take (i := 1) rfl rfl rfl rfl (by kernel_rfl) (by with_reducible first | exact H | rfl)
    · intro w Q' HS hq; replace H := HS; clear HS; (apply ow_move; (· rfl); (· ((conv => lhs; whnf) <;> rfl))); exact ow_nil hq
    apply ak_take (i := 2) rfl rfl rfl rfl (by kernel_rfl) (by with_reducible first | exact H | rfl)
    · intro w Q' HS hq; replace H := HS; clear HS; (apply ow_move; (· rfl); (· ((conv => lhs; whnf) <;> rfl))); exact ow_nil hq
    apply ak_take (i := 3) rfl rfl rfl rfl (by kernel_rfl) (by with_reducible first | exact H | rfl)
    · intro w Q' HS hq; replace H := HS; clear HS; refine ow_idx1 (j := i) rfl (tyAt rfl) rfl (tyAt rfl) rfl rfl rfl (by omega) rfl ?_; exact ow_nil hq
    apply ak_take (i := 4) rfl rfl rfl rfl (by kernel_rfl) (by with_reducible first | exact H | rfl)
    · intro w Q' HS hq; replace H := HS; clear HS; refine ow_load rfl (tyAt rfl) rfl rfl (v := .int .i64 u) (by rw [← hu]; exact (H.oldSl hqx).int (by omega)) ?_; exact ow_nil hq
    apply ak_take (i := 5) rfl rfl rfl rfl (by kernel_rfl) (by with_reducible first | exact H | rfl)
    · intro w Q' HS hq; replace H := HS; clear HS; refine ow_add rfl rfl rfl (by simp only [InK]; omega) ?_; exact ow_nil hq
    apply ak_take (i := 6) rfl rfl rfl rfl (by kernel_rfl) (by with_reducible first | exact H | rfl)
    · intro w Q' HS hq; replace H := HS; clear HS; (apply ow_move; (· rfl); (· ((conv => lhs; whnf) <;> rfl))); exact ow_nil hq
    apply ak_take (i := 7) rfl rfl rfl rfl (by kernel_rfl) (by with_reducible first | exact H | rfl)
    · intro w Q' HS hq; replace H := HS; clear HS; (apply ow_move; (· rfl); (· ((conv => lhs; whnf) <;> rfl))); exact ow_nil hq
    apply ak_take (i := 8) rfl rfl rfl rfl (by kernel_rfl) (by with_reducible first | exact H | rfl)
    · intro w Q' HS hq; replace H := HS; clear HS; (apply ow_move; (· rfl); (· ((conv => lhs; whnf) <;> rfl))); exact ow_nil hq
    apply ak_take (i := 9) rfl rfl rfl rfl (by kernel_rfl) (by with_reducible first | exact H | rfl)
    · intro w Q' HS hq; replace H := HS; clear HS; refine ow_idx1 (j := i) rfl (tyAt rfl) rfl (tyAt rfl) rfl rfl rfl (by omega) rfl ?_; exact ow_nil hq
    apply ak_take (i := 10) rfl rfl rfl rfl (by kernel_rfl) (by with_reducible first | exact H | rfl)
    · intro w Q' HS hq; replace H := HS; clear HS; refine ow_load rfl (tyAt rfl) rfl rfl (v := .int .i64 u) (by rw [← hu]; exact (H.oldSl hqx).int (by omega)) ?_; exact ow_nil hq
    apply ak_take (i := 11) rfl rfl rfl rfl (by kernel_rfl) (by with_reducible first | exact H | rfl)
    · intro w Q' HS hq; replace H := HS; clear HS; refine ow_max rfl rfl rfl ?_; exact ow_nil hq
    apply ak_take (i := 12) rfl rfl rfl rfl (by kernel_rfl) (by with_reducible first | exact H | rfl)
    · intro w Q' HS hq; replace H := HS; clear HS; (apply ow_assign; (· rfl); (· ((conv => lhs; whnf) <;> rfl))); exact ow_nil hq
    apply ak_take (i := 13) rfl rfl rfl rfl (by kernel_rfl) (by with_reducible first | exact H | rfl)
    · intro w Q' HS hq; replace H := HS; clear HS; (apply ow_assign; (· rfl); (· ((conv => lhs; whnf) <;> rfl))); exact ow_nil hq
    replace H := G
    clear G
    refine ak_done (by kernel_rfl) ?_
    rw [← hst, ← hmt]
    refine wc_seq ?_
    refine wc_drawK (fun w => St Pu w0 w [.row bo 2 (ints .i64 l)] []) 10 (by kernel_rfl) (by kernel_rfl) (by intro c e D w h; first | exact h.elim | (rcases h with ⟨h | h, _⟩ <;> cases h)) ?_
    replace H := H.drew
    have G := H
    replace H := H.only (i := 1) rfl
    apply ak_take (i := 0) rfl rfl rfl rfl (by kernel_rfl) (by with_reducible first | exact H | rfl)
    · intro w Q' HS hq; replace H := HS; clear HS; (apply ow_move; (· rfl); (· ((conv => lhs; whnf) <;> rfl))); exact ow_nil hq
    apply ak_take (i := 1) rfl rfl rfl rfl (by kernel_rfl) (by with_reducible first | exact H | rfl)
    · intro w Q' HS hq; replace H := HS; clear HS; (apply ow_move; (· rfl); (· ((conv => lhs; whnf) <;> rfl))); exact ow_nil hq
    apply ak_take (i := 2) rfl rfl rfl rfl (by kernel_rfl) (by with_reducible first | exact H | rfl)
    · intro w Q' HS hq; replace H := HS; clear HS; refine ow_idx1 (j := z.toNat) rfl (tyAt rfl) rfl (tyAt rfl) rfl rfl (by omega) (by omega) rfl ?_; exact ow_nil hq
    apply ak_take (i := 3) rfl rfl rfl rfl (by kernel_rfl) (by with_reducible first | exact H | rfl)
    · intro w Q' HS hq; replace H := HS; clear HS; refine ow_load rfl (tyAt rfl) rfl rfl (SlH.int (H.rowSl (i := 0) rfl) (by omega)) ?_; exact ow_nil hq
    apply ak_take (i := 4) rfl rfl rfl rfl (by kernel_rfl) (by with_reducible first | exact H | rfl)
    · intro w Q' HS hq; replace H := HS; clear HS; (apply ow_move; (· rfl); (· ((conv => lhs; whnf) <;> rfl))); exact ow_nil hq
    apply ak_take (i := 5) rfl rfl rfl rfl (by kernel_rfl) (by with_reducible first | exact H | rfl)
    · intro w Q' HS hq; replace H := HS; clear HS; (apply ow_move; (· rfl); (· ((conv => lhs; whnf) <;> rfl))); exact ow_nil hq
    apply ak_take (i := 6) rfl rfl rfl rfl (by kernel_rfl) (by with_reducible first | exact H | rfl)
    · intro w Q' HS hq; replace H := HS; clear HS; refine ow_idx1 (j := i) rfl (tyAt rfl) rfl (tyAt rfl) rfl rfl rfl (by omega) rfl ?_; exact ow_nil hq
    apply ak_take (i := 7) rfl rfl rfl rfl (by kernel_rfl) (by with_reducible first | exact H | rfl)
    · intro w Q' HS hq; replace H := HS; clear HS; refine ow_load rfl (tyAt rfl) rfl rfl (v := .int .i64 u) (by rw [← hu]; exact (H.oldSl hqx).int (by omega)) ?_; exact ow_nil hq
    apply ak_take (i := 8) rfl rfl rfl rfl (by kernel_rfl) (by with_reducible first | exact H | rfl)
    · intro w Q' HS hq; replace H := HS; clear HS; refine ow_add rfl rfl rfl (by simp only [InK]; omega) ?_; exact ow_nil hq
    apply ak_take (i := 9) rfl rfl rfl rfl (by kernel_rfl) (by with_reducible first | exact H | rfl)
    · intro w Q' HS hq; replace H := HS; clear HS; refine ow_idx1 (j := z.toNat) rfl (tyAt rfl) rfl (tyAt rfl) rfl rfl (by omega) (by omega) rfl ?_; exact ow_nil hq
    replace H := G
    clear G
    apply ak_one (i := 10)
    · kernel_rfl
    · rfl
    · rfl
    refine ow_store (i := 1) (o := 0 + z.toNat) (v := .int .i64 (l.getD z.toNat 0 + u)) H (tyAt rfl) rfl rfl rfl rfl rfl (by simp; omega) (fun w H => ?_)
    dsimp only [List.set] at H
    rw [Nat.zero_add, intsI_set, ← hlw] at H
    refine ow_nil ⟨fun h => (by cases h), ?_⟩
    refine ak_done (by kernel_rfl) ?_
    refine wc_region ?_
    (apply ow_move; (· rfl); (· ((conv => lhs; whnf) <;> rfl)))
    (apply ow_move; (· rfl); (· ((conv => lhs; whnf) <;> rfl)))
    refine ow_mapUpdate (i := 0) H rfl (tyAt rfl) rfl (tyAt rfl) rfl rfl rfl rfl (fun w H => ?_)
    dsimp only [List.set] at H
    rw [← hsm] at H
    refine ow_nil ?_
    refine wc_region ?_
    refine ow_add rfl rfl rfl (by simp only [InK]; omega) ?_
    (apply ow_move; (· rfl); (· ((conv => lhs; whnf) <;> rfl)))
    refine ow_nil ?_
    exact ⟨i + 1, by first | exact rfl | exact upd_self' rfl rfl | exact upd_self' rfl (upd_self' rfl rfl) | exact upd_self' rfl (upd_self' rfl (upd_self' rfl rfl)) | exact upd_self' rfl (upd_self' rfl (upd_self' rfl (upd_self' rfl rfl))), by repeat (first | with_reducible exact Off.mix | with_reducible exact Off.refl | ((with_reducible refine Off.upd ?_ ?_); (· rfl))), ⟨rfl, hlt, H⟩, by omega⟩
  have hi' : i = m1.length := by omega
  subst hi'
  clear h
  have htk : g.ws.take m1.length = g.ws := List.take_of_length_le (by omega)
  have hmxe : mxW g.ws m1.length = mxW g.ws g.ws.length := by rw [hml]
  rw [htk, hmxe]
  obtain ⟨su, hsu⟩ : ∃ su, g.ws.sum = su := ⟨_, rfl⟩
  obtain ⟨mx, hmx⟩ : ∃ mx, mxW g.ws g.ws.length = mx := ⟨_, rfl⟩
  have hs1 := sum_le hmay
  have hmn := mxW_nn g.ws g.ws.length (Nat.le_refl _)
  have hml2 := mxW_le hmay g.ws.length (Nat.le_refl _)
  have hbd : boundV g.ws (kn : Int) = upV su (kn : Int) + mx := by rw [← hsu, ← hmx]; exact if_pos hmk
  rw [hsu] at hs1 ⊢
  rw [hmx] at hmn hml2 ⊢
  have hk1 : 1 ≤ kn := by omega
  have hul := up_low hs1.1 (b := (kn : Int)) (by omega)
  have hqn : 0 ≤ (su + (kn : Int) - 1) / (kn : Int) := Int.ediv_nonneg (by omega) (by omega)
  have hqm : (su + (kn : Int) - 1) / (kn : Int) ≤ su + (kn : Int) - 1 := Int.ediv_le_self _ (by omega)
  have hln := wtL_len g.ws m1 kn m1.length
  refine wc_exit ?_
  refine wc_seq ?_
  refine wc_seq ?_
  refine wc_region ?_
  (apply ow_move; (· rfl); (· ((conv => lhs; whnf) <;> rfl)))
  refine ow_len rfl rfl (tyAt rfl) rfl ?_
  (apply ow_move; (· rfl); (· ((conv => lhs; whnf) <;> rfl)))
  refine ow_nil ?_
  refine wc_block ?_
  refine wc_loopS [6, 17, 87, 88, 89, 90, 91, 92, 93, 94, 95, 96, 97, 98, 99, 100, 101] (fun (s : Nat) e => upd e 87 (.int .i64 s)) (fun s D w => D = [] ∧ s ≤ kn ∧ St Pu w0 w [.mib bm (snM m1 m1.length), .row bo 2 (ints .i64 (wtL g.ws m1 kn m1.length)), .app q1 m1.length c1 3 1 (ints .i64 m1)] []) (fun s _ => kn - s) 0 (by first | exact rfl | exact upd_self' rfl rfl | exact upd_self' rfl (upd_self' rfl rfl) | exact upd_self' rfl (upd_self' rfl (upd_self' rfl rfl)) | exact upd_self' rfl (upd_self' rfl (upd_self' rfl (upd_self' rfl rfl)))) ⟨rfl, Nat.zero_le _, H⟩ ?_
  clear H
  rintro i j2 D w ⟨rfl, hi, H⟩
  refine wc_seq ?_
  refine wc_region ?_
  refine ow_lss rfl rfl rfl ?_
  refine ow_nil ?_
  refine wc_seq ?_
  refine wc_cond_dec rfl (fun h => ?_) (fun h => ?_) <;> try dsimp only at h
  · have hlt : i < kn := by omega
    clear h
    have hfit := hG1.1 i hlt
    rw [hbd] at hfit
    have hwin := wtAt_in (p := m1) hmay i m1.length
    have hwa := wtL_at (ws := g.ws) (p := m1) (k := kn) (i := m1.length) (j := i) hlt
    refine wc_skip ?_
    refine wc_seq ?_
    refine wc_block ?_
    refine wc_seq ?_
    refine wc_region ?_
    refine ow_idx1 (j := i) rfl (tyAt rfl) rfl (tyAt rfl) rfl rfl rfl hlt rfl ?_
    refine ow_load rfl (tyAt rfl) rfl rfl (SlH.int (H.rowSl (i := 1) rfl) (by omega)) ?_
    rw [hwa]
    (apply ow_assign; (· rfl); (· ((conv => lhs; whnf) <;> rfl)))
    refine ow_nil ?_
    refine wc_seq ?_
    refine wc_region ?_
    (apply ow_move; (· rfl); (· ((conv => lhs; whnf) <;> rfl)))
    (apply ow_move; (· rfl); (· ((conv => lhs; whnf) <;> rfl)))
    (apply ow_move; (· rfl); (· ((conv => lhs; whnf) <;> rfl)))
    refine ow_add rfl rfl rfl (by simp only [InK]; omega) ?_
    refine ow_sub rfl rfl rfl (by simp only [InK]; omega) ?_
    (apply ow_move; (· rfl); (· ((conv => lhs; whnf) <;> rfl)))
    refine ow_quo rfl rfl rfl (by omega) (by omega) (by simp only [InK]; omega) ?_
    (apply ow_move; (· rfl); (· ((conv => lhs; whnf) <;> rfl)))
    refine ow_add rfl rfl rfl (by simp only [InK]; omega) ?_
    refine ow_gtr rfl rfl rfl ?_
    refine ow_nil ?_
    refine wc_cond_dec rfl (fun h => ?_) (fun h => ?_) <;> try dsimp only at h
    · omega
    clear h
    refine wc_skip ?_
    refine wc_region ?_
    refine ow_add rfl rfl rfl (by simp only [InK]; omega) ?_
    (apply ow_move; (· rfl); (· ((conv => lhs; whnf) <;> rfl)))
    refine ow_nil ?_
    exact ⟨i + 1, by first | exact rfl | exact upd_self' rfl rfl | exact upd_self' rfl (upd_self' rfl rfl) | exact upd_self' rfl (upd_self' rfl (upd_self' rfl rfl)) | exact upd_self' rfl (upd_self' rfl (upd_self' rfl (upd_self' rfl rfl))), by repeat (first | with_reducible exact Off.mix | with_reducible exact Off.refl | ((with_reducible refine Off.upd ?_ ?_); (· rfl))), ⟨rfl, hlt, H⟩, by omega⟩
  have hi' : i = kn := by omega
  subst hi'
  clear h
  refine wc_exit ?_
  refine wc_seq ?_
  refine wc_region ?_
  (apply ow_move; (· rfl); (· ((conv => lhs; whnf) <;> rfl)))
  refine ow_len rfl rfl (tyAt rfl) rfl ?_
  (apply ow_move; (· rfl); (· ((conv => lhs; whnf) <;> rfl)))
  refine ow_lss rfl rfl rfl ?_
  (apply ow_move; (· rfl); (· ((conv => lhs; whnf) <;> rfl)))
  refine ow_guard_dec rfl rfl rfl (fun h => ?_) (fun h => ?_) <;> try dsimp only at h
  · refine ow_guard_no rfl rfl rfl rfl rfl rfl rfl ?_
    refine ow_guard_no rfl rfl rfl rfl rfl rfl rfl ?_
    refine ow_guard_no rfl rfl rfl rfl rfl rfl rfl ?_
    refine ow_guard_no rfl rfl rfl rfl rfl rfl rfl ?_
    (apply ow_pick_t; (· rfl); (· rfl); (· ((conv => lhs; whnf) <;> rfl)))
    (apply ow_assign; (· rfl); (· ((conv => lhs; whnf) <;> rfl)))
    refine ow_nil ?_
    refine wc_ret ?_
    obtain ⟨w, hT, H⟩ := H.takes Try.prog
    refine ⟨.inr rfl, w, hT, _, .tmp .nil, ?_⟩
    exact ⟨rfl, H.none⟩
  have hge : ¬ m1.length < i := by omega
  clear h
  have hall := snM_all hR1.2.2 (hG1.2.resolve_left hge)
  refine ow_guard_yes rfl rfl rfl rfl ?_
  (apply ow_move; (· rfl); (· ((conv => lhs; whnf) <;> rfl)))
  refine ow_guard_yes rfl rfl rfl rfl ?_
  refine ow_lenM (i := 0) H rfl rfl rfl (tyAt rfl) rfl ?_
  rw [hall]
  refine ow_guard_yes rfl rfl rfl rfl ?_
  (apply ow_move; (· rfl); (· ((conv => lhs; whnf) <;> rfl)))
  refine ow_guard_yes rfl rfl rfl rfl ?_
  refine ow_eql rfl rfl rfl ?_
  (apply ow_pick_f; (· rfl); (· rfl); (· ((conv => lhs; whnf) <;> rfl)))
  (apply ow_assign; (· rfl); (· ((conv => lhs; whnf) <;> rfl)))
  refine ow_nil ?_
  rw [decide_eq_true (rfl : (i : Int) = (i : Int))]
  skip
  refine wc_ret ?_
  obtain ⟨w, hT, H⟩ := H.takes Try.prog
  refine ⟨.inr rfl, w, hT, _, .tmp .nil, ?_⟩
  exact ⟨rfl, H.none⟩
end Go.Proofs.Ytnkjhmfliinnoaa

