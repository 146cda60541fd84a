/- The statement's function 'sandtablelaw10.PairingWhole' returns true at every input, and changes nothing that was there. -/
import Derived.Test.YtgliblmpiilloaaN5
import Derived.Test.YtgliblmpiilloaaQH
namespace Go.Proofs.Ytgliblmpiilloaa
set_option linter.all false
open Go Go.Sx Go.Proofs
set_option maxRecDepth 100000
set_option maxHeartbeats 2000000
def smB (T : List IE) (i : Nat) (s : Bool) : Nat → Bool
  | 0 => s
  | k + 1 => smB T i s k || decide (0 < btw T (i : Int) (k : Int))
def smA (T : List IE) (n : Nat) : Nat → Bool
  | 0 => false
  | i + 1 => smB T i (smA T n i) n
theorem smB_iff (T : List IE) (i : Nat) (s : Bool) : ∀ k, smB T i s k = true ↔ s = true ∨ ∃ j, j < k ∧ 0 < btw T (i : Int) (j : Int)
  | 0 => ⟨fun h => .inl h, fun h => h.elim id fun ⟨j, hj, _⟩ => absurd hj (Nat.not_lt_zero _)⟩
  | k + 1 => by
    have ih := smB_iff T i s k
    have e : smB T i s (k + 1) = (smB T i s k || decide (0 < btw T (i : Int) (k : Int))) := rfl
    rw [e, Bool.or_eq_true, ih, decide_eq_true_iff]
    constructor
    · rintro ((h | ⟨j, hj, hp⟩) | h)
      · exact .inl h
      · exact .inr ⟨j, by omega, hp⟩
      · exact .inr ⟨k, by omega, h⟩
    · rintro (h | ⟨j, hj, hp⟩)
      · exact .inl (.inl h)
      · rcases Nat.lt_or_ge j k with h1 | h1
        · exact .inl (.inr ⟨j, h1, hp⟩)
        · rw [show j = k by omega] at hp; exact .inr hp
theorem smA_iff (T : List IE) (n : Nat) : ∀ k, smA T n k = true ↔ ∃ i, i < k ∧ ∃ j, j < n ∧ 0 < btw T (i : Int) (j : Int)
  | 0 => ⟨fun h => (by cases h), fun ⟨i, hi, _⟩ => absurd hi (Nat.not_lt_zero _)⟩
  | k + 1 => by
    have ih := smA_iff T n k
    have e : smA T n (k + 1) = smB T k (smA T n k) n := rfl
    rw [e, smB_iff, ih]
    constructor
    · rintro (⟨i, hi, h⟩ | h)
      · exact ⟨i, by omega, h⟩
      · exact ⟨k, by omega, h⟩
    · rintro ⟨i, hi, h⟩
      rcases Nat.lt_or_ge i k with h1 | h1
      · exact .inl ⟨i, h1, h⟩
      · rw [show i = k by omega] at h; exact .inr h
theorem some_iff {T : List IE} (hW : Wf T) : smA T T.length T.length = decide (cntM (heavyL T) < ((heavyL T).length : Int)) := by
  have h := heavy_hi hW
  have hc : cntM (heavyL T) = ((heavyL T).length : Int) - ((prL (heavyL T)).length : Int) := if_pos h.rt
  rw [hc]
  have hiff : smA T T.length T.length = true ↔ ((heavyL T).length : Int) - ((prL (heavyL T)).length : Int) < ((heavyL T).length : Int) := by
    rw [smA_iff]
    constructor
    · rintro ⟨i, hi, j, hj, hp⟩
      have hpos : 0 < (prL (heavyL T)).length := by
        by_cases h1 : (heavyL T).getD i 0 = (i : Int)
        · by_cases h2 : (heavyL T).getD j 0 = (j : Int)
          · have := h.al i hi hi h1 j hj h2
            omega
          · exact prL_pos h.rt (by rw [h.len]; exact hj) h2
        · exact prL_pos h.rt (by rw [h.len]; exact hi) h1
      omega
    · intro hlt
      obtain ⟨i, hi, hne⟩ := prL_ex (m := heavyL T) (by omega)
      have hr := h.rt i hi
      rw [h.len] at hi
      have hp := h.pos i hi hne
      refine ⟨i, hi, ((heavyL T).getD i 0).toNat, ?_, ?_⟩
      · have := hr.2.1; rw [h.len] at this; omega
      · rw [Int.toNat_of_nonneg hr.1]; exact hp
  cases hs : smA T T.length T.length with
  | true => exact (decide_eq_true (hiff.1 hs)).symm
  | false => exact (decide_eq_false (fun h' => by rw [hiff.2 h'] at hs; cases hs)).symm
theorem law10Whole (q q2 : Option Addr) (cap cap2 : Nat) (ws : List Int) (ops : List OpA) (hm : ws.length ≤ 9223372036854775807) (hm2 : ops.length ≤ 9223372036854775807) (w0 : World) (hq : SlH (hp w0) q (ints .i64 ws)) (hq2 : SlH (hp w0) q2 (ops.flatMap opA)) :
    CallsV Try.prog 14 #[.slice q ws.length cap, .slice q2 ops.length cap2] w0 fun v w => v = .bool true ∧ St Pu w0 w [] [] := by
  refine callsV_of Try.func14 rfl rfl ?_
  refine wc_seq ?_
  refine wc_region ?_
  (apply ow_assign; (· rfl); (· ((conv => lhs; whnf) <;> rfl)))
  refine ow_nil ?_
  refine wc_seq ?_
  refine wc_seq ?_
  refine wc_region ?_
  refine ow_call rfl rfl (ent (by kernel_rfl)) (CallsV.mono (alive10 w0) ?_) rfl
  rintro v w ⟨rfl, H⟩
  refine ow_not rfl rfl ?_
  refine ow_nil ?_
  refine wc_cond_false rfl ?_
  refine wc_skip ?_
  refine wc_seq ?_
  refine wc_region ?_
  (apply ow_move; (· rfl); (· ((conv => lhs; whnf) <;> rfl)))
  (apply ow_move; (· rfl); (· ((conv => lhs; whnf) <;> rfl)))
  refine ow_call rfl rfl (ent (by kernel_rfl)) (CallsV.mono (build66_spec q q2 cap cap2 ws ops hm hm2 w (H.oldSl hq) (H.oldSl hq2)) ?_) rfl
  rintro v w (⟨rfl, _, H'⟩ | ⟨g, x, ms, rows, rfl, rfl, hxw, h30, hmay, hW, hn, _, _, H'⟩)
  · replace H := H.call H'
    rw [List.nil_append] at H
    clear H'
    (apply ow_move; (· rfl); (· ((conv => lhs; whnf) <;> rfl)))
    refine ow_extract rfl rfl rfl ?_
    refine ow_extract rfl rfl rfl ?_
    refine ow_extract rfl rfl rfl ?_
    refine ow_alloc (l := [.slice none 0 0, .slice none 0 0]) H rfl (tyAt rfl) rfl (fun b6 w H => ?_)
    (apply ow_assign; (· rfl); (· ((conv => lhs; whnf) <;> rfl)))
    refine ow_storeA (i := 0) (o := 0) (l' := [.slice none 0 0, .slice none 0 0]) H (tyAt rfl) rfl rfl rfl rfl (by simp [Value.oneCell']) (by simp) (fun w H => ?_)
    (apply ow_assign; (· rfl); (· ((conv => lhs; whnf) <;> rfl)))
    refine ow_nil ?_
    refine wc_seq ?_
    refine wc_seq ?_
    refine wc_region ?_
    (apply ow_move; (· rfl); (· ((conv => lhs; whnf) <;> rfl)))
    refine ow_not rfl rfl ?_
    refine ow_nil ?_
    refine wc_cond_true rfl ?_
    refine wc_seq ?_
    refine wc_region ?_
    (apply ow_assign; (· rfl); (· ((conv => lhs; whnf) <;> rfl)))
    refine ow_nil ?_
    refine wc_ret ?_
    obtain ⟨w, hT, H⟩ := H.takes Try.prog
    refine ⟨.inr rfl, w, hT, _, .tmp .nil, ?_⟩
    exact ⟨rfl, H.none⟩
  replace H : St Pu w0 w (grC g ms) [] := (H.call H').sub ((List.sublist_append_left _ _).trans (List.sublist_append_left _ _))
  clear H'
  (apply ow_move; (· rfl); (· ((conv => lhs; whnf) <;> rfl)))
  refine ow_extract rfl rfl rfl ?_
  refine ow_extract rfl rfl rfl ?_
  refine ow_extract rfl rfl rfl ?_
  refine ow_alloc (l := [.slice none 0 0, .slice none 0 0]) H rfl (tyAt rfl) rfl (fun b6 w H => ?_)
  (apply ow_assign; (· rfl); (· ((conv => lhs; whnf) <;> rfl)))
  refine ow_storeA (i := 0) (o := 0) (l' := rfV x rows) H (tyAt rfl) rfl rfl rfl rfl (by simp [Value.oneCell']) (by simp) (fun w H => ?_)
  replace H : St Pu w0 w (grC g ms) [] := H.drop
  have h4 : g.ws.length ≤ 4096 := by omega
  have hTl : (tb ms).length = g.ws.length := by rw [tb_len, hn]
  (apply ow_assign; (· rfl); (· ((conv => lhs; whnf) <;> rfl)))
  refine ow_nil ?_
  refine wc_seq ?_
  refine wc_seq ?_
  refine wc_region ?_
  (apply ow_move; (· rfl); (· ((conv => lhs; whnf) <;> rfl)))
  refine ow_not rfl rfl ?_
  refine ow_nil ?_
  refine wc_cond_false rfl ?_
  refine wc_skip ?_
  refine wc_seq ?_
  refine wc_region ?_
  (apply ow_move; (· rfl); (· ((conv => lhs; whnf) <;> rfl)))
  refine ow_call rfl rfl (ent (by kernel_rfl)) (CallsV.mono (heavy_spec g ms hn h4 hW w (gr_of_ok (okAll H))) ?_) rfl
  rintro v w ⟨bm, rfl, H'⟩
  replace H : St Pu w0 w (.row bm 3 (ints .i64 (heavyL (tb ms))) :: grC g ms) [] := H.call H'
  clear H'
  have hHI := heavy_hi hW
  have hml : (heavyL (tb ms)).length = g.ws.length := by rw [hHI.len, hTl]
  have hsome := some_iff hW
  rw [hTl] at hsome
  have hal0 := hHI.al
  have hpos0 := hHI.pos
  rw [hTl] at hal0 hpos0
  generalize heavyL (tb ms) = m at *
  have hGr : ∀ {w : World}, St Pu w0 w (.row bm 3 (ints .i64 m) :: grC g ms) [] → Gr (hp w) g ms := fun H => gr_of_ok fun c hc => okAll H c (List.mem_cons_of_mem _ hc)
  (apply ow_assign; (· rfl); (· ((conv => lhs; whnf) <;> rfl)))
  refine ow_nil ?_
  refine wc_seq ?_
  refine wc_seq ?_
  refine wc_region ?_
  (apply ow_move; (· rfl); (· ((conv => lhs; whnf) <;> rfl)))
  refine ow_call rfl rfl (ent (by kernel_rfl)) (CallsV.mono (right_spec (some ⟨bm, 0, none⟩) _ m (by omega) w (H.rowSl (i := 0) rfl)) ?_) rfl
  rintro v w' ⟨rfl, rfl⟩
  rw [decide_eq_true hHI.rt]
  refine ow_not rfl rfl ?_
  (apply ow_move; (· rfl); (· ((conv => lhs; whnf) <;> rfl)))
  refine ow_guard_yes rfl rfl rfl rfl ?_
  (apply ow_move; (· rfl); (· ((conv => lhs; whnf) <;> rfl)))
  refine ow_guard_yes rfl rfl rfl rfl ?_
  refine ow_len rfl rfl (tyAt rfl) rfl ?_
  refine ow_guard_yes rfl rfl rfl rfl ?_
  (apply ow_move; (· rfl); (· ((conv => lhs; whnf) <;> rfl)))
  refine ow_guard_yes rfl rfl rfl rfl ?_
  refine ow_len rfl rfl (tyAt rfl) rfl ?_
  refine ow_guard_yes rfl rfl rfl rfl ?_
  refine ow_neq rfl rfl rfl ?_
  (apply ow_pick_f; (· rfl); (· rfl); (· ((conv => lhs; whnf) <;> rfl)))
  refine ow_nil ?_
  rw [decide_eq_false (show ¬ ¬ ((m.length : Int) = (g.ws.length : Int)) from fun h => h (by rw [hml]))]
  refine wc_cond_false rfl ?_
  refine wc_skip ?_
  refine wc_seq ?_
  refine wc_region ?_
  (apply ow_assign; (· rfl); (· ((conv => lhs; whnf) <;> rfl)))
  refine ow_nil ?_
  refine wc_seq ?_
  refine wc_seq ?_
  refine wc_region ?_
  (apply ow_move; (· rfl); (· ((conv => lhs; whnf) <;> rfl)))
  refine ow_len rfl rfl (tyAt rfl) rfl ?_
  (apply ow_move; (· rfl); (· ((conv => lhs; whnf) <;> rfl)))
  refine ow_nil ?_
  refine wc_blockJ [4, 9, 10, 11, 12, 39, 40, 41, 42, 43, 44, 45, 46, 47, 48, 49, 50, 51, 52, 53, 54, 55, 56, 57, 58, 59, 60, 61, 62, 63, 64, 65, 66, 67, 68, 69, 70, 71, 72, 73, 74, 75, 76, 77, 78, 79, 80, 81, 82, 83, 84, 85, 86, 87, 88, 89, 90, 91, 92] (fun (_ : Unit) e => upd e 9 (.bool (smA (tb ms) g.ws.length g.ws.length))) (fun _ D w => D = [] ∧ St Pu w0 w (.row bm 3 (ints .i64 m) :: grC g ms) []) ?_ ?_
  · refine wc_loopS [4, 9, 10, 11, 12, 39, 40, 41, 42, 43, 44, 45, 46, 47, 48, 49, 50, 51, 52, 53, 54, 55, 56, 57, 58, 59, 60, 61, 62, 63, 64, 65, 66, 67, 68, 69, 70, 71, 72, 73, 74, 75, 76, 77, 78, 79, 80, 81, 82, 83, 84, 85, 86, 87, 88, 89, 90, 91, 92] (fun (s : Nat) e => upd (upd e 9 (.bool (smA (tb ms) g.ws.length s))) 39 (.int .i64 s)) (fun s D w => D = [] ∧ s ≤ g.ws.length ∧ St Pu w0 w (.row bm 3 (ints .i64 m) :: grC g ms) []) (fun s _ => g.ws.length - s) 0 (by first | exact rfl | exact upd_self' rfl rfl | exact upd_self' rfl (upd_self' rfl rfl) | exact upd_self' rfl (upd_self' rfl (upd_self' rfl rfl)) | exact upd_self' rfl (upd_self' rfl (upd_self' rfl (upd_self' rfl rfl)))) ⟨rfl, Nat.zero_le _, H⟩ ?_
    clear H
    rintro i j D w ⟨rfl, hi, H⟩
    have hsA : smA (tb ms) g.ws.length (i + 1) = smB (tb ms) i (smA (tb ms) g.ws.length i) g.ws.length := rfl
    have hsB0 : smB (tb ms) i (smA (tb ms) g.ws.length i) 0 = smA (tb ms) g.ws.length i := rfl
    refine wc_seq ?_
    refine wc_region ?_
    refine ow_lss rfl rfl rfl ?_
    refine ow_nil ?_
    refine wc_seq ?_
    refine wc_cond_dec rfl (fun h => ?_) (fun h => ?_) <;> try dsimp only at h
    · have hlt : i < g.ws.length := by omega
      generalize smA (tb ms) g.ws.length i = s0 at hsA hsB0 ⊢
      refine wc_skip ?_
      refine wc_seq ?_
      refine wc_block ?_
      refine wc_seq ?_
      refine wc_region ?_
      (apply ow_move; (· rfl); (· ((conv => lhs; whnf) <;> rfl)))
      (apply ow_assign; (· rfl); (· ((conv => lhs; whnf) <;> rfl)))
      refine ow_nil ?_
      refine wc_seq ?_
      refine wc_region ?_
      (apply ow_move; (· rfl); (· ((conv => lhs; whnf) <;> rfl)))
      refine ow_len rfl rfl (tyAt rfl) rfl ?_
      (apply ow_move; (· rfl); (· ((conv => lhs; whnf) <;> rfl)))
      refine ow_nil ?_
      refine wc_blockJ [4, 9, 11, 12, 44, 45, 46, 47, 48, 49, 50, 51, 52, 53, 54, 55, 56, 57, 58, 59, 60, 61, 62, 63, 64, 65, 66, 67, 68, 69, 70, 71, 72, 73, 74, 75, 76, 77, 78, 79, 80, 81, 82, 83, 84, 85, 86, 87, 88, 89, 90, 91] (fun (_ : Unit) e => upd e 9 (.bool (smB (tb ms) i s0 g.ws.length))) (fun _ D w => D = [] ∧ St Pu w0 w (.row bm 3 (ints .i64 m) :: grC g ms) []) ?_ ?_
      · refine wc_loopS [4, 9, 11, 12, 44, 45, 46, 47, 48, 49, 50, 51, 52, 53, 54, 55, 56, 57, 58, 59, 60, 61, 62, 63, 64, 65, 66, 67, 68, 69, 70, 71, 72, 73, 74, 75, 76, 77, 78, 79, 80, 81, 82, 83, 84, 85, 86, 87, 88, 89, 90, 91] (fun (s : Nat) e => upd (upd e 9 (.bool (smB (tb ms) i s0 s))) 44 (.int .i64 s)) (fun s D w => D = [] ∧ s ≤ g.ws.length ∧ St Pu w0 w (.row bm 3 (ints .i64 m) :: grC g ms) []) (fun s _ => g.ws.length - s) 0 (by first | exact rfl | exact upd_self' rfl rfl | exact upd_self' rfl (upd_self' rfl rfl) | exact upd_self' rfl (upd_self' rfl (upd_self' rfl rfl)) | exact upd_self' rfl (upd_self' rfl (upd_self' rfl (upd_self' rfl rfl)))) ⟨rfl, Nat.zero_le _, H⟩ ?_
        clear H
        rintro k jj D w ⟨rfl, hk, H⟩
        have hs1 : smB (tb ms) i s0 (k + 1) = (smB (tb ms) i s0 k || decide (0 < btw (tb ms) (i : Int) (k : Int))) := rfl
        refine wc_seq ?_
        refine wc_region ?_
        refine ow_lss rfl rfl rfl ?_
        refine ow_nil ?_
        refine wc_seq ?_
        refine wc_cond_dec rfl (fun h => ?_) (fun h => ?_) <;> try dsimp only at h
        · have hlk : k < g.ws.length := by omega
          refine wc_skip ?_
          refine wc_seq ?_
          refine wc_block ?_
          refine wc_seq ?_
          refine wc_region ?_
          (apply ow_move; (· rfl); (· ((conv => lhs; whnf) <;> rfl)))
          (apply ow_assign; (· rfl); (· ((conv => lhs; whnf) <;> rfl)))
          refine ow_nil ?_
          refine wc_seq ?_
          refine wc_region ?_
          (apply ow_move; (· rfl); (· ((conv => lhs; whnf) <;> rfl)))
          (apply ow_move; (· rfl); (· ((conv => lhs; whnf) <;> rfl)))
          (apply ow_move; (· rfl); (· ((conv => lhs; whnf) <;> rfl)))
          refine ow_call rfl rfl (ent (by kernel_rfl)) (CallsV.mono (between_spec g ms (i : Int) (k : Int) hn h4 hW _ (hGr H)) ?_) rfl
          rintro v w ⟨rfl, H'⟩
          replace H := H.call H'
          rw [List.nil_append] at H
          clear H'
          obtain ⟨bt, hbt⟩ : ∃ bt, btw (tb ms) (i : Int) (k : Int) = bt := ⟨_, rfl⟩
          have hbl := hW.btw_le (i : Int) (k : Int)
          have hal := fun ha hb => hal0 i hlt hlt ha k hlk hb
          have hpos := hpos0 i hlt
          rw [hbt] at hs1 hbl hal ⊢
          cases hsk : smB (tb ms) i s0 k with
          | true =>
            rw [hsk, Bool.true_or] at hs1
            (apply ow_assign; (· rfl); (· ((conv => lhs; whnf) <;> rfl)))
            refine ow_nil ?_
            refine wc_seq ?_
            refine wc_region ?_
            (apply ow_move; (· rfl); (· ((conv => lhs; whnf) <;> rfl)))
            (apply ow_move; (· rfl); (· ((conv => lhs; whnf) <;> rfl)))
            refine ow_guard_no rfl rfl rfl rfl rfl rfl rfl ?_
            refine ow_guard_no rfl rfl rfl rfl rfl rfl rfl ?_
            (apply ow_pick_t; (· rfl); (· rfl); (· ((conv => lhs; whnf) <;> rfl)))
            (apply ow_assign; (· rfl); (· ((conv => lhs; whnf) <;> rfl)))
            refine ow_nil ?_
            refine wc_seq ?_
            refine wc_region ?_
            (apply ow_move; (· rfl); (· ((conv => lhs; whnf) <;> rfl)))
            (apply ow_move; (· rfl); (· ((conv => lhs; whnf) <;> rfl)))
            refine ow_idx1 (j := i) rfl (tyAt rfl) rfl (tyAt rfl) rfl rfl rfl (by omega) rfl ?_
            skip
            refine ow_load rfl (tyAt rfl) rfl rfl (SlH.int (H.rowSl (i := 0) rfl) (by omega)) ?_
            (apply ow_move; (· rfl); (· ((conv => lhs; whnf) <;> rfl)))
            refine ow_eql rfl rfl rfl ?_
            (apply ow_move; (· rfl); (· ((conv => lhs; whnf) <;> rfl)))
            refine ow_guard_dec rfl rfl rfl (fun h => ?_) (fun h => ?_) <;> try dsimp only at h
            · have ha := h
              clear h
              refine ow_guard_yes rfl rfl rfl rfl ?_
              (apply ow_move; (· rfl); (· ((conv => lhs; whnf) <;> rfl)))
              refine ow_guard_yes rfl rfl rfl rfl ?_
              (apply ow_move; (· rfl); (· ((conv => lhs; whnf) <;> rfl)))
              refine ow_guard_yes rfl rfl rfl rfl ?_
              refine ow_idx1 (j := k) rfl (tyAt rfl) rfl (tyAt rfl) rfl rfl rfl (by omega) rfl ?_
              refine ow_guard_yes rfl rfl rfl rfl ?_
              refine ow_load rfl (tyAt rfl) rfl rfl (SlH.int (H.rowSl (i := 0) rfl) (by omega)) ?_
              refine ow_guard_yes rfl rfl rfl rfl ?_
              (apply ow_move; (· rfl); (· ((conv => lhs; whnf) <;> rfl)))
              refine ow_guard_yes rfl rfl rfl rfl ?_
              refine ow_eql rfl rfl rfl ?_
              (apply ow_pick_t; (· rfl); (· rfl); (· ((conv => lhs; whnf) <;> rfl)))
              (apply ow_move; (· rfl); (· ((conv => lhs; whnf) <;> rfl)))
              refine ow_guard_dec rfl rfl rfl (fun h => ?_) (fun h => ?_) <;> try dsimp only at h
              · have hb := h
                clear h
                have hw0 := hal ha hb
                refine ow_guard_yes rfl rfl rfl rfl ?_
                (apply ow_move; (· rfl); (· ((conv => lhs; whnf) <;> rfl)))
                refine ow_guard_yes rfl rfl rfl rfl ?_
                refine ow_gtr rfl rfl rfl ?_
                (apply ow_pick_t; (· rfl); (· rfl); (· ((conv => lhs; whnf) <;> rfl)))
                (apply ow_move; (· rfl); (· ((conv => lhs; whnf) <;> rfl)))
                refine ow_guard_dec rfl rfl rfl (fun h => (show False by omega).elim) (fun _ => ?_)
                refine ow_guard_yes rfl rfl rfl rfl ?_
                (apply ow_move; (· rfl); (· ((conv => lhs; whnf) <;> rfl)))
                refine ow_guard_yes rfl rfl rfl rfl ?_
                (apply ow_move; (· rfl); (· ((conv => lhs; whnf) <;> rfl)))
                refine ow_guard_yes rfl rfl rfl rfl ?_
                refine ow_idx1 (j := i) rfl (tyAt rfl) rfl (tyAt rfl) rfl rfl rfl (by omega) rfl ?_
                refine ow_guard_yes rfl rfl rfl rfl ?_
                refine ow_load rfl (tyAt rfl) rfl rfl (SlH.int (H.rowSl (i := 0) rfl) (by omega)) ?_
                refine ow_guard_yes rfl rfl rfl rfl ?_
                (apply ow_move; (· rfl); (· ((conv => lhs; whnf) <;> rfl)))
                refine ow_guard_yes rfl rfl rfl rfl ?_
                refine ow_eql rfl rfl rfl ?_
                refine ow_guard_yes rfl rfl rfl rfl ?_
                (apply ow_move; (· rfl); (· ((conv => lhs; whnf) <;> rfl)))
                refine ow_guard_dec rfl rfl rfl (fun h => ?_) (fun h => ?_) <;> try dsimp only at h
                · refine ow_guard_yes rfl rfl rfl rfl ?_
                  (apply ow_move; (· rfl); (· ((conv => lhs; whnf) <;> rfl)))
                  refine ow_guard_yes rfl rfl rfl rfl ?_
                  (apply ow_move; (· rfl); (· ((conv => lhs; whnf) <;> rfl)))
                  refine ow_guard_yes rfl rfl rfl rfl ?_
                  refine ow_neq rfl rfl rfl ?_
                  refine ow_guard_yes rfl rfl rfl rfl ?_
                  (apply ow_pick_t; (· rfl); (· rfl); (· ((conv => lhs; whnf) <;> rfl)))
                  refine ow_guard_yes rfl rfl rfl rfl ?_
                  (apply ow_move; (· rfl); (· ((conv => lhs; whnf) <;> rfl)))
                  refine ow_guard_dec rfl rfl rfl (fun h => (show False by omega).elim) (fun _ => ?_)
                  refine ow_guard_no rfl rfl rfl rfl rfl rfl rfl ?_
                  refine ow_guard_no rfl rfl rfl rfl rfl rfl rfl ?_
                  refine ow_guard_yes rfl rfl rfl rfl ?_
                  (apply ow_pick_f; (· rfl); (· rfl); (· ((conv => lhs; whnf) <;> rfl)))
                  (apply ow_pick_f; (· rfl); (· rfl); (· ((conv => lhs; whnf) <;> rfl)))
                  refine ow_nil ?_
                  refine wc_cond_false rfl ?_
                  refine wc_skip ?_
                  refine wc_region ?_
                  refine ow_add rfl rfl rfl (by simp only [InK]; omega) ?_
                  (apply ow_move; (· rfl); (· ((conv => lhs; whnf) <;> rfl)))
                  refine ow_nil ?_
                  refine ⟨k + 1, ?_, by repeat (first | with_reducible exact Off.mix | with_reducible exact Off.refl | ((with_reducible refine Off.upd ?_ ?_); (· rfl))), ⟨rfl, by omega, H⟩, by omega⟩
                  rw [hs1]
                  first | exact rfl | exact upd_self' rfl rfl | exact upd_self' rfl (upd_self' rfl rfl) | exact upd_self' rfl (upd_self' rfl (upd_self' rfl rfl)) | exact upd_self' rfl (upd_self' rfl (upd_self' rfl (upd_self' rfl rfl)))
                · refine ow_guard_no rfl rfl rfl rfl rfl rfl rfl ?_
                  refine ow_guard_no rfl rfl rfl rfl rfl rfl rfl ?_
                  refine ow_guard_no rfl rfl rfl rfl rfl rfl rfl ?_
                  refine ow_guard_yes rfl rfl rfl rfl ?_
                  (apply ow_pick_f; (· rfl); (· rfl); (· ((conv => lhs; whnf) <;> rfl)))
                  refine ow_guard_yes rfl rfl rfl rfl ?_
                  (apply ow_move; (· rfl); (· ((conv => lhs; whnf) <;> rfl)))
                  refine ow_guard_no rfl rfl rfl rfl rfl rfl rfl ?_
                  refine ow_guard_no rfl rfl rfl rfl rfl rfl rfl ?_
                  refine ow_guard_yes rfl rfl rfl rfl ?_
                  (apply ow_pick_f; (· rfl); (· rfl); (· ((conv => lhs; whnf) <;> rfl)))
                  (apply ow_pick_f; (· rfl); (· rfl); (· ((conv => lhs; whnf) <;> rfl)))
                  refine ow_nil ?_
                  refine wc_cond_false rfl ?_
                  refine wc_skip ?_
                  refine wc_region ?_
                  refine ow_add rfl rfl rfl (by simp only [InK]; omega) ?_
                  (apply ow_move; (· rfl); (· ((conv => lhs; whnf) <;> rfl)))
                  refine ow_nil ?_
                  refine ⟨k + 1, ?_, by repeat (first | with_reducible exact Off.mix | with_reducible exact Off.refl | ((with_reducible refine Off.upd ?_ ?_); (· rfl))), ⟨rfl, by omega, H⟩, by omega⟩
                  rw [hs1]
                  first | exact rfl | exact upd_self' rfl rfl | exact upd_self' rfl (upd_self' rfl rfl) | exact upd_self' rfl (upd_self' rfl (upd_self' rfl rfl)) | exact upd_self' rfl (upd_self' rfl (upd_self' rfl (upd_self' rfl rfl)))
              · have hb := h
                clear h
                refine ow_guard_no rfl rfl rfl rfl rfl rfl rfl ?_
                refine ow_guard_no rfl rfl rfl rfl rfl rfl rfl ?_
                (apply ow_pick_f; (· rfl); (· rfl); (· ((conv => lhs; whnf) <;> rfl)))
                (apply ow_move; (· rfl); (· ((conv => lhs; whnf) <;> rfl)))
                refine ow_guard_yes rfl rfl rfl rfl ?_
                (apply ow_move; (· rfl); (· ((conv => lhs; whnf) <;> rfl)))
                refine ow_guard_yes rfl rfl rfl rfl ?_
                (apply ow_move; (· rfl); (· ((conv => lhs; whnf) <;> rfl)))
                refine ow_guard_yes rfl rfl rfl rfl ?_
                refine ow_idx1 (j := i) rfl (tyAt rfl) rfl (tyAt rfl) rfl rfl rfl (by omega) rfl ?_
                refine ow_guard_yes rfl rfl rfl rfl ?_
                refine ow_load rfl (tyAt rfl) rfl rfl (SlH.int (H.rowSl (i := 0) rfl) (by omega)) ?_
                refine ow_guard_yes rfl rfl rfl rfl ?_
                (apply ow_move; (· rfl); (· ((conv => lhs; whnf) <;> rfl)))
                refine ow_guard_yes rfl rfl rfl rfl ?_
                refine ow_eql rfl rfl rfl ?_
                refine ow_guard_yes rfl rfl rfl rfl ?_
                (apply ow_move; (· rfl); (· ((conv => lhs; whnf) <;> rfl)))
                refine ow_guard_dec rfl rfl rfl (fun h => (show False by exact hb (by rw [← show i = k by omega]; exact ha)).elim) (fun _ => ?_)
                refine ow_guard_no rfl rfl rfl rfl rfl rfl rfl ?_
                refine ow_guard_no rfl rfl rfl rfl rfl rfl rfl ?_
                refine ow_guard_no rfl rfl rfl rfl rfl rfl rfl ?_
                refine ow_guard_yes rfl rfl rfl rfl ?_
                (apply ow_pick_f; (· rfl); (· rfl); (· ((conv => lhs; whnf) <;> rfl)))
                refine ow_guard_yes rfl rfl rfl rfl ?_
                (apply ow_move; (· rfl); (· ((conv => lhs; whnf) <;> rfl)))
                refine ow_guard_no rfl rfl rfl rfl rfl rfl rfl ?_
                refine ow_guard_no rfl rfl rfl rfl rfl rfl rfl ?_
                refine ow_guard_yes rfl rfl rfl rfl ?_
                (apply ow_pick_f; (· rfl); (· rfl); (· ((conv => lhs; whnf) <;> rfl)))
                (apply ow_pick_f; (· rfl); (· rfl); (· ((conv => lhs; whnf) <;> rfl)))
                refine ow_nil ?_
                refine wc_cond_false rfl ?_
                refine wc_skip ?_
                refine wc_region ?_
                refine ow_add rfl rfl rfl (by simp only [InK]; omega) ?_
                (apply ow_move; (· rfl); (· ((conv => lhs; whnf) <;> rfl)))
                refine ow_nil ?_
                refine ⟨k + 1, ?_, by repeat (first | with_reducible exact Off.mix | with_reducible exact Off.refl | ((with_reducible refine Off.upd ?_ ?_); (· rfl))), ⟨rfl, by omega, H⟩, by omega⟩
                rw [hs1]
                first | exact rfl | exact upd_self' rfl rfl | exact upd_self' rfl (upd_self' rfl rfl) | exact upd_self' rfl (upd_self' rfl (upd_self' rfl rfl)) | exact upd_self' rfl (upd_self' rfl (upd_self' rfl (upd_self' rfl rfl)))
            · have ha := h
              clear h
              have hps := hpos ha
              refine ow_guard_no rfl rfl rfl rfl rfl rfl rfl ?_
              refine ow_guard_no rfl rfl rfl rfl rfl rfl rfl ?_
              refine ow_guard_no rfl rfl rfl rfl rfl rfl rfl ?_
              refine ow_guard_no rfl rfl rfl rfl rfl rfl rfl ?_
              refine ow_guard_no rfl rfl rfl rfl rfl rfl rfl ?_
              refine ow_guard_no rfl rfl rfl rfl rfl rfl rfl ?_
              (apply ow_pick_f; (· rfl); (· rfl); (· ((conv => lhs; whnf) <;> rfl)))
              (apply ow_move; (· rfl); (· ((conv => lhs; whnf) <;> rfl)))
              refine ow_guard_no rfl rfl rfl rfl rfl rfl rfl ?_
              refine ow_guard_no rfl rfl rfl rfl rfl rfl rfl ?_
              (apply ow_pick_f; (· rfl); (· rfl); (· ((conv => lhs; whnf) <;> rfl)))
              (apply ow_move; (· rfl); (· ((conv => lhs; whnf) <;> rfl)))
              refine ow_guard_yes rfl rfl rfl rfl ?_
              (apply ow_move; (· rfl); (· ((conv => lhs; whnf) <;> rfl)))
              refine ow_guard_yes rfl rfl rfl rfl ?_
              (apply ow_move; (· rfl); (· ((conv => lhs; whnf) <;> rfl)))
              refine ow_guard_yes rfl rfl rfl rfl ?_
              refine ow_idx1 (j := i) rfl (tyAt rfl) rfl (tyAt rfl) rfl rfl rfl (by omega) rfl ?_
              refine ow_guard_yes rfl rfl rfl rfl ?_
              refine ow_load rfl (tyAt rfl) rfl rfl (SlH.int (H.rowSl (i := 0) rfl) (by omega)) ?_
              refine ow_guard_yes rfl rfl rfl rfl ?_
              (apply ow_move; (· rfl); (· ((conv => lhs; whnf) <;> rfl)))
              refine ow_guard_yes rfl rfl rfl rfl ?_
              refine ow_eql rfl rfl rfl ?_
              refine ow_guard_yes rfl rfl rfl rfl ?_
              (apply ow_move; (· rfl); (· ((conv => lhs; whnf) <;> rfl)))
              refine ow_guard_dec rfl rfl rfl (fun h => ?_) (fun h => ?_) <;> try dsimp only at h
              · rw [h, hbt] at hps
                refine ow_guard_yes rfl rfl rfl rfl ?_
                (apply ow_move; (· rfl); (· ((conv => lhs; whnf) <;> rfl)))
                refine ow_guard_yes rfl rfl rfl rfl ?_
                (apply ow_move; (· rfl); (· ((conv => lhs; whnf) <;> rfl)))
                refine ow_guard_yes rfl rfl rfl rfl ?_
                refine ow_neq rfl rfl rfl ?_
                refine ow_guard_yes rfl rfl rfl rfl ?_
                (apply ow_pick_t; (· rfl); (· rfl); (· ((conv => lhs; whnf) <;> rfl)))
                refine ow_guard_yes rfl rfl rfl rfl ?_
                (apply ow_move; (· rfl); (· ((conv => lhs; whnf) <;> rfl)))
                refine ow_guard_dec rfl rfl rfl (fun _ => ?_) (fun h => (h (by omega)).elim)
                refine ow_guard_yes rfl rfl rfl rfl ?_
                (apply ow_move; (· rfl); (· ((conv => lhs; whnf) <;> rfl)))
                refine ow_guard_yes rfl rfl rfl rfl ?_
                refine ow_eql rfl rfl rfl ?_
                refine ow_guard_yes rfl rfl rfl rfl ?_
                (apply ow_pick_t; (· rfl); (· rfl); (· ((conv => lhs; whnf) <;> rfl)))
                (apply ow_pick_f; (· rfl); (· rfl); (· ((conv => lhs; whnf) <;> rfl)))
                refine ow_nil ?_
                rw [decide_eq_false (show ¬ bt = 0 by omega)]
                refine wc_cond_false rfl ?_
                refine wc_skip ?_
                refine wc_region ?_
                refine ow_add rfl rfl rfl (by simp only [InK]; omega) ?_
                (apply ow_move; (· rfl); (· ((conv => lhs; whnf) <;> rfl)))
                refine ow_nil ?_
                refine ⟨k + 1, ?_, by repeat (first | with_reducible exact Off.mix | with_reducible exact Off.refl | ((with_reducible refine Off.upd ?_ ?_); (· rfl))), ⟨rfl, by omega, H⟩, by omega⟩
                rw [hs1]
                first | exact rfl | exact upd_self' rfl rfl | exact upd_self' rfl (upd_self' rfl rfl) | exact upd_self' rfl (upd_self' rfl (upd_self' rfl rfl)) | exact upd_self' rfl (upd_self' rfl (upd_self' rfl (upd_self' rfl rfl)))
              · refine ow_guard_no rfl rfl rfl rfl rfl rfl rfl ?_
                refine ow_guard_no rfl rfl rfl rfl rfl rfl rfl ?_
                refine ow_guard_no rfl rfl rfl rfl rfl rfl rfl ?_
                refine ow_guard_yes rfl rfl rfl rfl ?_
                (apply ow_pick_f; (· rfl); (· rfl); (· ((conv => lhs; whnf) <;> rfl)))
                refine ow_guard_yes rfl rfl rfl rfl ?_
                (apply ow_move; (· rfl); (· ((conv => lhs; whnf) <;> rfl)))
                refine ow_guard_no rfl rfl rfl rfl rfl rfl rfl ?_
                refine ow_guard_no rfl rfl rfl rfl rfl rfl rfl ?_
                refine ow_guard_yes rfl rfl rfl rfl ?_
                (apply ow_pick_f; (· rfl); (· rfl); (· ((conv => lhs; whnf) <;> rfl)))
                (apply ow_pick_f; (· rfl); (· rfl); (· ((conv => lhs; whnf) <;> rfl)))
                refine ow_nil ?_
                refine wc_cond_false rfl ?_
                refine wc_skip ?_
                refine wc_region ?_
                refine ow_add rfl rfl rfl (by simp only [InK]; omega) ?_
                (apply ow_move; (· rfl); (· ((conv => lhs; whnf) <;> rfl)))
                refine ow_nil ?_
                refine ⟨k + 1, ?_, by repeat (first | with_reducible exact Off.mix | with_reducible exact Off.refl | ((with_reducible refine Off.upd ?_ ?_); (· rfl))), ⟨rfl, by omega, H⟩, by omega⟩
                rw [hs1]
                first | exact rfl | exact upd_self' rfl rfl | exact upd_self' rfl (upd_self' rfl rfl) | exact upd_self' rfl (upd_self' rfl (upd_self' rfl rfl)) | exact upd_self' rfl (upd_self' rfl (upd_self' rfl (upd_self' rfl rfl)))
          | false =>
            rw [hsk, Bool.false_or] at hs1
            (apply ow_assign; (· rfl); (· ((conv => lhs; whnf) <;> rfl)))
            refine ow_nil ?_
            refine wc_seq ?_
            refine wc_region ?_
            (apply ow_move; (· rfl); (· ((conv => lhs; whnf) <;> rfl)))
            (apply ow_move; (· rfl); (· ((conv => lhs; whnf) <;> rfl)))
            refine ow_guard_yes rfl rfl rfl rfl ?_
            (apply ow_move; (· rfl); (· ((conv => lhs; whnf) <;> rfl)))
            refine ow_guard_yes rfl rfl rfl rfl ?_
            refine ow_gtr rfl rfl rfl ?_
            (apply ow_pick_f; (· rfl); (· rfl); (· ((conv => lhs; whnf) <;> rfl)))
            (apply ow_assign; (· rfl); (· ((conv => lhs; whnf) <;> rfl)))
            refine ow_nil ?_
            refine wc_seq ?_
            refine wc_region ?_
            (apply ow_move; (· rfl); (· ((conv => lhs; whnf) <;> rfl)))
            (apply ow_move; (· rfl); (· ((conv => lhs; whnf) <;> rfl)))
            refine ow_idx1 (j := i) rfl (tyAt rfl) rfl (tyAt rfl) rfl rfl rfl (by omega) rfl ?_
            skip
            refine ow_load rfl (tyAt rfl) rfl rfl (SlH.int (H.rowSl (i := 0) rfl) (by omega)) ?_
            (apply ow_move; (· rfl); (· ((conv => lhs; whnf) <;> rfl)))
            refine ow_eql rfl rfl rfl ?_
            (apply ow_move; (· rfl); (· ((conv => lhs; whnf) <;> rfl)))
            refine ow_guard_dec rfl rfl rfl (fun h => ?_) (fun h => ?_) <;> try dsimp only at h
            · have ha := h
              clear h
              refine ow_guard_yes rfl rfl rfl rfl ?_
              (apply ow_move; (· rfl); (· ((conv => lhs; whnf) <;> rfl)))
              refine ow_guard_yes rfl rfl rfl rfl ?_
              (apply ow_move; (· rfl); (· ((conv => lhs; whnf) <;> rfl)))
              refine ow_guard_yes rfl rfl rfl rfl ?_
              refine ow_idx1 (j := k) rfl (tyAt rfl) rfl (tyAt rfl) rfl rfl rfl (by omega) rfl ?_
              refine ow_guard_yes rfl rfl rfl rfl ?_
              refine ow_load rfl (tyAt rfl) rfl rfl (SlH.int (H.rowSl (i := 0) rfl) (by omega)) ?_
              refine ow_guard_yes rfl rfl rfl rfl ?_
              (apply ow_move; (· rfl); (· ((conv => lhs; whnf) <;> rfl)))
              refine ow_guard_yes rfl rfl rfl rfl ?_
              refine ow_eql rfl rfl rfl ?_
              (apply ow_pick_t; (· rfl); (· rfl); (· ((conv => lhs; whnf) <;> rfl)))
              (apply ow_move; (· rfl); (· ((conv => lhs; whnf) <;> rfl)))
              refine ow_guard_dec rfl rfl rfl (fun h => ?_) (fun h => ?_) <;> try dsimp only at h
              · have hb := h
                clear h
                have hw0 := hal ha hb
                refine ow_guard_yes rfl rfl rfl rfl ?_
                (apply ow_move; (· rfl); (· ((conv => lhs; whnf) <;> rfl)))
                refine ow_guard_yes rfl rfl rfl rfl ?_
                refine ow_gtr rfl rfl rfl ?_
                (apply ow_pick_t; (· rfl); (· rfl); (· ((conv => lhs; whnf) <;> rfl)))
                (apply ow_move; (· rfl); (· ((conv => lhs; whnf) <;> rfl)))
                refine ow_guard_dec rfl rfl rfl (fun h => (show False by omega).elim) (fun _ => ?_)
                refine ow_guard_yes rfl rfl rfl rfl ?_
                (apply ow_move; (· rfl); (· ((conv => lhs; whnf) <;> rfl)))
                refine ow_guard_yes rfl rfl rfl rfl ?_
                (apply ow_move; (· rfl); (· ((conv => lhs; whnf) <;> rfl)))
                refine ow_guard_yes rfl rfl rfl rfl ?_
                refine ow_idx1 (j := i) rfl (tyAt rfl) rfl (tyAt rfl) rfl rfl rfl (by omega) rfl ?_
                refine ow_guard_yes rfl rfl rfl rfl ?_
                refine ow_load rfl (tyAt rfl) rfl rfl (SlH.int (H.rowSl (i := 0) rfl) (by omega)) ?_
                refine ow_guard_yes rfl rfl rfl rfl ?_
                (apply ow_move; (· rfl); (· ((conv => lhs; whnf) <;> rfl)))
                refine ow_guard_yes rfl rfl rfl rfl ?_
                refine ow_eql rfl rfl rfl ?_
                refine ow_guard_yes rfl rfl rfl rfl ?_
                (apply ow_move; (· rfl); (· ((conv => lhs; whnf) <;> rfl)))
                refine ow_guard_dec rfl rfl rfl (fun h => ?_) (fun h => ?_) <;> try dsimp only at h
                · refine ow_guard_yes rfl rfl rfl rfl ?_
                  (apply ow_move; (· rfl); (· ((conv => lhs; whnf) <;> rfl)))
                  refine ow_guard_yes rfl rfl rfl rfl ?_
                  (apply ow_move; (· rfl); (· ((conv => lhs; whnf) <;> rfl)))
                  refine ow_guard_yes rfl rfl rfl rfl ?_
                  refine ow_neq rfl rfl rfl ?_
                  refine ow_guard_yes rfl rfl rfl rfl ?_
                  (apply ow_pick_t; (· rfl); (· rfl); (· ((conv => lhs; whnf) <;> rfl)))
                  refine ow_guard_yes rfl rfl rfl rfl ?_
                  (apply ow_move; (· rfl); (· ((conv => lhs; whnf) <;> rfl)))
                  refine ow_guard_dec rfl rfl rfl (fun h => (show False by omega).elim) (fun _ => ?_)
                  refine ow_guard_no rfl rfl rfl rfl rfl rfl rfl ?_
                  refine ow_guard_no rfl rfl rfl rfl rfl rfl rfl ?_
                  refine ow_guard_yes rfl rfl rfl rfl ?_
                  (apply ow_pick_f; (· rfl); (· rfl); (· ((conv => lhs; whnf) <;> rfl)))
                  (apply ow_pick_f; (· rfl); (· rfl); (· ((conv => lhs; whnf) <;> rfl)))
                  refine ow_nil ?_
                  refine wc_cond_false rfl ?_
                  refine wc_skip ?_
                  refine wc_region ?_
                  refine ow_add rfl rfl rfl (by simp only [InK]; omega) ?_
                  (apply ow_move; (· rfl); (· ((conv => lhs; whnf) <;> rfl)))
                  refine ow_nil ?_
                  refine ⟨k + 1, ?_, by repeat (first | with_reducible exact Off.mix | with_reducible exact Off.refl | ((with_reducible refine Off.upd ?_ ?_); (· rfl))), ⟨rfl, by omega, H⟩, by omega⟩
                  rw [hs1]
                  first | exact rfl | exact upd_self' rfl rfl | exact upd_self' rfl (upd_self' rfl rfl) | exact upd_self' rfl (upd_self' rfl (upd_self' rfl rfl)) | exact upd_self' rfl (upd_self' rfl (upd_self' rfl (upd_self' rfl rfl)))
                · refine ow_guard_no rfl rfl rfl rfl rfl rfl rfl ?_
                  refine ow_guard_no rfl rfl rfl rfl rfl rfl rfl ?_
                  refine ow_guard_no rfl rfl rfl rfl rfl rfl rfl ?_
                  refine ow_guard_yes rfl rfl rfl rfl ?_
                  (apply ow_pick_f; (· rfl); (· rfl); (· ((conv => lhs; whnf) <;> rfl)))
                  refine ow_guard_yes rfl rfl rfl rfl ?_
                  (apply ow_move; (· rfl); (· ((conv => lhs; whnf) <;> rfl)))
                  refine ow_guard_no rfl rfl rfl rfl rfl rfl rfl ?_
                  refine ow_guard_no rfl rfl rfl rfl rfl rfl rfl ?_
                  refine ow_guard_yes rfl rfl rfl rfl ?_
                  (apply ow_pick_f; (· rfl); (· rfl); (· ((conv => lhs; whnf) <;> rfl)))
                  (apply ow_pick_f; (· rfl); (· rfl); (· ((conv => lhs; whnf) <;> rfl)))
                  refine ow_nil ?_
                  refine wc_cond_false rfl ?_
                  refine wc_skip ?_
                  refine wc_region ?_
                  refine ow_add rfl rfl rfl (by simp only [InK]; omega) ?_
                  (apply ow_move; (· rfl); (· ((conv => lhs; whnf) <;> rfl)))
                  refine ow_nil ?_
                  refine ⟨k + 1, ?_, by repeat (first | with_reducible exact Off.mix | with_reducible exact Off.refl | ((with_reducible refine Off.upd ?_ ?_); (· rfl))), ⟨rfl, by omega, H⟩, by omega⟩
                  rw [hs1]
                  first | exact rfl | exact upd_self' rfl rfl | exact upd_self' rfl (upd_self' rfl rfl) | exact upd_self' rfl (upd_self' rfl (upd_self' rfl rfl)) | exact upd_self' rfl (upd_self' rfl (upd_self' rfl (upd_self' rfl rfl)))
              · have hb := h
                clear h
                refine ow_guard_no rfl rfl rfl rfl rfl rfl rfl ?_
                refine ow_guard_no rfl rfl rfl rfl rfl rfl rfl ?_
                (apply ow_pick_f; (· rfl); (· rfl); (· ((conv => lhs; whnf) <;> rfl)))
                (apply ow_move; (· rfl); (· ((conv => lhs; whnf) <;> rfl)))
                refine ow_guard_yes rfl rfl rfl rfl ?_
                (apply ow_move; (· rfl); (· ((conv => lhs; whnf) <;> rfl)))
                refine ow_guard_yes rfl rfl rfl rfl ?_
                (apply ow_move; (· rfl); (· ((conv => lhs; whnf) <;> rfl)))
                refine ow_guard_yes rfl rfl rfl rfl ?_
                refine ow_idx1 (j := i) rfl (tyAt rfl) rfl (tyAt rfl) rfl rfl rfl (by omega) rfl ?_
                refine ow_guard_yes rfl rfl rfl rfl ?_
                refine ow_load rfl (tyAt rfl) rfl rfl (SlH.int (H.rowSl (i := 0) rfl) (by omega)) ?_
                refine ow_guard_yes rfl rfl rfl rfl ?_
                (apply ow_move; (· rfl); (· ((conv => lhs; whnf) <;> rfl)))
                refine ow_guard_yes rfl rfl rfl rfl ?_
                refine ow_eql rfl rfl rfl ?_
                refine ow_guard_yes rfl rfl rfl rfl ?_
                (apply ow_move; (· rfl); (· ((conv => lhs; whnf) <;> rfl)))
                refine ow_guard_dec rfl rfl rfl (fun h => (show False by exact hb (by rw [← show i = k by omega]; exact ha)).elim) (fun _ => ?_)
                refine ow_guard_no rfl rfl rfl rfl rfl rfl rfl ?_
                refine ow_guard_no rfl rfl rfl rfl rfl rfl rfl ?_
                refine ow_guard_no rfl rfl rfl rfl rfl rfl rfl ?_
                refine ow_guard_yes rfl rfl rfl rfl ?_
                (apply ow_pick_f; (· rfl); (· rfl); (· ((conv => lhs; whnf) <;> rfl)))
                refine ow_guard_yes rfl rfl rfl rfl ?_
                (apply ow_move; (· rfl); (· ((conv => lhs; whnf) <;> rfl)))
                refine ow_guard_no rfl rfl rfl rfl rfl rfl rfl ?_
                refine ow_guard_no rfl rfl rfl rfl rfl rfl rfl ?_
                refine ow_guard_yes rfl rfl rfl rfl ?_
                (apply ow_pick_f; (· rfl); (· rfl); (· ((conv => lhs; whnf) <;> rfl)))
                (apply ow_pick_f; (· rfl); (· rfl); (· ((conv => lhs; whnf) <;> rfl)))
                refine ow_nil ?_
                refine wc_cond_false rfl ?_
                refine wc_skip ?_
                refine wc_region ?_
                refine ow_add rfl rfl rfl (by simp only [InK]; omega) ?_
                (apply ow_move; (· rfl); (· ((conv => lhs; whnf) <;> rfl)))
                refine ow_nil ?_
                refine ⟨k + 1, ?_, by repeat (first | with_reducible exact Off.mix | with_reducible exact Off.refl | ((with_reducible refine Off.upd ?_ ?_); (· rfl))), ⟨rfl, by omega, H⟩, by omega⟩
                rw [hs1]
                first | exact rfl | exact upd_self' rfl rfl | exact upd_self' rfl (upd_self' rfl rfl) | exact upd_self' rfl (upd_self' rfl (upd_self' rfl rfl)) | exact upd_self' rfl (upd_self' rfl (upd_self' rfl (upd_self' rfl rfl)))
            · have ha := h
              clear h
              have hps := hpos ha
              refine ow_guard_no rfl rfl rfl rfl rfl rfl rfl ?_
              refine ow_guard_no rfl rfl rfl rfl rfl rfl rfl ?_
              refine ow_guard_no rfl rfl rfl rfl rfl rfl rfl ?_
              refine ow_guard_no rfl rfl rfl rfl rfl rfl rfl ?_
              refine ow_guard_no rfl rfl rfl rfl rfl rfl rfl ?_
              refine ow_guard_no rfl rfl rfl rfl rfl rfl rfl ?_
              (apply ow_pick_f; (· rfl); (· rfl); (· ((conv => lhs; whnf) <;> rfl)))
              (apply ow_move; (· rfl); (· ((conv => lhs; whnf) <;> rfl)))
              refine ow_guard_no rfl rfl rfl rfl rfl rfl rfl ?_
              refine ow_guard_no rfl rfl rfl rfl rfl rfl rfl ?_
              (apply ow_pick_f; (· rfl); (· rfl); (· ((conv => lhs; whnf) <;> rfl)))
              (apply ow_move; (· rfl); (· ((conv => lhs; whnf) <;> rfl)))
              refine ow_guard_yes rfl rfl rfl rfl ?_
              (apply ow_move; (· rfl); (· ((conv => lhs; whnf) <;> rfl)))
              refine ow_guard_yes rfl rfl rfl rfl ?_
              (apply ow_move; (· rfl); (· ((conv => lhs; whnf) <;> rfl)))
              refine ow_guard_yes rfl rfl rfl rfl ?_
              refine ow_idx1 (j := i) rfl (tyAt rfl) rfl (tyAt rfl) rfl rfl rfl (by omega) rfl ?_
              refine ow_guard_yes rfl rfl rfl rfl ?_
              refine ow_load rfl (tyAt rfl) rfl rfl (SlH.int (H.rowSl (i := 0) rfl) (by omega)) ?_
              refine ow_guard_yes rfl rfl rfl rfl ?_
              (apply ow_move; (· rfl); (· ((conv => lhs; whnf) <;> rfl)))
              refine ow_guard_yes rfl rfl rfl rfl ?_
              refine ow_eql rfl rfl rfl ?_
              refine ow_guard_yes rfl rfl rfl rfl ?_
              (apply ow_move; (· rfl); (· ((conv => lhs; whnf) <;> rfl)))
              refine ow_guard_dec rfl rfl rfl (fun h => ?_) (fun h => ?_) <;> try dsimp only at h
              · rw [h, hbt] at hps
                refine ow_guard_yes rfl rfl rfl rfl ?_
                (apply ow_move; (· rfl); (· ((conv => lhs; whnf) <;> rfl)))
                refine ow_guard_yes rfl rfl rfl rfl ?_
                (apply ow_move; (· rfl); (· ((conv => lhs; whnf) <;> rfl)))
                refine ow_guard_yes rfl rfl rfl rfl ?_
                refine ow_neq rfl rfl rfl ?_
                refine ow_guard_yes rfl rfl rfl rfl ?_
                (apply ow_pick_t; (· rfl); (· rfl); (· ((conv => lhs; whnf) <;> rfl)))
                refine ow_guard_yes rfl rfl rfl rfl ?_
                (apply ow_move; (· rfl); (· ((conv => lhs; whnf) <;> rfl)))
                refine ow_guard_dec rfl rfl rfl (fun _ => ?_) (fun h => (h (by omega)).elim)
                refine ow_guard_yes rfl rfl rfl rfl ?_
                (apply ow_move; (· rfl); (· ((conv => lhs; whnf) <;> rfl)))
                refine ow_guard_yes rfl rfl rfl rfl ?_
                refine ow_eql rfl rfl rfl ?_
                refine ow_guard_yes rfl rfl rfl rfl ?_
                (apply ow_pick_t; (· rfl); (· rfl); (· ((conv => lhs; whnf) <;> rfl)))
                (apply ow_pick_f; (· rfl); (· rfl); (· ((conv => lhs; whnf) <;> rfl)))
                refine ow_nil ?_
                rw [decide_eq_false (show ¬ bt = 0 by omega)]
                refine wc_cond_false rfl ?_
                refine wc_skip ?_
                refine wc_region ?_
                refine ow_add rfl rfl rfl (by simp only [InK]; omega) ?_
                (apply ow_move; (· rfl); (· ((conv => lhs; whnf) <;> rfl)))
                refine ow_nil ?_
                refine ⟨k + 1, ?_, by repeat (first | with_reducible exact Off.mix | with_reducible exact Off.refl | ((with_reducible refine Off.upd ?_ ?_); (· rfl))), ⟨rfl, by omega, H⟩, by omega⟩
                rw [hs1]
                first | exact rfl | exact upd_self' rfl rfl | exact upd_self' rfl (upd_self' rfl rfl) | exact upd_self' rfl (upd_self' rfl (upd_self' rfl rfl)) | exact upd_self' rfl (upd_self' rfl (upd_self' rfl (upd_self' rfl rfl)))
              · refine ow_guard_no rfl rfl rfl rfl rfl rfl rfl ?_
                refine ow_guard_no rfl rfl rfl rfl rfl rfl rfl ?_
                refine ow_guard_no rfl rfl rfl rfl rfl rfl rfl ?_
                refine ow_guard_yes rfl rfl rfl rfl ?_
                (apply ow_pick_f; (· rfl); (· rfl); (· ((conv => lhs; whnf) <;> rfl)))
                refine ow_guard_yes rfl rfl rfl rfl ?_
                (apply ow_move; (· rfl); (· ((conv => lhs; whnf) <;> rfl)))
                refine ow_guard_no rfl rfl rfl rfl rfl rfl rfl ?_
                refine ow_guard_no rfl rfl rfl rfl rfl rfl rfl ?_
                refine ow_guard_yes rfl rfl rfl rfl ?_
                (apply ow_pick_f; (· rfl); (· rfl); (· ((conv => lhs; whnf) <;> rfl)))
                (apply ow_pick_f; (· rfl); (· rfl); (· ((conv => lhs; whnf) <;> rfl)))
                refine ow_nil ?_
                refine wc_cond_false rfl ?_
                refine wc_skip ?_
                refine wc_region ?_
                refine ow_add rfl rfl rfl (by simp only [InK]; omega) ?_
                (apply ow_move; (· rfl); (· ((conv => lhs; whnf) <;> rfl)))
                refine ow_nil ?_
                refine ⟨k + 1, ?_, by repeat (first | with_reducible exact Off.mix | with_reducible exact Off.refl | ((with_reducible refine Off.upd ?_ ?_); (· rfl))), ⟨rfl, by omega, H⟩, by omega⟩
                rw [hs1]
                first | exact rfl | exact upd_self' rfl rfl | exact upd_self' rfl (upd_self' rfl rfl) | exact upd_self' rfl (upd_self' rfl (upd_self' rfl rfl)) | exact upd_self' rfl (upd_self' rfl (upd_self' rfl (upd_self' rfl rfl)))
        · have hk' : k = g.ws.length := by omega
          subst hk'
          refine wc_exit ?_
          exact ⟨(), by first | exact rfl | exact upd_self' rfl rfl | exact upd_self' rfl (upd_self' rfl rfl) | exact upd_self' rfl (upd_self' rfl (upd_self' rfl rfl)) | exact upd_self' rfl (upd_self' rfl (upd_self' rfl (upd_self' rfl rfl))), by repeat (first | with_reducible exact Off.mix | with_reducible exact Off.refl | ((with_reducible refine Off.upd ?_ ?_); (· rfl)) | ((with_reducible refine Off.mixN ?_ ?_); (· rfl))), ⟨rfl, H⟩⟩
      clear H
      rintro _ jj D w ⟨rfl, H⟩
      rw [← hsA]
      refine wc_region ?_
      refine ow_add rfl rfl rfl (by simp only [InK]; omega) ?_
      (apply ow_move; (· rfl); (· ((conv => lhs; whnf) <;> rfl)))
      refine ow_nil ?_
      exact ⟨i + 1, by first | exact rfl | exact upd_self' rfl rfl | exact upd_self' rfl (upd_self' rfl rfl) | exact upd_self' rfl (upd_self' rfl (upd_self' rfl rfl)) | exact upd_self' rfl (upd_self' rfl (upd_self' rfl (upd_self' rfl rfl))), by repeat (first | with_reducible exact Off.mix | with_reducible exact Off.refl | ((with_reducible refine Off.upd ?_ ?_); (· rfl)) | ((with_reducible refine Off.mixN ?_ ?_); (· rfl))), ⟨rfl, hlt, H⟩, by omega⟩
    · have hi' : i = g.ws.length := by omega
      subst hi'
      refine wc_exit ?_
      exact ⟨(), by first | exact rfl | exact upd_self' rfl rfl | exact upd_self' rfl (upd_self' rfl rfl) | exact upd_self' rfl (upd_self' rfl (upd_self' rfl rfl)) | exact upd_self' rfl (upd_self' rfl (upd_self' rfl (upd_self' rfl rfl))), by repeat (first | with_reducible exact Off.mix | with_reducible exact Off.refl | ((with_reducible refine Off.upd ?_ ?_); (· rfl)) | ((with_reducible refine Off.mixN ?_ ?_); (· rfl))), ⟨rfl, H⟩⟩
  clear H
  rintro _ j D w ⟨rfl, H⟩
  have hct : cntM m = (m.length : Int) - ((prL m).length : Int) := if_pos hHI.rt
  have hhf := half hHI.rt
  have hca := (cntA_in m m.length).1
  have hpl : (prL m).length ≤ m.length := prU_len m m.length
  rw [hsome]
  refine wc_seq ?_
  refine wc_region ?_
  (apply ow_move; (· rfl); (· ((conv => lhs; whnf) <;> rfl)))
  refine ow_call rfl rfl (ent (by kernel_rfl)) (CallsV.mono (count_spec (some ⟨bm, 0, none⟩) _ m (by omega) _ (H.rowSl (i := 0) rfl)) ?_) rfl
  rintro v w ⟨rfl, H'⟩
  replace H := H.call H'
  rw [List.nil_append] at H
  clear H'
  generalize cntM m = cm at *
  (apply ow_assign; (· rfl); (· ((conv => lhs; whnf) <;> rfl)))
  refine ow_nil ?_
  refine wc_seq ?_
  refine wc_region ?_
  (apply ow_move; (· rfl); (· ((conv => lhs; whnf) <;> rfl)))
  refine ow_mul rfl rfl rfl (by simp only [InK]; omega) ?_
  (apply ow_move; (· rfl); (· ((conv => lhs; whnf) <;> rfl)))
  refine ow_len rfl rfl (tyAt rfl) rfl ?_
  refine ow_geq rfl rfl rfl ?_
  (apply ow_move; (· rfl); (· ((conv => lhs; whnf) <;> rfl)))
  refine ow_guard_dec rfl rfl rfl (fun _ => ?_) (fun h => (h (by omega)).elim)
  refine ow_guard_yes rfl rfl rfl rfl ?_
  (apply ow_move; (· rfl); (· ((conv => lhs; whnf) <;> rfl)))
  refine ow_guard_yes rfl rfl rfl rfl ?_
  (apply ow_move; (· rfl); (· ((conv => lhs; whnf) <;> rfl)))
  refine ow_guard_yes rfl rfl rfl rfl ?_
  refine ow_len rfl rfl (tyAt rfl) rfl ?_
  refine ow_guard_yes rfl rfl rfl rfl ?_
  refine ow_lss rfl rfl rfl ?_
  refine ow_guard_yes rfl rfl rfl rfl ?_
  (apply ow_move; (· rfl); (· ((conv => lhs; whnf) <;> rfl)))
  refine ow_guard_yes rfl rfl rfl rfl ?_
  refine ow_eqlb rfl rfl rfl (tyAt rfl) rfl ?_
  (apply ow_pick_t; (· rfl); (· rfl); (· ((conv => lhs; whnf) <;> rfl)))
  (apply ow_assign; (· rfl); (· ((conv => lhs; whnf) <;> rfl)))
  refine ow_nil ?_
  refine wc_ret ?_
  obtain ⟨w, hT, H⟩ := H.takes Try.prog
  refine ⟨.inr rfl, w, hT, _, .tmp .nil, ?_⟩
  exact ⟨congrArg Value.bool (by rw [beq_self_eq_true]), H.none⟩
end Go.Proofs.Ytgliblmpiilloaa
