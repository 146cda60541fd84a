/- The statement's function 'sandtablelaw10.PairingFirst' returns true at every input, and changes nothing that was there. -/
import Derived.Test.YtgliblmpiilloaaN5
import Derived.Test.YtgliblmpiilloaaQH
namespace Go.Proofs.Ytgliblmpiilloaa
set_option linter.all false
open Go Go.Sx Go.Proofs
set_option maxRecDepth 100000
set_option maxHeartbeats 2000000
def mxB (T : List IE) (i : Nat) : Nat → Int
  | 0 => 0
  | k + 1 => max (mxB T i k) (btw T (i : Int) (k : Int))
theorem mxB_in {T : List IE} (hW : Wf T) (i : Nat) : ∀ k, 0 ≤ mxB T i k ∧ mxB T i k ≤ 1099511627776 ∧ (∀ j, j < k → btw T (i : Int) (j : Int) ≤ mxB T i k) ∧ (0 < mxB T i k → ∃ j, j < k ∧ mxB T i k = btw T (i : Int) (j : Int))
  | 0 => ⟨Int.le_refl 0, by show (0 : Int) ≤ _; omega, fun j hj => absurd hj (Nat.not_lt_zero _), fun h => absurd h (Int.lt_irrefl 0)⟩
  | k + 1 => by
    obtain ⟨h1, h2, h3, h4⟩ := mxB_in hW i k
    have hb := hW.btw_le (i : Int) (k : Int)
    have hm : mxB T i (k + 1) = max (mxB T i k) (btw T (i : Int) (k : Int)) := rfl
    rw [hm]
    refine ⟨by omega, by omega, fun j hj => ?_, fun hp => ?_⟩
    · rcases Nat.lt_or_ge j k with h | h
      · have := h3 j h; omega
      · rw [show j = k by omega]; omega
    · by_cases hc : btw T (i : Int) (k : Int) ≤ mxB T i k
      · obtain ⟨j, hj, he⟩ := h4 (by omega)
        exact ⟨j, by omega, by omega⟩
      · exact ⟨k, by omega, by omega⟩
theorem law10First (q q2 : Option Addr) (cap cap2 : Nat) (ws : List Int) (ops : List OpA) (hm : ws.length ≤ 9223372036854775807) (hm2 : ops.length ≤ 9223372036854775807) (w0 : World) (hq : SlH (hp w0) q (ints .i64 ws)) (hq2 : SlH (hp w0) q2 (ops.flatMap opA)) :
    CallsV Try.prog 16 #[.slice q ws.length cap, .slice q2 ops.length cap2] w0 fun v w => v = .bool true ∧ St Pu w0 w [] [] := by
  refine callsV_of Try.func16 rfl rfl ?_
  refine wc_seq ?_
  refine wc_region ?_
  (apply ow_assign; (· rfl); (· ((conv => lhs; whnf) <;> rfl)))
  refine ow_nil ?_
  refine wc_seq ?_
  refine wc_seq ?_
  refine wc_region ?_
  refine ow_call rfl rfl (ent (by kernel_rfl)) (CallsV.mono (alive10 w0) ?_) rfl
  rintro v w ⟨rfl, H⟩
  refine ow_not rfl rfl ?_
  refine ow_nil ?_
  refine wc_cond_false rfl ?_
  refine wc_skip ?_
  refine wc_seq ?_
  refine wc_region ?_
  (apply ow_move; (· rfl); (· ((conv => lhs; whnf) <;> rfl)))
  (apply ow_move; (· rfl); (· ((conv => lhs; whnf) <;> rfl)))
  refine ow_call rfl rfl (ent (by kernel_rfl)) (CallsV.mono (build66_spec q q2 cap cap2 ws ops hm hm2 w (H.oldSl hq) (H.oldSl hq2)) ?_) rfl
  rintro v w (⟨rfl, _, H'⟩ | ⟨g, x, ms, rows, rfl, rfl, hxw, h30, hmay, hW, hn, _, _, H'⟩)
  · replace H := H.call H'
    rw [List.nil_append] at H
    clear H'
    (apply ow_move; (· rfl); (· ((conv => lhs; whnf) <;> rfl)))
    refine ow_extract rfl rfl rfl ?_
    refine ow_extract rfl rfl rfl ?_
    refine ow_extract rfl rfl rfl ?_
    refine ow_alloc (l := [.slice none 0 0, .slice none 0 0]) H rfl (tyAt rfl) rfl (fun b6 w H => ?_)
    (apply ow_assign; (· rfl); (· ((conv => lhs; whnf) <;> rfl)))
    refine ow_storeA (i := 0) (o := 0) (l' := [.slice none 0 0, .slice none 0 0]) H (tyAt rfl) rfl rfl rfl rfl (by simp [Value.oneCell']) (by simp) (fun w H => ?_)
    (apply ow_assign; (· rfl); (· ((conv => lhs; whnf) <;> rfl)))
    refine ow_nil ?_
    refine wc_seq ?_
    refine wc_seq ?_
    refine wc_region ?_
    (apply ow_move; (· rfl); (· ((conv => lhs; whnf) <;> rfl)))
    refine ow_not rfl rfl ?_
    refine ow_nil ?_
    refine wc_cond_true rfl ?_
    refine wc_seq ?_
    refine wc_region ?_
    (apply ow_assign; (· rfl); (· ((conv => lhs; whnf) <;> rfl)))
    refine ow_nil ?_
    refine wc_ret ?_
    obtain ⟨w, hT, H⟩ := H.takes Try.prog
    refine ⟨.inr rfl, w, hT, _, .tmp .nil, ?_⟩
    exact ⟨rfl, H.none⟩
  replace H : St Pu w0 w (grC g ms) [] := (H.call H').sub ((List.sublist_append_left _ _).trans (List.sublist_append_left _ _))
  clear H'
  (apply ow_move; (· rfl); (· ((conv => lhs; whnf) <;> rfl)))
  refine ow_extract rfl rfl rfl ?_
  refine ow_extract rfl rfl rfl ?_
  refine ow_extract rfl rfl rfl ?_
  refine ow_alloc (l := [.slice none 0 0, .slice none 0 0]) H rfl (tyAt rfl) rfl (fun b6 w H => ?_)
  (apply ow_assign; (· rfl); (· ((conv => lhs; whnf) <;> rfl)))
  refine ow_storeA (i := 0) (o := 0) (l' := rfV x rows) H (tyAt rfl) rfl rfl rfl rfl (by simp [Value.oneCell']) (by simp) (fun w H => ?_)
  replace H : St Pu w0 w (grC g ms) [] := H.drop
  have h4 : g.ws.length ≤ 4096 := by omega
  have hTl : (tb ms).length = g.ws.length := by rw [tb_len, hn]
  (apply ow_assign; (· rfl); (· ((conv => lhs; whnf) <;> rfl)))
  refine ow_nil ?_
  refine wc_seq ?_
  refine wc_seq ?_
  refine wc_region ?_
  (apply ow_move; (· rfl); (· ((conv => lhs; whnf) <;> rfl)))
  refine ow_not rfl rfl ?_
  refine ow_nil ?_
  refine wc_cond_false rfl ?_
  refine wc_skip ?_
  refine wc_seq ?_
  refine wc_region ?_
  (apply ow_move; (· rfl); (· ((conv => lhs; whnf) <;> rfl)))
  refine ow_call rfl rfl (ent (by kernel_rfl)) (CallsV.mono (heavy_spec g ms hn h4 hW w (gr_of_ok (okAll H))) ?_) rfl
  rintro v w ⟨bm, rfl, H'⟩
  replace H : St Pu w0 w (.row bm 3 (ints .i64 (heavyL (tb ms))) :: grC g ms) [] := H.call H'
  clear H'
  have hHI := heavy_hi hW
  have hml : (heavyL (tb ms)).length = g.ws.length := by rw [hHI.len, hTl]
  have hF := fun i (hi : i < (tb ms).length) h0 b (hb : b < (tb ms).length) => heavy_first hW (i := i) hi h0 (b := b) hb
  have hZ := fun i (hi : i < (tb ms).length) => heavy_zero hW (i := i) hi
  rw [hTl] at hF hZ
  generalize heavyL (tb ms) = m at *
  have hGr : ∀ {w : World}, St Pu w0 w (.row bm 3 (ints .i64 m) :: grC g ms) [] → Gr (hp w) g ms := fun H => gr_of_ok fun c hc => okAll H c (List.mem_cons_of_mem _ hc)
  (apply ow_assign; (· rfl); (· ((conv => lhs; whnf) <;> rfl)))
  refine ow_nil ?_
  refine wc_seq ?_
  refine wc_seq ?_
  refine wc_region ?_
  (apply ow_move; (· rfl); (· ((conv => lhs; whnf) <;> rfl)))
  refine ow_len rfl rfl (tyAt rfl) rfl ?_
  (apply ow_move; (· rfl); (· ((conv => lhs; whnf) <;> rfl)))
  refine ow_nil ?_
  refine wc_blockJ [4, 9, 10, 11, 27, 28, 29, 30, 31, 32, 33, 34, 35, 36, 37, 38, 39, 40, 41, 42, 43, 44, 45, 46, 47, 48, 49, 50, 51, 52, 53, 54, 55, 56, 57, 58, 59, 60, 61, 62, 63, 64, 65, 66, 67] (fun (_ : Unit) e => e) (fun _ D w => D = [] ∧ (∀ k, k < g.ws.length → m.getD k 0 = (k : Int)) ∧ St Pu w0 w (.row bm 3 (ints .i64 m) :: grC g ms) []) ?_ ?_
  · refine wc_loopS [4, 9, 10, 11, 27, 28, 29, 30, 31, 32, 33, 34, 35, 36, 37, 38, 39, 40, 41, 42, 43, 44, 45, 46, 47, 48, 49, 50, 51, 52, 53, 54, 55, 56, 57, 58, 59, 60, 61, 62, 63, 64, 65, 66, 67] (fun (s : Nat) e => upd e 27 (.int .i64 s)) (fun s D w => D = [] ∧ s ≤ g.ws.length ∧ (∀ k, k < s → ∀ j, j < g.ws.length → btw (tb ms) (k : Int) (j : Int) = 0) ∧ St Pu w0 w (.row bm 3 (ints .i64 m) :: grC g ms) []) (fun s _ => g.ws.length - s) 0 (by first | exact rfl | exact upd_self' rfl rfl | exact upd_self' rfl (upd_self' rfl rfl) | exact upd_self' rfl (upd_self' rfl (upd_self' rfl rfl)) | exact upd_self' rfl (upd_self' rfl (upd_self' rfl (upd_self' rfl rfl)))) ⟨rfl, Nat.zero_le _, (fun k hk => absurd hk (Nat.not_lt_zero _)), H⟩ ?_
    clear H
    rintro i j D w ⟨rfl, hi, h0, H⟩
    refine wc_seq ?_
    refine wc_region ?_
    refine ow_lss rfl rfl rfl ?_
    refine ow_nil ?_
    refine wc_seq ?_
    refine wc_cond_dec rfl (fun h => ?_) (fun h => ?_) <;> try dsimp only at h
    · have hlt : i < g.ws.length := by omega
      have hmx := mxB_in hW i
      have hmz : mxB (tb ms) i 0 = 0 := rfl
      refine wc_skip ?_
      refine wc_seq ?_
      refine wc_block ?_
      refine wc_seq ?_
      refine wc_region ?_
      (apply ow_move; (· rfl); (· ((conv => lhs; whnf) <;> rfl)))
      (apply ow_assign; (· rfl); (· ((conv => lhs; whnf) <;> rfl)))
      refine ow_nil ?_
      refine wc_seq ?_
      refine wc_region ?_
      (apply ow_assign; (· rfl); (· ((conv => lhs; whnf) <;> rfl)))
      refine ow_nil ?_
      refine wc_seq ?_
      refine wc_seq ?_
      refine wc_region ?_
      (apply ow_move; (· rfl); (· ((conv => lhs; whnf) <;> rfl)))
      refine ow_len rfl rfl (tyAt rfl) rfl ?_
      (apply ow_move; (· rfl); (· ((conv => lhs; whnf) <;> rfl)))
      refine ow_nil ?_
      refine wc_blockJ [10, 11, 32, 33, 34, 35, 36, 37, 38, 39, 40, 41] (fun (_ : Unit) e => upd e 10 (.int .i64 (mxB (tb ms) i g.ws.length))) (fun _ D w => D = [] ∧ St Pu w0 w (.row bm 3 (ints .i64 m) :: grC g ms) []) ?_ ?_
      · refine wc_loopS [10, 11, 32, 33, 34, 35, 36, 37, 38, 39, 40, 41] (fun (s : Nat) e => upd (upd e 10 (.int .i64 (mxB (tb ms) i s))) 32 (.int .i64 s)) (fun s D w => D = [] ∧ s ≤ g.ws.length ∧ St Pu w0 w (.row bm 3 (ints .i64 m) :: grC g ms) []) (fun s _ => g.ws.length - s) 0 ?lv0 ⟨rfl, Nat.zero_le _, H⟩ ?_
        case lv0 =>
          rw [hmz]
          first | exact rfl | exact upd_self' rfl rfl | exact upd_self' rfl (upd_self' rfl rfl) | exact upd_self' rfl (upd_self' rfl (upd_self' rfl rfl)) | exact upd_self' rfl (upd_self' rfl (upd_self' rfl (upd_self' rfl rfl)))
        clear H
        rintro k jj D w ⟨rfl, hk, H⟩
        have hs1 : mxB (tb ms) i (k + 1) = max (mxB (tb ms) i k) (btw (tb ms) (i : Int) (k : Int)) := rfl
        refine wc_seq ?_
        refine wc_region ?_
        refine ow_lss rfl rfl rfl ?_
        refine ow_nil ?_
        refine wc_seq ?_
        refine wc_cond_dec rfl (fun h => ?_) (fun h => ?_) <;> try dsimp only at h
        · refine wc_skip ?_
          refine wc_seq ?_
          refine wc_block ?_
          refine wc_seq ?_
          refine wc_region ?_
          (apply ow_move; (· rfl); (· ((conv => lhs; whnf) <;> rfl)))
          (apply ow_assign; (· rfl); (· ((conv => lhs; whnf) <;> rfl)))
          refine ow_nil ?_
          refine wc_region ?_
          (apply ow_move; (· rfl); (· ((conv => lhs; whnf) <;> rfl)))
          (apply ow_move; (· rfl); (· ((conv => lhs; whnf) <;> rfl)))
          (apply ow_move; (· rfl); (· ((conv => lhs; whnf) <;> rfl)))
          (apply ow_move; (· rfl); (· ((conv => lhs; whnf) <;> rfl)))
          refine ow_call rfl rfl (ent (by kernel_rfl)) (CallsV.mono (between_spec g ms (i : Int) (k : Int) hn h4 hW _ (hGr H)) ?_) rfl
          rintro v w ⟨rfl, H'⟩
          replace H := H.call H'
          rw [List.nil_append] at H
          clear H'
          refine ow_max rfl rfl rfl ?_
          (apply ow_assign; (· rfl); (· ((conv => lhs; whnf) <;> rfl)))
          refine ow_nil ?_
          refine wc_region ?_
          refine ow_add rfl rfl rfl (by simp only [InK]; omega) ?_
          (apply ow_move; (· rfl); (· ((conv => lhs; whnf) <;> rfl)))
          refine ow_nil ?_
          refine ⟨k + 1, ?_, by repeat (first | with_reducible exact Off.mix | with_reducible exact Off.refl | ((with_reducible refine Off.upd ?_ ?_); (· rfl))), ⟨rfl, by omega, H⟩, by omega⟩
          rw [hs1]
          first | exact rfl | exact upd_self' rfl rfl | exact upd_self' rfl (upd_self' rfl rfl) | exact upd_self' rfl (upd_self' rfl (upd_self' rfl rfl)) | exact upd_self' rfl (upd_self' rfl (upd_self' rfl (upd_self' rfl rfl)))
        · have hk' : k = g.ws.length := by omega
          subst hk'
          refine wc_exit ?_
          exact ⟨(), by first | exact rfl | exact upd_self' rfl rfl | exact upd_self' rfl (upd_self' rfl rfl) | exact upd_self' rfl (upd_self' rfl (upd_self' rfl rfl)) | exact upd_self' rfl (upd_self' rfl (upd_self' rfl (upd_self' rfl rfl))), by repeat (first | with_reducible exact Off.mix | with_reducible exact Off.refl | ((with_reducible refine Off.upd ?_ ?_); (· rfl)) | ((with_reducible refine Off.mixN ?_ ?_); (· rfl))), ⟨rfl, H⟩⟩
      clear H
      rintro _ jj D w ⟨rfl, H⟩
      obtain ⟨m0, m1, m2, m3⟩ := hmx g.ws.length
      obtain ⟨mo, hmo⟩ : ∃ mo, mxB (tb ms) i g.ws.length = mo := ⟨_, rfl⟩
      rw [hmo] at m0 m1 m2 m3 ⊢
      refine wc_seq ?_
      refine wc_seq ?_
      refine wc_region ?_
      (apply ow_move; (· rfl); (· ((conv => lhs; whnf) <;> rfl)))
      refine ow_gtr rfl rfl rfl ?_
      refine ow_nil ?_
      refine wc_cond_dec rfl (fun h => ?_) (fun h => ?_) <;> try dsimp only at h
      · obtain ⟨b, hb, he⟩ := m3 h
        obtain ⟨f1, f2⟩ := hF i hlt h0 b hb (by omega)
        have hbt : btw (tb ms) (i : Int) (m.getD i 0) = mo := by
          have h5 := f2 b hb
          have h6 := hHI.rt i (by omega)
          have h7 := m2 (m.getD i 0).toNat (by have := h6.2.1; omega)
          rw [Int.toNat_of_nonneg h6.1] at h7
          omega
        refine wc_seq ?_
        refine wc_region ?_
        (apply ow_move; (· rfl); (· ((conv => lhs; whnf) <;> rfl)))
        (apply ow_move; (· rfl); (· ((conv => lhs; whnf) <;> rfl)))
        refine ow_idx1 (j := i) rfl (tyAt rfl) rfl (tyAt rfl) rfl rfl rfl (by omega) rfl ?_
        refine ow_load rfl (tyAt rfl) rfl rfl (SlH.int (H.rowSl (i := 0) rfl) (by omega)) ?_
        (apply ow_move; (· rfl); (· ((conv => lhs; whnf) <;> rfl)))
        refine ow_neq rfl rfl rfl ?_
        (apply ow_move; (· rfl); (· ((conv => lhs; whnf) <;> rfl)))
        refine ow_guard_dec rfl rfl rfl (fun _ => ?_) (fun h => (h (by exact f1)).elim)
        refine ow_guard_yes rfl rfl rfl rfl ?_
        (apply ow_move; (· rfl); (· ((conv => lhs; whnf) <;> rfl)))
        refine ow_guard_yes rfl rfl rfl rfl ?_
        (apply ow_move; (· rfl); (· ((conv => lhs; whnf) <;> rfl)))
        refine ow_guard_yes rfl rfl rfl rfl ?_
        (apply ow_move; (· rfl); (· ((conv => lhs; whnf) <;> rfl)))
        refine ow_guard_yes rfl rfl rfl rfl ?_
        (apply ow_move; (· rfl); (· ((conv => lhs; whnf) <;> rfl)))
        refine ow_guard_yes rfl rfl rfl rfl ?_
        refine ow_idx1 (j := i) rfl (tyAt rfl) rfl (tyAt rfl) rfl rfl rfl (by omega) rfl ?_
        refine ow_guard_yes rfl rfl rfl rfl ?_
        refine ow_load rfl (tyAt rfl) rfl rfl (SlH.int (H.rowSl (i := 0) rfl) (by omega)) ?_
        refine ow_guard_yes rfl rfl rfl rfl ?_
        refine ow_call rfl rfl (ent (by kernel_rfl)) (CallsV.mono (between_spec g ms (i : Int) (m.getD i 0) hn h4 hW _ (hGr H)) ?_) rfl
        rintro v w ⟨rfl, H'⟩
        replace H := H.call H'
        rw [List.nil_append] at H
        clear H'
        rw [hbt]
        refine ow_guard_yes rfl rfl rfl rfl ?_
        (apply ow_move; (· rfl); (· ((conv => lhs; whnf) <;> rfl)))
        refine ow_guard_yes rfl rfl rfl rfl ?_
        refine ow_eql rfl rfl rfl ?_
        (apply ow_pick_t; (· rfl); (· rfl); (· ((conv => lhs; whnf) <;> rfl)))
        (apply ow_assign; (· rfl); (· ((conv => lhs; whnf) <;> rfl)))
        refine ow_nil ?_
        refine wc_ret ?_
        obtain ⟨w, hT, H⟩ := H.takes Try.prog
        refine ⟨.inr rfl, w, hT, _, .tmp .nil, ?_⟩
        exact ⟨congrArg Value.bool (decide_eq_true rfl), H.none⟩
      · have hz : ∀ j, j < g.ws.length → btw (tb ms) (i : Int) (j : Int) = 0 := fun j hj => by
          have := m2 j hj
          have := hW.btw_le (i : Int) (j : Int)
          omega
        have hmi := hZ i hlt hz
        refine wc_skip ?_
        refine wc_seq ?_
        refine wc_region ?_
        (apply ow_move; (· rfl); (· ((conv => lhs; whnf) <;> rfl)))
        (apply ow_move; (· rfl); (· ((conv => lhs; whnf) <;> rfl)))
        refine ow_idx1 (j := i) rfl (tyAt rfl) rfl (tyAt rfl) rfl rfl rfl (by omega) rfl ?_
        refine ow_load rfl (tyAt rfl) rfl rfl (SlH.int (H.rowSl (i := 0) rfl) (by omega)) ?_
        rw [hmi]
        (apply ow_move; (· rfl); (· ((conv => lhs; whnf) <;> rfl)))
        refine ow_neq rfl rfl rfl ?_
        refine ow_nil ?_
        rw [decide_eq_false (show ¬ ¬ ((i : Int) = (i : Int)) from fun h => h rfl)]
        refine wc_cond_false rfl ?_
        refine wc_skip ?_
        refine wc_region ?_
        refine ow_add rfl rfl rfl (by simp only [InK]; omega) ?_
        (apply ow_move; (· rfl); (· ((conv => lhs; whnf) <;> rfl)))
        refine ow_nil ?_
        refine ⟨i + 1, by first | exact rfl | exact upd_self' rfl rfl | exact upd_self' rfl (upd_self' rfl rfl) | exact upd_self' rfl (upd_self' rfl (upd_self' rfl rfl)) | exact upd_self' rfl (upd_self' rfl (upd_self' rfl (upd_self' rfl rfl))), by repeat (first | with_reducible exact Off.mix | with_reducible exact Off.refl | ((with_reducible refine Off.upd ?_ ?_); (· rfl)) | ((with_reducible refine Off.mixN ?_ ?_); (· rfl))), ⟨rfl, hlt, fun k hk => ?_, H⟩, by omega⟩
        rcases Nat.lt_or_ge k i with h1 | h1
        · exact h0 k h1
        · rw [show k = i by omega]; exact hz
    · have hi' : i = g.ws.length := by omega
      subst hi'
      refine wc_exit ?_
      exact ⟨(), by first | exact rfl | exact upd_self' rfl rfl | exact upd_self' rfl (upd_self' rfl rfl) | exact upd_self' rfl (upd_self' rfl (upd_self' rfl rfl)) | exact upd_self' rfl (upd_self' rfl (upd_self' rfl (upd_self' rfl rfl))), by repeat (first | with_reducible exact Off.mix | with_reducible exact Off.refl | ((with_reducible refine Off.upd ?_ ?_); (· rfl)) | ((with_reducible refine Off.mixN ?_ ?_); (· rfl))), ⟨rfl, fun k hk => hZ k hk (h0 k hk), H⟩⟩
  clear H
  rintro _ j D w ⟨rfl, hid, H⟩
  have hct : cntM m = (g.ws.length : Int) := by
    unfold cntM
    rw [if_pos hHI.rt, prL_nil (fun i hi => hid i (by omega)), hml]
    simp
  refine wc_seq ?_
  refine wc_region ?_
  (apply ow_move; (· rfl); (· ((conv => lhs; whnf) <;> rfl)))
  refine ow_call rfl rfl (ent (by kernel_rfl)) (CallsV.mono (count_spec (some ⟨bm, 0, none⟩) _ m (by omega) _ (H.rowSl (i := 0) rfl)) ?_) rfl
  rintro v w ⟨rfl, H'⟩
  replace H := H.call H'
  rw [List.nil_append] at H
  clear H'
  rw [hct]
  (apply ow_move; (· rfl); (· ((conv => lhs; whnf) <;> rfl)))
  refine ow_len rfl rfl (tyAt rfl) rfl ?_
  refine ow_eql rfl rfl rfl ?_
  (apply ow_assign; (· rfl); (· ((conv => lhs; whnf) <;> rfl)))
  refine ow_nil ?_
  refine wc_ret ?_
  obtain ⟨w, hT, H⟩ := H.takes Try.prog
  refine ⟨.inr rfl, w, hT, _, .tmp .nil, ?_⟩
  exact ⟨congrArg Value.bool (decide_eq_true rfl), H.none⟩
end Go.Proofs.Ytgliblmpiilloaa
