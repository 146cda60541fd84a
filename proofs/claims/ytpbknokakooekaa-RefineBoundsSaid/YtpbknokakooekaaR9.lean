/- The statement's function 'sandtablelaw13.RefineBounds' returns true at every input, and changes nothing that was there. -/
import Derived.Test.YtpbknokakooekaaR6
namespace Go.Proofs.Ytpbknokakooekaa
set_option linter.all false
open Go Go.Sx Go.Proofs
set_option maxRecDepth 100000
set_option maxHeartbeats 2000000
/-- the move of each round. -/
theorem mvU_at {T : List IE} {ws : List Int} {bd : Int × Int} {p : List Int} (hp : two p) (hl : p.length = T.length) : ∀ t k, k < (mvU T ws bd p t).length → nxA T ws bd (rs T ws bd p k) ≠ -1 ∧ (mvU T ws bd p t)[k]? = some (nxA T ws bd (rs T ws bd p k), (gnL T (rs T ws bd p k).1).getD (nxA T ws bd (rs T ws bd p k)).toNat 0)
  | 0, k, h => absurd h (Nat.not_lt_zero _)
  | t + 1, k, h => by
    by_cases hk : k < (mvU T ws bd p t).length
    · have ih := mvU_at hp hl t k hk
      rw [mvU, List.getElem?_append_left hk]
      exact ih
    · rw [mvU, List.length_append] at h
      by_cases hs : nxA T ws bd (rs T ws bd p t) = -1
      · rw [if_pos hs] at h; simp at h; omega
      · rw [if_neg hs] at h
        rcases rs_count (ws := ws) (bd := bd) hp hl t with h1 | ⟨_, h1⟩
        · exact absurd h1 hs
        · have hkt : k = t := by simp at h; omega
          subst hkt
          refine ⟨hs, ?_⟩
          rw [mvU, if_neg hs, List.getElem?_append_right (by omega), h1, Nat.sub_self]
          rfl
theorem law13Bounds (q q2 q3 : Option Addr) (cap cap2 cap3 : Nat) (ws : List Int) (ops : List OpA) (part : List Int) (bd : Int × Int) (hm : ws.length ≤ 9223372036854775807) (hm2 : ops.length ≤ 9223372036854775807) (hm3 : part.length ≤ 9223372036854775807) (w0 : World) (hq : SlH (hp w0) q (ints .i64 ws)) (hq2 : SlH (hp w0) q2 (ops.flatMap opA)) (hs : SlH (hp w0) q3 (ints .i64 part)) :
    CallsV Try.prog 16 #[.slice q ws.length cap, .slice q2 ops.length cap2, .slice q3 part.length cap3, .agg ⟨bdV bd⟩] w0 fun v w => v = .bool true ∧ St Pu w0 w [] [] := by
  refine callsV_of Try.func16 rfl rfl ?_
  have H := St.init w0
  refine wc_seq ?_
  refine wc_region ?_
  refine ow_box (l := bdV bd) H rfl rfl rfl (fun b3 w H => ?_)
  (apply ow_assign; (· rfl); (· ((conv => lhs; whnf) <;> rfl)))
  refine ow_nil ?_
  refine wc_seq ?_
  refine wc_seq ?_
  refine wc_region ?_
  refine ow_call rfl rfl (ent (by kernel_rfl)) (CallsV.mono (alive13 _) ?_) rfl
  rintro v w ⟨rfl, H'⟩
  replace H := H.call H'
  rw [List.nil_append] at H
  clear H'
  refine ow_not rfl rfl ?_
  refine ow_nil ?_
  refine wc_cond_false rfl ?_
  refine wc_skip ?_
  refine wc_seq ?_
  refine wc_region ?_
  (apply ow_move; (· rfl); (· ((conv => lhs; whnf) <;> rfl)))
  (apply ow_move; (· rfl); (· ((conv => lhs; whnf) <;> rfl)))
  refine ow_call rfl rfl (ent (by kernel_rfl)) (CallsV.mono (build13_spec q q2 cap cap2 ws ops hm hm2 w (H.oldSl hq) (H.oldSl hq2)) ?_) rfl
  rintro v w (⟨rfl, _, H'⟩ | ⟨g, x, ms, rows, rfl, rfl, hxw, h30, hmay, hW, hn, _, hM, H'⟩)
  · replace H := (H.call H')
    rw [List.nil_append] at H
    clear H'
    (apply ow_move; (· rfl); (· ((conv => lhs; whnf) <;> rfl)))
    refine ow_extract rfl rfl rfl ?_
    refine ow_extract rfl rfl rfl ?_
    refine ow_extract rfl rfl rfl ?_
    refine ow_alloc (l := [.slice none 0 0, .slice none 0 0]) H rfl (tyAt rfl) rfl (fun b6 w H => ?_)
    (apply ow_assign; (· rfl); (· ((conv => lhs; whnf) <;> rfl)))
    refine ow_storeA (i := 0) (o := 0) (l' := [.slice none 0 0, .slice none 0 0]) H (tyAt rfl) rfl rfl rfl rfl (by simp [Value.oneCell']) (by simp) (fun w H => ?_)
    (apply ow_assign; (· rfl); (· ((conv => lhs; whnf) <;> rfl)))
    refine ow_nil ?_
    refine wc_seq ?_
    refine wc_seq ?_
    refine wc_region ?_
    (apply ow_move; (· rfl); (· ((conv => lhs; whnf) <;> rfl)))
    refine ow_not rfl rfl ?_
    (apply ow_move; (· rfl); (· ((conv => lhs; whnf) <;> rfl)))
    refine ow_guard_no rfl rfl rfl rfl rfl rfl rfl ?_
    refine ow_guard_no rfl rfl rfl rfl rfl rfl rfl ?_
    refine ow_guard_no rfl rfl rfl rfl rfl rfl rfl ?_
    (apply ow_pick_t; (· rfl); (· rfl); (· ((conv => lhs; whnf) <;> rfl)))
    refine ow_nil ?_
    refine wc_cond_true rfl ?_
    refine wc_seq ?_
    refine wc_region ?_
    (apply ow_assign; (· rfl); (· ((conv => lhs; whnf) <;> rfl)))
    refine ow_nil ?_
    refine wc_ret ?_
    obtain ⟨w, hT, H⟩ := H.takes Try.prog
    refine ⟨.inr rfl, w, hT, _, .tmp .nil, ?_⟩
    exact ⟨rfl, H.none⟩
  replace H : St Pu w0 w ((grC g ms ++ rfC x rows) ++ [.row b3 34 (bdV bd)]) [] := H.call H'
  clear H'
  (apply ow_move; (· rfl); (· ((conv => lhs; whnf) <;> rfl)))
  refine ow_extract rfl rfl rfl ?_
  refine ow_extract rfl rfl rfl ?_
  refine ow_extract rfl rfl rfl ?_
  refine ow_alloc (l := [.slice none 0 0, .slice none 0 0]) H rfl (tyAt rfl) rfl (fun b6 w H => ?_)
  (apply ow_assign; (· rfl); (· ((conv => lhs; whnf) <;> rfl)))
  refine ow_storeA (i := 0) (o := 0) (l' := rfV x rows) H (tyAt rfl) rfl rfl rfl rfl (by simp [Value.oneCell']) (by simp) (fun w H => ?_)
  have h4 : g.ws.length ≤ 4096 := by omega
  have h1k : g.ws.length ≤ 1000 := by omega
  have hTl : (tb ms).length = g.ws.length := by rw [tb_len, hn]
  have hxl : (tb ms).length = x.ws.length := by rw [hTl, hxw]
  replace H : St Pu w0 w ([.row b6 45 (rfV x rows), .row b3 34 (bdV bd)] ++ (grC g ms ++ rfC x rows)) [] := H.perm (List.perm_append_comm.cons _)
  obtain ⟨RR, hRR⟩ : ∃ RR, grC g ms ++ rfC x rows = RR := ⟨_, rfl⟩
  have hGr : ∀ {w : World} {pre : List Cap}, St Pu w0 w (pre ++ RR) [] → Gr (hp w) g ms := fun H => gr_of_ok fun c hc => okAll H c (List.mem_append_right _ (by rw [← hRR]; exact List.mem_append_left _ hc))
  have hRf : ∀ {w : World} {pre : List Cap}, St Pu w0 w (pre ++ RR) [] → Rf (hp w) x rows := fun H => rf_of_ok fun c hc => okAll H c (List.mem_append_right _ (by rw [← hRR]; exact List.mem_append_right _ hc))
  rw [hRR] at H
  clear hRR
  (apply ow_assign; (· rfl); (· ((conv => lhs; whnf) <;> rfl)))
  refine ow_nil ?_
  refine wc_seq ?_
  refine wc_seq ?_
  refine wc_region ?_
  (apply ow_move; (· rfl); (· ((conv => lhs; whnf) <;> rfl)))
  refine ow_not rfl rfl ?_
  (apply ow_move; (· rfl); (· ((conv => lhs; whnf) <;> rfl)))
  refine ow_guard_yes rfl rfl rfl rfl ?_
  (apply ow_move; (· rfl); (· ((conv => lhs; whnf) <;> rfl)))
  refine ow_guard_yes rfl rfl rfl rfl ?_
  refine ow_len rfl rfl (tyAt rfl) rfl ?_
  refine ow_guard_yes rfl rfl rfl rfl ?_
  refine ow_gtr rfl rfl rfl ?_
  (apply ow_pick_f; (· rfl); (· rfl); (· ((conv => lhs; whnf) <;> rfl)))
  refine ow_nil ?_
  refine wc_cond_dec rfl (fun h => ?_) (fun h => ?_) <;> try dsimp only at h
  · refine wc_seq ?_
    refine wc_region ?_
    (apply ow_assign; (· rfl); (· ((conv => lhs; whnf) <;> rfl)))
    refine ow_nil ?_
    refine wc_ret ?_
    obtain ⟨w, hT, H⟩ := H.takes Try.prog
    refine ⟨.inr rfl, w, hT, _, .tmp .nil, ?_⟩
    exact ⟨rfl, H.none⟩
  have hp60 : part.length ≤ 60 := by omega
  clear h
  have hM1 := fun (bd : Int × Int) w hG hsz => movesW_spec g ms part q3 cap3 bd 1000 (by omega) hmay hn h1k hW w hG hsz
  have hM0 := hM1 (0, 0)
  have hMb := hM1 bd
  clear hM1
  rw [show mvL (tb ms) g.ws (0, 0) part = [] from if_neg (fun h => h.2 rfl)] at hM0
  have hxl2 := mvL_len (tb ms) g.ws bd part
  rw [List.take_of_length_le (show (mvL (tb ms) g.ws bd part).length ≤ (1000 : Int).toNat by rw [show (1000 : Int).toNat = 1000 from rfl]; omega)] at hMb
  have hmem := fun (x : Int × Int) (h : x ∈ mvL (tb ms) g.ws bd part) => mvL_mem hW (by omega) h
  have hat : ∀ k, k < (mvL (tb ms) g.ws bd part).length → CutR g.ws.length part 2 ∧ (mvL (tb ms) g.ws bd part)[k]? = some (nxA (tb ms) g.ws bd (rs (tb ms) g.ws bd part k), (gnL (tb ms) (rs (tb ms) g.ws bd part k).1).getD (nxA (tb ms) g.ws bd (rs (tb ms) g.ws bd part k)).toNat 0) ∧ nxA (tb ms) g.ws bd (rs (tb ms) g.ws bd part k) ≠ -1 := fun k hk => by
    unfold mvL at hk ⊢
    by_cases hc : CutR (tb ms).length part 2 ∧ bd ≠ (0, 0)
    · rw [if_pos hc] at hk ⊢
      have h1 := mvU_at (ws := g.ws) (bd := bd) (two_of hc.1) hc.1.2.1 _ k hk
      exact ⟨by rw [← hTl]; exact hc.1, h1.2, h1.1⟩
    · rw [if_neg hc] at hk; exact absurd hk (Nat.not_lt_zero _)
  rw [hTl] at hxl2
  refine wc_skip ?_
  refine wc_seq ?_
  refine wc_region ?_
  (apply ow_move; (· rfl); (· ((conv => lhs; whnf) <;> rfl)))
  (apply ow_move; (· rfl); (· ((conv => lhs; whnf) <;> rfl)))
  refine ow_buildArr (l := bdV (0, 0)) (vs := []) rfl (tyAt rfl) rfl (tyAt rfl) rfl rfl ?_
  refine ow_call rfl rfl (ent (by kernel_rfl)) (CallsV.mono (hM0 _ (hGr H) (H.oldSl hs)) ?_) rfl
  rintro v w ⟨qa, ca, qb, cb, rfl, H'⟩
  replace H := (H.call H').drop.drop
  clear H' hM0
  replace H : St Pu w0 w ([.row b6 45 (rfV x rows), .row b3 34 (bdV bd)] ++ RR) [] := H
  (apply ow_move; (· rfl); (· ((conv => lhs; whnf) <;> rfl)))
  refine ow_extract rfl rfl rfl ?_
  refine ow_extract rfl rfl rfl ?_
  (apply ow_assign; (· rfl); (· ((conv => lhs; whnf) <;> rfl)))
  (apply ow_assign; (· rfl); (· ((conv => lhs; whnf) <;> rfl)))
  refine ow_nil ?_
  refine wc_seq ?_
  refine wc_region ?_
  (apply ow_move; (· rfl); (· ((conv => lhs; whnf) <;> rfl)))
  (apply ow_move; (· rfl); (· ((conv => lhs; whnf) <;> rfl)))
  refine ow_loadA (l := bdV bd) rfl (tyAt rfl) rfl rfl rfl (H.cells (i := 1) (o := 0) (m := 2) rfl rfl) ?_
  refine ow_call rfl rfl (ent (by kernel_rfl)) (CallsV.mono (hMb _ (hGr H) (H.oldSl hs)) ?_) rfl
  rintro v w ⟨q1x, c1x, q2x, c2x, rfl, H'⟩
  replace H := H.call H'
  clear H' hMb
  obtain ⟨xs, hxs⟩ : ∃ xs, mvL (tb ms) g.ws bd part = xs := ⟨_, rfl⟩
  rw [hxs] at H hxl2 hmem hat ⊢
  replace H : St Pu w0 w ([.app q2x xs.length c2x 2 1 (ints .i64 (xs.map (·.2))), .app q1x xs.length c1x 3 1 (ints .i64 (xs.map (·.1)))] ++ RR) [] := H.sub (.cons₂ _ (.cons₂ _ (.cons _ (.cons _ (List.Sublist.refl _)))))
  (apply ow_move; (· rfl); (· ((conv => lhs; whnf) <;> rfl)))
  refine ow_extract rfl rfl rfl ?_
  refine ow_extract rfl rfl rfl ?_
  (apply ow_assign; (· rfl); (· ((conv => lhs; whnf) <;> rfl)))
  (apply ow_assign; (· rfl); (· ((conv => lhs; whnf) <;> rfl)))
  refine ow_nil ?_
  refine wc_seq ?_
  refine wc_seq ?_
  refine wc_region ?_
  (apply ow_move; (· rfl); (· ((conv => lhs; whnf) <;> rfl)))
  refine ow_len rfl rfl (tyAt rfl) rfl ?_
  refine ow_gtr rfl rfl rfl ?_
  (apply ow_move; (· rfl); (· ((conv => lhs; whnf) <;> rfl)))
  refine ow_guard_yes rfl rfl rfl rfl ?_
  (apply ow_move; (· rfl); (· ((conv => lhs; whnf) <;> rfl)))
  refine ow_guard_yes rfl rfl rfl rfl ?_
  refine ow_len rfl rfl (tyAt rfl) rfl ?_
  refine ow_guard_yes rfl rfl rfl rfl ?_
  (apply ow_move; (· rfl); (· ((conv => lhs; whnf) <;> rfl)))
  refine ow_guard_yes rfl rfl rfl rfl ?_
  refine ow_len rfl rfl (tyAt rfl) rfl ?_
  refine ow_guard_yes rfl rfl rfl rfl ?_
  refine ow_gtr rfl rfl rfl ?_
  (apply ow_pick_f; (· rfl); (· rfl); (· ((conv => lhs; whnf) <;> rfl)))
  refine ow_nil ?_
  rw [decide_eq_false (show ¬ ((g.ws.length : Int) < (xs.length : Int)) by omega)]
  refine wc_cond_false rfl ?_
  refine wc_skip ?_
  refine wc_seq ?_
  refine wc_region ?_
  refine ow_buildSlice0 H rfl (tyAt rfl) rfl (tyAt rfl) (fun ba w H => ?_)
  replace H := H.rowApp (i := 0) (len := 0) (sz := 1) rfl rfl (by omega)
  dsimp only [List.set] at H
  replace H : St Pu w0 w (.app (some ⟨ba, 0, none⟩) 0 0 3 1 (ints .i64 []) :: ([.app q2x xs.length c2x 2 1 (ints .i64 (xs.map (·.2))), .app q1x xs.length c1x 3 1 (ints .i64 (xs.map (·.1)))] ++ RR)) [] := H
  (apply ow_move; (· rfl); (· ((conv => lhs; whnf) <;> rfl)))
  refine ow_append (i := 0) H rfl rfl (tyAt rfl) rfl (tyAt rfl) rfl (by decide) rfl rfl (H.oldSl hs) (by first | rfl | (simp; done) | (simp; omega)) (by simp [Value.oneCell']) (by first | omega | (dsimp only; omega) | (simp; omega)) (by first | omega | (dsimp only; omega) | (simp; omega)) (fun p1 c1 w H => ?_)
  dsimp only [List.set] at H
  rw [Nat.zero_add]
  replace H : St Pu w0 w ([.app p1 part.length c1 3 1 (ints .i64 part), .app q2x xs.length c2x 2 1 (ints .i64 (xs.map (·.2))), .app q1x xs.length c1x 3 1 (ints .i64 (xs.map (·.1)))] ++ RR) [] := by rw [Nat.zero_add] at H; exact H
  (apply ow_assign; (· rfl); (· ((conv => lhs; whnf) <;> rfl)))
  refine ow_nil ?_
  refine wc_seq ?_
  refine wc_region ?_
  refine ow_makeMap H rfl (fun bm w H => ?_)
  replace H : St Pu w0 w ([.mib bm [], .app p1 part.length c1 3 1 (ints .i64 (rs (tb ms) g.ws bd part 0).1), .app q2x xs.length c2x 2 1 (ints .i64 (xs.map (·.2))), .app q1x xs.length c1x 3 1 (ints .i64 (xs.map (·.1)))] ++ RR) [] := H
  have hci : ∀ r : List Int, 0 ≤ cutM (tb ms) r ∧ cutM (tb ms) r ≤ 30 * (30 * 1099511627776) := fun r => by
    have h1 := cutM_in hW r
    rw [hTl] at h1
    have hnn : (g.ws.length : Int) * ((g.ws.length : Int) * 1099511627776) ≤ 30 * (30 * 1099511627776) := Int.mul_le_mul (by omega) (by omega) (by omega) (by omega)
    omega
  have hz0 : cutM (tb ms) part - cutM (tb ms) (rs (tb ms) g.ws bd part 0).1 = 0 := by
    show cutM (tb ms) part - cutM (tb ms) part = 0
    omega
  (apply ow_assign; (· rfl); (· ((conv => lhs; whnf) <;> rfl)))
  refine ow_nil ?_
  refine wc_seq ?_
  refine wc_region ?_
  (apply ow_assign; (· rfl); (· ((conv => lhs; whnf) <;> rfl)))
  refine ow_nil ?_
  refine wc_seq ?_
  refine wc_seq ?_
  refine wc_region ?_
  (apply ow_move; (· rfl); (· ((conv => lhs; whnf) <;> rfl)))
  refine ow_len rfl rfl (tyAt rfl) rfl ?_
  (apply ow_move; (· rfl); (· ((conv => lhs; whnf) <;> rfl)))
  refine ow_nil ?_
  refine wc_blockJ [8, 18, 19, 20, 67, 68, 69, 70, 71, 72, 73, 74, 75, 76, 77, 78, 79, 80, 81, 82, 83, 84, 85, 86, 87, 88, 89, 90, 91, 92, 93, 94, 95, 96, 97, 98, 99, 100, 101] (fun (_ : Unit) e => upd e 18 (.int .i64 (cutM (tb ms) part - cutM (tb ms) (rs (tb ms) g.ws bd part xs.length).1))) (fun _ D w => D = [] ∧ ∃ ms1, St Pu w0 w ([.mib bm ms1, .app p1 part.length c1 3 1 (ints .i64 (rs (tb ms) g.ws bd part xs.length).1), .app q2x xs.length c2x 2 1 (ints .i64 (xs.map (·.2))), .app q1x xs.length c1x 3 1 (ints .i64 (xs.map (·.1)))] ++ RR) []) ?_ ?_
  · refine wc_loopS [8, 18, 19, 20, 67, 68, 69, 70, 71, 72, 73, 74, 75, 76, 77, 78, 79, 80, 81, 82, 83, 84, 85, 86, 87, 88, 89, 90, 91, 92, 93, 94, 95, 96, 97, 98, 99, 100, 101] (fun (k : Nat) e => upd (upd e 18 (.int .i64 (cutM (tb ms) part - cutM (tb ms) (rs (tb ms) g.ws bd part k).1))) 67 (.int .i64 k)) (fun k D w => D = [] ∧ k ≤ xs.length ∧ ∃ ms1, (∀ y, (lookM ms1 y).getD false = true → 0 ≤ y ∧ (rs (tb ms) g.ws bd part k).2.getD y.toNat false = true) ∧ St Pu w0 w ([.mib bm ms1, .app p1 part.length c1 3 1 (ints .i64 (rs (tb ms) g.ws bd part k).1), .app q2x xs.length c2x 2 1 (ints .i64 (xs.map (·.2))), .app q1x xs.length c1x 3 1 (ints .i64 (xs.map (·.1)))] ++ RR) []) (fun k _ => xs.length - k) 0 ?lv0 ⟨rfl, Nat.zero_le _, [], (fun y h => by cases h), H⟩ ?_
    case lv0 =>
      rw [hz0]
      first | exact rfl | exact upd_self' rfl rfl | exact upd_self' rfl (upd_self' rfl rfl) | exact upd_self' rfl (upd_self' rfl (upd_self' rfl rfl)) | exact upd_self' rfl (upd_self' rfl (upd_self' rfl (upd_self' rfl rfl)))
    clear H
    rintro k j D w ⟨rfl, hk, ms1, hseen, H⟩
    refine wc_seq ?_
    refine wc_region ?_
    refine ow_lss rfl rfl rfl ?_
    refine ow_nil ?_
    refine wc_seq ?_
    refine wc_cond_dec rfl (fun h => ?_) (fun h => ?_) <;> try dsimp only at h
    · have hlt : k < xs.length := by omega
      clear h
      obtain ⟨hR, hxk, hne⟩ := hat k hlt
      have h2p := two_of hR
      have hpl : part.length = (tb ms).length := by rw [hR.2.1, hTl]
      have hRI := ri_all (ws := g.ws) (bd := bd) h2p hpl k
      have hme := hmem _ (List.mem_of_getElem? hxk)
      rcases nxA_char (T := tb ms) (ws := g.ws) (bd := bd) (s := rs (tb ms) g.ws bd part k) with ⟨h1, _⟩ | ⟨z, hz, h1, hmz, _⟩
      · exact absurd h1 hne
      obtain ⟨e1, e2, _⟩ := rs_move hW (ws := g.ws) (bd := bd) h2p hpl (t := k) hz h1
      have e3 : (rs (tb ms) g.ws bd part (k + 1)).2 = (rs (tb ms) g.ws bd part k).2.set z true := by rw [rs, h1, if_neg (by omega), Int.toNat_natCast]; rfl
      rw [h1, Int.toNat_natCast] at hxk hme
      have hns : (lookM ms1 (z : Int)).getD false = false := by
        cases hlk : (lookM ms1 (z : Int)).getD false with
        | false => rfl
        | true =>
          have := (hseen _ hlk).2
          rw [Int.toNat_natCast, hmz.1] at this
          cases this
      have hseen' : ∀ y, (lookM (putM ms1 (z : Int) true) y).getD false = true → 0 ≤ y ∧ (rs (tb ms) g.ws bd part (k + 1)).2.getD y.toNat false = true := fun y hy => by
        rw [lookM_put] at hy
        rw [e3, getD_setB _ _ _ _ (by rw [hRI.ml]; exact hz)]
        by_cases hyz : (z : Int) = y
        · subst hyz
          rw [Int.toNat_natCast, if_pos rfl]
          exact ⟨by omega, rfl⟩
        · rw [if_neg hyz] at hy
          have := hseen y hy
          refine ⟨this.1, ?_⟩
          split
          · rfl
          · exact this.2
      have hx1 : (xs.map (·.1)).getD k 0 = (z : Int) := by rw [List.getD_eq_getElem?_getD, List.getElem?_map, hxk]; rfl
      have hx2 : (xs.map (·.2)).getD k 0 = (gnL (tb ms) (rs (tb ms) g.ws bd part k).1).getD z 0 := by rw [List.getD_eq_getElem?_getD, List.getElem?_map, hxk]; rfl
      have hvz := hRI.val z (by rw [hRI.len]; exact hz)
      have hc1 := hci part
      have hc2 := hci (rs (tb ms) g.ws bd part k).1
      have hc3 := hci (rs (tb ms) g.ws bd part (k + 1)).1
      have hnl := hRI.len
      have hzp : z < part.length := by omega
      rw [← hpl] at hnl
      obtain ⟨bn, rfl⟩ : ∃ g, p1 = some ⟨g, 0, none⟩ := appOk.some (H.cap (i := 1) rfl) (by simp; omega)
      obtain ⟨b1x, rfl⟩ : ∃ g, q1x = some ⟨g, 0, none⟩ := appOk.some (H.cap (i := 3) rfl) (by simp; omega)
      obtain ⟨b2x, rfl⟩ : ∃ g, q2x = some ⟨g, 0, none⟩ := appOk.some (H.cap (i := 2) rfl) (by simp; omega)
      have hi1 : SlH (hp w) (some ⟨b1x, 0, none⟩) (ints .i64 (xs.map (·.1))) := appOk.sl (H.cap (i := 3) rfl)
      have hi1v := hi1.int (j := k) (by rw [List.length_map]; exact hlt)
      rw [hx1] at hi1v
      rw [e1] at e2 hc3
      generalize (rs (tb ms) g.ws bd part k).1 = R0 at *
      generalize hgg : (gnL (tb ms) R0).getD z 0 = gz at *
      refine wc_skip ?_
      refine wc_seq ?_
      refine wc_block ?_
      refine wc_seq ?_
      refine wc_region ?_
      (apply ow_move; (· rfl); (· ((conv => lhs; whnf) <;> rfl)))
      refine ow_idx1 (j := k) rfl (tyAt rfl) rfl (tyAt rfl) rfl rfl rfl hlt rfl ?_
      refine ow_load rfl (tyAt rfl) rfl rfl hi1v ?_
      (apply ow_assign; (· rfl); (· ((conv => lhs; whnf) <;> rfl)))
      (apply ow_assign; (· rfl); (· ((conv => lhs; whnf) <;> rfl)))
      refine ow_nil ?_
      refine wc_seq ?_
      refine wc_seq ?_
      refine wc_region ?_
      (apply ow_move; (· rfl); (· ((conv => lhs; whnf) <;> rfl)))
      (apply ow_move; (· rfl); (· ((conv => lhs; whnf) <;> rfl)))
      refine ow_lookup (i := 0) H rfl rfl (tyAt rfl) rfl (tyAt rfl) rfl (tyAt rfl) rfl rfl rfl ?_
      rw [hns]
      (apply ow_move; (· rfl); (· ((conv => lhs; whnf) <;> rfl)))
      refine ow_guard_yes rfl rfl rfl rfl ?_
      (apply ow_move; (· rfl); (· ((conv => lhs; whnf) <;> rfl)))
      refine ow_guard_yes rfl rfl rfl rfl ?_
      refine ow_lss rfl rfl rfl ?_
      (apply ow_pick_f; (· rfl); (· rfl); (· ((conv => lhs; whnf) <;> rfl)))
      (apply ow_move; (· rfl); (· ((conv => lhs; whnf) <;> rfl)))
      refine ow_guard_yes rfl rfl rfl rfl ?_
      (apply ow_move; (· rfl); (· ((conv => lhs; whnf) <;> rfl)))
      refine ow_guard_yes rfl rfl rfl rfl ?_
      (apply ow_move; (· rfl); (· ((conv => lhs; whnf) <;> rfl)))
      refine ow_guard_yes rfl rfl rfl rfl ?_
      refine ow_len rfl rfl (tyAt rfl) rfl ?_
      refine ow_guard_yes rfl rfl rfl rfl ?_
      refine ow_geq rfl rfl rfl ?_
      (apply ow_pick_f; (· rfl); (· rfl); (· ((conv => lhs; whnf) <;> rfl)))
      refine ow_nil ?_
      rw [decide_eq_false (show ¬ ((z : Int) < 0) by omega)]
      skip
      rw [decide_eq_false (show ¬ ((part.length : Int) ≤ (z : Int)) by omega)]
      refine wc_cond_false rfl ?_
      refine wc_skip ?_
      refine wc_seq ?_
      refine wc_region ?_
      (apply ow_move; (· rfl); (· ((conv => lhs; whnf) <;> rfl)))
      (apply ow_move; (· rfl); (· ((conv => lhs; whnf) <;> rfl)))
      refine ow_mapUpdate (i := 0) H rfl (tyAt rfl) rfl (tyAt rfl) rfl rfl rfl rfl (fun w H => ?_)
      simp only [List.cons_append, List.set] at H
      refine ow_nil ?_
      refine wc_seq ?_
      refine wc_region ?_
      (apply ow_move; (· rfl); (· ((conv => lhs; whnf) <;> rfl)))
      (apply ow_move; (· rfl); (· ((conv => lhs; whnf) <;> rfl)))
      (apply ow_move; (· rfl); (· ((conv => lhs; whnf) <;> rfl)))
      (apply ow_move; (· rfl); (· ((conv => lhs; whnf) <;> rfl)))
      refine ow_idx1 (j := z) rfl (tyAt rfl) rfl (tyAt rfl) rfl rfl rfl hzp rfl ?_
      refine ow_load rfl (tyAt rfl) rfl rfl (SlH.int (appOk.sl (H.cap (i := 1) rfl)) (by omega)) ?_
      refine ow_sub rfl rfl rfl (by simp only [InK]; omega) ?_
      refine ow_idx1 (j := z) rfl (tyAt rfl) rfl (tyAt rfl) rfl rfl rfl hzp rfl ?_
      refine ow_storeApp (i := 1) (o := 0 + z) (v := .int .i64 (1 - R0.getD z 0)) H (tyAt rfl) rfl rfl rfl rfl rfl (by simp; omega) (fun w H => ?_)
      simp only [List.cons_append, List.nil_append, List.set] at H
      rw [Nat.zero_add, intsI_set] at H
      have hi2 : SlH (hp w) (some ⟨b2x, 0, none⟩) (ints .i64 (xs.map (·.2))) := appOk.sl (H.cap (i := 2) rfl)
      have hi2v := hi2.int (j := k) (by rw [List.length_map]; exact hlt)
      rw [hx2] at hi2v
      refine ow_nil ?_
      refine wc_region ?_
      (apply ow_move; (· rfl); (· ((conv => lhs; whnf) <;> rfl)))
      (apply ow_move; (· rfl); (· ((conv => lhs; whnf) <;> rfl)))
      (apply ow_move; (· rfl); (· ((conv => lhs; whnf) <;> rfl)))
      refine ow_idx1 (j := k) rfl (tyAt rfl) rfl (tyAt rfl) rfl rfl rfl hlt rfl ?_
      refine ow_load rfl (tyAt rfl) rfl rfl hi2v ?_
      refine ow_add rfl rfl rfl (by simp only [InK]; omega) ?_
      (apply ow_assign; (· rfl); (· ((conv => lhs; whnf) <;> rfl)))
      refine ow_nil ?_
      refine wc_region ?_
      refine ow_add rfl rfl rfl (by simp only [InK]; omega) ?_
      (apply ow_move; (· rfl); (· ((conv => lhs; whnf) <;> rfl)))
      refine ow_nil ?_
      refine ⟨k + 1, ?_, by repeat (first | with_reducible exact Off.mix | with_reducible exact Off.refl | ((with_reducible refine Off.upd ?_ ?_); (· rfl))), ⟨rfl, hlt, putM ms1 (z : Int) true, hseen', by rw [e1]; exact H⟩, by omega⟩
      rw [e1, show cutM (tb ms) part - cutM (tb ms) (R0.set z (1 - R0.getD z 0)) = cutM (tb ms) part - cutM (tb ms) R0 + gz by omega]
      first | exact rfl | exact upd_self' rfl rfl | exact upd_self' rfl (upd_self' rfl rfl) | exact upd_self' rfl (upd_self' rfl (upd_self' rfl rfl)) | exact upd_self' rfl (upd_self' rfl (upd_self' rfl (upd_self' rfl rfl)))
    · have hk' : k = xs.length := by omega
      subst hk'
      refine wc_exit ?_
      exact ⟨(), by first | exact rfl | exact upd_self' rfl rfl | exact upd_self' rfl (upd_self' rfl rfl) | exact upd_self' rfl (upd_self' rfl (upd_self' rfl rfl)) | exact upd_self' rfl (upd_self' rfl (upd_self' rfl (upd_self' rfl rfl))), by repeat (first | with_reducible exact Off.mix | with_reducible exact Off.refl | ((with_reducible refine Off.upd ?_ ?_); (· rfl))), ⟨rfl, ms1, H⟩⟩
  clear H
  rintro _ j D w ⟨rfl, ms1, H⟩
  have hnl : (rs (tb ms) g.ws bd part xs.length).1.length = part.length := by
    by_cases h0 : xs.length = 0
    · rw [h0]; rfl
    · obtain ⟨hR, _, _⟩ := hat 0 (by omega)
      have hRI := ri_all (ws := g.ws) (bd := bd) (two_of hR) (by rw [hR.2.1, hTl]) xs.length
      rw [hRI.len, hTl, hR.2.1]
  have hfin : (if CutR g.ws.length part 2 then cutM (tb ms) part else 0) - (if CutR g.ws.length (rs (tb ms) g.ws bd part xs.length).1 2 then cutM (tb ms) (rs (tb ms) g.ws bd part xs.length).1 else 0) = cutM (tb ms) part - cutM (tb ms) (rs (tb ms) g.ws bd part xs.length).1 := by
    by_cases hR : CutR g.ws.length part 2
    · have hRI := ri_all (ws := g.ws) (bd := bd) (two_of hR) (by rw [hR.2.1, hTl]) xs.length
      rw [if_pos hR, if_pos (cutR_of hRI.val (by rw [hRI.len, hTl]))]
    · have h0 : xs.length = 0 := by
        rcases Nat.eq_zero_or_pos xs.length with h | h
        · exact h
        · exact absurd (hat 0 h).1 hR
      rw [if_neg hR, h0]
      rw [show (rs (tb ms) g.ws bd part 0).1 = part from rfl, if_neg hR]
      omega
  have hcs := fun w hG hsz => cut_spec g ms (rs (tb ms) g.ws bd part xs.length).1 p1 c1 2 (by omega) hn h1k hW w hG hsz
  rw [hnl] at hcs
  have hc1 := hci part
  have hc2 := hci (rs (tb ms) g.ws bd part xs.length).1
  have hcp := fun w hG hsz => cut_spec g ms part q3 cap3 2 hm3 hn h1k hW w hG hsz
  have hb1 : 0 ≤ (if CutR g.ws.length part 2 then cutM (tb ms) part else 0) ∧ (if CutR g.ws.length part 2 then cutM (tb ms) part else 0) ≤ 30 * (30 * 1099511627776) := by split <;> omega
  have hb2 : 0 ≤ (if CutR g.ws.length (rs (tb ms) g.ws bd part xs.length).1 2 then cutM (tb ms) (rs (tb ms) g.ws bd part xs.length).1 else 0) ∧ (if CutR g.ws.length (rs (tb ms) g.ws bd part xs.length).1 2 then cutM (tb ms) (rs (tb ms) g.ws bd part xs.length).1 else 0) ≤ 30 * (30 * 1099511627776) := by split <;> omega
  generalize (if CutR g.ws.length part 2 then cutM (tb ms) part else 0) = A1 at *
  generalize (if CutR g.ws.length (rs (tb ms) g.ws bd part xs.length).1 2 then cutM (tb ms) (rs (tb ms) g.ws bd part xs.length).1 else 0) = A2 at *
  refine wc_seq ?_
  refine wc_region ?_
  (apply ow_move; (· rfl); (· ((conv => lhs; whnf) <;> rfl)))
  (apply ow_move; (· rfl); (· ((conv => lhs; whnf) <;> rfl)))
  refine ow_call rfl rfl (ent (by kernel_rfl)) (CallsV.mono (hcp _ (hGr H) (H.oldSl hs)) ?_) rfl
  rintro v w ⟨rfl, H'⟩
  replace H := H.call H'
  rw [List.nil_append] at H
  clear H'
  (apply ow_move; (· rfl); (· ((conv => lhs; whnf) <;> rfl)))
  (apply ow_move; (· rfl); (· ((conv => lhs; whnf) <;> rfl)))
  refine ow_call rfl rfl (ent (by kernel_rfl)) (CallsV.mono (hcs _ (hGr H) (appOk.sl (H.cap (i := 1) rfl))) ?_) rfl
  rintro v w ⟨rfl, H'⟩
  replace H := H.call H'
  clear H'
  refine ow_sub rfl rfl rfl (by simp only [InK]; omega) ?_
  (apply ow_move; (· rfl); (· ((conv => lhs; whnf) <;> rfl)))
  refine ow_eql rfl rfl rfl ?_
  (apply ow_assign; (· rfl); (· ((conv => lhs; whnf) <;> rfl)))
  refine ow_nil ?_
  refine wc_ret ?_
  obtain ⟨w, hT, H⟩ := H.takes Try.prog
  refine ⟨.inr rfl, w, hT, _, .tmp .nil, ?_⟩
  exact ⟨congrArg Value.bool (decide_eq_true hfin), H.none⟩
end Go.Proofs.Ytpbknokakooekaa

