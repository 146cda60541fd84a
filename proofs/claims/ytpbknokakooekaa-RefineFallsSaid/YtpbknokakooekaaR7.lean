/- The statement's function 'sandtablelaw13.RefineFalls' returns true at every input, and changes nothing that was there. -/
import Derived.Test.YtpbknokakooekaaR6
namespace Go.Proofs.Ytpbknokakooekaa
set_option linter.all false
open Go Go.Sx Go.Proofs
set_option maxRecDepth 100000
set_option maxHeartbeats 2000000
theorem fallP {T : List IE} (hW : Wf T) {ws : List Int} (h0 : ∀ j, 0 ≤ ws.getD j 0) {bd : Int × Int} {p : List Int} (hR : CutR T.length p 2) :
    CutR T.length (passL T ws bd p).1 2 ∧ CutR T.length (refineL T ws bd p) 2 ∧ 0 ≤ (passL T ws bd p).2 ∧ cutM T p - cutM T (passL T ws bd p).1 = (passL T ws bd p).2 ∧ cutM T (refineL T ws bd p) ≤ cutM T (passL T ws bd p).1 ∧
    (∀ c, c < 2 → wtAt ws p c p.length ≤ bdA bd (c : Int) → wtAt ws (passL T ws bd p).1 c p.length ≤ bdA bd (c : Int) ∧ wtAt ws (refineL T ws bd p) c p.length ≤ bdA bd (c : Int)) := by
  have h1 := pass_prop hW h0 (bd := bd) (two_of hR) hR.2.1
  have h2 := refine_prop hW h0 (bd := bd) (two_of hR) hR.2.1
  exact ⟨cutR_of h1.two h1.len, cutR_of h2.1 h2.2.1, h1.nn, h1.gain.symm, h2.2.2.1, fun c hc h => ⟨h1.fit c hc h, h2.2.2.2 c hc h⟩⟩
theorem refine_zero {T : List IE} (hW : Wf T) {ws : List Int} (h0 : ∀ j, 0 ≤ ws.getD j 0) {bd : Int × Int} (p : List Int) : (passL T ws bd (refineL T ws bd p)).2 = 0 :=
  (refine_ind hW h0 (bd := bd) (R := fun _ => True) (fun _ _ _ => trivial) _ p (Nat.lt_succ_self _) trivial).2
theorem law13Falls (q q2 q3 : Option Addr) (cap cap2 cap3 : Nat) (ws : List Int) (ops : List OpA) (part : List Int) (bd : Int × Int) (hm : ws.length ≤ 9223372036854775807) (hm2 : ops.length ≤ 9223372036854775807) (hm3 : part.length ≤ 9223372036854775807) (w0 : World) (hq : SlH (hp w0) q (ints .i64 ws)) (hq2 : SlH (hp w0) q2 (ops.flatMap opA)) (hs : SlH (hp w0) q3 (ints .i64 part)) :
    CallsV Try.prog 15 #[.slice q ws.length cap, .slice q2 ops.length cap2, .slice q3 part.length cap3, .agg ⟨bdV bd⟩] w0 fun v w => v = .bool true ∧ St Pu w0 w [] [] := by
  refine callsV_of Try.func15 rfl rfl ?_
  have H := St.init w0
  refine wc_seq ?_
  refine wc_region ?_
  refine ow_box (l := bdV bd) H rfl rfl rfl (fun b3 w H => ?_)
  (apply ow_assign; (· rfl); (· ((conv => lhs; whnf) <;> rfl)))
  refine ow_nil ?_
  refine wc_seq ?_
  refine wc_seq ?_
  refine wc_region ?_
  refine ow_call rfl rfl (ent (by kernel_rfl)) (CallsV.mono (alive13 _) ?_) rfl
  rintro v w ⟨rfl, H'⟩
  replace H := H.call H'
  rw [List.nil_append] at H
  clear H'
  refine ow_not rfl rfl ?_
  refine ow_nil ?_
  refine wc_cond_false rfl ?_
  refine wc_skip ?_
  refine wc_seq ?_
  refine wc_region ?_
  (apply ow_move; (· rfl); (· ((conv => lhs; whnf) <;> rfl)))
  (apply ow_move; (· rfl); (· ((conv => lhs; whnf) <;> rfl)))
  refine ow_call rfl rfl (ent (by kernel_rfl)) (CallsV.mono (build13_spec q q2 cap cap2 ws ops hm hm2 w (H.oldSl hq) (H.oldSl hq2)) ?_) rfl
  rintro v w (⟨rfl, _, H'⟩ | ⟨g, x, ms, rows, rfl, rfl, hxw, h30, hmay, hW, hn, _, hM, H'⟩)
  · replace H := (H.call H')
    rw [List.nil_append] at H
    clear H'
    (apply ow_move; (· rfl); (· ((conv => lhs; whnf) <;> rfl)))
    refine ow_extract rfl rfl rfl ?_
    refine ow_extract rfl rfl rfl ?_
    refine ow_extract rfl rfl rfl ?_
    refine ow_alloc (l := [.slice none 0 0, .slice none 0 0]) H rfl (tyAt rfl) rfl (fun b6 w H => ?_)
    (apply ow_assign; (· rfl); (· ((conv => lhs; whnf) <;> rfl)))
    refine ow_storeA (i := 0) (o := 0) (l' := [.slice none 0 0, .slice none 0 0]) H (tyAt rfl) rfl rfl rfl rfl (by simp [Value.oneCell']) (by simp) (fun w H => ?_)
    (apply ow_assign; (· rfl); (· ((conv => lhs; whnf) <;> rfl)))
    refine ow_nil ?_
    refine wc_seq ?_
    refine wc_seq ?_
    refine wc_region ?_
    (apply ow_move; (· rfl); (· ((conv => lhs; whnf) <;> rfl)))
    refine ow_not rfl rfl ?_
    (apply ow_move; (· rfl); (· ((conv => lhs; whnf) <;> rfl)))
    refine ow_guard_no rfl rfl rfl rfl rfl rfl rfl ?_
    refine ow_guard_no rfl rfl rfl rfl rfl rfl rfl ?_
    refine ow_guard_no rfl rfl rfl rfl rfl rfl rfl ?_
    (apply ow_pick_t; (· rfl); (· rfl); (· ((conv => lhs; whnf) <;> rfl)))
    refine ow_nil ?_
    refine wc_cond_true rfl ?_
    refine wc_seq ?_
    refine wc_region ?_
    (apply ow_assign; (· rfl); (· ((conv => lhs; whnf) <;> rfl)))
    refine ow_nil ?_
    refine wc_ret ?_
    obtain ⟨w, hT, H⟩ := H.takes Try.prog
    refine ⟨.inr rfl, w, hT, _, .tmp .nil, ?_⟩
    exact ⟨rfl, H.none⟩
  replace H : St Pu w0 w ((grC g ms ++ rfC x rows) ++ [.row b3 34 (bdV bd)]) [] := H.call H'
  clear H'
  (apply ow_move; (· rfl); (· ((conv => lhs; whnf) <;> rfl)))
  refine ow_extract rfl rfl rfl ?_
  refine ow_extract rfl rfl rfl ?_
  refine ow_extract rfl rfl rfl ?_
  refine ow_alloc (l := [.slice none 0 0, .slice none 0 0]) H rfl (tyAt rfl) rfl (fun b6 w H => ?_)
  (apply ow_assign; (· rfl); (· ((conv => lhs; whnf) <;> rfl)))
  refine ow_storeA (i := 0) (o := 0) (l' := rfV x rows) H (tyAt rfl) rfl rfl rfl rfl (by simp [Value.oneCell']) (by simp) (fun w H => ?_)
  have h4 : g.ws.length ≤ 4096 := by omega
  have h1k : g.ws.length ≤ 1000 := by omega
  have hTl : (tb ms).length = g.ws.length := by rw [tb_len, hn]
  have hxl : (tb ms).length = x.ws.length := by rw [hTl, hxw]
  replace H : St Pu w0 w ([.row b6 45 (rfV x rows), .row b3 34 (bdV bd)] ++ (grC g ms ++ rfC x rows)) [] := H.perm (List.perm_append_comm.cons _)
  obtain ⟨RR, hRR⟩ : ∃ RR, grC g ms ++ rfC x rows = RR := ⟨_, rfl⟩
  have hGr : ∀ {w : World} {pre : List Cap}, St Pu w0 w (pre ++ RR) [] → Gr (hp w) g ms := fun H => gr_of_ok fun c hc => okAll H c (List.mem_append_right _ (by rw [← hRR]; exact List.mem_append_left _ hc))
  have hRf : ∀ {w : World} {pre : List Cap}, St Pu w0 w (pre ++ RR) [] → Rf (hp w) x rows := fun H => rf_of_ok fun c hc => okAll H c (List.mem_append_right _ (by rw [← hRR]; exact List.mem_append_right _ hc))
  rw [hRR] at H
  clear hRR
  have hn0 : ∀ j, 0 ≤ g.ws.getD j 0 := fun j => (ws_nn hmay j).1
  (apply ow_assign; (· rfl); (· ((conv => lhs; whnf) <;> rfl)))
  refine ow_nil ?_
  refine wc_seq ?_
  refine wc_seq ?_
  refine wc_region ?_
  (apply ow_move; (· rfl); (· ((conv => lhs; whnf) <;> rfl)))
  refine ow_not rfl rfl ?_
  (apply ow_move; (· rfl); (· ((conv => lhs; whnf) <;> rfl)))
  refine ow_guard_yes rfl rfl rfl rfl ?_
  (apply ow_move; (· rfl); (· ((conv => lhs; whnf) <;> rfl)))
  refine ow_guard_yes rfl rfl rfl rfl ?_
  refine ow_len rfl rfl (tyAt rfl) rfl ?_
  refine ow_guard_yes rfl rfl rfl rfl ?_
  refine ow_gtr rfl rfl rfl ?_
  (apply ow_pick_f; (· rfl); (· rfl); (· ((conv => lhs; whnf) <;> rfl)))
  refine ow_nil ?_
  refine wc_cond_dec rfl (fun h => ?_) (fun h => ?_) <;> try dsimp only at h
  · refine wc_seq ?_
    refine wc_region ?_
    (apply ow_assign; (· rfl); (· ((conv => lhs; whnf) <;> rfl)))
    refine ow_nil ?_
    refine wc_ret ?_
    obtain ⟨w, hT, H⟩ := H.takes Try.prog
    refine ⟨.inr rfl, w, hT, _, .tmp .nil, ?_⟩
    exact ⟨rfl, H.none⟩
  have hp60 : part.length ≤ 60 := by omega
  clear h
  refine wc_skip ?_
  refine wc_seq ?_
  refine wc_region ?_
  refine ow_buildSlice0 H rfl (tyAt rfl) rfl (tyAt rfl) (fun ba w H => ?_)
  replace H := H.rowApp (i := 0) (len := 0) (sz := 1) rfl rfl (by omega)
  dsimp only [List.set] at H
  replace H : St Pu w0 w (.app (some ⟨ba, 0, none⟩) 0 0 3 1 (ints .i64 []) :: ([.row b6 45 (rfV x rows), .row b3 34 (bdV bd)] ++ RR)) [] := H
  (apply ow_move; (· rfl); (· ((conv => lhs; whnf) <;> rfl)))
  refine ow_append (i := 0) H rfl rfl (tyAt rfl) rfl (tyAt rfl) rfl (by decide) rfl rfl (H.oldSl hs) (by first | rfl | (simp; done) | (simp; omega)) (by simp [Value.oneCell']) (by first | omega | (dsimp only; omega) | (simp; omega)) (by first | omega | (dsimp only; omega) | (simp; omega)) (fun p1 c1 w H => ?_)
  dsimp only [List.set] at H
  rw [Nat.zero_add]
  replace H : St Pu w0 w ([.app p1 part.length c1 3 1 (ints .i64 part), .row b3 34 (bdV bd)] ++ RR) [] := by rw [Nat.zero_add] at H; exact H.sub (.cons₂ _ (.cons _ (List.Sublist.refl _)))
  (apply ow_assign; (· rfl); (· ((conv => lhs; whnf) <;> rfl)))
  refine ow_nil ?_
  refine wc_seq ?_
  refine wc_region ?_
  (apply ow_move; (· rfl); (· ((conv => lhs; whnf) <;> rfl)))
  (apply ow_move; (· rfl); (· ((conv => lhs; whnf) <;> rfl)))
  refine ow_loadA (l := bdV bd) rfl (tyAt rfl) rfl rfl rfl (H.cells (i := 1) (o := 0) (m := 2) rfl rfl) ?_
  refine ow_call rfl rfl (ent (by kernel_rfl)) (CallsV.mono (pass_spec g ms part q3 cap3 bd (by omega) hmay hn h1k hW _ (hGr H) (H.oldSl hs)) ?_) rfl
  rintro v w ⟨q8, c8, rfl, H'⟩
  replace H : St Pu w0 w ([.app q8 part.length c8 3 1 (ints .i64 (passL (tb ms) g.ws bd part).1), .app p1 part.length c1 3 1 (ints .i64 part), .row b3 34 (bdV bd)] ++ RR) [] := H.call H'
  clear H'
  (apply ow_move; (· rfl); (· ((conv => lhs; whnf) <;> rfl)))
  refine ow_extract rfl rfl rfl ?_
  refine ow_extract rfl rfl rfl ?_
  (apply ow_assign; (· rfl); (· ((conv => lhs; whnf) <;> rfl)))
  (apply ow_assign; (· rfl); (· ((conv => lhs; whnf) <;> rfl)))
  refine ow_nil ?_
  refine wc_seq ?_
  refine wc_region ?_
  (apply ow_move; (· rfl); (· ((conv => lhs; whnf) <;> rfl)))
  (apply ow_move; (· rfl); (· ((conv => lhs; whnf) <;> rfl)))
  refine ow_loadA (l := bdV bd) rfl (tyAt rfl) rfl rfl rfl (H.cells (i := 2) (o := 0) (m := 2) rfl rfl) ?_
  refine ow_call rfl rfl (ent (by kernel_rfl)) (CallsV.mono (refine_spec g ms part q3 cap3 bd (by omega) hmay hn h1k hW _ (hGr H) (H.oldSl hs)) ?_) rfl
  rintro v w ⟨q9, c9, rfl, hrl, H'⟩
  replace H : St Pu w0 w ([.app q9 part.length c9 3 1 (ints .i64 (refineL (tb ms) g.ws bd part)), .app q8 part.length c8 3 1 (ints .i64 (passL (tb ms) g.ws bd part).1), .app p1 part.length c1 3 1 (ints .i64 part), .row b3 34 (bdV bd)] ++ RR) [] := H.call H'
  clear H'
  (apply ow_assign; (· rfl); (· ((conv => lhs; whnf) <;> rfl)))
  refine ow_nil ?_
  refine wc_seq ?_
  refine wc_seq ?_
  refine wc_region ?_
  (apply ow_move; (· rfl); (· ((conv => lhs; whnf) <;> rfl)))
  (apply ow_move; (· rfl); (· ((conv => lhs; whnf) <;> rfl)))
  refine ow_call rfl rfl (ent (by kernel_rfl)) (CallsV.mono (sameInts_spec p1 q3 _ _ _ _ part part rfl rfl (by omega) (by omega) _ (appOk.sl (H.cap (i := 2) rfl)) (H.oldSl hs)) ?_) rfl
  rintro v w ⟨rfl, H'⟩
  replace H : St Pu w0 w ([.app q9 part.length c9 3 1 (ints .i64 (refineL (tb ms) g.ws bd part)), .app q8 part.length c8 3 1 (ints .i64 (passL (tb ms) g.ws bd part).1), .row b3 34 (bdV bd)] ++ RR) [] := (H.call H').sub (.cons₂ _ (.cons₂ _ (.cons _ (List.Sublist.refl _))))
  clear H'
  rw [decide_eq_true (rfl : part = part)]
  refine ow_not rfl rfl ?_
  refine ow_nil ?_
  refine wc_cond_false rfl ?_
  refine wc_skip ?_
  refine wc_seq ?_
  refine wc_seq ?_
  refine wc_region ?_
  (apply ow_move; (· rfl); (· ((conv => lhs; whnf) <;> rfl)))
  (apply ow_move; (· rfl); (· ((conv => lhs; whnf) <;> rfl)))
  refine ow_call rfl rfl (ent (by kernel_rfl)) (CallsV.mono (cutRight_spec g ms part q3 cap3 2 (by omega) _ (hGr H) (H.oldSl hs)) ?_) rfl
  rintro v w ⟨rfl, H'⟩
  replace H : St Pu w0 w ([.app q9 part.length c9 3 1 (ints .i64 (refineL (tb ms) g.ws bd part)), .app q8 part.length c8 3 1 (ints .i64 (passL (tb ms) g.ws bd part).1), .row b3 34 (bdV bd)] ++ RR) [] := H.call H'
  clear H'
  by_cases hR : CutR g.ws.length part 2
  · rw [decide_eq_true hR]
    have hRT : CutR (tb ms).length part 2 := by rw [hTl]; exact hR
    have hf := fallP hW hn0 (bd := bd) hRT
    have hz := refine_zero hW hn0 (bd := bd) part
    have hzs := fun (q : Option Addr) (c : Nat) w hG hsz => pass_spec g ms (refineL (tb ms) g.ws bd part) q c bd (by omega) hmay hn h1k hW w hG hsz
    rw [hrl, hz] at hzs
    have hpl := hR.2.1
    obtain ⟨RF, hRF⟩ : ∃ RF, refineL (tb ms) g.ws bd part = RF := ⟨_, rfl⟩
    obtain ⟨PA, hPA⟩ : ∃ PA, (passL (tb ms) g.ws bd part).1 = PA := ⟨_, rfl⟩
    obtain ⟨GA, hGA⟩ : ∃ GA, (passL (tb ms) g.ws bd part).2 = GA := ⟨_, rfl⟩
    rw [hRF] at hf hrl hzs H
    rw [hPA, hGA, hTl] at hf
    rw [hPA] at H
    rw [hGA]
    clear hz hRF hPA hGA
    obtain ⟨hRp, hRr, hg0, hgc, hle, hfit⟩ := hf
    have hal := hRp.2.1
    have hci : ∀ r : List Int, 0 ≤ cutM (tb ms) r ∧ cutM (tb ms) r ≤ 30 * (30 * 1099511627776) := fun r => by
      have h1 := cutM_in hW r
      rw [hTl] at h1
      have hnn : (g.ws.length : Int) * ((g.ws.length : Int) * 1099511627776) ≤ 30 * (30 * 1099511627776) := Int.mul_le_mul (by omega) (by omega) (by omega) (by omega)
      omega
    have hcp := hci part
    have hca := hci PA
    have hcr := hci RF
    have hC := fun (r : List Int) (q : Option Addr) (c : Nat) (hr : CutR g.ws.length r 2) w hG hsz => cut_spec g ms r q c 2 (by have := hr.2.1; omega) hn h1k hW w hG hsz
    have hC1 := hC part q3 cap3 hR
    have hC2 := hC PA q8 c8 hRp
    have hC3 := hC RF q9 c9 hRr
    have hT2 := fun w hG hsz => cutRight_spec g ms PA q8 c8 2 (by omega) w hG hsz
    have hT3 := fun w hG hsz => cutRight_spec g ms RF q9 c9 2 (by omega) w hG hsz
    have hW1 := fun w hG hsz => weights_spec g ms part q3 cap3 2 (by omega) hmay hn h4 w hG hsz
    have hW2 := fun w hG hsz => weights_spec g ms PA q8 c8 2 (by omega) hmay hn h4 w hG hsz
    have hW3 := fun w hG hsz => weights_spec g ms RF q9 c9 2 (by omega) hmay hn h4 w hG hsz
    rw [if_pos hR] at hC1
    rw [if_pos hRp, hal, ← hpl] at hC2
    rw [if_pos hRr, hrl] at hC3
    rw [hal, ← hpl, decide_eq_true (by rw [hpl]; exact hRp)] at hT2
    rw [hrl, decide_eq_true hRr] at hT3
    rw [hal, ← hpl] at hW2
    rw [hrl] at hW3
    generalize cutM (tb ms) part = CP at *
    generalize cutM (tb ms) PA = CA at *
    generalize cutM (tb ms) RF = CR at *
    refine ow_not rfl rfl ?_
    refine ow_nil ?_
    refine wc_cond_false rfl ?_
    refine wc_skip ?_
    refine wc_seq ?_
    refine wc_seq ?_
    refine wc_region ?_
    (apply ow_move; (· rfl); (· ((conv => lhs; whnf) <;> rfl)))
    (apply ow_move; (· rfl); (· ((conv => lhs; whnf) <;> rfl)))
    refine ow_call rfl rfl (ent (by kernel_rfl)) (CallsV.mono (hT2 _ (hGr H) (appOk.sl (H.cap (i := 1) rfl))) ?_) rfl
    rintro v w ⟨rfl, H'⟩
    replace H : St Pu w0 w ([.app q9 part.length c9 3 1 (ints .i64 RF), .app q8 part.length c8 3 1 (ints .i64 PA), .row b3 34 (bdV bd)] ++ RR) [] := H.call H'
    clear H'
    refine ow_not rfl rfl ?_
    (apply ow_move; (· rfl); (· ((conv => lhs; whnf) <;> rfl)))
    refine ow_guard_yes rfl rfl rfl rfl ?_
    (apply ow_move; (· rfl); (· ((conv => lhs; whnf) <;> rfl)))
    refine ow_guard_yes rfl rfl rfl rfl ?_
    (apply ow_move; (· rfl); (· ((conv => lhs; whnf) <;> rfl)))
    refine ow_guard_yes rfl rfl rfl rfl ?_
    refine ow_call rfl rfl (ent (by kernel_rfl)) (CallsV.mono (hT3 _ (hGr H) (appOk.sl (H.cap (i := 0) rfl))) ?_) rfl
    rintro v w ⟨rfl, H'⟩
    replace H : St Pu w0 w ([.app q9 part.length c9 3 1 (ints .i64 RF), .app q8 part.length c8 3 1 (ints .i64 PA), .row b3 34 (bdV bd)] ++ RR) [] := H.call H'
    clear H'
    refine ow_guard_yes rfl rfl rfl rfl ?_
    refine ow_not rfl rfl ?_
    (apply ow_pick_f; (· rfl); (· rfl); (· ((conv => lhs; whnf) <;> rfl)))
    (apply ow_move; (· rfl); (· ((conv => lhs; whnf) <;> rfl)))
    refine ow_guard_yes rfl rfl rfl rfl ?_
    (apply ow_move; (· rfl); (· ((conv => lhs; whnf) <;> rfl)))
    refine ow_guard_yes rfl rfl rfl rfl ?_
    refine ow_lss rfl rfl rfl ?_
    (apply ow_pick_f; (· rfl); (· rfl); (· ((conv => lhs; whnf) <;> rfl)))
    (apply ow_move; (· rfl); (· ((conv => lhs; whnf) <;> rfl)))
    rw [decide_eq_false (show ¬ GA < 0 by omega)]
    refine ow_guard_yes rfl rfl rfl rfl ?_
    (apply ow_move; (· rfl); (· ((conv => lhs; whnf) <;> rfl)))
    refine ow_guard_yes rfl rfl rfl rfl ?_
    (apply ow_move; (· rfl); (· ((conv => lhs; whnf) <;> rfl)))
    refine ow_guard_yes rfl rfl rfl rfl ?_
    refine ow_call rfl rfl (ent (by kernel_rfl)) (CallsV.mono (hC1 _ (hGr H) (H.oldSl hs)) ?_) rfl
    rintro v w ⟨rfl, H'⟩
    replace H : St Pu w0 w ([.app q9 part.length c9 3 1 (ints .i64 RF), .app q8 part.length c8 3 1 (ints .i64 PA), .row b3 34 (bdV bd)] ++ RR) [] := H.call H'
    clear H'
    refine ow_guard_yes rfl rfl rfl rfl ?_
    (apply ow_move; (· rfl); (· ((conv => lhs; whnf) <;> rfl)))
    refine ow_guard_yes rfl rfl rfl rfl ?_
    (apply ow_move; (· rfl); (· ((conv => lhs; whnf) <;> rfl)))
    refine ow_guard_yes rfl rfl rfl rfl ?_
    refine ow_call rfl rfl (ent (by kernel_rfl)) (CallsV.mono (hC2 _ (hGr H) (appOk.sl (H.cap (i := 1) rfl))) ?_) rfl
    rintro v w ⟨rfl, H'⟩
    replace H : St Pu w0 w ([.app q9 part.length c9 3 1 (ints .i64 RF), .app q8 part.length c8 3 1 (ints .i64 PA), .row b3 34 (bdV bd)] ++ RR) [] := H.call H'
    clear H'
    refine ow_guard_yes rfl rfl rfl rfl ?_
    refine ow_sub rfl rfl rfl (by simp only [InK]; omega) ?_
    refine ow_guard_yes rfl rfl rfl rfl ?_
    (apply ow_move; (· rfl); (· ((conv => lhs; whnf) <;> rfl)))
    refine ow_guard_yes rfl rfl rfl rfl ?_
    refine ow_neq rfl rfl rfl ?_
    (apply ow_pick_f; (· rfl); (· rfl); (· ((conv => lhs; whnf) <;> rfl)))
    (apply ow_move; (· rfl); (· ((conv => lhs; whnf) <;> rfl)))
    rw [hgc, decide_eq_false (show ¬ ¬ (GA = GA) from fun h => h rfl)]
    refine ow_guard_yes rfl rfl rfl rfl ?_
    (apply ow_move; (· rfl); (· ((conv => lhs; whnf) <;> rfl)))
    refine ow_guard_yes rfl rfl rfl rfl ?_
    (apply ow_move; (· rfl); (· ((conv => lhs; whnf) <;> rfl)))
    refine ow_guard_yes rfl rfl rfl rfl ?_
    refine ow_call rfl rfl (ent (by kernel_rfl)) (CallsV.mono (hC3 _ (hGr H) (appOk.sl (H.cap (i := 0) rfl))) ?_) rfl
    rintro v w ⟨rfl, H'⟩
    replace H : St Pu w0 w ([.app q9 part.length c9 3 1 (ints .i64 RF), .app q8 part.length c8 3 1 (ints .i64 PA), .row b3 34 (bdV bd)] ++ RR) [] := H.call H'
    clear H'
    refine ow_guard_yes rfl rfl rfl rfl ?_
    (apply ow_move; (· rfl); (· ((conv => lhs; whnf) <;> rfl)))
    refine ow_guard_yes rfl rfl rfl rfl ?_
    (apply ow_move; (· rfl); (· ((conv => lhs; whnf) <;> rfl)))
    refine ow_guard_yes rfl rfl rfl rfl ?_
    refine ow_call rfl rfl (ent (by kernel_rfl)) (CallsV.mono (hC2 _ (hGr H) (appOk.sl (H.cap (i := 1) rfl))) ?_) rfl
    rintro v w ⟨rfl, H'⟩
    replace H : St Pu w0 w ([.app q9 part.length c9 3 1 (ints .i64 RF), .app q8 part.length c8 3 1 (ints .i64 PA), .row b3 34 (bdV bd)] ++ RR) [] := H.call H'
    clear H'
    refine ow_guard_yes rfl rfl rfl rfl ?_
    refine ow_gtr rfl rfl rfl ?_
    (apply ow_pick_f; (· rfl); (· rfl); (· ((conv => lhs; whnf) <;> rfl)))
    refine ow_nil ?_
    rw [decide_eq_false (show ¬ CA < CR by omega)]
    refine wc_cond_false rfl ?_
    refine wc_skip ?_
    refine wc_seq ?_
    refine wc_region ?_
    (apply ow_move; (· rfl); (· ((conv => lhs; whnf) <;> rfl)))
    (apply ow_move; (· rfl); (· ((conv => lhs; whnf) <;> rfl)))
    refine ow_call rfl rfl (ent (by kernel_rfl)) (CallsV.mono (hW1 _ (hGr H) (H.oldSl hs)) ?_) rfl
    rintro v w (⟨hno, _⟩ | ⟨_, bw1, rfl, H'⟩)
    · exact absurd hR hno
    replace H : St Pu w0 w (([.row bw1 2 (ints .i64 (wtL g.ws part 2 part.length))] ++ [.app q9 part.length c9 3 1 (ints .i64 RF), .app q8 part.length c8 3 1 (ints .i64 PA), .row b3 34 (bdV bd)]) ++ RR) [] := H.call H'
    clear H'
    (apply ow_move; (· rfl); (· ((conv => lhs; whnf) <;> rfl)))
    (apply ow_move; (· rfl); (· ((conv => lhs; whnf) <;> rfl)))
    refine ow_call rfl rfl (ent (by kernel_rfl)) (CallsV.mono (hW2 _ (hGr H) (appOk.sl (H.cap (i := 2) rfl))) ?_) rfl
    rintro v w (⟨hno, _⟩ | ⟨_, bw2, rfl, H'⟩)
    · exact absurd (by rw [hpl]; exact hRp) hno
    replace H : St Pu w0 w (([.row bw2 2 (ints .i64 (wtL g.ws PA 2 part.length)), .row bw1 2 (ints .i64 (wtL g.ws part 2 part.length))] ++ [.app q9 part.length c9 3 1 (ints .i64 RF), .app q8 part.length c8 3 1 (ints .i64 PA), .row b3 34 (bdV bd)]) ++ RR) [] := H.call H'
    clear H'
    (apply ow_move; (· rfl); (· ((conv => lhs; whnf) <;> rfl)))
    (apply ow_move; (· rfl); (· ((conv => lhs; whnf) <;> rfl)))
    refine ow_call rfl rfl (ent (by kernel_rfl)) (CallsV.mono (hW3 _ (hGr H) (appOk.sl (H.cap (i := 2) rfl))) ?_) rfl
    rintro v w (⟨hno, _⟩ | ⟨_, bw3, rfl, H'⟩)
    · exact absurd hRr hno
    replace H : St Pu w0 w (([.row bw3 2 (ints .i64 (wtL g.ws RF 2 part.length)), .row bw2 2 (ints .i64 (wtL g.ws PA 2 part.length)), .row bw1 2 (ints .i64 (wtL g.ws part 2 part.length))] ++ [.app q9 part.length c9 3 1 (ints .i64 RF), .app q8 part.length c8 3 1 (ints .i64 PA), .row b3 34 (bdV bd)]) ++ RR) [] := H.call H'
    clear H'
    have hwa : ∀ (r : List Int) (i : Nat), i < 2 → (wtL g.ws r 2 part.length).getD i 0 = wtAt g.ws r i part.length := fun r i hi => wtL_at hi
    have hfw : ∀ i : Nat, i < 2 → (wtL g.ws part 2 part.length).getD i 0 ≤ bdA bd (i : Int) → (wtL g.ws PA 2 part.length).getD i 0 ≤ bdA bd (i : Int) ∧ (wtL g.ws RF 2 part.length).getD i 0 ≤ bdA bd (i : Int) := fun i hi h => by
      rw [hwa _ i hi] at h ⊢
      rw [hwa _ i hi]
      exact hfit i hi h
    have hl1 := wtL_len g.ws part 2 part.length
    have hl2 := wtL_len g.ws PA 2 part.length
    have hl3 := wtL_len g.ws RF 2 part.length
    clear hfit hwa
    generalize wtL g.ws part 2 part.length = X1 at *
    generalize wtL g.ws PA 2 part.length = X2 at *
    generalize wtL g.ws RF 2 part.length = X3 at *
    have hbc : ∀ i : Nat, i < 2 → (bdV bd)[i]? = some (.int .i64 (bdA bd (i : Int))) := fun i hi => by
      rcases Nat.lt_or_ge i 1 with h | h
      · rw [show i = 0 by omega]; rfl
      · rw [show i = 1 by omega]; rfl
    (apply ow_assign; (· rfl); (· ((conv => lhs; whnf) <;> rfl)))
    (apply ow_assign; (· rfl); (· ((conv => lhs; whnf) <;> rfl)))
    (apply ow_assign; (· rfl); (· ((conv => lhs; whnf) <;> rfl)))
    refine ow_nil ?_
    refine wc_seq ?_
    refine wc_seq ?_
    refine wc_region ?_
    (apply ow_move; (· rfl); (· ((conv => lhs; whnf) <;> rfl)))
    refine ow_nil ?_
    refine wc_blockJ [8, 19, 115, 116, 117, 118, 119, 120, 121, 122, 123, 124, 125, 126, 127, 128, 129, 130, 131, 132, 133, 134, 135, 136, 137, 138, 139, 140, 141, 142, 143, 144, 145, 146] (fun (_ : Unit) e => e) (fun _ D w => D = [] ∧ St Pu w0 w (([.row bw3 2 (ints .i64 X3), .row bw2 2 (ints .i64 X2), .row bw1 2 (ints .i64 X1)] ++ [.app q9 part.length c9 3 1 (ints .i64 RF), .app q8 part.length c8 3 1 (ints .i64 PA), .row b3 34 (bdV bd)]) ++ RR) []) ?_ ?_
    · refine wc_loopS [8, 19, 115, 116, 117, 118, 119, 120, 121, 122, 123, 124, 125, 126, 127, 128, 129, 130, 131, 132, 133, 134, 135, 136, 137, 138, 139, 140, 141, 142, 143, 144, 145, 146] (fun (i : Nat) e => upd e 115 (.int .i64 i)) (fun i D w => D = [] ∧ i ≤ 2 ∧ St Pu w0 w (([.row bw3 2 (ints .i64 X3), .row bw2 2 (ints .i64 X2), .row bw1 2 (ints .i64 X1)] ++ [.app q9 part.length c9 3 1 (ints .i64 RF), .app q8 part.length c8 3 1 (ints .i64 PA), .row b3 34 (bdV bd)]) ++ RR) []) (fun i _ => 2 - i) 0 (by first | exact rfl | exact upd_self' rfl rfl | exact upd_self' rfl (upd_self' rfl rfl) | exact upd_self' rfl (upd_self' rfl (upd_self' rfl rfl)) | exact upd_self' rfl (upd_self' rfl (upd_self' rfl (upd_self' rfl rfl)))) ⟨rfl, Nat.zero_le _, H⟩ ?_
      clear H
      rintro i j D w ⟨rfl, hi, H⟩
      refine wc_seq ?_
      refine wc_region ?_
      refine ow_lss rfl rfl rfl ?_
      refine ow_nil ?_
      refine wc_seq ?_
      refine wc_cond_dec rfl (fun h => ?_) (fun h => ?_) <;> try dsimp only at h
      · have hlt : i < 2 := by omega
        clear h
        have hfi := hfw i hlt
        have hbi := hbc i hlt
        refine wc_skip ?_
        refine wc_seq ?_
        refine wc_block ?_
        refine wc_seq ?_
        refine wc_region ?_
        (apply ow_move; (· rfl); (· ((conv => lhs; whnf) <;> rfl)))
        (apply ow_assign; (· rfl); (· ((conv => lhs; whnf) <;> rfl)))
        refine ow_nil ?_
        refine wc_seq ?_
        refine wc_drawK (fun w => St Pu w0 w (([.row bw3 2 (ints .i64 X3), .row bw2 2 (ints .i64 X2), .row bw1 2 (ints .i64 X1)] ++ [.app q9 part.length c9 3 1 (ints .i64 RF), .app q8 part.length c8 3 1 (ints .i64 PA), .row b3 34 (bdV bd)]) ++ RR) []) 99 (by kernel_rfl) (by kernel_rfl) (by intro c e D w h; first | exact h.elim | (rcases h with ⟨h | h, _⟩ <;> cases h)) ?_
        replace H := H.drew
        apply ak_take (i := 0) rfl rfl rfl rfl (by kernel_rfl) (by with_reducible first | exact H | rfl)
        · intro w Q' HS hq; replace H := HS; clear HS; (apply ow_move; (· rfl); (· ((conv => lhs; whnf) <;> rfl))); exact ow_nil hq
        apply ak_take (i := 1) rfl rfl rfl rfl (by kernel_rfl) (by with_reducible first | exact H | rfl)
        · intro w Q' HS hq; replace H := HS; clear HS; (apply ow_move; (· rfl); (· ((conv => lhs; whnf) <;> rfl))); exact ow_nil hq
        apply ak_take (i := 2) rfl rfl rfl rfl (by kernel_rfl) (by with_reducible first | exact H | rfl)
        · intro w Q' HS hq; replace H := HS; clear HS; refine ow_idx1 (j := i) rfl (tyAt rfl) rfl (tyAt rfl) rfl rfl rfl hlt rfl ?_; exact ow_nil hq
        apply ak_take (i := 3) rfl rfl rfl rfl (by kernel_rfl) (by with_reducible first | exact H | rfl)
        · intro w Q' HS hq; replace H := HS; clear HS; refine ow_load rfl (tyAt rfl) rfl rfl (SlH.int (H.rowSl (i := 2) rfl) (by omega)) ?_; exact ow_nil hq
        apply ak_take (i := 4) rfl rfl rfl rfl (by kernel_rfl) (by with_reducible first | exact H | rfl)
        · intro w Q' HS hq; replace H := HS; clear HS; (apply ow_move; (· rfl); (· ((conv => lhs; whnf) <;> rfl))); exact ow_nil hq
        apply ak_take (i := 5) rfl rfl rfl rfl (by kernel_rfl) (by with_reducible first | exact H | rfl)
        · intro w Q' HS hq; replace H := HS; clear HS; refine ow_idxArr1 (j := i) rfl (tyAt rfl) rfl (tyAt rfl) rfl rfl rfl hlt rfl ?_; exact ow_nil hq
        apply ak_take (i := 6) rfl rfl rfl rfl (by kernel_rfl) (by with_reducible first | exact H | rfl)
        · intro w Q' HS hq; replace H := HS; clear HS; refine ow_load rfl (tyAt rfl) rfl rfl (SlH.cell (H.rowSl (i := 5) rfl) hbi) ?_; exact ow_nil hq
        apply ak_take (i := 7) rfl rfl rfl rfl (by kernel_rfl) (by with_reducible first | exact H | rfl)
        · intro w Q' HS hq; replace H := HS; clear HS; refine ow_leq rfl rfl rfl ?_; exact ow_nil hq
        apply ak_take (i := 8) rfl rfl rfl rfl (by kernel_rfl) (by with_reducible first | exact H | rfl)
        · intro w Q' HS hq; replace H := HS; clear HS; (apply ow_move; (· rfl); (· ((conv => lhs; whnf) <;> rfl))); exact ow_nil hq
        refine ak_guard_dec (dj := 126) rfl (fun h => ?_) (fun h => ?_) <;> try dsimp only at h
        · obtain ⟨hf2, hf3⟩ := hfi h
          clear h hfi
          apply ak_take (i := 9) rfl rfl rfl rfl (by kernel_rfl) (by with_reducible first | exact H | rfl)
          · intro w Q' HS hq; replace H := HS; clear HS; refine ow_guard_yes rfl rfl rfl rfl ?_; (apply ow_move; (· rfl); (· ((conv => lhs; whnf) <;> rfl))); exact ow_nil hq
          apply ak_take (i := 10) rfl rfl rfl rfl (by kernel_rfl) (by with_reducible first | exact H | rfl)
          · intro w Q' HS hq; replace H := HS; clear HS; refine ow_guard_yes rfl rfl rfl rfl ?_; (apply ow_move; (· rfl); (· ((conv => lhs; whnf) <;> rfl))); exact ow_nil hq
          apply ak_take (i := 11) rfl rfl rfl rfl (by kernel_rfl) (by with_reducible first | exact H | rfl)
          · intro w Q' HS hq; replace H := HS; clear HS; refine ow_guard_yes rfl rfl rfl rfl ?_; refine ow_idx1 (j := i) rfl (tyAt rfl) rfl (tyAt rfl) rfl rfl rfl hlt rfl ?_; exact ow_nil hq
          apply ak_take (i := 12) rfl rfl rfl rfl (by kernel_rfl) (by with_reducible first | exact H | rfl)
          · intro w Q' HS hq; replace H := HS; clear HS; refine ow_guard_yes rfl rfl rfl rfl ?_; refine ow_load rfl (tyAt rfl) rfl rfl (SlH.int (H.rowSl (i := 1) rfl) (by omega)) ?_; exact ow_nil hq
          apply ak_take (i := 13) rfl rfl rfl rfl (by kernel_rfl) (by with_reducible first | exact H | rfl)
          · intro w Q' HS hq; replace H := HS; clear HS; refine ow_guard_yes rfl rfl rfl rfl ?_; (apply ow_move; (· rfl); (· ((conv => lhs; whnf) <;> rfl))); exact ow_nil hq
          apply ak_take (i := 14) rfl rfl rfl rfl (by kernel_rfl) (by with_reducible first | exact H | rfl)
          · intro w Q' HS hq; replace H := HS; clear HS; refine ow_guard_yes rfl rfl rfl rfl ?_; refine ow_idxArr1 (j := i) rfl (tyAt rfl) rfl (tyAt rfl) rfl rfl rfl hlt rfl ?_; exact ow_nil hq
          apply ak_take (i := 15) rfl rfl rfl rfl (by kernel_rfl) (by with_reducible first | exact H | rfl)
          · intro w Q' HS hq; replace H := HS; clear HS; refine ow_guard_yes rfl rfl rfl rfl ?_; refine ow_load rfl (tyAt rfl) rfl rfl (SlH.cell (H.rowSl (i := 5) rfl) hbi) ?_; exact ow_nil hq
          apply ak_take (i := 16) rfl rfl rfl rfl (by kernel_rfl) (by with_reducible first | exact H | rfl)
          · intro w Q' HS hq; replace H := HS; clear HS; refine ow_guard_yes rfl rfl rfl rfl ?_; refine ow_gtr rfl rfl rfl ?_; exact ow_nil hq
          apply ak_take (i := 17) rfl rfl rfl rfl (by kernel_rfl) (by with_reducible first | exact H | rfl)
          · intro w Q' HS hq; replace H := HS; clear HS; refine ow_guard_yes rfl rfl rfl rfl ?_; (apply ow_move; (· rfl); (· ((conv => lhs; whnf) <;> rfl))); exact ow_nil hq
          rw [decide_eq_false (show ¬ bdA bd (i : Int) < X2.getD i 0 by omega)]
          apply ak_take (i := 18) rfl rfl rfl rfl (by kernel_rfl) (by with_reducible first | exact H | rfl)
          · intro w Q' HS hq; replace H := HS; clear HS; refine ow_guard_yes rfl rfl rfl rfl ?_; (apply ow_move; (· rfl); (· ((conv => lhs; whnf) <;> rfl))); exact ow_nil hq
          apply ak_take (i := 19) rfl rfl rfl rfl (by kernel_rfl) (by with_reducible first | exact H | rfl)
          · intro w Q' HS hq; replace H := HS; clear HS; refine ow_guard_yes rfl rfl rfl rfl ?_; (apply ow_move; (· rfl); (· ((conv => lhs; whnf) <;> rfl))); exact ow_nil hq
          apply ak_take (i := 20) rfl rfl rfl rfl (by kernel_rfl) (by with_reducible first | exact H | rfl)
          · intro w Q' HS hq; replace H := HS; clear HS; refine ow_guard_yes rfl rfl rfl rfl ?_; refine ow_idx1 (j := i) rfl (tyAt rfl) rfl (tyAt rfl) rfl rfl rfl hlt rfl ?_; exact ow_nil hq
          apply ak_take (i := 21) rfl rfl rfl rfl (by kernel_rfl) (by with_reducible first | exact H | rfl)
          · intro w Q' HS hq; replace H := HS; clear HS; refine ow_guard_yes rfl rfl rfl rfl ?_; refine ow_load rfl (tyAt rfl) rfl rfl (SlH.int (H.rowSl (i := 0) rfl) (by omega)) ?_; exact ow_nil hq
          apply ak_take (i := 22) rfl rfl rfl rfl (by kernel_rfl) (by with_reducible first | exact H | rfl)
          · intro w Q' HS hq; replace H := HS; clear HS; refine ow_guard_yes rfl rfl rfl rfl ?_; (apply ow_move; (· rfl); (· ((conv => lhs; whnf) <;> rfl))); exact ow_nil hq
          apply ak_take (i := 23) rfl rfl rfl rfl (by kernel_rfl) (by with_reducible first | exact H | rfl)
          · intro w Q' HS hq; replace H := HS; clear HS; refine ow_guard_yes rfl rfl rfl rfl ?_; refine ow_idxArr1 (j := i) rfl (tyAt rfl) rfl (tyAt rfl) rfl rfl rfl hlt rfl ?_; exact ow_nil hq
          apply ak_take (i := 24) rfl rfl rfl rfl (by kernel_rfl) (by with_reducible first | exact H | rfl)
          · intro w Q' HS hq; replace H := HS; clear HS; refine ow_guard_yes rfl rfl rfl rfl ?_; refine ow_load rfl (tyAt rfl) rfl rfl (SlH.cell (H.rowSl (i := 5) rfl) hbi) ?_; exact ow_nil hq
          apply ak_take (i := 25) rfl rfl rfl rfl (by kernel_rfl) (by with_reducible first | exact H | rfl)
          · intro w Q' HS hq; replace H := HS; clear HS; refine ow_guard_yes rfl rfl rfl rfl ?_; refine ow_gtr rfl rfl rfl ?_; exact ow_nil hq
          apply ak_take (i := 26) rfl rfl rfl rfl (by kernel_rfl) (by with_reducible first | exact H | rfl)
          · intro w Q' HS hq; replace H := HS; clear HS; refine ow_guard_yes rfl rfl rfl rfl ?_; (apply ow_pick_f; (· rfl); (· rfl); (· ((conv => lhs; whnf) <;> rfl))); exact ow_nil hq
          apply ak_take (i := 27) rfl rfl rfl rfl (by kernel_rfl) (by with_reducible first | exact H | rfl)
          · intro w Q' HS hq; replace H := HS; clear HS; (apply ow_pick_t; (· rfl); (· rfl); (· ((conv => lhs; whnf) <;> rfl))); exact ow_nil hq
          refine ak_done (by kernel_rfl) ?_
          rw [decide_eq_false (show ¬ bdA bd (i : Int) < X3.getD i 0 by omega)]
          refine wc_cond_false rfl ?_
          refine wc_skip ?_
          refine wc_region ?_
          refine ow_add rfl rfl rfl (by simp only [InK]; omega) ?_
          (apply ow_move; (· rfl); (· ((conv => lhs; whnf) <;> rfl)))
          refine ow_nil ?_
          exact ⟨i + 1, by first | exact rfl | exact upd_self' rfl rfl | exact upd_self' rfl (upd_self' rfl rfl) | exact upd_self' rfl (upd_self' rfl (upd_self' rfl rfl)) | exact upd_self' rfl (upd_self' rfl (upd_self' rfl (upd_self' rfl rfl))), by repeat (first | with_reducible exact Off.mix | with_reducible exact Off.refl | ((with_reducible refine Off.upd ?_ ?_); (· rfl))), ⟨rfl, hlt, H⟩, by omega⟩
        · apply ak_take (i := 9) rfl rfl rfl rfl (by kernel_rfl) (by with_reducible first | exact H | rfl)
          · intro w Q' HS hq; replace H := HS; clear HS; refine ow_guard_no rfl rfl rfl rfl rfl rfl rfl ?_; exact ow_nil hq
          apply ak_take (i := 10) rfl rfl rfl rfl (by kernel_rfl) (by with_reducible first | exact H | rfl)
          · intro w Q' HS hq; replace H := HS; clear HS; refine ow_guard_no rfl rfl rfl rfl rfl rfl rfl ?_; exact ow_nil hq
          apply ak_take (i := 11) rfl rfl rfl rfl (by kernel_rfl) (by with_reducible first | exact H | rfl)
          · intro w Q' HS hq; replace H := HS; clear HS; refine ow_guard_no rfl rfl rfl rfl rfl rfl rfl ?_; exact ow_nil hq
          apply ak_take (i := 12) rfl rfl rfl rfl (by kernel_rfl) (by with_reducible first | exact H | rfl)
          · intro w Q' HS hq; replace H := HS; clear HS; refine ow_guard_no rfl rfl rfl rfl rfl rfl rfl ?_; exact ow_nil hq
          apply ak_take (i := 13) rfl rfl rfl rfl (by kernel_rfl) (by with_reducible first | exact H | rfl)
          · intro w Q' HS hq; replace H := HS; clear HS; refine ow_guard_no rfl rfl rfl rfl rfl rfl rfl ?_; exact ow_nil hq
          apply ak_take (i := 14) rfl rfl rfl rfl (by kernel_rfl) (by with_reducible first | exact H | rfl)
          · intro w Q' HS hq; replace H := HS; clear HS; refine ow_guard_no rfl rfl rfl rfl rfl rfl rfl ?_; exact ow_nil hq
          apply ak_take (i := 15) rfl rfl rfl rfl (by kernel_rfl) (by with_reducible first | exact H | rfl)
          · intro w Q' HS hq; replace H := HS; clear HS; refine ow_guard_no rfl rfl rfl rfl rfl rfl rfl ?_; exact ow_nil hq
          apply ak_take (i := 16) rfl rfl rfl rfl (by kernel_rfl) (by with_reducible first | exact H | rfl)
          · intro w Q' HS hq; replace H := HS; clear HS; refine ow_guard_no rfl rfl rfl rfl rfl rfl rfl ?_; exact ow_nil hq
          apply ak_take (i := 17) rfl rfl rfl rfl (by kernel_rfl) (by with_reducible first | exact H | rfl)
          · intro w Q' HS hq; replace H := HS; clear HS; refine ow_guard_no rfl rfl rfl rfl rfl rfl rfl ?_; exact ow_nil hq
          apply ak_take (i := 18) rfl rfl rfl rfl (by kernel_rfl) (by with_reducible first | exact H | rfl)
          · intro w Q' HS hq; replace H := HS; clear HS; refine ow_guard_un rfl rfl rfl rfl rfl rfl ?_; exact ow_nil hq
          apply ak_take (i := 19) rfl rfl rfl rfl (by kernel_rfl) (by with_reducible first | exact H | rfl)
          · intro w Q' HS hq; replace H := HS; clear HS; refine ow_guard_un rfl rfl rfl rfl rfl rfl ?_; exact ow_nil hq
          apply ak_take (i := 20) rfl rfl rfl rfl (by kernel_rfl) (by with_reducible first | exact H | rfl)
          · intro w Q' HS hq; replace H := HS; clear HS; refine ow_guard_un rfl rfl rfl rfl rfl rfl ?_; exact ow_nil hq
          apply ak_take (i := 21) rfl rfl rfl rfl (by kernel_rfl) (by with_reducible first | exact H | rfl)
          · intro w Q' HS hq; replace H := HS; clear HS; refine ow_guard_un rfl rfl rfl rfl rfl rfl ?_; exact ow_nil hq
          apply ak_take (i := 22) rfl rfl rfl rfl (by kernel_rfl) (by with_reducible first | exact H | rfl)
          · intro w Q' HS hq; replace H := HS; clear HS; refine ow_guard_un rfl rfl rfl rfl rfl rfl ?_; exact ow_nil hq
          apply ak_take (i := 23) rfl rfl rfl rfl (by kernel_rfl) (by with_reducible first | exact H | rfl)
          · intro w Q' HS hq; replace H := HS; clear HS; refine ow_guard_un rfl rfl rfl rfl rfl rfl ?_; exact ow_nil hq
          apply ak_take (i := 24) rfl rfl rfl rfl (by kernel_rfl) (by with_reducible first | exact H | rfl)
          · intro w Q' HS hq; replace H := HS; clear HS; refine ow_guard_un rfl rfl rfl rfl rfl rfl ?_; exact ow_nil hq
          apply ak_take (i := 25) rfl rfl rfl rfl (by kernel_rfl) (by with_reducible first | exact H | rfl)
          · intro w Q' HS hq; replace H := HS; clear HS; refine ow_guard_un rfl rfl rfl rfl rfl rfl ?_; exact ow_nil hq
          apply ak_take (i := 26) rfl rfl rfl rfl (by kernel_rfl) (by with_reducible first | exact H | rfl)
          · intro w Q' HS hq; replace H := HS; clear HS; refine ow_guard_no rfl rfl rfl rfl rfl rfl rfl ?_; exact ow_nil hq
          apply ak_take (i := 27) rfl rfl rfl rfl (by kernel_rfl) (by with_reducible first | exact H | rfl)
          · intro w Q' HS hq; replace H := HS; clear HS; (apply ow_pick_f; (· rfl); (· rfl); (· ((conv => lhs; whnf) <;> rfl))); exact ow_nil hq
          refine ak_done (by kernel_rfl) ?_
          refine wc_cond_false rfl ?_
          refine wc_skip ?_
          refine wc_region ?_
          refine ow_add rfl rfl rfl (by simp only [InK]; omega) ?_
          (apply ow_move; (· rfl); (· ((conv => lhs; whnf) <;> rfl)))
          refine ow_nil ?_
          exact ⟨i + 1, by first | exact rfl | exact upd_self' rfl rfl | exact upd_self' rfl (upd_self' rfl rfl) | exact upd_self' rfl (upd_self' rfl (upd_self' rfl rfl)) | exact upd_self' rfl (upd_self' rfl (upd_self' rfl (upd_self' rfl rfl))), by repeat (first | with_reducible exact Off.mix | with_reducible exact Off.refl | ((with_reducible refine Off.upd ?_ ?_); (· rfl))), ⟨rfl, hlt, H⟩, by omega⟩
      · have hi' : i = 2 := by omega
        subst hi'
        refine wc_exit ?_
        exact ⟨(), rfl, by repeat (first | with_reducible exact Off.mix | with_reducible exact Off.refl | ((with_reducible refine Off.upd ?_ ?_); (· rfl))), ⟨rfl, H⟩⟩
    clear H
    rintro _ j D w ⟨rfl, H⟩
    refine wc_seq ?_
    refine wc_region ?_
    (apply ow_move; (· rfl); (· ((conv => lhs; whnf) <;> rfl)))
    (apply ow_move; (· rfl); (· ((conv => lhs; whnf) <;> rfl)))
    refine ow_loadA (l := bdV bd) rfl (tyAt rfl) rfl rfl rfl (H.cells (i := 5) (o := 0) (m := 2) rfl rfl) ?_
    refine ow_call rfl rfl (ent (by kernel_rfl)) (CallsV.mono (hzs q9 c9 _ (hGr H) (appOk.sl (H.cap (i := 3) rfl))) ?_) rfl
    rintro v w ⟨qz, cz, rfl, H'⟩
    replace H := H.call H'
    clear H'
    (apply ow_move; (· rfl); (· ((conv => lhs; whnf) <;> rfl)))
    refine ow_extract rfl rfl rfl ?_
    refine ow_extract rfl rfl rfl ?_
    (apply ow_assign; (· rfl); (· ((conv => lhs; whnf) <;> rfl)))
    (apply ow_assign; (· rfl); (· ((conv => lhs; whnf) <;> rfl)))
    refine ow_nil ?_
    refine wc_seq ?_
    refine wc_region ?_
    (apply ow_move; (· rfl); (· ((conv => lhs; whnf) <;> rfl)))
    refine ow_eql rfl rfl rfl ?_
    (apply ow_assign; (· rfl); (· ((conv => lhs; whnf) <;> rfl)))
    refine ow_nil ?_
    refine wc_ret ?_
    obtain ⟨w, hT, H⟩ := H.takes Try.prog
    refine ⟨.inr rfl, w, hT, _, .tmp .nil, ?_⟩
    exact ⟨congrArg Value.bool (decide_eq_true rfl), H.none⟩
  · rw [decide_eq_false hR]
    have hpn : passL (tb ms) g.ws bd part = (part, 0) := pass_no (fun h => hR (by rw [← hTl]; exact h.1))
    have hrn : refineL (tb ms) g.ws bd part = part := refine_bad hW hn0 (by rw [hTl]; exact hR)
    rw [hpn, hrn] at H
    rw [hpn]
    refine ow_not rfl rfl ?_
    refine ow_nil ?_
    refine wc_cond_true rfl ?_
    refine wc_seq ?_
    refine wc_region ?_
    (apply ow_move; (· rfl); (· ((conv => lhs; whnf) <;> rfl)))
    (apply ow_move; (· rfl); (· ((conv => lhs; whnf) <;> rfl)))
    refine ow_call rfl rfl (ent (by kernel_rfl)) (CallsV.mono (sameInts_spec q8 q3 _ _ _ _ part part rfl rfl (by omega) (by omega) _ (appOk.sl (H.cap (i := 1) rfl)) (H.oldSl hs)) ?_) rfl
    rintro v w ⟨rfl, H'⟩
    replace H := H.call H'
    rw [List.nil_append] at H
    clear H'
    rw [decide_eq_true (rfl : part = part)]
    (apply ow_move; (· rfl); (· ((conv => lhs; whnf) <;> rfl)))
    refine ow_guard_yes rfl rfl rfl rfl ?_
    (apply ow_move; (· rfl); (· ((conv => lhs; whnf) <;> rfl)))
    refine ow_guard_yes rfl rfl rfl rfl ?_
    refine ow_eql rfl rfl rfl ?_
    (apply ow_pick_t; (· rfl); (· rfl); (· ((conv => lhs; whnf) <;> rfl)))
    (apply ow_move; (· rfl); (· ((conv => lhs; whnf) <;> rfl)))
    refine ow_guard_yes rfl rfl rfl rfl ?_
    (apply ow_move; (· rfl); (· ((conv => lhs; whnf) <;> rfl)))
    refine ow_guard_yes rfl rfl rfl rfl ?_
    (apply ow_move; (· rfl); (· ((conv => lhs; whnf) <;> rfl)))
    refine ow_guard_yes rfl rfl rfl rfl ?_
    refine ow_call rfl rfl (ent (by kernel_rfl)) (CallsV.mono (sameInts_spec q9 q3 _ _ _ _ part part rfl rfl (by omega) (by omega) _ (appOk.sl (H.cap (i := 0) rfl)) (H.oldSl hs)) ?_) rfl
    rintro v w ⟨rfl, H'⟩
    replace H := H.call H'
    clear H'
    rw [decide_eq_true (rfl : part = part)]
    (apply ow_pick_t; (· rfl); (· rfl); (· ((conv => lhs; whnf) <;> rfl)))
    (apply ow_assign; (· rfl); (· ((conv => lhs; whnf) <;> rfl)))
    refine ow_nil ?_
    refine wc_ret ?_
    obtain ⟨w, hT, H⟩ := H.takes Try.prog
    refine ⟨.inr rfl, w, hT, _, .tmp .nil, ?_⟩
    exact ⟨rfl, H.none⟩
end Go.Proofs.Ytpbknokakooekaa

