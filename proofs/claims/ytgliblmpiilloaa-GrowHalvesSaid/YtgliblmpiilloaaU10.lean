/- The statement's function 'sandtablelaw12.GrowHalves' returns true at every input, and changes nothing that was there. -/
import Derived.Test.YtgliblmpiilloaaU4
import Derived.Test.YtgliblmpiilloaaU9
namespace Go.Proofs.Ytgliblmpiilloaa
set_option linter.all false
open Go Go.Sx Go.Proofs
set_option maxRecDepth 100000
set_option maxHeartbeats 2000000
theorem halve_len {T : List IE} {ws : List Int} {most : Int} (hmay : ∀ z ∈ ws, mayW z) : (halveL T ws most).length = T.length := (gi_all (T := T) (ws := ws) (fun j _ => (ws_nn hmay j).1) most T.length).len
theorem law12Halves (q q2 q3 : Option Addr) (cap cap2 cap3 : Nat) (ws : List Int) (ops : List OpA) (most : Int) (part : List Int) (i z nn : Int) (hm : ws.length ≤ 9223372036854775807) (hm2 : ops.length ≤ 9223372036854775807) (hm3 : part.length ≤ 9223372036854775807) (hmo : -9223372036854775808 ≤ most ∧ most ≤ 9223372036854775807) (w0 : World) (hq : SlH (hp w0) q (ints .i64 ws)) (hq2 : SlH (hp w0) q2 (ops.flatMap opA)) (hs : SlH (hp w0) q3 (ints .i64 part)) :
    CallsV Try.prog 11 #[.slice q ws.length cap, .slice q2 ops.length cap2, .int .i64 most, .slice q3 part.length cap3, .int .i64 i, .int .i64 z, .int .i64 nn] w0 fun v w => v = .bool true ∧ St Pu w0 w [] [] := by
  refine callsV_of Try.func11 rfl rfl ?_
  obtain ⟨k15, hk15, ek15⟩ := and_mask nn (m := 15) (by decide)
  refine wc_seq ?_
  refine wc_region ?_
  (apply ow_assign; (· rfl); (· ((conv => lhs; whnf) <;> rfl)))
  refine ow_nil ?_
  refine wc_seq ?_
  refine wc_seq ?_
  refine wc_region ?_
  refine ow_call rfl rfl (ent (by kernel_rfl)) (CallsV.mono (alive12 w0) ?_) rfl
  rintro v w ⟨rfl, H⟩
  refine ow_not rfl rfl ?_
  refine ow_nil ?_
  refine wc_cond_false rfl ?_
  refine wc_skip ?_
  refine wc_seq ?_
  refine wc_region ?_
  (apply ow_move; (· rfl); (· ((conv => lhs; whnf) <;> rfl)))
  (apply ow_move; (· rfl); (· ((conv => lhs; whnf) <;> rfl)))
  refine ow_call rfl rfl (ent (by kernel_rfl)) (CallsV.mono (build57_spec q q2 cap cap2 ws ops hm hm2 w (H.oldSl hq) (H.oldSl hq2)) ?_) rfl
  rintro v w (⟨rfl, _, H'⟩ | ⟨g, x, ms, rows, rfl, rfl, hxw, h30, hmay, hW, hn, _, hM, H'⟩)
  · replace H := H.call H'
    rw [List.nil_append] at H
    clear H'
    (apply ow_move; (· rfl); (· ((conv => lhs; whnf) <;> rfl)))
    refine ow_extract rfl rfl rfl ?_
    refine ow_extract rfl rfl rfl ?_
    refine ow_extract rfl rfl rfl ?_
    refine ow_alloc (l := [.slice none 0 0, .slice none 0 0]) H rfl (tyAt rfl) rfl (fun b6 w H => ?_)
    (apply ow_assign; (· rfl); (· ((conv => lhs; whnf) <;> rfl)))
    refine ow_storeA (i := 0) (o := 0) (l' := [.slice none 0 0, .slice none 0 0]) H (tyAt rfl) rfl rfl rfl rfl (by simp [Value.oneCell']) (by simp) (fun w H => ?_)
    (apply ow_assign; (· rfl); (· ((conv => lhs; whnf) <;> rfl)))
    refine ow_nil ?_
    refine wc_seq ?_
    refine wc_seq ?_
    refine wc_region ?_
    (apply ow_move; (· rfl); (· ((conv => lhs; whnf) <;> rfl)))
    refine ow_not rfl rfl ?_
    (apply ow_move; (· rfl); (· ((conv => lhs; whnf) <;> rfl)))
    refine ow_guard_no rfl rfl rfl rfl rfl rfl rfl ?_
    refine ow_guard_no rfl rfl rfl rfl rfl rfl rfl ?_
    refine ow_guard_no rfl rfl rfl rfl rfl rfl rfl ?_
    (apply ow_pick_t; (· rfl); (· rfl); (· ((conv => lhs; whnf) <;> rfl)))
    refine ow_nil ?_
    refine wc_cond_true rfl ?_
    refine wc_seq ?_
    refine wc_region ?_
    (apply ow_assign; (· rfl); (· ((conv => lhs; whnf) <;> rfl)))
    refine ow_nil ?_
    refine wc_ret ?_
    obtain ⟨w, hT, H⟩ := H.takes Try.prog
    refine ⟨.inr rfl, w, hT, _, .tmp .nil, ?_⟩
    exact ⟨rfl, H.none⟩
  replace H : St Pu w0 w (grC g ms ++ rfC x rows) [] := (H.call H').sub (List.sublist_append_left _ _)
  clear H'
  (apply ow_move; (· rfl); (· ((conv => lhs; whnf) <;> rfl)))
  refine ow_extract rfl rfl rfl ?_
  refine ow_extract rfl rfl rfl ?_
  refine ow_extract rfl rfl rfl ?_
  refine ow_alloc (l := [.slice none 0 0, .slice none 0 0]) H rfl (tyAt rfl) rfl (fun b6 w H => ?_)
  (apply ow_assign; (· rfl); (· ((conv => lhs; whnf) <;> rfl)))
  refine ow_storeA (i := 0) (o := 0) (l' := rfV x rows) H (tyAt rfl) rfl rfl rfl rfl (by simp [Value.oneCell']) (by simp) (fun w H => ?_)
  replace H : St Pu w0 w (.row b6 77 (rfV x rows) :: (grC g ms ++ rfC x rows)) [] := H
  have h4 : g.ws.length ≤ 4096 := by omega
  have hTl : (tb ms).length = g.ws.length := by rw [tb_len, hn]
  have hxl : (tb ms).length = x.ws.length := by rw [hTl, hxw]
  (apply ow_assign; (· rfl); (· ((conv => lhs; whnf) <;> rfl)))
  refine ow_nil ?_
  refine wc_seq ?_
  refine wc_seq ?_
  refine wc_region ?_
  (apply ow_move; (· rfl); (· ((conv => lhs; whnf) <;> rfl)))
  refine ow_not rfl rfl ?_
  (apply ow_move; (· rfl); (· ((conv => lhs; whnf) <;> rfl)))
  refine ow_guard_yes rfl rfl rfl rfl ?_
  (apply ow_move; (· rfl); (· ((conv => lhs; whnf) <;> rfl)))
  refine ow_guard_yes rfl rfl rfl rfl ?_
  refine ow_len rfl rfl (tyAt rfl) rfl ?_
  refine ow_guard_yes rfl rfl rfl rfl ?_
  refine ow_gtr rfl rfl rfl ?_
  (apply ow_pick_f; (· rfl); (· rfl); (· ((conv => lhs; whnf) <;> rfl)))
  refine ow_nil ?_
  refine wc_cond_dec rfl (fun h => ?_) (fun h => ?_) <;> try dsimp only at h
  · refine wc_seq ?_
    refine wc_region ?_
    (apply ow_assign; (· rfl); (· ((conv => lhs; whnf) <;> rfl)))
    refine ow_nil ?_
    refine wc_ret ?_
    obtain ⟨w, hT, H⟩ := H.takes Try.prog
    refine ⟨.inr rfl, w, hT, _, .tmp .nil, ?_⟩
    exact ⟨rfl, H.none⟩
  have h60 : part.length ≤ 60 := by omega
  clear h
  refine wc_skip ?_
  refine wc_seq ?_
  refine wc_region ?_
  (apply ow_assign; (· rfl); (· ((conv => lhs; whnf) <;> rfl)))
  refine ow_nil ?_
  refine wc_seq ?_
  refine wc_seq ?_
  refine wc_region ?_
  (apply ow_move; (· rfl); (· ((conv => lhs; whnf) <;> rfl)))
  refine ow_len rfl rfl (tyAt rfl) rfl ?_
  (apply ow_move; (· rfl); (· ((conv => lhs; whnf) <;> rfl)))
  refine ow_len rfl rfl (tyAt rfl) rfl ?_
  refine ow_eql rfl rfl rfl ?_
  (apply ow_move; (· rfl); (· ((conv => lhs; whnf) <;> rfl)))
  refine ow_guard_dec rfl rfl rfl (fun h => ?_) (fun h => ?_) <;> try dsimp only at h
  · have hpl : part.length = g.ws.length := by omega
    clear h
    refine ow_guard_yes rfl rfl rfl rfl ?_
    (apply ow_move; (· rfl); (· ((conv => lhs; whnf) <;> rfl)))
    refine ow_guard_yes rfl rfl rfl rfl ?_
    refine ow_geq rfl rfl rfl ?_
    (apply ow_pick_t; (· rfl); (· rfl); (· ((conv => lhs; whnf) <;> rfl)))
    (apply ow_move; (· rfl); (· ((conv => lhs; whnf) <;> rfl)))
    refine ow_guard_dec rfl rfl rfl (fun h => ?_) (fun h => ?_) <;> try dsimp only at h
    · have hi0 : 0 ≤ i := by omega
      clear h
      refine ow_guard_yes rfl rfl rfl rfl ?_
      (apply ow_move; (· rfl); (· ((conv => lhs; whnf) <;> rfl)))
      refine ow_guard_yes rfl rfl rfl rfl ?_
      (apply ow_move; (· rfl); (· ((conv => lhs; whnf) <;> rfl)))
      refine ow_guard_yes rfl rfl rfl rfl ?_
      refine ow_len rfl rfl (tyAt rfl) rfl ?_
      refine ow_guard_yes rfl rfl rfl rfl ?_
      refine ow_lss rfl rfl rfl ?_
      (apply ow_pick_t; (· rfl); (· rfl); (· ((conv => lhs; whnf) <;> rfl)))
      refine ow_nil ?_
      refine wc_cond_dec rfl (fun h => ?_) (fun h => ?_) <;> try dsimp only at h
      · obtain ⟨ii, rfl⟩ : ∃ ii : Nat, i = (ii : Int) := ⟨i.toNat, by omega⟩
        have hil : ii < x.ws.length := by omega
        have hpz : pullZ (tb ms) part (ii : Int) = plT (tb ms) part ii := by
          unfold pullZ
          rw [if_pos ⟨by omega, by omega, by omega⟩, Int.toNat_natCast]
        refine wc_region ?_
        refine ow_loadA (l := rfV x rows) rfl (tyAt rfl) rfl rfl rfl (H.cells (i := 0) (o := 0) (m := 2) rfl rfl) ?_
        (apply ow_move; (· rfl); (· ((conv => lhs; whnf) <;> rfl)))
        (apply ow_move; (· rfl); (· ((conv => lhs; whnf) <;> rfl)))
        refine ow_call rfl rfl (ent (by kernel_rfl)) (CallsV.mono (refPull_spec (tb ms) x rows part q3 cap3 ii hW hxl (by omega) (by rw [hxw]; exact hM) (by omega) hil _ (rf_of_ok fun c hc => okAll H c (List.mem_cons_of_mem _ (List.mem_append_right _ hc))) (H.oldSl hs)) ?_) rfl
        rintro v w ⟨rfl, H'⟩
        replace H : St Pu w0 w (.row b6 77 (rfV x rows) :: (grC g ms ++ rfC x rows)) [] := H.call H'
        clear H' h
        obtain ⟨pv, hpv⟩ : ∃ pv, plT (tb ms) part ii = pv := ⟨_, rfl⟩
        rw [hpv] at hpz ⊢
        generalize (ii : Int) = i at hpz ⊢
        (apply ow_assign; (· rfl); (· ((conv => lhs; whnf) <;> rfl)))
        refine ow_nil ?_
        refine wc_seq ?_
        refine wc_region ?_
        (apply ow_move; (· rfl); (· ((conv => lhs; whnf) <;> rfl)))
        (apply ow_move; (· rfl); (· ((conv => lhs; whnf) <;> rfl)))
        refine ow_call rfl rfl (ent (by kernel_rfl)) (CallsV.mono (refSide_spec q3 cap3 part z (by omega) _ (H.oldSl hs)) ?_) rfl
        rintro v w ⟨qs, cs, rfl, H'⟩
        replace H : St Pu w0 w (.row b6 77 (rfV x rows) :: .app qs (sdL part z).length cs 3 1 (ints .i64 (sdL part z)) :: (grC g ms ++ rfC x rows)) [] := (H.call H').perm (List.Perm.swap _ _ _)
        clear H'
        have hsl : (sdL part z).length ≤ part.length := sdU_len part z part.length
        have hcs := appOk.le (H.cap (i := 1) rfl)
        have hs100 := fun (w : World) (hs : SlH (hp w) q3 (ints .i64 part)) => sideW_spec q3 cap3 part z 100 (by omega) w hs
        have hs15 := fun (w : World) (hs : SlH (hp w) q3 (ints .i64 part)) => sideW_spec q3 cap3 part z (k15 : Int) (by omega) w hs
        rw [List.take_of_length_le (show (sdL part z).length ≤ (100 : Int).toNat by rw [show (100 : Int).toNat = 100 from rfl]; omega)] at hs100
        rw [Int.toNat_natCast] at hs15
        obtain ⟨al, hal⟩ : ∃ al, sdL part z = al := ⟨_, rfl⟩
        rw [hal] at H hsl hcs hs100 hs15 ⊢
        have hmin : al.take (min k15 al.length) = al.take k15 := by rw [← List.take_take, List.take_length]
        have hml : (min (k15 : Int) (al.length : Int)).toNat = min k15 al.length := by omega
        obtain ⟨RR, hRR⟩ : ∃ RR, grC g ms ++ rfC x rows = RR := ⟨_, rfl⟩
        have hGr : ∀ {w : World} {pre : List Cap}, St Pu w0 w (pre ++ RR) [] → Gr (hp w) g ms := fun H => gr_of_ok fun c hc => okAll H c (List.mem_append_right _ (by rw [← hRR]; exact List.mem_append_left _ hc))
        have hRf : ∀ {w : World} {pre : List Cap}, St Pu w0 w (pre ++ RR) [] → Rf (hp w) x rows := fun H => rf_of_ok fun c hc => okAll H c (List.mem_append_right _ (by rw [← hRR]; exact List.mem_append_right _ hc))
        rw [hRR] at H
        clear hRR
        (apply ow_assign; (· rfl); (· ((conv => lhs; whnf) <;> rfl)))
        refine ow_nil ?_
        refine wc_seq ?_
        refine wc_region ?_
        (apply ow_move; (· rfl); (· ((conv => lhs; whnf) <;> rfl)))
        refine ow_and rfl rfl rfl ?_
        (apply ow_move; (· rfl); (· ((conv => lhs; whnf) <;> rfl)))
        refine ow_len rfl rfl (tyAt rfl) rfl ?_
        refine ow_min rfl rfl rfl ?_
        (apply ow_assign; (· rfl); (· ((conv => lhs; whnf) <;> rfl)))
        refine ow_nil ?_
        refine wc_seq ?_
        rw [show bw .and .i64 nn 15 = (k15 : Int) from ek15]
        refine wc_drawK (fun w => St Pu w0 w [.row b6 77 (rfV x rows)] []) 99 (by kernel_rfl) (by kernel_rfl) (by intro c e D w h; first | exact h.elim | (rcases h with ⟨h | h, _⟩ <;> cases h)) ?_
        replace H := H.drew
        have G := H
        replace H := H.only (i := 0) rfl
        apply ak_take (i := 0) rfl rfl rfl rfl (by kernel_rfl) (by with_reducible first | exact H | rfl)
        · intro w Q' HS hq; replace H := HS; clear HS; (apply ow_move; (· rfl); (· ((conv => lhs; whnf) <;> rfl))); exact ow_nil hq
        apply ak_take (i := 1) rfl rfl rfl rfl (by kernel_rfl) (by with_reducible first | exact H | rfl)
        · intro w Q' HS hq; replace H := HS; clear HS; (apply ow_move; (· rfl); (· ((conv => lhs; whnf) <;> rfl))); exact ow_nil hq
        replace H := G
        clear G
        have G := H
        replace H := H.only (i := 0) rfl
        apply ak_take (i := 3) rfl rfl rfl rfl (by kernel_rfl) (by with_reducible first | exact H | rfl)
        · intro w Q' HS hq; replace H := HS; clear HS; refine ow_loadA (l := rfV x rows) rfl (tyAt rfl) rfl rfl rfl (H.cells (i := 0) (o := 0) (m := 2) rfl rfl) ?_; exact ow_nil hq
        apply ak_take (i := 4) rfl rfl rfl rfl (by kernel_rfl) (by with_reducible first | exact H | rfl)
        · intro w Q' HS hq; replace H := HS; clear HS; (apply ow_move; (· rfl); (· ((conv => lhs; whnf) <;> rfl))); exact ow_nil hq
        replace H := G
        clear G
        apply ak_one (i := 2)
        · kernel_rfl
        · rfl
        · rfl
        refine ow_call rfl rfl (ent (by kernel_rfl)) (CallsV.mono (halve_spec g ms most hn h4 hmay hW hmo _ (hGr (pre := [_, _]) H)) ?_) rfl
        rintro v w ⟨bh, rfl, H'⟩
        replace H := H.call H'
        clear H'
        refine ow_nil ⟨fun _ => H.only (i := 1) rfl, ?_⟩
        apply ak_one (i := 5)
        · kernel_rfl
        · rfl
        · rfl
        refine ow_call rfl rfl (ent (by kernel_rfl)) (CallsV.mono (refHalve_spec (tb ms) x rows most hW hxl (by omega) (by rw [hxw]; exact hM) (by rw [hxw]; exact hmay) hmo _ (hRf (pre := [_, _, _]) H)) ?_) rfl
        rintro v w ⟨ph, ch, rfl, H'⟩
        replace H := H.call H'
        clear H'
        rw [hxw] at H ⊢
        have hhl : (halveL (tb ms) g.ws most).length ≤ 4096 := by rw [halve_len hmay, hTl]; exact h4
        obtain ⟨hv, hhv⟩ : ∃ hv, halveL (tb ms) g.ws most = hv := ⟨_, rfl⟩
        rw [hhv] at H hhl ⊢
        refine ow_nil ⟨fun _ => H.only (i := 2) rfl, ?_⟩
        apply ak_one (i := 6)
        · kernel_rfl
        · rfl
        · rfl
        refine ow_call rfl rfl (ent (by kernel_rfl)) (CallsV.mono (sameInts_spec (some ⟨bh, 0, none⟩) ph _ _ _ _ hv hv rfl rfl (by omega) (by omega) _ (H.rowSl (i := 1) rfl) (appOk.sl (H.cap (i := 0) rfl))) ?_) rfl
        rintro v w ⟨rfl, H'⟩
        replace H : St Pu w0 w ([.row b6 77 (rfV x rows), .app qs al.length cs 3 1 (ints .i64 al)] ++ RR) [] := (H.call H').drop.drop
        clear H'
        rw [decide_eq_true (rfl : hv = hv)]
        refine ow_nil ⟨fun _ => H.only (i := 0) rfl, ?_⟩
        have G := H
        replace H := H.only (i := 0) rfl
        apply ak_take (i := 7) rfl rfl rfl rfl (by kernel_rfl) (by with_reducible first | exact H | rfl)
        · intro w Q' HS hq; replace H := HS; clear HS; (apply ow_move; (· rfl); (· ((conv => lhs; whnf) <;> rfl))); exact ow_nil hq
        apply ak_take (i := 8) rfl rfl rfl rfl (by kernel_rfl) (by with_reducible first | exact H | rfl)
        · intro w Q' HS hq; replace H := HS; clear HS; refine ow_guard_yes rfl rfl rfl rfl ?_; (apply ow_move; (· rfl); (· ((conv => lhs; whnf) <;> rfl))); exact ow_nil hq
        apply ak_take (i := 9) rfl rfl rfl rfl (by kernel_rfl) (by with_reducible first | exact H | rfl)
        · intro w Q' HS hq; replace H := HS; clear HS; refine ow_guard_yes rfl rfl rfl rfl ?_; (apply ow_move; (· rfl); (· ((conv => lhs; whnf) <;> rfl))); exact ow_nil hq
        apply ak_take (i := 10) rfl rfl rfl rfl (by kernel_rfl) (by with_reducible first | exact H | rfl)
        · intro w Q' HS hq; replace H := HS; clear HS; refine ow_guard_yes rfl rfl rfl rfl ?_; (apply ow_move; (· rfl); (· ((conv => lhs; whnf) <;> rfl))); exact ow_nil hq
        replace H := G
        clear G
        have G := H
        replace H := H.only (i := 0) rfl
        apply ak_take (i := 12) rfl rfl rfl rfl (by kernel_rfl) (by with_reducible first | exact H | rfl)
        · intro w Q' HS hq; replace H := HS; clear HS; refine ow_guard_yes rfl rfl rfl rfl ?_; (apply ow_move; (· rfl); (· ((conv => lhs; whnf) <;> rfl))); exact ow_nil hq
        replace H := G
        clear G
        apply ak_one (i := 11)
        · kernel_rfl
        · rfl
        · rfl
        refine ow_guard_yes rfl rfl rfl rfl ?_
        refine ow_call rfl rfl (ent (by kernel_rfl)) (CallsV.mono (pull_spec g ms part q3 cap3 i hn h4 hW _ (hGr (pre := [_, _]) H) (H.oldSl hs)) ?_) rfl
        rintro v w ⟨rfl, H'⟩
        replace H : St Pu w0 w ([.row b6 77 (rfV x rows), .app qs al.length cs 3 1 (ints .i64 al)] ++ RR) [] := H.call H'
        clear H'
        rw [hpz]
        refine ow_nil ⟨fun _ => H.only (i := 0) rfl, ?_⟩
        have G := H
        replace H := H.only (i := 0) rfl
        apply ak_take (i := 13) rfl rfl rfl rfl (by kernel_rfl) (by with_reducible first | exact H | rfl)
        · intro w Q' HS hq; replace H := HS; clear HS; refine ow_guard_yes rfl rfl rfl rfl ?_; refine ow_eql rfl rfl rfl ?_; exact ow_nil hq
        replace H := G
        clear G
        rw [decide_eq_true (rfl : pv = pv)]
        have G := H
        replace H := H.only (i := 0) rfl
        apply ak_take (i := 14) rfl rfl rfl rfl (by kernel_rfl) (by with_reducible first | exact H | rfl)
        · intro w Q' HS hq; replace H := HS; clear HS; (apply ow_pick_t; (· rfl); (· rfl); (· ((conv => lhs; whnf) <;> rfl))); exact ow_nil hq
        apply ak_take (i := 15) rfl rfl rfl rfl (by kernel_rfl) (by with_reducible first | exact H | rfl)
        · intro w Q' HS hq; replace H := HS; clear HS; (apply ow_move; (· rfl); (· ((conv => lhs; whnf) <;> rfl))); exact ow_nil hq
        apply ak_take (i := 16) rfl rfl rfl rfl (by kernel_rfl) (by with_reducible first | exact H | rfl)
        · intro w Q' HS hq; replace H := HS; clear HS; refine ow_guard_yes rfl rfl rfl rfl ?_; (apply ow_move; (· rfl); (· ((conv => lhs; whnf) <;> rfl))); exact ow_nil hq
        apply ak_take (i := 17) rfl rfl rfl rfl (by kernel_rfl) (by with_reducible first | exact H | rfl)
        · intro w Q' HS hq; replace H := HS; clear HS; refine ow_guard_yes rfl rfl rfl rfl ?_; (apply ow_move; (· rfl); (· ((conv => lhs; whnf) <;> rfl))); exact ow_nil hq
        replace H := G
        clear G
        have G := H
        replace H := H.only (i := 0) rfl
        apply ak_take (i := 19) rfl rfl rfl rfl (by kernel_rfl) (by with_reducible first | exact H | rfl)
        · intro w Q' HS hq; replace H := HS; clear HS; refine ow_guard_yes rfl rfl rfl rfl ?_; (apply ow_move; (· rfl); (· ((conv => lhs; whnf) <;> rfl))); exact ow_nil hq
        replace H := G
        clear G
        apply ak_one (i := 18)
        · kernel_rfl
        · rfl
        · rfl
        refine ow_guard_yes rfl rfl rfl rfl ?_
        refine ow_call rfl rfl (ent (by kernel_rfl)) (CallsV.mono (hs100 _ (H.oldSl hs)) ?_) rfl
        rintro v w ⟨q1, c1, rfl, H'⟩
        replace H := H.call H'
        clear H'
        refine ow_nil ⟨fun _ => H.only (i := 1) rfl, ?_⟩
        apply ak_one (i := 20)
        · kernel_rfl
        · rfl
        · rfl
        refine ow_guard_yes rfl rfl rfl rfl ?_
        refine ow_call rfl rfl (ent (by kernel_rfl)) (CallsV.mono (sameInts_spec q1 qs _ _ _ _ al al rfl rfl (by omega) (by omega) _ (appOk.sl (H.cap (i := 0) rfl)) (appOk.sl (H.cap (i := 2) rfl))) ?_) rfl
        rintro v w ⟨rfl, H'⟩
        replace H : St Pu w0 w ([.row b6 77 (rfV x rows), .app qs al.length cs 3 1 (ints .i64 al)] ++ RR) [] := (H.call H').drop
        clear H'
        rw [decide_eq_true (rfl : al = al)]
        refine ow_nil ⟨fun _ => H.only (i := 0) rfl, ?_⟩
        have G := H
        replace H := H.only (i := 0) rfl
        apply ak_take (i := 21) rfl rfl rfl rfl (by kernel_rfl) (by with_reducible first | exact H | rfl)
        · intro w Q' HS hq; replace H := HS; clear HS; (apply ow_pick_t; (· rfl); (· rfl); (· ((conv => lhs; whnf) <;> rfl))); exact ow_nil hq
        apply ak_take (i := 22) rfl rfl rfl rfl (by kernel_rfl) (by with_reducible first | exact H | rfl)
        · intro w Q' HS hq; replace H := HS; clear HS; (apply ow_move; (· rfl); (· ((conv => lhs; whnf) <;> rfl))); exact ow_nil hq
        apply ak_take (i := 23) rfl rfl rfl rfl (by kernel_rfl) (by with_reducible first | exact H | rfl)
        · intro w Q' HS hq; replace H := HS; clear HS; refine ow_guard_yes rfl rfl rfl rfl ?_; (apply ow_move; (· rfl); (· ((conv => lhs; whnf) <;> rfl))); exact ow_nil hq
        apply ak_take (i := 24) rfl rfl rfl rfl (by kernel_rfl) (by with_reducible first | exact H | rfl)
        · intro w Q' HS hq; replace H := HS; clear HS; refine ow_guard_yes rfl rfl rfl rfl ?_; (apply ow_move; (· rfl); (· ((conv => lhs; whnf) <;> rfl))); exact ow_nil hq
        apply ak_take (i := 25) rfl rfl rfl rfl (by kernel_rfl) (by with_reducible first | exact H | rfl)
        · intro w Q' HS hq; replace H := HS; clear HS; refine ow_guard_yes rfl rfl rfl rfl ?_; (apply ow_move; (· rfl); (· ((conv => lhs; whnf) <;> rfl))); exact ow_nil hq
        apply ak_take (i := 26) rfl rfl rfl rfl (by kernel_rfl) (by with_reducible first | exact H | rfl)
        · intro w Q' HS hq; replace H := HS; clear HS; refine ow_guard_yes rfl rfl rfl rfl ?_; refine ow_and rfl rfl rfl ?_; exact ow_nil hq
        replace H := G
        clear G
        rw [show bw .and .i64 nn 15 = (k15 : Int) from ek15]
        have G := H
        replace H := H.only (i := 0) rfl
        apply ak_take (i := 28) rfl rfl rfl rfl (by kernel_rfl) (by with_reducible first | exact H | rfl)
        · intro w Q' HS hq; replace H := HS; clear HS; refine ow_guard_yes rfl rfl rfl rfl ?_; (apply ow_move; (· rfl); (· ((conv => lhs; whnf) <;> rfl))); exact ow_nil hq
        apply ak_take (i := 29) rfl rfl rfl rfl (by kernel_rfl) (by with_reducible first | exact H | rfl)
        · intro w Q' HS hq; replace H := HS; clear HS; refine ow_guard_yes rfl rfl rfl rfl ?_; (apply ow_move; (· rfl); (· ((conv => lhs; whnf) <;> rfl))); exact ow_nil hq
        replace H := G
        clear G
        have G := H
        replace H := H.only (i := 0) rfl
        apply ak_take (i := 30) rfl rfl rfl rfl (by kernel_rfl) (by with_reducible first | exact H | rfl)
        · intro w Q' HS hq; replace H := HS; clear HS; refine ow_guard_yes rfl rfl rfl rfl ?_; refine ow_sliceHi (m := min (k15 : Int) (al.length : Int)) rfl (tyAt rfl) rfl (tyAt rfl) rfl rfl (by omega) (by omega) ?_; exact ow_nil hq
        replace H := G
        clear G
        rw [hml]
        apply ak_one (i := 27)
        · kernel_rfl
        · rfl
        · rfl
        refine ow_guard_yes rfl rfl rfl rfl ?_
        refine ow_call rfl rfl (ent (by kernel_rfl)) (CallsV.mono (hs15 _ (H.oldSl hs)) ?_) rfl
        rintro v w ⟨q1, c1, rfl, H'⟩
        replace H := H.call H'
        clear H'
        refine ow_nil ⟨fun _ => H.only (i := 1) rfl, ?_⟩
        have hu := (appOk.sl (H.cap (i := 2) rfl)).subP (cap := cs) (sz := 1) (by simp; omega) 0 (min k15 al.length)
        rw [Nat.zero_mul, List.drop_zero, show (ints .i64 al).take (min k15 al.length) = ints .i64 (al.take k15) by rw [← hmin]; unfold ints; rw [List.map_take]] at hu
        apply ak_one (i := 31)
        · kernel_rfl
        · rfl
        · rfl
        refine ow_guard_yes rfl rfl rfl rfl ?_
        refine ow_call rfl rfl (ent (by kernel_rfl)) (CallsV.mono (sameInts_spec q1 (subP qs cs 0 1) _ _ _ _ (al.take k15) (al.take k15) rfl (by simp) (by rw [List.length_take]; omega) (by rw [List.length_take]; omega) _ (appOk.sl (H.cap (i := 0) rfl)) hu) ?_) rfl
        rintro v w ⟨rfl, H'⟩
        replace H : St Pu w0 w ([.row b6 77 (rfV x rows), .app qs al.length cs 3 1 (ints .i64 al)] ++ RR) [] := (H.call H').drop
        clear H' hu
        rw [decide_eq_true (rfl : al.take k15 = al.take k15)]
        refine ow_nil ⟨fun _ => H.only (i := 0) rfl, ?_⟩
        have G := H
        replace H := H.only (i := 0) rfl
        apply ak_take (i := 32) rfl rfl rfl rfl (by kernel_rfl) (by with_reducible first | exact H | rfl)
        · intro w Q' HS hq; replace H := HS; clear HS; (apply ow_pick_t; (· rfl); (· rfl); (· ((conv => lhs; whnf) <;> rfl))); exact ow_nil hq
        apply ak_take (i := 33) rfl rfl rfl rfl (by kernel_rfl) (by with_reducible first | exact H | rfl)
        · intro w Q' HS hq; replace H := HS; clear HS; (apply ow_assign; (· rfl); (· ((conv => lhs; whnf) <;> rfl))); exact ow_nil hq
        replace H := G
        clear G
        refine ak_done (by kernel_rfl) ?_
        skip
        refine wc_ret ?_
        obtain ⟨w, hT, H⟩ := H.takes Try.prog
        refine ⟨.inr rfl, w, hT, _, .tmp .nil, ?_⟩
        exact ⟨rfl, H.none⟩
      · have hpz : pullZ (tb ms) part i = 0 := if_neg (fun h' => by omega)
        clear h
        refine wc_skip ?_
        refine wc_seq ?_
        refine wc_region ?_
        (apply ow_move; (· rfl); (· ((conv => lhs; whnf) <;> rfl)))
        (apply ow_move; (· rfl); (· ((conv => lhs; whnf) <;> rfl)))
        refine ow_call rfl rfl (ent (by kernel_rfl)) (CallsV.mono (refSide_spec q3 cap3 part z (by omega) _ (H.oldSl hs)) ?_) rfl
        rintro v w ⟨qs, cs, rfl, H'⟩
        replace H : St Pu w0 w (.row b6 77 (rfV x rows) :: .app qs (sdL part z).length cs 3 1 (ints .i64 (sdL part z)) :: (grC g ms ++ rfC x rows)) [] := (H.call H').perm (List.Perm.swap _ _ _)
        clear H'
        have hsl : (sdL part z).length ≤ part.length := sdU_len part z part.length
        have hcs := appOk.le (H.cap (i := 1) rfl)
        have hs100 := fun (w : World) (hs : SlH (hp w) q3 (ints .i64 part)) => sideW_spec q3 cap3 part z 100 (by omega) w hs
        have hs15 := fun (w : World) (hs : SlH (hp w) q3 (ints .i64 part)) => sideW_spec q3 cap3 part z (k15 : Int) (by omega) w hs
        rw [List.take_of_length_le (show (sdL part z).length ≤ (100 : Int).toNat by rw [show (100 : Int).toNat = 100 from rfl]; omega)] at hs100
        rw [Int.toNat_natCast] at hs15
        obtain ⟨al, hal⟩ : ∃ al, sdL part z = al := ⟨_, rfl⟩
        rw [hal] at H hsl hcs hs100 hs15 ⊢
        have hmin : al.take (min k15 al.length) = al.take k15 := by rw [← List.take_take, List.take_length]
        have hml : (min (k15 : Int) (al.length : Int)).toNat = min k15 al.length := by omega
        obtain ⟨RR, hRR⟩ : ∃ RR, grC g ms ++ rfC x rows = RR := ⟨_, rfl⟩
        have hGr : ∀ {w : World} {pre : List Cap}, St Pu w0 w (pre ++ RR) [] → Gr (hp w) g ms := fun H => gr_of_ok fun c hc => okAll H c (List.mem_append_right _ (by rw [← hRR]; exact List.mem_append_left _ hc))
        have hRf : ∀ {w : World} {pre : List Cap}, St Pu w0 w (pre ++ RR) [] → Rf (hp w) x rows := fun H => rf_of_ok fun c hc => okAll H c (List.mem_append_right _ (by rw [← hRR]; exact List.mem_append_right _ hc))
        rw [hRR] at H
        clear hRR
        (apply ow_assign; (· rfl); (· ((conv => lhs; whnf) <;> rfl)))
        refine ow_nil ?_
        refine wc_seq ?_
        refine wc_region ?_
        (apply ow_move; (· rfl); (· ((conv => lhs; whnf) <;> rfl)))
        refine ow_and rfl rfl rfl ?_
        (apply ow_move; (· rfl); (· ((conv => lhs; whnf) <;> rfl)))
        refine ow_len rfl rfl (tyAt rfl) rfl ?_
        refine ow_min rfl rfl rfl ?_
        (apply ow_assign; (· rfl); (· ((conv => lhs; whnf) <;> rfl)))
        refine ow_nil ?_
        refine wc_seq ?_
        rw [show bw .and .i64 nn 15 = (k15 : Int) from ek15]
        refine wc_drawK (fun w => St Pu w0 w [.row b6 77 (rfV x rows)] []) 99 (by kernel_rfl) (by kernel_rfl) (by intro c e D w h; first | exact h.elim | (rcases h with ⟨h | h, _⟩ <;> cases h)) ?_
        replace H := H.drew
        have G := H
        replace H := H.only (i := 0) rfl
        apply ak_take (i := 0) rfl rfl rfl rfl (by kernel_rfl) (by with_reducible first | exact H | rfl)
        · intro w Q' HS hq; replace H := HS; clear HS; (apply ow_move; (· rfl); (· ((conv => lhs; whnf) <;> rfl))); exact ow_nil hq
        apply ak_take (i := 1) rfl rfl rfl rfl (by kernel_rfl) (by with_reducible first | exact H | rfl)
        · intro w Q' HS hq; replace H := HS; clear HS; (apply ow_move; (· rfl); (· ((conv => lhs; whnf) <;> rfl))); exact ow_nil hq
        replace H := G
        clear G
        have G := H
        replace H := H.only (i := 0) rfl
        apply ak_take (i := 3) rfl rfl rfl rfl (by kernel_rfl) (by with_reducible first | exact H | rfl)
        · intro w Q' HS hq; replace H := HS; clear HS; refine ow_loadA (l := rfV x rows) rfl (tyAt rfl) rfl rfl rfl (H.cells (i := 0) (o := 0) (m := 2) rfl rfl) ?_; exact ow_nil hq
        apply ak_take (i := 4) rfl rfl rfl rfl (by kernel_rfl) (by with_reducible first | exact H | rfl)
        · intro w Q' HS hq; replace H := HS; clear HS; (apply ow_move; (· rfl); (· ((conv => lhs; whnf) <;> rfl))); exact ow_nil hq
        replace H := G
        clear G
        apply ak_one (i := 2)
        · kernel_rfl
        · rfl
        · rfl
        refine ow_call rfl rfl (ent (by kernel_rfl)) (CallsV.mono (halve_spec g ms most hn h4 hmay hW hmo _ (hGr (pre := [_, _]) H)) ?_) rfl
        rintro v w ⟨bh, rfl, H'⟩
        replace H := H.call H'
        clear H'
        refine ow_nil ⟨fun _ => H.only (i := 1) rfl, ?_⟩
        apply ak_one (i := 5)
        · kernel_rfl
        · rfl
        · rfl
        refine ow_call rfl rfl (ent (by kernel_rfl)) (CallsV.mono (refHalve_spec (tb ms) x rows most hW hxl (by omega) (by rw [hxw]; exact hM) (by rw [hxw]; exact hmay) hmo _ (hRf (pre := [_, _, _]) H)) ?_) rfl
        rintro v w ⟨ph, ch, rfl, H'⟩
        replace H := H.call H'
        clear H'
        rw [hxw] at H ⊢
        have hhl : (halveL (tb ms) g.ws most).length ≤ 4096 := by rw [halve_len hmay, hTl]; exact h4
        obtain ⟨hv, hhv⟩ : ∃ hv, halveL (tb ms) g.ws most = hv := ⟨_, rfl⟩
        rw [hhv] at H hhl ⊢
        refine ow_nil ⟨fun _ => H.only (i := 2) rfl, ?_⟩
        apply ak_one (i := 6)
        · kernel_rfl
        · rfl
        · rfl
        refine ow_call rfl rfl (ent (by kernel_rfl)) (CallsV.mono (sameInts_spec (some ⟨bh, 0, none⟩) ph _ _ _ _ hv hv rfl rfl (by omega) (by omega) _ (H.rowSl (i := 1) rfl) (appOk.sl (H.cap (i := 0) rfl))) ?_) rfl
        rintro v w ⟨rfl, H'⟩
        replace H : St Pu w0 w ([.row b6 77 (rfV x rows), .app qs al.length cs 3 1 (ints .i64 al)] ++ RR) [] := (H.call H').drop.drop
        clear H'
        rw [decide_eq_true (rfl : hv = hv)]
        refine ow_nil ⟨fun _ => H.only (i := 0) rfl, ?_⟩
        have G := H
        replace H := H.only (i := 0) rfl
        apply ak_take (i := 7) rfl rfl rfl rfl (by kernel_rfl) (by with_reducible first | exact H | rfl)
        · intro w Q' HS hq; replace H := HS; clear HS; (apply ow_move; (· rfl); (· ((conv => lhs; whnf) <;> rfl))); exact ow_nil hq
        apply ak_take (i := 8) rfl rfl rfl rfl (by kernel_rfl) (by with_reducible first | exact H | rfl)
        · intro w Q' HS hq; replace H := HS; clear HS; refine ow_guard_yes rfl rfl rfl rfl ?_; (apply ow_move; (· rfl); (· ((conv => lhs; whnf) <;> rfl))); exact ow_nil hq
        apply ak_take (i := 9) rfl rfl rfl rfl (by kernel_rfl) (by with_reducible first | exact H | rfl)
        · intro w Q' HS hq; replace H := HS; clear HS; refine ow_guard_yes rfl rfl rfl rfl ?_; (apply ow_move; (· rfl); (· ((conv => lhs; whnf) <;> rfl))); exact ow_nil hq
        apply ak_take (i := 10) rfl rfl rfl rfl (by kernel_rfl) (by with_reducible first | exact H | rfl)
        · intro w Q' HS hq; replace H := HS; clear HS; refine ow_guard_yes rfl rfl rfl rfl ?_; (apply ow_move; (· rfl); (· ((conv => lhs; whnf) <;> rfl))); exact ow_nil hq
        replace H := G
        clear G
        have G := H
        replace H := H.only (i := 0) rfl
        apply ak_take (i := 12) rfl rfl rfl rfl (by kernel_rfl) (by with_reducible first | exact H | rfl)
        · intro w Q' HS hq; replace H := HS; clear HS; refine ow_guard_yes rfl rfl rfl rfl ?_; (apply ow_move; (· rfl); (· ((conv => lhs; whnf) <;> rfl))); exact ow_nil hq
        replace H := G
        clear G
        apply ak_one (i := 11)
        · kernel_rfl
        · rfl
        · rfl
        refine ow_guard_yes rfl rfl rfl rfl ?_
        refine ow_call rfl rfl (ent (by kernel_rfl)) (CallsV.mono (pull_spec g ms part q3 cap3 i hn h4 hW _ (hGr (pre := [_, _]) H) (H.oldSl hs)) ?_) rfl
        rintro v w ⟨rfl, H'⟩
        replace H : St Pu w0 w ([.row b6 77 (rfV x rows), .app qs al.length cs 3 1 (ints .i64 al)] ++ RR) [] := H.call H'
        clear H'
        rw [hpz]
        refine ow_nil ⟨fun _ => H.only (i := 0) rfl, ?_⟩
        have G := H
        replace H := H.only (i := 0) rfl
        apply ak_take (i := 13) rfl rfl rfl rfl (by kernel_rfl) (by with_reducible first | exact H | rfl)
        · intro w Q' HS hq; replace H := HS; clear HS; refine ow_guard_yes rfl rfl rfl rfl ?_; refine ow_eql rfl rfl rfl ?_; exact ow_nil hq
        replace H := G
        clear G
        have G := H
        replace H := H.only (i := 0) rfl
        apply ak_take (i := 14) rfl rfl rfl rfl (by kernel_rfl) (by with_reducible first | exact H | rfl)
        · intro w Q' HS hq; replace H := HS; clear HS; (apply ow_pick_t; (· rfl); (· rfl); (· ((conv => lhs; whnf) <;> rfl))); exact ow_nil hq
        apply ak_take (i := 15) rfl rfl rfl rfl (by kernel_rfl) (by with_reducible first | exact H | rfl)
        · intro w Q' HS hq; replace H := HS; clear HS; (apply ow_move; (· rfl); (· ((conv => lhs; whnf) <;> rfl))); exact ow_nil hq
        apply ak_take (i := 16) rfl rfl rfl rfl (by kernel_rfl) (by with_reducible first | exact H | rfl)
        · intro w Q' HS hq; replace H := HS; clear HS; refine ow_guard_yes rfl rfl rfl rfl ?_; (apply ow_move; (· rfl); (· ((conv => lhs; whnf) <;> rfl))); exact ow_nil hq
        apply ak_take (i := 17) rfl rfl rfl rfl (by kernel_rfl) (by with_reducible first | exact H | rfl)
        · intro w Q' HS hq; replace H := HS; clear HS; refine ow_guard_yes rfl rfl rfl rfl ?_; (apply ow_move; (· rfl); (· ((conv => lhs; whnf) <;> rfl))); exact ow_nil hq
        replace H := G
        clear G
        have G := H
        replace H := H.only (i := 0) rfl
        apply ak_take (i := 19) rfl rfl rfl rfl (by kernel_rfl) (by with_reducible first | exact H | rfl)
        · intro w Q' HS hq; replace H := HS; clear HS; refine ow_guard_yes rfl rfl rfl rfl ?_; (apply ow_move; (· rfl); (· ((conv => lhs; whnf) <;> rfl))); exact ow_nil hq
        replace H := G
        clear G
        apply ak_one (i := 18)
        · kernel_rfl
        · rfl
        · rfl
        refine ow_guard_yes rfl rfl rfl rfl ?_
        refine ow_call rfl rfl (ent (by kernel_rfl)) (CallsV.mono (hs100 _ (H.oldSl hs)) ?_) rfl
        rintro v w ⟨q1, c1, rfl, H'⟩
        replace H := H.call H'
        clear H'
        refine ow_nil ⟨fun _ => H.only (i := 1) rfl, ?_⟩
        apply ak_one (i := 20)
        · kernel_rfl
        · rfl
        · rfl
        refine ow_guard_yes rfl rfl rfl rfl ?_
        refine ow_call rfl rfl (ent (by kernel_rfl)) (CallsV.mono (sameInts_spec q1 qs _ _ _ _ al al rfl rfl (by omega) (by omega) _ (appOk.sl (H.cap (i := 0) rfl)) (appOk.sl (H.cap (i := 2) rfl))) ?_) rfl
        rintro v w ⟨rfl, H'⟩
        replace H : St Pu w0 w ([.row b6 77 (rfV x rows), .app qs al.length cs 3 1 (ints .i64 al)] ++ RR) [] := (H.call H').drop
        clear H'
        rw [decide_eq_true (rfl : al = al)]
        refine ow_nil ⟨fun _ => H.only (i := 0) rfl, ?_⟩
        have G := H
        replace H := H.only (i := 0) rfl
        apply ak_take (i := 21) rfl rfl rfl rfl (by kernel_rfl) (by with_reducible first | exact H | rfl)
        · intro w Q' HS hq; replace H := HS; clear HS; (apply ow_pick_t; (· rfl); (· rfl); (· ((conv => lhs; whnf) <;> rfl))); exact ow_nil hq
        apply ak_take (i := 22) rfl rfl rfl rfl (by kernel_rfl) (by with_reducible first | exact H | rfl)
        · intro w Q' HS hq; replace H := HS; clear HS; (apply ow_move; (· rfl); (· ((conv => lhs; whnf) <;> rfl))); exact ow_nil hq
        apply ak_take (i := 23) rfl rfl rfl rfl (by kernel_rfl) (by with_reducible first | exact H | rfl)
        · intro w Q' HS hq; replace H := HS; clear HS; refine ow_guard_yes rfl rfl rfl rfl ?_; (apply ow_move; (· rfl); (· ((conv => lhs; whnf) <;> rfl))); exact ow_nil hq
        apply ak_take (i := 24) rfl rfl rfl rfl (by kernel_rfl) (by with_reducible first | exact H | rfl)
        · intro w Q' HS hq; replace H := HS; clear HS; refine ow_guard_yes rfl rfl rfl rfl ?_; (apply ow_move; (· rfl); (· ((conv => lhs; whnf) <;> rfl))); exact ow_nil hq
        apply ak_take (i := 25) rfl rfl rfl rfl (by kernel_rfl) (by with_reducible first | exact H | rfl)
        · intro w Q' HS hq; replace H := HS; clear HS; refine ow_guard_yes rfl rfl rfl rfl ?_; (apply ow_move; (· rfl); (· ((conv => lhs; whnf) <;> rfl))); exact ow_nil hq
        apply ak_take (i := 26) rfl rfl rfl rfl (by kernel_rfl) (by with_reducible first | exact H | rfl)
        · intro w Q' HS hq; replace H := HS; clear HS; refine ow_guard_yes rfl rfl rfl rfl ?_; refine ow_and rfl rfl rfl ?_; exact ow_nil hq
        replace H := G
        clear G
        rw [show bw .and .i64 nn 15 = (k15 : Int) from ek15]
        have G := H
        replace H := H.only (i := 0) rfl
        apply ak_take (i := 28) rfl rfl rfl rfl (by kernel_rfl) (by with_reducible first | exact H | rfl)
        · intro w Q' HS hq; replace H := HS; clear HS; refine ow_guard_yes rfl rfl rfl rfl ?_; (apply ow_move; (· rfl); (· ((conv => lhs; whnf) <;> rfl))); exact ow_nil hq
        apply ak_take (i := 29) rfl rfl rfl rfl (by kernel_rfl) (by with_reducible first | exact H | rfl)
        · intro w Q' HS hq; replace H := HS; clear HS; refine ow_guard_yes rfl rfl rfl rfl ?_; (apply ow_move; (· rfl); (· ((conv => lhs; whnf) <;> rfl))); exact ow_nil hq
        replace H := G
        clear G
        have G := H
        replace H := H.only (i := 0) rfl
        apply ak_take (i := 30) rfl rfl rfl rfl (by kernel_rfl) (by with_reducible first | exact H | rfl)
        · intro w Q' HS hq; replace H := HS; clear HS; refine ow_guard_yes rfl rfl rfl rfl ?_; refine ow_sliceHi (m := min (k15 : Int) (al.length : Int)) rfl (tyAt rfl) rfl (tyAt rfl) rfl rfl (by omega) (by omega) ?_; exact ow_nil hq
        replace H := G
        clear G
        rw [hml]
        apply ak_one (i := 27)
        · kernel_rfl
        · rfl
        · rfl
        refine ow_guard_yes rfl rfl rfl rfl ?_
        refine ow_call rfl rfl (ent (by kernel_rfl)) (CallsV.mono (hs15 _ (H.oldSl hs)) ?_) rfl
        rintro v w ⟨q1, c1, rfl, H'⟩
        replace H := H.call H'
        clear H'
        refine ow_nil ⟨fun _ => H.only (i := 1) rfl, ?_⟩
        have hu := (appOk.sl (H.cap (i := 2) rfl)).subP (cap := cs) (sz := 1) (by simp; omega) 0 (min k15 al.length)
        rw [Nat.zero_mul, List.drop_zero, show (ints .i64 al).take (min k15 al.length) = ints .i64 (al.take k15) by rw [← hmin]; unfold ints; rw [List.map_take]] at hu
        apply ak_one (i := 31)
        · kernel_rfl
        · rfl
        · rfl
        refine ow_guard_yes rfl rfl rfl rfl ?_
        refine ow_call rfl rfl (ent (by kernel_rfl)) (CallsV.mono (sameInts_spec q1 (subP qs cs 0 1) _ _ _ _ (al.take k15) (al.take k15) rfl (by simp) (by rw [List.length_take]; omega) (by rw [List.length_take]; omega) _ (appOk.sl (H.cap (i := 0) rfl)) hu) ?_) rfl
        rintro v w ⟨rfl, H'⟩
        replace H : St Pu w0 w ([.row b6 77 (rfV x rows), .app qs al.length cs 3 1 (ints .i64 al)] ++ RR) [] := (H.call H').drop
        clear H' hu
        rw [decide_eq_true (rfl : al.take k15 = al.take k15)]
        refine ow_nil ⟨fun _ => H.only (i := 0) rfl, ?_⟩
        have G := H
        replace H := H.only (i := 0) rfl
        apply ak_take (i := 32) rfl rfl rfl rfl (by kernel_rfl) (by with_reducible first | exact H | rfl)
        · intro w Q' HS hq; replace H := HS; clear HS; (apply ow_pick_t; (· rfl); (· rfl); (· ((conv => lhs; whnf) <;> rfl))); exact ow_nil hq
        apply ak_take (i := 33) rfl rfl rfl rfl (by kernel_rfl) (by with_reducible first | exact H | rfl)
        · intro w Q' HS hq; replace H := HS; clear HS; (apply ow_assign; (· rfl); (· ((conv => lhs; whnf) <;> rfl))); exact ow_nil hq
        replace H := G
        clear G
        refine ak_done (by kernel_rfl) ?_
        skip
        refine wc_ret ?_
        obtain ⟨w, hT, H⟩ := H.takes Try.prog
        refine ⟨.inr rfl, w, hT, _, .tmp .nil, ?_⟩
        exact ⟨rfl, H.none⟩
    · have hpz : pullZ (tb ms) part i = 0 := if_neg (fun h' => by omega)
      clear h
      refine ow_guard_no rfl rfl rfl rfl rfl rfl rfl ?_
      refine ow_guard_no rfl rfl rfl rfl rfl rfl rfl ?_
      refine ow_guard_no rfl rfl rfl rfl rfl rfl rfl ?_
      refine ow_guard_no rfl rfl rfl rfl rfl rfl rfl ?_
      (apply ow_pick_f; (· rfl); (· rfl); (· ((conv => lhs; whnf) <;> rfl)))
      refine ow_nil ?_
      refine wc_cond_false rfl ?_
      refine wc_skip ?_
      refine wc_seq ?_
      refine wc_region ?_
      (apply ow_move; (· rfl); (· ((conv => lhs; whnf) <;> rfl)))
      (apply ow_move; (· rfl); (· ((conv => lhs; whnf) <;> rfl)))
      refine ow_call rfl rfl (ent (by kernel_rfl)) (CallsV.mono (refSide_spec q3 cap3 part z (by omega) _ (H.oldSl hs)) ?_) rfl
      rintro v w ⟨qs, cs, rfl, H'⟩
      replace H : St Pu w0 w (.row b6 77 (rfV x rows) :: .app qs (sdL part z).length cs 3 1 (ints .i64 (sdL part z)) :: (grC g ms ++ rfC x rows)) [] := (H.call H').perm (List.Perm.swap _ _ _)
      clear H'
      have hsl : (sdL part z).length ≤ part.length := sdU_len part z part.length
      have hcs := appOk.le (H.cap (i := 1) rfl)
      have hs100 := fun (w : World) (hs : SlH (hp w) q3 (ints .i64 part)) => sideW_spec q3 cap3 part z 100 (by omega) w hs
      have hs15 := fun (w : World) (hs : SlH (hp w) q3 (ints .i64 part)) => sideW_spec q3 cap3 part z (k15 : Int) (by omega) w hs
      rw [List.take_of_length_le (show (sdL part z).length ≤ (100 : Int).toNat by rw [show (100 : Int).toNat = 100 from rfl]; omega)] at hs100
      rw [Int.toNat_natCast] at hs15
      obtain ⟨al, hal⟩ : ∃ al, sdL part z = al := ⟨_, rfl⟩
      rw [hal] at H hsl hcs hs100 hs15 ⊢
      have hmin : al.take (min k15 al.length) = al.take k15 := by rw [← List.take_take, List.take_length]
      have hml : (min (k15 : Int) (al.length : Int)).toNat = min k15 al.length := by omega
      obtain ⟨RR, hRR⟩ : ∃ RR, grC g ms ++ rfC x rows = RR := ⟨_, rfl⟩
      have hGr : ∀ {w : World} {pre : List Cap}, St Pu w0 w (pre ++ RR) [] → Gr (hp w) g ms := fun H => gr_of_ok fun c hc => okAll H c (List.mem_append_right _ (by rw [← hRR]; exact List.mem_append_left _ hc))
      have hRf : ∀ {w : World} {pre : List Cap}, St Pu w0 w (pre ++ RR) [] → Rf (hp w) x rows := fun H => rf_of_ok fun c hc => okAll H c (List.mem_append_right _ (by rw [← hRR]; exact List.mem_append_right _ hc))
      rw [hRR] at H
      clear hRR
      (apply ow_assign; (· rfl); (· ((conv => lhs; whnf) <;> rfl)))
      refine ow_nil ?_
      refine wc_seq ?_
      refine wc_region ?_
      (apply ow_move; (· rfl); (· ((conv => lhs; whnf) <;> rfl)))
      refine ow_and rfl rfl rfl ?_
      (apply ow_move; (· rfl); (· ((conv => lhs; whnf) <;> rfl)))
      refine ow_len rfl rfl (tyAt rfl) rfl ?_
      refine ow_min rfl rfl rfl ?_
      (apply ow_assign; (· rfl); (· ((conv => lhs; whnf) <;> rfl)))
      refine ow_nil ?_
      refine wc_seq ?_
      rw [show bw .and .i64 nn 15 = (k15 : Int) from ek15]
      refine wc_drawK (fun w => St Pu w0 w [.row b6 77 (rfV x rows)] []) 99 (by kernel_rfl) (by kernel_rfl) (by intro c e D w h; first | exact h.elim | (rcases h with ⟨h | h, _⟩ <;> cases h)) ?_
      replace H := H.drew
      have G := H
      replace H := H.only (i := 0) rfl
      apply ak_take (i := 0) rfl rfl rfl rfl (by kernel_rfl) (by with_reducible first | exact H | rfl)
      · intro w Q' HS hq; replace H := HS; clear HS; (apply ow_move; (· rfl); (· ((conv => lhs; whnf) <;> rfl))); exact ow_nil hq
      apply ak_take (i := 1) rfl rfl rfl rfl (by kernel_rfl) (by with_reducible first | exact H | rfl)
      · intro w Q' HS hq; replace H := HS; clear HS; (apply ow_move; (· rfl); (· ((conv => lhs; whnf) <;> rfl))); exact ow_nil hq
      replace H := G
      clear G
      have G := H
      replace H := H.only (i := 0) rfl
      apply ak_take (i := 3) rfl rfl rfl rfl (by kernel_rfl) (by with_reducible first | exact H | rfl)
      · intro w Q' HS hq; replace H := HS; clear HS; refine ow_loadA (l := rfV x rows) rfl (tyAt rfl) rfl rfl rfl (H.cells (i := 0) (o := 0) (m := 2) rfl rfl) ?_; exact ow_nil hq
      apply ak_take (i := 4) rfl rfl rfl rfl (by kernel_rfl) (by with_reducible first | exact H | rfl)
      · intro w Q' HS hq; replace H := HS; clear HS; (apply ow_move; (· rfl); (· ((conv => lhs; whnf) <;> rfl))); exact ow_nil hq
      replace H := G
      clear G
      apply ak_one (i := 2)
      · kernel_rfl
      · rfl
      · rfl
      refine ow_call rfl rfl (ent (by kernel_rfl)) (CallsV.mono (halve_spec g ms most hn h4 hmay hW hmo _ (hGr (pre := [_, _]) H)) ?_) rfl
      rintro v w ⟨bh, rfl, H'⟩
      replace H := H.call H'
      clear H'
      refine ow_nil ⟨fun _ => H.only (i := 1) rfl, ?_⟩
      apply ak_one (i := 5)
      · kernel_rfl
      · rfl
      · rfl
      refine ow_call rfl rfl (ent (by kernel_rfl)) (CallsV.mono (refHalve_spec (tb ms) x rows most hW hxl (by omega) (by rw [hxw]; exact hM) (by rw [hxw]; exact hmay) hmo _ (hRf (pre := [_, _, _]) H)) ?_) rfl
      rintro v w ⟨ph, ch, rfl, H'⟩
      replace H := H.call H'
      clear H'
      rw [hxw] at H ⊢
      have hhl : (halveL (tb ms) g.ws most).length ≤ 4096 := by rw [halve_len hmay, hTl]; exact h4
      obtain ⟨hv, hhv⟩ : ∃ hv, halveL (tb ms) g.ws most = hv := ⟨_, rfl⟩
      rw [hhv] at H hhl ⊢
      refine ow_nil ⟨fun _ => H.only (i := 2) rfl, ?_⟩
      apply ak_one (i := 6)
      · kernel_rfl
      · rfl
      · rfl
      refine ow_call rfl rfl (ent (by kernel_rfl)) (CallsV.mono (sameInts_spec (some ⟨bh, 0, none⟩) ph _ _ _ _ hv hv rfl rfl (by omega) (by omega) _ (H.rowSl (i := 1) rfl) (appOk.sl (H.cap (i := 0) rfl))) ?_) rfl
      rintro v w ⟨rfl, H'⟩
      replace H : St Pu w0 w ([.row b6 77 (rfV x rows), .app qs al.length cs 3 1 (ints .i64 al)] ++ RR) [] := (H.call H').drop.drop
      clear H'
      rw [decide_eq_true (rfl : hv = hv)]
      refine ow_nil ⟨fun _ => H.only (i := 0) rfl, ?_⟩
      have G := H
      replace H := H.only (i := 0) rfl
      apply ak_take (i := 7) rfl rfl rfl rfl (by kernel_rfl) (by with_reducible first | exact H | rfl)
      · intro w Q' HS hq; replace H := HS; clear HS; (apply ow_move; (· rfl); (· ((conv => lhs; whnf) <;> rfl))); exact ow_nil hq
      apply ak_take (i := 8) rfl rfl rfl rfl (by kernel_rfl) (by with_reducible first | exact H | rfl)
      · intro w Q' HS hq; replace H := HS; clear HS; refine ow_guard_yes rfl rfl rfl rfl ?_; (apply ow_move; (· rfl); (· ((conv => lhs; whnf) <;> rfl))); exact ow_nil hq
      apply ak_take (i := 9) rfl rfl rfl rfl (by kernel_rfl) (by with_reducible first | exact H | rfl)
      · intro w Q' HS hq; replace H := HS; clear HS; refine ow_guard_yes rfl rfl rfl rfl ?_; (apply ow_move; (· rfl); (· ((conv => lhs; whnf) <;> rfl))); exact ow_nil hq
      apply ak_take (i := 10) rfl rfl rfl rfl (by kernel_rfl) (by with_reducible first | exact H | rfl)
      · intro w Q' HS hq; replace H := HS; clear HS; refine ow_guard_yes rfl rfl rfl rfl ?_; (apply ow_move; (· rfl); (· ((conv => lhs; whnf) <;> rfl))); exact ow_nil hq
      replace H := G
      clear G
      have G := H
      replace H := H.only (i := 0) rfl
      apply ak_take (i := 12) rfl rfl rfl rfl (by kernel_rfl) (by with_reducible first | exact H | rfl)
      · intro w Q' HS hq; replace H := HS; clear HS; refine ow_guard_yes rfl rfl rfl rfl ?_; (apply ow_move; (· rfl); (· ((conv => lhs; whnf) <;> rfl))); exact ow_nil hq
      replace H := G
      clear G
      apply ak_one (i := 11)
      · kernel_rfl
      · rfl
      · rfl
      refine ow_guard_yes rfl rfl rfl rfl ?_
      refine ow_call rfl rfl (ent (by kernel_rfl)) (CallsV.mono (pull_spec g ms part q3 cap3 i hn h4 hW _ (hGr (pre := [_, _]) H) (H.oldSl hs)) ?_) rfl
      rintro v w ⟨rfl, H'⟩
      replace H : St Pu w0 w ([.row b6 77 (rfV x rows), .app qs al.length cs 3 1 (ints .i64 al)] ++ RR) [] := H.call H'
      clear H'
      rw [hpz]
      refine ow_nil ⟨fun _ => H.only (i := 0) rfl, ?_⟩
      have G := H
      replace H := H.only (i := 0) rfl
      apply ak_take (i := 13) rfl rfl rfl rfl (by kernel_rfl) (by with_reducible first | exact H | rfl)
      · intro w Q' HS hq; replace H := HS; clear HS; refine ow_guard_yes rfl rfl rfl rfl ?_; refine ow_eql rfl rfl rfl ?_; exact ow_nil hq
      replace H := G
      clear G
      have G := H
      replace H := H.only (i := 0) rfl
      apply ak_take (i := 14) rfl rfl rfl rfl (by kernel_rfl) (by with_reducible first | exact H | rfl)
      · intro w Q' HS hq; replace H := HS; clear HS; (apply ow_pick_t; (· rfl); (· rfl); (· ((conv => lhs; whnf) <;> rfl))); exact ow_nil hq
      apply ak_take (i := 15) rfl rfl rfl rfl (by kernel_rfl) (by with_reducible first | exact H | rfl)
      · intro w Q' HS hq; replace H := HS; clear HS; (apply ow_move; (· rfl); (· ((conv => lhs; whnf) <;> rfl))); exact ow_nil hq
      apply ak_take (i := 16) rfl rfl rfl rfl (by kernel_rfl) (by with_reducible first | exact H | rfl)
      · intro w Q' HS hq; replace H := HS; clear HS; refine ow_guard_yes rfl rfl rfl rfl ?_; (apply ow_move; (· rfl); (· ((conv => lhs; whnf) <;> rfl))); exact ow_nil hq
      apply ak_take (i := 17) rfl rfl rfl rfl (by kernel_rfl) (by with_reducible first | exact H | rfl)
      · intro w Q' HS hq; replace H := HS; clear HS; refine ow_guard_yes rfl rfl rfl rfl ?_; (apply ow_move; (· rfl); (· ((conv => lhs; whnf) <;> rfl))); exact ow_nil hq
      replace H := G
      clear G
      have G := H
      replace H := H.only (i := 0) rfl
      apply ak_take (i := 19) rfl rfl rfl rfl (by kernel_rfl) (by with_reducible first | exact H | rfl)
      · intro w Q' HS hq; replace H := HS; clear HS; refine ow_guard_yes rfl rfl rfl rfl ?_; (apply ow_move; (· rfl); (· ((conv => lhs; whnf) <;> rfl))); exact ow_nil hq
      replace H := G
      clear G
      apply ak_one (i := 18)
      · kernel_rfl
      · rfl
      · rfl
      refine ow_guard_yes rfl rfl rfl rfl ?_
      refine ow_call rfl rfl (ent (by kernel_rfl)) (CallsV.mono (hs100 _ (H.oldSl hs)) ?_) rfl
      rintro v w ⟨q1, c1, rfl, H'⟩
      replace H := H.call H'
      clear H'
      refine ow_nil ⟨fun _ => H.only (i := 1) rfl, ?_⟩
      apply ak_one (i := 20)
      · kernel_rfl
      · rfl
      · rfl
      refine ow_guard_yes rfl rfl rfl rfl ?_
      refine ow_call rfl rfl (ent (by kernel_rfl)) (CallsV.mono (sameInts_spec q1 qs _ _ _ _ al al rfl rfl (by omega) (by omega) _ (appOk.sl (H.cap (i := 0) rfl)) (appOk.sl (H.cap (i := 2) rfl))) ?_) rfl
      rintro v w ⟨rfl, H'⟩
      replace H : St Pu w0 w ([.row b6 77 (rfV x rows), .app qs al.length cs 3 1 (ints .i64 al)] ++ RR) [] := (H.call H').drop
      clear H'
      rw [decide_eq_true (rfl : al = al)]
      refine ow_nil ⟨fun _ => H.only (i := 0) rfl, ?_⟩
      have G := H
      replace H := H.only (i := 0) rfl
      apply ak_take (i := 21) rfl rfl rfl rfl (by kernel_rfl) (by with_reducible first | exact H | rfl)
      · intro w Q' HS hq; replace H := HS; clear HS; (apply ow_pick_t; (· rfl); (· rfl); (· ((conv => lhs; whnf) <;> rfl))); exact ow_nil hq
      apply ak_take (i := 22) rfl rfl rfl rfl (by kernel_rfl) (by with_reducible first | exact H | rfl)
      · intro w Q' HS hq; replace H := HS; clear HS; (apply ow_move; (· rfl); (· ((conv => lhs; whnf) <;> rfl))); exact ow_nil hq
      apply ak_take (i := 23) rfl rfl rfl rfl (by kernel_rfl) (by with_reducible first | exact H | rfl)
      · intro w Q' HS hq; replace H := HS; clear HS; refine ow_guard_yes rfl rfl rfl rfl ?_; (apply ow_move; (· rfl); (· ((conv => lhs; whnf) <;> rfl))); exact ow_nil hq
      apply ak_take (i := 24) rfl rfl rfl rfl (by kernel_rfl) (by with_reducible first | exact H | rfl)
      · intro w Q' HS hq; replace H := HS; clear HS; refine ow_guard_yes rfl rfl rfl rfl ?_; (apply ow_move; (· rfl); (· ((conv => lhs; whnf) <;> rfl))); exact ow_nil hq
      apply ak_take (i := 25) rfl rfl rfl rfl (by kernel_rfl) (by with_reducible first | exact H | rfl)
      · intro w Q' HS hq; replace H := HS; clear HS; refine ow_guard_yes rfl rfl rfl rfl ?_; (apply ow_move; (· rfl); (· ((conv => lhs; whnf) <;> rfl))); exact ow_nil hq
      apply ak_take (i := 26) rfl rfl rfl rfl (by kernel_rfl) (by with_reducible first | exact H | rfl)
      · intro w Q' HS hq; replace H := HS; clear HS; refine ow_guard_yes rfl rfl rfl rfl ?_; refine ow_and rfl rfl rfl ?_; exact ow_nil hq
      replace H := G
      clear G
      rw [show bw .and .i64 nn 15 = (k15 : Int) from ek15]
      have G := H
      replace H := H.only (i := 0) rfl
      apply ak_take (i := 28) rfl rfl rfl rfl (by kernel_rfl) (by with_reducible first | exact H | rfl)
      · intro w Q' HS hq; replace H := HS; clear HS; refine ow_guard_yes rfl rfl rfl rfl ?_; (apply ow_move; (· rfl); (· ((conv => lhs; whnf) <;> rfl))); exact ow_nil hq
      apply ak_take (i := 29) rfl rfl rfl rfl (by kernel_rfl) (by with_reducible first | exact H | rfl)
      · intro w Q' HS hq; replace H := HS; clear HS; refine ow_guard_yes rfl rfl rfl rfl ?_; (apply ow_move; (· rfl); (· ((conv => lhs; whnf) <;> rfl))); exact ow_nil hq
      replace H := G
      clear G
      have G := H
      replace H := H.only (i := 0) rfl
      apply ak_take (i := 30) rfl rfl rfl rfl (by kernel_rfl) (by with_reducible first | exact H | rfl)
      · intro w Q' HS hq; replace H := HS; clear HS; refine ow_guard_yes rfl rfl rfl rfl ?_; refine ow_sliceHi (m := min (k15 : Int) (al.length : Int)) rfl (tyAt rfl) rfl (tyAt rfl) rfl rfl (by omega) (by omega) ?_; exact ow_nil hq
      replace H := G
      clear G
      rw [hml]
      apply ak_one (i := 27)
      · kernel_rfl
      · rfl
      · rfl
      refine ow_guard_yes rfl rfl rfl rfl ?_
      refine ow_call rfl rfl (ent (by kernel_rfl)) (CallsV.mono (hs15 _ (H.oldSl hs)) ?_) rfl
      rintro v w ⟨q1, c1, rfl, H'⟩
      replace H := H.call H'
      clear H'
      refine ow_nil ⟨fun _ => H.only (i := 1) rfl, ?_⟩
      have hu := (appOk.sl (H.cap (i := 2) rfl)).subP (cap := cs) (sz := 1) (by simp; omega) 0 (min k15 al.length)
      rw [Nat.zero_mul, List.drop_zero, show (ints .i64 al).take (min k15 al.length) = ints .i64 (al.take k15) by rw [← hmin]; unfold ints; rw [List.map_take]] at hu
      apply ak_one (i := 31)
      · kernel_rfl
      · rfl
      · rfl
      refine ow_guard_yes rfl rfl rfl rfl ?_
      refine ow_call rfl rfl (ent (by kernel_rfl)) (CallsV.mono (sameInts_spec q1 (subP qs cs 0 1) _ _ _ _ (al.take k15) (al.take k15) rfl (by simp) (by rw [List.length_take]; omega) (by rw [List.length_take]; omega) _ (appOk.sl (H.cap (i := 0) rfl)) hu) ?_) rfl
      rintro v w ⟨rfl, H'⟩
      replace H : St Pu w0 w ([.row b6 77 (rfV x rows), .app qs al.length cs 3 1 (ints .i64 al)] ++ RR) [] := (H.call H').drop
      clear H' hu
      rw [decide_eq_true (rfl : al.take k15 = al.take k15)]
      refine ow_nil ⟨fun _ => H.only (i := 0) rfl, ?_⟩
      have G := H
      replace H := H.only (i := 0) rfl
      apply ak_take (i := 32) rfl rfl rfl rfl (by kernel_rfl) (by with_reducible first | exact H | rfl)
      · intro w Q' HS hq; replace H := HS; clear HS; (apply ow_pick_t; (· rfl); (· rfl); (· ((conv => lhs; whnf) <;> rfl))); exact ow_nil hq
      apply ak_take (i := 33) rfl rfl rfl rfl (by kernel_rfl) (by with_reducible first | exact H | rfl)
      · intro w Q' HS hq; replace H := HS; clear HS; (apply ow_assign; (· rfl); (· ((conv => lhs; whnf) <;> rfl))); exact ow_nil hq
      replace H := G
      clear G
      refine ak_done (by kernel_rfl) ?_
      skip
      refine wc_ret ?_
      obtain ⟨w, hT, H⟩ := H.takes Try.prog
      refine ⟨.inr rfl, w, hT, _, .tmp .nil, ?_⟩
      exact ⟨rfl, H.none⟩
  · have hpz : pullZ (tb ms) part i = 0 := if_neg (fun h' => by omega)
    clear h
    refine ow_guard_no rfl rfl rfl rfl rfl rfl rfl ?_
    refine ow_guard_no rfl rfl rfl rfl rfl rfl rfl ?_
    (apply ow_pick_f; (· rfl); (· rfl); (· ((conv => lhs; whnf) <;> rfl)))
    (apply ow_move; (· rfl); (· ((conv => lhs; whnf) <;> rfl)))
    refine ow_guard_no rfl rfl rfl rfl rfl rfl rfl ?_
    refine ow_guard_no rfl rfl rfl rfl rfl rfl rfl ?_
    refine ow_guard_no rfl rfl rfl rfl rfl rfl rfl ?_
    refine ow_guard_no rfl rfl rfl rfl rfl rfl rfl ?_
    (apply ow_pick_f; (· rfl); (· rfl); (· ((conv => lhs; whnf) <;> rfl)))
    refine ow_nil ?_
    refine wc_cond_false rfl ?_
    refine wc_skip ?_
    refine wc_seq ?_
    refine wc_region ?_
    (apply ow_move; (· rfl); (· ((conv => lhs; whnf) <;> rfl)))
    (apply ow_move; (· rfl); (· ((conv => lhs; whnf) <;> rfl)))
    refine ow_call rfl rfl (ent (by kernel_rfl)) (CallsV.mono (refSide_spec q3 cap3 part z (by omega) _ (H.oldSl hs)) ?_) rfl
    rintro v w ⟨qs, cs, rfl, H'⟩
    replace H : St Pu w0 w (.row b6 77 (rfV x rows) :: .app qs (sdL part z).length cs 3 1 (ints .i64 (sdL part z)) :: (grC g ms ++ rfC x rows)) [] := (H.call H').perm (List.Perm.swap _ _ _)
    clear H'
    have hsl : (sdL part z).length ≤ part.length := sdU_len part z part.length
    have hcs := appOk.le (H.cap (i := 1) rfl)
    have hs100 := fun (w : World) (hs : SlH (hp w) q3 (ints .i64 part)) => sideW_spec q3 cap3 part z 100 (by omega) w hs
    have hs15 := fun (w : World) (hs : SlH (hp w) q3 (ints .i64 part)) => sideW_spec q3 cap3 part z (k15 : Int) (by omega) w hs
    rw [List.take_of_length_le (show (sdL part z).length ≤ (100 : Int).toNat by rw [show (100 : Int).toNat = 100 from rfl]; omega)] at hs100
    rw [Int.toNat_natCast] at hs15
    obtain ⟨al, hal⟩ : ∃ al, sdL part z = al := ⟨_, rfl⟩
    rw [hal] at H hsl hcs hs100 hs15 ⊢
    have hmin : al.take (min k15 al.length) = al.take k15 := by rw [← List.take_take, List.take_length]
    have hml : (min (k15 : Int) (al.length : Int)).toNat = min k15 al.length := by omega
    obtain ⟨RR, hRR⟩ : ∃ RR, grC g ms ++ rfC x rows = RR := ⟨_, rfl⟩
    have hGr : ∀ {w : World} {pre : List Cap}, St Pu w0 w (pre ++ RR) [] → Gr (hp w) g ms := fun H => gr_of_ok fun c hc => okAll H c (List.mem_append_right _ (by rw [← hRR]; exact List.mem_append_left _ hc))
    have hRf : ∀ {w : World} {pre : List Cap}, St Pu w0 w (pre ++ RR) [] → Rf (hp w) x rows := fun H => rf_of_ok fun c hc => okAll H c (List.mem_append_right _ (by rw [← hRR]; exact List.mem_append_right _ hc))
    rw [hRR] at H
    clear hRR
    (apply ow_assign; (· rfl); (· ((conv => lhs; whnf) <;> rfl)))
    refine ow_nil ?_
    refine wc_seq ?_
    refine wc_region ?_
    (apply ow_move; (· rfl); (· ((conv => lhs; whnf) <;> rfl)))
    refine ow_and rfl rfl rfl ?_
    (apply ow_move; (· rfl); (· ((conv => lhs; whnf) <;> rfl)))
    refine ow_len rfl rfl (tyAt rfl) rfl ?_
    refine ow_min rfl rfl rfl ?_
    (apply ow_assign; (· rfl); (· ((conv => lhs; whnf) <;> rfl)))
    refine ow_nil ?_
    refine wc_seq ?_
    rw [show bw .and .i64 nn 15 = (k15 : Int) from ek15]
    refine wc_drawK (fun w => St Pu w0 w [.row b6 77 (rfV x rows)] []) 99 (by kernel_rfl) (by kernel_rfl) (by intro c e D w h; first | exact h.elim | (rcases h with ⟨h | h, _⟩ <;> cases h)) ?_
    replace H := H.drew
    have G := H
    replace H := H.only (i := 0) rfl
    apply ak_take (i := 0) rfl rfl rfl rfl (by kernel_rfl) (by with_reducible first | exact H | rfl)
    · intro w Q' HS hq; replace H := HS; clear HS; (apply ow_move; (· rfl); (· ((conv => lhs; whnf) <;> rfl))); exact ow_nil hq
    apply ak_take (i := 1) rfl rfl rfl rfl (by kernel_rfl) (by with_reducible first | exact H | rfl)
    · intro w Q' HS hq; replace H := HS; clear HS; (apply ow_move; (· rfl); (· ((conv => lhs; whnf) <;> rfl))); exact ow_nil hq
    replace H := G
    clear G
    have G := H
    replace H := H.only (i := 0) rfl
    apply ak_take (i := 3) rfl rfl rfl rfl (by kernel_rfl) (by with_reducible first | exact H | rfl)
    · intro w Q' HS hq; replace H := HS; clear HS; refine ow_loadA (l := rfV x rows) rfl (tyAt rfl) rfl rfl rfl (H.cells (i := 0) (o := 0) (m := 2) rfl rfl) ?_; exact ow_nil hq
    apply ak_take (i := 4) rfl rfl rfl rfl (by kernel_rfl) (by with_reducible first | exact H | rfl)
    · intro w Q' HS hq; replace H := HS; clear HS; (apply ow_move; (· rfl); (· ((conv => lhs; whnf) <;> rfl))); exact ow_nil hq
    replace H := G
    clear G
    apply ak_one (i := 2)
    · kernel_rfl
    · rfl
    · rfl
    refine ow_call rfl rfl (ent (by kernel_rfl)) (CallsV.mono (halve_spec g ms most hn h4 hmay hW hmo _ (hGr (pre := [_, _]) H)) ?_) rfl
    rintro v w ⟨bh, rfl, H'⟩
    replace H := H.call H'
    clear H'
    refine ow_nil ⟨fun _ => H.only (i := 1) rfl, ?_⟩
    apply ak_one (i := 5)
    · kernel_rfl
    · rfl
    · rfl
    refine ow_call rfl rfl (ent (by kernel_rfl)) (CallsV.mono (refHalve_spec (tb ms) x rows most hW hxl (by omega) (by rw [hxw]; exact hM) (by rw [hxw]; exact hmay) hmo _ (hRf (pre := [_, _, _]) H)) ?_) rfl
    rintro v w ⟨ph, ch, rfl, H'⟩
    replace H := H.call H'
    clear H'
    rw [hxw] at H ⊢
    have hhl : (halveL (tb ms) g.ws most).length ≤ 4096 := by rw [halve_len hmay, hTl]; exact h4
    obtain ⟨hv, hhv⟩ : ∃ hv, halveL (tb ms) g.ws most = hv := ⟨_, rfl⟩
    rw [hhv] at H hhl ⊢
    refine ow_nil ⟨fun _ => H.only (i := 2) rfl, ?_⟩
    apply ak_one (i := 6)
    · kernel_rfl
    · rfl
    · rfl
    refine ow_call rfl rfl (ent (by kernel_rfl)) (CallsV.mono (sameInts_spec (some ⟨bh, 0, none⟩) ph _ _ _ _ hv hv rfl rfl (by omega) (by omega) _ (H.rowSl (i := 1) rfl) (appOk.sl (H.cap (i := 0) rfl))) ?_) rfl
    rintro v w ⟨rfl, H'⟩
    replace H : St Pu w0 w ([.row b6 77 (rfV x rows), .app qs al.length cs 3 1 (ints .i64 al)] ++ RR) [] := (H.call H').drop.drop
    clear H'
    rw [decide_eq_true (rfl : hv = hv)]
    refine ow_nil ⟨fun _ => H.only (i := 0) rfl, ?_⟩
    have G := H
    replace H := H.only (i := 0) rfl
    apply ak_take (i := 7) rfl rfl rfl rfl (by kernel_rfl) (by with_reducible first | exact H | rfl)
    · intro w Q' HS hq; replace H := HS; clear HS; (apply ow_move; (· rfl); (· ((conv => lhs; whnf) <;> rfl))); exact ow_nil hq
    apply ak_take (i := 8) rfl rfl rfl rfl (by kernel_rfl) (by with_reducible first | exact H | rfl)
    · intro w Q' HS hq; replace H := HS; clear HS; refine ow_guard_yes rfl rfl rfl rfl ?_; (apply ow_move; (· rfl); (· ((conv => lhs; whnf) <;> rfl))); exact ow_nil hq
    apply ak_take (i := 9) rfl rfl rfl rfl (by kernel_rfl) (by with_reducible first | exact H | rfl)
    · intro w Q' HS hq; replace H := HS; clear HS; refine ow_guard_yes rfl rfl rfl rfl ?_; (apply ow_move; (· rfl); (· ((conv => lhs; whnf) <;> rfl))); exact ow_nil hq
    apply ak_take (i := 10) rfl rfl rfl rfl (by kernel_rfl) (by with_reducible first | exact H | rfl)
    · intro w Q' HS hq; replace H := HS; clear HS; refine ow_guard_yes rfl rfl rfl rfl ?_; (apply ow_move; (· rfl); (· ((conv => lhs; whnf) <;> rfl))); exact ow_nil hq
    replace H := G
    clear G
    have G := H
    replace H := H.only (i := 0) rfl
    apply ak_take (i := 12) rfl rfl rfl rfl (by kernel_rfl) (by with_reducible first | exact H | rfl)
    · intro w Q' HS hq; replace H := HS; clear HS; refine ow_guard_yes rfl rfl rfl rfl ?_; (apply ow_move; (· rfl); (· ((conv => lhs; whnf) <;> rfl))); exact ow_nil hq
    replace H := G
    clear G
    apply ak_one (i := 11)
    · kernel_rfl
    · rfl
    · rfl
    refine ow_guard_yes rfl rfl rfl rfl ?_
    refine ow_call rfl rfl (ent (by kernel_rfl)) (CallsV.mono (pull_spec g ms part q3 cap3 i hn h4 hW _ (hGr (pre := [_, _]) H) (H.oldSl hs)) ?_) rfl
    rintro v w ⟨rfl, H'⟩
    replace H : St Pu w0 w ([.row b6 77 (rfV x rows), .app qs al.length cs 3 1 (ints .i64 al)] ++ RR) [] := H.call H'
    clear H'
    rw [hpz]
    refine ow_nil ⟨fun _ => H.only (i := 0) rfl, ?_⟩
    have G := H
    replace H := H.only (i := 0) rfl
    apply ak_take (i := 13) rfl rfl rfl rfl (by kernel_rfl) (by with_reducible first | exact H | rfl)
    · intro w Q' HS hq; replace H := HS; clear HS; refine ow_guard_yes rfl rfl rfl rfl ?_; refine ow_eql rfl rfl rfl ?_; exact ow_nil hq
    replace H := G
    clear G
    have G := H
    replace H := H.only (i := 0) rfl
    apply ak_take (i := 14) rfl rfl rfl rfl (by kernel_rfl) (by with_reducible first | exact H | rfl)
    · intro w Q' HS hq; replace H := HS; clear HS; (apply ow_pick_t; (· rfl); (· rfl); (· ((conv => lhs; whnf) <;> rfl))); exact ow_nil hq
    apply ak_take (i := 15) rfl rfl rfl rfl (by kernel_rfl) (by with_reducible first | exact H | rfl)
    · intro w Q' HS hq; replace H := HS; clear HS; (apply ow_move; (· rfl); (· ((conv => lhs; whnf) <;> rfl))); exact ow_nil hq
    apply ak_take (i := 16) rfl rfl rfl rfl (by kernel_rfl) (by with_reducible first | exact H | rfl)
    · intro w Q' HS hq; replace H := HS; clear HS; refine ow_guard_yes rfl rfl rfl rfl ?_; (apply ow_move; (· rfl); (· ((conv => lhs; whnf) <;> rfl))); exact ow_nil hq
    apply ak_take (i := 17) rfl rfl rfl rfl (by kernel_rfl) (by with_reducible first | exact H | rfl)
    · intro w Q' HS hq; replace H := HS; clear HS; refine ow_guard_yes rfl rfl rfl rfl ?_; (apply ow_move; (· rfl); (· ((conv => lhs; whnf) <;> rfl))); exact ow_nil hq
    replace H := G
    clear G
    have G := H
    replace H := H.only (i := 0) rfl
    apply ak_take (i := 19) rfl rfl rfl rfl (by kernel_rfl) (by with_reducible first | exact H | rfl)
    · intro w Q' HS hq; replace H := HS; clear HS; refine ow_guard_yes rfl rfl rfl rfl ?_; (apply ow_move; (· rfl); (· ((conv => lhs; whnf) <;> rfl))); exact ow_nil hq
    replace H := G
    clear G
    apply ak_one (i := 18)
    · kernel_rfl
    · rfl
    · rfl
    refine ow_guard_yes rfl rfl rfl rfl ?_
    refine ow_call rfl rfl (ent (by kernel_rfl)) (CallsV.mono (hs100 _ (H.oldSl hs)) ?_) rfl
    rintro v w ⟨q1, c1, rfl, H'⟩
    replace H := H.call H'
    clear H'
    refine ow_nil ⟨fun _ => H.only (i := 1) rfl, ?_⟩
    apply ak_one (i := 20)
    · kernel_rfl
    · rfl
    · rfl
    refine ow_guard_yes rfl rfl rfl rfl ?_
    refine ow_call rfl rfl (ent (by kernel_rfl)) (CallsV.mono (sameInts_spec q1 qs _ _ _ _ al al rfl rfl (by omega) (by omega) _ (appOk.sl (H.cap (i := 0) rfl)) (appOk.sl (H.cap (i := 2) rfl))) ?_) rfl
    rintro v w ⟨rfl, H'⟩
    replace H : St Pu w0 w ([.row b6 77 (rfV x rows), .app qs al.length cs 3 1 (ints .i64 al)] ++ RR) [] := (H.call H').drop
    clear H'
    rw [decide_eq_true (rfl : al = al)]
    refine ow_nil ⟨fun _ => H.only (i := 0) rfl, ?_⟩
    have G := H
    replace H := H.only (i := 0) rfl
    apply ak_take (i := 21) rfl rfl rfl rfl (by kernel_rfl) (by with_reducible first | exact H | rfl)
    · intro w Q' HS hq; replace H := HS; clear HS; (apply ow_pick_t; (· rfl); (· rfl); (· ((conv => lhs; whnf) <;> rfl))); exact ow_nil hq
    apply ak_take (i := 22) rfl rfl rfl rfl (by kernel_rfl) (by with_reducible first | exact H | rfl)
    · intro w Q' HS hq; replace H := HS; clear HS; (apply ow_move; (· rfl); (· ((conv => lhs; whnf) <;> rfl))); exact ow_nil hq
    apply ak_take (i := 23) rfl rfl rfl rfl (by kernel_rfl) (by with_reducible first | exact H | rfl)
    · intro w Q' HS hq; replace H := HS; clear HS; refine ow_guard_yes rfl rfl rfl rfl ?_; (apply ow_move; (· rfl); (· ((conv => lhs; whnf) <;> rfl))); exact ow_nil hq
    apply ak_take (i := 24) rfl rfl rfl rfl (by kernel_rfl) (by with_reducible first | exact H | rfl)
    · intro w Q' HS hq; replace H := HS; clear HS; refine ow_guard_yes rfl rfl rfl rfl ?_; (apply ow_move; (· rfl); (· ((conv => lhs; whnf) <;> rfl))); exact ow_nil hq
    apply ak_take (i := 25) rfl rfl rfl rfl (by kernel_rfl) (by with_reducible first | exact H | rfl)
    · intro w Q' HS hq; replace H := HS; clear HS; refine ow_guard_yes rfl rfl rfl rfl ?_; (apply ow_move; (· rfl); (· ((conv => lhs; whnf) <;> rfl))); exact ow_nil hq
    apply ak_take (i := 26) rfl rfl rfl rfl (by kernel_rfl) (by with_reducible first | exact H | rfl)
    · intro w Q' HS hq; replace H := HS; clear HS; refine ow_guard_yes rfl rfl rfl rfl ?_; refine ow_and rfl rfl rfl ?_; exact ow_nil hq
    replace H := G
    clear G
    rw [show bw .and .i64 nn 15 = (k15 : Int) from ek15]
    have G := H
    replace H := H.only (i := 0) rfl
    apply ak_take (i := 28) rfl rfl rfl rfl (by kernel_rfl) (by with_reducible first | exact H | rfl)
    · intro w Q' HS hq; replace H := HS; clear HS; refine ow_guard_yes rfl rfl rfl rfl ?_; (apply ow_move; (· rfl); (· ((conv => lhs; whnf) <;> rfl))); exact ow_nil hq
    apply ak_take (i := 29) rfl rfl rfl rfl (by kernel_rfl) (by with_reducible first | exact H | rfl)
    · intro w Q' HS hq; replace H := HS; clear HS; refine ow_guard_yes rfl rfl rfl rfl ?_; (apply ow_move; (· rfl); (· ((conv => lhs; whnf) <;> rfl))); exact ow_nil hq
    replace H := G
    clear G
    have G := H
    replace H := H.only (i := 0) rfl
    apply ak_take (i := 30) rfl rfl rfl rfl (by kernel_rfl) (by with_reducible first | exact H | rfl)
    · intro w Q' HS hq; replace H := HS; clear HS; refine ow_guard_yes rfl rfl rfl rfl ?_; refine ow_sliceHi (m := min (k15 : Int) (al.length : Int)) rfl (tyAt rfl) rfl (tyAt rfl) rfl rfl (by omega) (by omega) ?_; exact ow_nil hq
    replace H := G
    clear G
    rw [hml]
    apply ak_one (i := 27)
    · kernel_rfl
    · rfl
    · rfl
    refine ow_guard_yes rfl rfl rfl rfl ?_
    refine ow_call rfl rfl (ent (by kernel_rfl)) (CallsV.mono (hs15 _ (H.oldSl hs)) ?_) rfl
    rintro v w ⟨q1, c1, rfl, H'⟩
    replace H := H.call H'
    clear H'
    refine ow_nil ⟨fun _ => H.only (i := 1) rfl, ?_⟩
    have hu := (appOk.sl (H.cap (i := 2) rfl)).subP (cap := cs) (sz := 1) (by simp; omega) 0 (min k15 al.length)
    rw [Nat.zero_mul, List.drop_zero, show (ints .i64 al).take (min k15 al.length) = ints .i64 (al.take k15) by rw [← hmin]; unfold ints; rw [List.map_take]] at hu
    apply ak_one (i := 31)
    · kernel_rfl
    · rfl
    · rfl
    refine ow_guard_yes rfl rfl rfl rfl ?_
    refine ow_call rfl rfl (ent (by kernel_rfl)) (CallsV.mono (sameInts_spec q1 (subP qs cs 0 1) _ _ _ _ (al.take k15) (al.take k15) rfl (by simp) (by rw [List.length_take]; omega) (by rw [List.length_take]; omega) _ (appOk.sl (H.cap (i := 0) rfl)) hu) ?_) rfl
    rintro v w ⟨rfl, H'⟩
    replace H : St Pu w0 w ([.row b6 77 (rfV x rows), .app qs al.length cs 3 1 (ints .i64 al)] ++ RR) [] := (H.call H').drop
    clear H' hu
    rw [decide_eq_true (rfl : al.take k15 = al.take k15)]
    refine ow_nil ⟨fun _ => H.only (i := 0) rfl, ?_⟩
    have G := H
    replace H := H.only (i := 0) rfl
    apply ak_take (i := 32) rfl rfl rfl rfl (by kernel_rfl) (by with_reducible first | exact H | rfl)
    · intro w Q' HS hq; replace H := HS; clear HS; (apply ow_pick_t; (· rfl); (· rfl); (· ((conv => lhs; whnf) <;> rfl))); exact ow_nil hq
    apply ak_take (i := 33) rfl rfl rfl rfl (by kernel_rfl) (by with_reducible first | exact H | rfl)
    · intro w Q' HS hq; replace H := HS; clear HS; (apply ow_assign; (· rfl); (· ((conv => lhs; whnf) <;> rfl))); exact ow_nil hq
    replace H := G
    clear G
    refine ak_done (by kernel_rfl) ?_
    skip
    refine wc_ret ?_
    obtain ⟨w, hT, H⟩ := H.takes Try.prog
    refine ⟨.inr rfl, w, hT, _, .tmp .nil, ?_⟩
    exact ⟨rfl, H.none⟩
end Go.Proofs.Ytgliblmpiilloaa
