/- The statement's function 'sandtablelaw10.PairingLists' returns true at every input, and changes nothing that was there. -/
import Derived.Test.YtgliblmpiilloaaN5
import Derived.Test.YtgliblmpiilloaaN9
import Derived.Test.YtgliblmpiilloaaN10
namespace Go.Proofs.Ytgliblmpiilloaa
set_option linter.all false
open Go Go.Sx Go.Proofs
set_option maxRecDepth 100000
set_option maxHeartbeats 2000000
theorem law10Lists (q q2 q3 : Option Addr) (cap cap2 cap3 : Nat) (ws : List Int) (ops : List OpA) (mate : List Int) (most : Int) (hm : ws.length ≤ 9223372036854775807) (hm2 : ops.length ≤ 9223372036854775807) (hm3 : mate.length ≤ 9223372036854775807) (w0 : World) (hq : SlH (hp w0) q (ints .i64 ws)) (hq2 : SlH (hp w0) q2 (ops.flatMap opA)) (hs : SlH (hp w0) q3 (ints .i64 mate)) :
    CallsV Try.prog 13 #[.slice q ws.length cap, .slice q2 ops.length cap2, .slice q3 mate.length cap3, .int .i64 most] w0 fun v w => v = .bool true ∧ St Pu w0 w [] [] := by
  refine callsV_of Try.func13 rfl rfl ?_
  obtain ⟨k15, hk15, ek15⟩ := and_mask most (m := 15) (by decide)
  refine wc_seq ?_
  refine wc_region ?_
  (apply ow_assign; (· rfl); (· ((conv => lhs; whnf) <;> rfl)))
  refine ow_nil ?_
  refine wc_seq ?_
  refine wc_seq ?_
  refine wc_region ?_
  refine ow_call rfl rfl (ent (by kernel_rfl)) (CallsV.mono (alive10 w0) ?_) rfl
  rintro v w ⟨rfl, H⟩
  refine ow_not rfl rfl ?_
  refine ow_nil ?_
  refine wc_cond_false rfl ?_
  refine wc_skip ?_
  refine wc_seq ?_
  refine wc_region ?_
  (apply ow_move; (· rfl); (· ((conv => lhs; whnf) <;> rfl)))
  (apply ow_move; (· rfl); (· ((conv => lhs; whnf) <;> rfl)))
  refine ow_call rfl rfl (ent (by kernel_rfl)) (CallsV.mono (build66_spec q q2 cap cap2 ws ops hm hm2 w (H.oldSl hq) (H.oldSl hq2)) ?_) rfl
  rintro v w (⟨rfl, _, H'⟩ | ⟨g, x, ms, rows, rfl, rfl, hxw, h30, hmay, hW, hn, _, hM, H'⟩)
  · replace H := H.call H'
    rw [List.nil_append] at H
    clear H'
    (apply ow_move; (· rfl); (· ((conv => lhs; whnf) <;> rfl)))
    refine ow_extract rfl rfl rfl ?_
    refine ow_extract rfl rfl rfl ?_
    refine ow_extract rfl rfl rfl ?_
    refine ow_alloc (l := [.slice none 0 0, .slice none 0 0]) H rfl (tyAt rfl) rfl (fun b6 w H => ?_)
    (apply ow_assign; (· rfl); (· ((conv => lhs; whnf) <;> rfl)))
    refine ow_storeA (i := 0) (o := 0) (l' := [.slice none 0 0, .slice none 0 0]) H (tyAt rfl) rfl rfl rfl rfl (by simp [Value.oneCell']) (by simp) (fun w H => ?_)
    (apply ow_assign; (· rfl); (· ((conv => lhs; whnf) <;> rfl)))
    refine ow_nil ?_
    refine wc_seq ?_
    refine wc_seq ?_
    refine wc_region ?_
    (apply ow_move; (· rfl); (· ((conv => lhs; whnf) <;> rfl)))
    refine ow_not rfl rfl ?_
    (apply ow_move; (· rfl); (· ((conv => lhs; whnf) <;> rfl)))
    refine ow_guard_no rfl rfl rfl rfl rfl rfl rfl ?_
    refine ow_guard_no rfl rfl rfl rfl rfl rfl rfl ?_
    refine ow_guard_no rfl rfl rfl rfl rfl rfl rfl ?_
    (apply ow_pick_t; (· rfl); (· rfl); (· ((conv => lhs; whnf) <;> rfl)))
    refine ow_nil ?_
    refine wc_cond_true rfl ?_
    refine wc_seq ?_
    refine wc_region ?_
    (apply ow_assign; (· rfl); (· ((conv => lhs; whnf) <;> rfl)))
    refine ow_nil ?_
    refine wc_ret ?_
    obtain ⟨w, hT, H⟩ := H.takes Try.prog
    refine ⟨.inr rfl, w, hT, _, .tmp .nil, ?_⟩
    exact ⟨rfl, H.none⟩
  replace H : St Pu w0 w (grC g ms ++ rfC x rows) [] := (H.call H').sub (List.sublist_append_left _ _)
  clear H'
  (apply ow_move; (· rfl); (· ((conv => lhs; whnf) <;> rfl)))
  refine ow_extract rfl rfl rfl ?_
  refine ow_extract rfl rfl rfl ?_
  refine ow_extract rfl rfl rfl ?_
  refine ow_alloc (l := [.slice none 0 0, .slice none 0 0]) H rfl (tyAt rfl) rfl (fun b6 w H => ?_)
  (apply ow_assign; (· rfl); (· ((conv => lhs; whnf) <;> rfl)))
  refine ow_storeA (i := 0) (o := 0) (l' := rfV x rows) H (tyAt rfl) rfl rfl rfl rfl (by simp [Value.oneCell']) (by simp) (fun w H => ?_)
  replace H : St Pu w0 w (.row b6 77 (rfV x rows) :: (grC g ms ++ rfC x rows)) [] := H
  have h4 : g.ws.length ≤ 4096 := by omega
  have hTl : (tb ms).length = g.ws.length := by rw [tb_len, hn]
  have hxl : (tb ms).length = x.ws.length := by rw [hTl, hxw]
  (apply ow_assign; (· rfl); (· ((conv => lhs; whnf) <;> rfl)))
  refine ow_nil ?_
  refine wc_seq ?_
  refine wc_seq ?_
  refine wc_region ?_
  (apply ow_move; (· rfl); (· ((conv => lhs; whnf) <;> rfl)))
  refine ow_not rfl rfl ?_
  (apply ow_move; (· rfl); (· ((conv => lhs; whnf) <;> rfl)))
  refine ow_guard_yes rfl rfl rfl rfl ?_
  (apply ow_move; (· rfl); (· ((conv => lhs; whnf) <;> rfl)))
  refine ow_guard_yes rfl rfl rfl rfl ?_
  refine ow_len rfl rfl (tyAt rfl) rfl ?_
  refine ow_guard_yes rfl rfl rfl rfl ?_
  refine ow_gtr rfl rfl rfl ?_
  (apply ow_pick_f; (· rfl); (· rfl); (· ((conv => lhs; whnf) <;> rfl)))
  refine ow_nil ?_
  refine wc_cond_dec rfl (fun h => ?_) (fun h => ?_) <;> try dsimp only at h
  · refine wc_seq ?_
    refine wc_region ?_
    (apply ow_assign; (· rfl); (· ((conv => lhs; whnf) <;> rfl)))
    refine ow_nil ?_
    refine wc_ret ?_
    obtain ⟨w, hT, H⟩ := H.takes Try.prog
    refine ⟨.inr rfl, w, hT, _, .tmp .nil, ?_⟩
    exact ⟨rfl, H.none⟩
  have h60 : mate.length ≤ 60 := by omega
  clear h
  have hGr : Gr (hp w) g ms := gr_of_ok fun c hc => okAll H c (List.mem_cons_of_mem _ (List.mem_append_left _ hc))
  have hRf : Rf (hp w) x rows := rf_of_ok fun c hc => okAll H c (List.mem_cons_of_mem _ (List.mem_append_right _ hc))
  have hvl : (heavyL (tb ms)).length ≤ 4096 := by rw [(heavy_hi hW).len, hTl]; exact h4
  refine wc_skip ?_
  refine wc_seq ?_
  refine wc_seq ?_
  refine wc_drawK (fun w => St Pu w0 w [.row b6 77 (rfV x rows)] []) 99 (by kernel_rfl) (by kernel_rfl) (by intro c e D w h; first | exact h.elim | (rcases h with ⟨h | h, _⟩ <;> cases h)) ?_
  replace H := H.drew
  have G := H
  replace H := H.only (i := 0) rfl
  apply ak_take (i := 0) rfl rfl rfl rfl (by kernel_rfl) (by with_reducible first | exact H | rfl)
  · intro w Q' HS hq; replace H := HS; clear HS; (apply ow_move; (· rfl); (· ((conv => lhs; whnf) <;> rfl))); exact ow_nil hq
  replace H := G
  clear G
  have G := H
  replace H := H.only (i := 0) rfl
  apply ak_take (i := 2) rfl rfl rfl rfl (by kernel_rfl) (by with_reducible first | exact H | rfl)
  · intro w Q' HS hq; replace H := HS; clear HS; refine ow_loadA (l := rfV x rows) rfl (tyAt rfl) rfl rfl rfl (H.cells (i := 0) (o := 0) (m := 2) rfl rfl) ?_; exact ow_nil hq
  replace H := G
  clear G
  apply ak_one (i := 1)
  · kernel_rfl
  · rfl
  · rfl
  refine ow_call rfl rfl (ent (by kernel_rfl)) (CallsV.mono (heavy_spec g ms hn h4 hW _ hGr) ?_) rfl
  rintro v w1 ⟨bm, rfl, H'⟩
  have hRf1 : Rf (hp w1) x rows := Rf.old H' hRf
  replace H := H.call H'
  clear H' hGr hRf
  refine ow_nil ⟨fun _ => H.only (i := 1) rfl, ?_⟩
  apply ak_one (i := 3)
  · kernel_rfl
  · rfl
  · rfl
  refine ow_call rfl rfl (ent (by kernel_rfl)) (CallsV.mono (refHeavy_spec (tb ms) x rows hW hxl (by omega) (by rw [hxw]; exact hM) _ hRf1) ?_) rfl
  rintro v w ⟨p2, c2, rfl, H'⟩
  replace H : St Pu w0 w [.app p2 (heavyL (tb ms)).length c2 3 1 (ints .i64 (heavyL (tb ms))), .row bm 3 (ints .i64 (heavyL (tb ms))), .row b6 77 (rfV x rows)] [] := (H.call H').sub (List.Sublist.cons_cons _ (List.Sublist.cons_cons _ (List.Sublist.cons_cons _ (List.nil_sublist _))))
  clear H' hRf1
  generalize heavyL (tb ms) = hv at *
  refine ow_nil ⟨fun _ => H.only (i := 2) rfl, ?_⟩
  apply ak_one (i := 4)
  · kernel_rfl
  · rfl
  · rfl
  refine ow_call rfl rfl (ent (by kernel_rfl)) (CallsV.mono (sameInts_spec (some ⟨bm, 0, none⟩) p2 _ _ _ _ hv hv rfl rfl (by omega) (by omega) _ (H.rowSl (i := 1) rfl) (appOk.sl (H.cap (i := 0) rfl))) ?_) rfl
  rintro v w ⟨rfl, H'⟩
  replace H : St Pu w0 w [.row b6 77 (rfV x rows)] [] := (H.call H').only (i := 2) rfl
  clear H'
  rw [decide_eq_true (rfl : hv = hv)]
  refine ow_nil ⟨fun _ => H, ?_⟩
  apply ak_take (i := 5) rfl rfl rfl rfl (by kernel_rfl) (by with_reducible first | exact H | rfl)
  · intro w Q' HS hq; replace H := HS; clear HS; refine ow_not rfl rfl ?_; exact ow_nil hq
  apply ak_take (i := 6) rfl rfl rfl rfl (by kernel_rfl) (by with_reducible first | exact H | rfl)
  · intro w Q' HS hq; replace H := HS; clear HS; (apply ow_move; (· rfl); (· ((conv => lhs; whnf) <;> rfl))); exact ow_nil hq
  apply ak_take (i := 7) rfl rfl rfl rfl (by kernel_rfl) (by with_reducible first | exact H | rfl)
  · intro w Q' HS hq; replace H := HS; clear HS; refine ow_guard_yes rfl rfl rfl rfl ?_; (apply ow_move; (· rfl); (· ((conv => lhs; whnf) <;> rfl))); exact ow_nil hq
  apply ak_take (i := 9) rfl rfl rfl rfl (by kernel_rfl) (by with_reducible first | exact H | rfl)
  · intro w Q' HS hq; replace H := HS; clear HS; refine ow_guard_yes rfl rfl rfl rfl ?_; (apply ow_move; (· rfl); (· ((conv => lhs; whnf) <;> rfl))); exact ow_nil hq
  apply ak_one (i := 8)
  · kernel_rfl
  · rfl
  · rfl
  refine ow_guard_yes rfl rfl rfl rfl ?_
  refine ow_call rfl rfl (ent (by kernel_rfl)) (CallsV.mono (right_spec q3 cap3 mate hm3 _ (H.oldSl hs)) ?_) rfl
  rintro v w' ⟨rfl, rfl⟩
  refine ow_nil ⟨fun _ => H, ?_⟩
  apply ak_one (i := 10)
  · kernel_rfl
  · rfl
  · rfl
  refine ow_guard_yes rfl rfl rfl rfl ?_
  refine ow_call rfl rfl (ent (by kernel_rfl)) (CallsV.mono (refRight_spec q3 cap3 mate hm3 _ (H.oldSl hs)) ?_) rfl
  rintro v w' ⟨rfl, rfl⟩
  refine ow_nil ⟨fun _ => H, ?_⟩
  apply ak_take (i := 11) rfl rfl rfl rfl (by kernel_rfl) (by with_reducible first | exact H | rfl)
  · intro w Q' HS hq; replace H := HS; clear HS; refine ow_guard_yes rfl rfl rfl rfl ?_; refine ow_neqb rfl rfl rfl (tyAt rfl) rfl ?_; exact ow_nil hq
  apply ak_take (i := 12) rfl rfl rfl rfl (by kernel_rfl) (by with_reducible first | exact H | rfl)
  · intro w Q' HS hq; replace H := HS; clear HS; (apply ow_pick_f; (· rfl); (· rfl); (· ((conv => lhs; whnf) <;> rfl))); exact ow_nil hq
  refine ak_done (by kernel_rfl) ?_
  rw [show (decide (RightP mate) != decide (RightP mate)) = false by simp]
  replace H := H.none
  have hpl : (prL mate).length ≤ mate.length := prU_len mate mate.length
  have htk : (prL mate).take (100 : Int).toNat = prL mate := List.take_of_length_le (by rw [show (100 : Int).toNat = 100 from rfl]; omega)
  refine wc_cond_false rfl ?_
  refine wc_skip ?_
  refine wc_seq ?_
  refine wc_region ?_
  (apply ow_move; (· rfl); (· ((conv => lhs; whnf) <;> rfl)))
  refine ow_call rfl rfl (ent (by kernel_rfl)) (CallsV.mono (pairsW_spec q3 cap3 mate 100 (by omega) _ (H.oldSl hs)) ?_) rfl
  rintro v w ⟨qa, ca, qb, cb, rfl, H'⟩
  rw [htk] at H' ⊢
  clear htk
  replace H := H.call H'
  clear H'
  simp only [List.cons_append, List.nil_append] at H
  (apply ow_move; (· rfl); (· ((conv => lhs; whnf) <;> rfl)))
  refine ow_extract rfl rfl rfl ?_
  refine ow_extract rfl rfl rfl ?_
  (apply ow_assign; (· rfl); (· ((conv => lhs; whnf) <;> rfl)))
  (apply ow_assign; (· rfl); (· ((conv => lhs; whnf) <;> rfl)))
  refine ow_nil ?_
  refine wc_seq ?_
  refine wc_region ?_
  (apply ow_move; (· rfl); (· ((conv => lhs; whnf) <;> rfl)))
  refine ow_call rfl rfl (ent (by kernel_rfl)) (CallsV.mono (refPairs_spec q3 cap3 mate (by omega) _ (H.oldSl hs)) ?_) rfl
  rintro v w ⟨qu, cu, qv, cv, rfl, H'⟩
  replace H := H.call H'
  clear H'
  simp only [List.cons_append, List.nil_append] at H
  (apply ow_move; (· rfl); (· ((conv => lhs; whnf) <;> rfl)))
  refine ow_extract rfl rfl rfl ?_
  refine ow_extract rfl rfl rfl ?_
  (apply ow_assign; (· rfl); (· ((conv => lhs; whnf) <;> rfl)))
  (apply ow_assign; (· rfl); (· ((conv => lhs; whnf) <;> rfl)))
  refine ow_nil ?_
  refine wc_seq ?_
  refine wc_region ?_
  (apply ow_assign; (· rfl); (· ((conv => lhs; whnf) <;> rfl)))
  refine ow_nil ?_
  refine wc_seq ?_
  refine wc_seq ?_
  refine wc_region ?_
  (apply ow_move; (· rfl); (· ((conv => lhs; whnf) <;> rfl)))
  refine ow_call rfl rfl (ent (by kernel_rfl)) (CallsV.mono (refRight_spec q3 cap3 mate hm3 _ (H.oldSl hs)) ?_) rfl
  rintro v w' ⟨rfl, rfl⟩
  have hw : appOk (hp w') qu (prL mate).length cu 3 1 (ints .i64 ((prL mate).map (·.1))) := H.cap (i := 1) rfl
  have hw2 : appOk (hp w') qv (prL mate).length cv 3 1 (ints .i64 ((prL mate).map (·.2))) := H.cap (i := 0) rfl
  have hcu := appOk.le hw
  have hcv := appOk.le hw2
  clear hw hw2
  by_cases hR : RightP mate
  · have hct : cntM mate = (mate.length : Int) - ((prL mate).length : Int) := if_pos hR
    rw [decide_eq_true hR]
    obtain ⟨ps, hps⟩ : ∃ ps, prL mate = ps := ⟨_, rfl⟩
    rw [hps] at H hpl hcu hcv ⊢
    try rw [hps] at hct
    have hmin : ps.take (min k15 ps.length) = ps.take k15 := by rw [← List.take_take, List.take_length]
    have hml : (min (k15 : Int) (ps.length : Int)).toNat = min k15 ps.length := by omega
    refine ow_nil ?_
    refine wc_cond_true rfl ?_
    refine wc_region ?_
    (apply ow_move; (· rfl); (· ((conv => lhs; whnf) <;> rfl)))
    refine ow_len rfl rfl (tyAt rfl) rfl ?_
    (apply ow_move; (· rfl); (· ((conv => lhs; whnf) <;> rfl)))
    refine ow_len rfl rfl (tyAt rfl) rfl ?_
    refine ow_sub rfl rfl rfl (by simp only [InK]; omega) ?_
    (apply ow_assign; (· rfl); (· ((conv => lhs; whnf) <;> rfl)))
    refine ow_nil ?_
    refine wc_seq ?_
    refine wc_region ?_
    (apply ow_move; (· rfl); (· ((conv => lhs; whnf) <;> rfl)))
    refine ow_and rfl rfl rfl ?_
    (apply ow_move; (· rfl); (· ((conv => lhs; whnf) <;> rfl)))
    refine ow_len rfl rfl (tyAt rfl) rfl ?_
    refine ow_min rfl rfl rfl ?_
    (apply ow_assign; (· rfl); (· ((conv => lhs; whnf) <;> rfl)))
    refine ow_nil ?_
    refine wc_seq ?_
    refine wc_region ?_
    (apply ow_move; (· rfl); (· ((conv => lhs; whnf) <;> rfl)))
    (apply ow_move; (· rfl); (· ((conv => lhs; whnf) <;> rfl)))
    refine ow_and rfl rfl rfl ?_
    rw [show bw .and .i64 most 15 = (k15 : Int) from ek15]
    refine ow_call rfl rfl (ent (by kernel_rfl)) (CallsV.mono (pairsW_spec q3 cap3 mate (k15 : Int) (by omega) _ (H.oldSl hs)) ?_) rfl
    rintro v w ⟨qc, cc, qd, cd, rfl, H'⟩
    replace H := H.call H'
    clear H'
    rw [Int.toNat_natCast, hps] at H ⊢
    simp only [List.cons_append, List.nil_append] at H
    (apply ow_move; (· rfl); (· ((conv => lhs; whnf) <;> rfl)))
    refine ow_extract rfl rfl rfl ?_
    refine ow_extract rfl rfl rfl ?_
    (apply ow_assign; (· rfl); (· ((conv => lhs; whnf) <;> rfl)))
    (apply ow_assign; (· rfl); (· ((conv => lhs; whnf) <;> rfl)))
    refine ow_nil ?_
    refine wc_seq ?_
    refine wc_region ?_
    (apply ow_move; (· rfl); (· ((conv => lhs; whnf) <;> rfl)))
    (apply ow_move; (· rfl); (· ((conv => lhs; whnf) <;> rfl)))
    refine ow_call rfl rfl (ent (by kernel_rfl)) (CallsV.mono (sameInts_spec qa qu _ _ _ _ (List.map (fun x : Int × Int => x.1) ps) (List.map (fun x : Int × Int => x.1) ps) (by simp) (by simp) (by first | omega | (simp only [List.length_map, List.length_take]; omega)) (by first | omega | (simp only [List.length_map, List.length_take]; omega)) _ (appOk.sl (H.cap (i := 5) rfl)) (appOk.sl (H.cap (i := 3) rfl))) ?_) rfl
    rintro v w ⟨rfl, H'⟩
    replace H := H.call H'
    rw [List.nil_append] at H
    clear H'
    rw [decide_eq_true (rfl : (List.map (fun x : Int × Int => x.1) ps) = (List.map (fun x : Int × Int => x.1) ps))]
    (apply ow_move; (· rfl); (· ((conv => lhs; whnf) <;> rfl)))
    refine ow_guard_yes rfl rfl rfl rfl ?_
    (apply ow_move; (· rfl); (· ((conv => lhs; whnf) <;> rfl)))
    refine ow_guard_yes rfl rfl rfl rfl ?_
    (apply ow_move; (· rfl); (· ((conv => lhs; whnf) <;> rfl)))
    refine ow_guard_yes rfl rfl rfl rfl ?_
    refine ow_call rfl rfl (ent (by kernel_rfl)) (CallsV.mono (sameInts_spec qb qv _ _ _ _ (List.map (fun x : Int × Int => x.2) ps) (List.map (fun x : Int × Int => x.2) ps) (by simp) (by simp) (by first | omega | (simp only [List.length_map, List.length_take]; omega)) (by first | omega | (simp only [List.length_map, List.length_take]; omega)) _ (appOk.sl (H.cap (i := 4) rfl)) (appOk.sl (H.cap (i := 2) rfl))) ?_) rfl
    rintro v w ⟨rfl, H'⟩
    replace H := H.call H'
    rw [List.nil_append] at H
    clear H'
    rw [decide_eq_true (rfl : (List.map (fun x : Int × Int => x.2) ps) = (List.map (fun x : Int × Int => x.2) ps))]
    (apply ow_pick_t; (· rfl); (· rfl); (· ((conv => lhs; whnf) <;> rfl)))
    (apply ow_move; (· rfl); (· ((conv => lhs; whnf) <;> rfl)))
    refine ow_guard_yes rfl rfl rfl rfl ?_
    (apply ow_move; (· rfl); (· ((conv => lhs; whnf) <;> rfl)))
    refine ow_guard_yes rfl rfl rfl rfl ?_
    (apply ow_move; (· rfl); (· ((conv => lhs; whnf) <;> rfl)))
    refine ow_guard_yes rfl rfl rfl rfl ?_
    (apply ow_move; (· rfl); (· ((conv => lhs; whnf) <;> rfl)))
    refine ow_guard_yes rfl rfl rfl rfl ?_
    refine ow_sliceHi (m := min (k15 : Int) (ps.length : Int)) rfl (tyAt rfl) rfl (tyAt rfl) rfl rfl (by omega) (by omega) ?_
    rw [hml]
    have hu := (appOk.sl (H.cap (i := 3) rfl)).subP (cap := cu) (sz := 1) (by simp; omega) 0 (min k15 ps.length)
    rw [Nat.zero_mul, List.drop_zero, show (ints .i64 (ps.map (·.1))).take (min k15 ps.length) = ints .i64 ((ps.take k15).map (·.1)) by rw [← hmin]; unfold ints; rw [List.map_take, List.map_take]] at hu
    refine ow_guard_yes rfl rfl rfl rfl ?_
    refine ow_call rfl rfl (ent (by kernel_rfl)) (CallsV.mono (sameInts_spec qc (subP qu cu 0 1) _ _ _ _ (List.map (fun x : Int × Int => x.1) (ps.take k15)) (List.map (fun x : Int × Int => x.1) (ps.take k15)) (by simp) (by simp) (by first | omega | (simp only [List.length_map, List.length_take]; omega)) (by first | omega | (simp only [List.length_map, List.length_take]; omega)) _ (appOk.sl (H.cap (i := 1) rfl)) hu) ?_) rfl
    rintro v w ⟨rfl, H'⟩
    replace H := H.call H'
    rw [List.nil_append] at H
    clear H'
    rw [decide_eq_true (rfl : (List.map (fun x : Int × Int => x.1) (ps.take k15)) = (List.map (fun x : Int × Int => x.1) (ps.take k15)))]
    (apply ow_pick_t; (· rfl); (· rfl); (· ((conv => lhs; whnf) <;> rfl)))
    (apply ow_move; (· rfl); (· ((conv => lhs; whnf) <;> rfl)))
    refine ow_guard_yes rfl rfl rfl rfl ?_
    (apply ow_move; (· rfl); (· ((conv => lhs; whnf) <;> rfl)))
    refine ow_guard_yes rfl rfl rfl rfl ?_
    (apply ow_move; (· rfl); (· ((conv => lhs; whnf) <;> rfl)))
    refine ow_guard_yes rfl rfl rfl rfl ?_
    (apply ow_move; (· rfl); (· ((conv => lhs; whnf) <;> rfl)))
    refine ow_guard_yes rfl rfl rfl rfl ?_
    clear hu
    refine ow_sliceHi (m := min (k15 : Int) (ps.length : Int)) rfl (tyAt rfl) rfl (tyAt rfl) rfl rfl (by omega) (by omega) ?_
    rw [hml]
    have hu := (appOk.sl (H.cap (i := 2) rfl)).subP (cap := cv) (sz := 1) (by simp; omega) 0 (min k15 ps.length)
    rw [Nat.zero_mul, List.drop_zero, show (ints .i64 (ps.map (·.2))).take (min k15 ps.length) = ints .i64 ((ps.take k15).map (·.2)) by rw [← hmin]; unfold ints; rw [List.map_take, List.map_take]] at hu
    refine ow_guard_yes rfl rfl rfl rfl ?_
    refine ow_call rfl rfl (ent (by kernel_rfl)) (CallsV.mono (sameInts_spec qd (subP qv cv 0 1) _ _ _ _ (List.map (fun x : Int × Int => x.2) (ps.take k15)) (List.map (fun x : Int × Int => x.2) (ps.take k15)) (by simp) (by simp) (by first | omega | (simp only [List.length_map, List.length_take]; omega)) (by first | omega | (simp only [List.length_map, List.length_take]; omega)) _ (appOk.sl (H.cap (i := 0) rfl)) hu) ?_) rfl
    rintro v w ⟨rfl, H'⟩
    replace H := H.call H'
    rw [List.nil_append] at H
    clear H'
    rw [decide_eq_true (rfl : (List.map (fun x : Int × Int => x.2) (ps.take k15)) = (List.map (fun x : Int × Int => x.2) (ps.take k15)))]
    (apply ow_pick_t; (· rfl); (· rfl); (· ((conv => lhs; whnf) <;> rfl)))
    (apply ow_move; (· rfl); (· ((conv => lhs; whnf) <;> rfl)))
    refine ow_guard_yes rfl rfl rfl rfl ?_
    (apply ow_move; (· rfl); (· ((conv => lhs; whnf) <;> rfl)))
    refine ow_guard_yes rfl rfl rfl rfl ?_
    refine ow_call rfl rfl (ent (by kernel_rfl)) (CallsV.mono (count_spec q3 cap3 mate (by omega) _ (H.oldSl hs)) ?_) rfl
    rintro v w ⟨rfl, H'⟩
    replace H := H.call H'
    clear H'
    rw [hct]
    refine ow_guard_yes rfl rfl rfl rfl ?_
    (apply ow_move; (· rfl); (· ((conv => lhs; whnf) <;> rfl)))
    refine ow_guard_yes rfl rfl rfl rfl ?_
    refine ow_eql rfl rfl rfl ?_
    (apply ow_pick_t; (· rfl); (· rfl); (· ((conv => lhs; whnf) <;> rfl)))
    (apply ow_assign; (· rfl); (· ((conv => lhs; whnf) <;> rfl)))
    refine ow_nil ?_
    refine wc_ret ?_
    obtain ⟨w, hT, H⟩ := H.takes Try.prog
    refine ⟨.inr rfl, w, hT, _, .tmp .nil, ?_⟩
    exact ⟨congrArg Value.bool (decide_eq_true rfl), H.none⟩
  · have hct : cntM mate = 0 := if_neg hR
    rw [decide_eq_false hR]
    obtain ⟨ps, hps⟩ : ∃ ps, prL mate = ps := ⟨_, rfl⟩
    rw [hps] at H hpl hcu hcv ⊢
    try rw [hps] at hct
    have hmin : ps.take (min k15 ps.length) = ps.take k15 := by rw [← List.take_take, List.take_length]
    have hml : (min (k15 : Int) (ps.length : Int)).toNat = min k15 ps.length := by omega
    refine ow_nil ?_
    refine wc_cond_false rfl ?_
    refine wc_skip ?_
    refine wc_seq ?_
    refine wc_region ?_
    (apply ow_move; (· rfl); (· ((conv => lhs; whnf) <;> rfl)))
    refine ow_and rfl rfl rfl ?_
    (apply ow_move; (· rfl); (· ((conv => lhs; whnf) <;> rfl)))
    refine ow_len rfl rfl (tyAt rfl) rfl ?_
    refine ow_min rfl rfl rfl ?_
    (apply ow_assign; (· rfl); (· ((conv => lhs; whnf) <;> rfl)))
    refine ow_nil ?_
    refine wc_seq ?_
    refine wc_region ?_
    (apply ow_move; (· rfl); (· ((conv => lhs; whnf) <;> rfl)))
    (apply ow_move; (· rfl); (· ((conv => lhs; whnf) <;> rfl)))
    refine ow_and rfl rfl rfl ?_
    rw [show bw .and .i64 most 15 = (k15 : Int) from ek15]
    refine ow_call rfl rfl (ent (by kernel_rfl)) (CallsV.mono (pairsW_spec q3 cap3 mate (k15 : Int) (by omega) _ (H.oldSl hs)) ?_) rfl
    rintro v w ⟨qc, cc, qd, cd, rfl, H'⟩
    replace H := H.call H'
    clear H'
    rw [Int.toNat_natCast, hps] at H ⊢
    simp only [List.cons_append, List.nil_append] at H
    (apply ow_move; (· rfl); (· ((conv => lhs; whnf) <;> rfl)))
    refine ow_extract rfl rfl rfl ?_
    refine ow_extract rfl rfl rfl ?_
    (apply ow_assign; (· rfl); (· ((conv => lhs; whnf) <;> rfl)))
    (apply ow_assign; (· rfl); (· ((conv => lhs; whnf) <;> rfl)))
    refine ow_nil ?_
    refine wc_seq ?_
    refine wc_region ?_
    (apply ow_move; (· rfl); (· ((conv => lhs; whnf) <;> rfl)))
    (apply ow_move; (· rfl); (· ((conv => lhs; whnf) <;> rfl)))
    refine ow_call rfl rfl (ent (by kernel_rfl)) (CallsV.mono (sameInts_spec qa qu _ _ _ _ (List.map (fun x : Int × Int => x.1) ps) (List.map (fun x : Int × Int => x.1) ps) (by simp) (by simp) (by first | omega | (simp only [List.length_map, List.length_take]; omega)) (by first | omega | (simp only [List.length_map, List.length_take]; omega)) _ (appOk.sl (H.cap (i := 5) rfl)) (appOk.sl (H.cap (i := 3) rfl))) ?_) rfl
    rintro v w ⟨rfl, H'⟩
    replace H := H.call H'
    rw [List.nil_append] at H
    clear H'
    rw [decide_eq_true (rfl : (List.map (fun x : Int × Int => x.1) ps) = (List.map (fun x : Int × Int => x.1) ps))]
    (apply ow_move; (· rfl); (· ((conv => lhs; whnf) <;> rfl)))
    refine ow_guard_yes rfl rfl rfl rfl ?_
    (apply ow_move; (· rfl); (· ((conv => lhs; whnf) <;> rfl)))
    refine ow_guard_yes rfl rfl rfl rfl ?_
    (apply ow_move; (· rfl); (· ((conv => lhs; whnf) <;> rfl)))
    refine ow_guard_yes rfl rfl rfl rfl ?_
    refine ow_call rfl rfl (ent (by kernel_rfl)) (CallsV.mono (sameInts_spec qb qv _ _ _ _ (List.map (fun x : Int × Int => x.2) ps) (List.map (fun x : Int × Int => x.2) ps) (by simp) (by simp) (by first | omega | (simp only [List.length_map, List.length_take]; omega)) (by first | omega | (simp only [List.length_map, List.length_take]; omega)) _ (appOk.sl (H.cap (i := 4) rfl)) (appOk.sl (H.cap (i := 2) rfl))) ?_) rfl
    rintro v w ⟨rfl, H'⟩
    replace H := H.call H'
    rw [List.nil_append] at H
    clear H'
    rw [decide_eq_true (rfl : (List.map (fun x : Int × Int => x.2) ps) = (List.map (fun x : Int × Int => x.2) ps))]
    (apply ow_pick_t; (· rfl); (· rfl); (· ((conv => lhs; whnf) <;> rfl)))
    (apply ow_move; (· rfl); (· ((conv => lhs; whnf) <;> rfl)))
    refine ow_guard_yes rfl rfl rfl rfl ?_
    (apply ow_move; (· rfl); (· ((conv => lhs; whnf) <;> rfl)))
    refine ow_guard_yes rfl rfl rfl rfl ?_
    (apply ow_move; (· rfl); (· ((conv => lhs; whnf) <;> rfl)))
    refine ow_guard_yes rfl rfl rfl rfl ?_
    (apply ow_move; (· rfl); (· ((conv => lhs; whnf) <;> rfl)))
    refine ow_guard_yes rfl rfl rfl rfl ?_
    refine ow_sliceHi (m := min (k15 : Int) (ps.length : Int)) rfl (tyAt rfl) rfl (tyAt rfl) rfl rfl (by omega) (by omega) ?_
    rw [hml]
    have hu := (appOk.sl (H.cap (i := 3) rfl)).subP (cap := cu) (sz := 1) (by simp; omega) 0 (min k15 ps.length)
    rw [Nat.zero_mul, List.drop_zero, show (ints .i64 (ps.map (·.1))).take (min k15 ps.length) = ints .i64 ((ps.take k15).map (·.1)) by rw [← hmin]; unfold ints; rw [List.map_take, List.map_take]] at hu
    refine ow_guard_yes rfl rfl rfl rfl ?_
    refine ow_call rfl rfl (ent (by kernel_rfl)) (CallsV.mono (sameInts_spec qc (subP qu cu 0 1) _ _ _ _ (List.map (fun x : Int × Int => x.1) (ps.take k15)) (List.map (fun x : Int × Int => x.1) (ps.take k15)) (by simp) (by simp) (by first | omega | (simp only [List.length_map, List.length_take]; omega)) (by first | omega | (simp only [List.length_map, List.length_take]; omega)) _ (appOk.sl (H.cap (i := 1) rfl)) hu) ?_) rfl
    rintro v w ⟨rfl, H'⟩
    replace H := H.call H'
    rw [List.nil_append] at H
    clear H'
    rw [decide_eq_true (rfl : (List.map (fun x : Int × Int => x.1) (ps.take k15)) = (List.map (fun x : Int × Int => x.1) (ps.take k15)))]
    (apply ow_pick_t; (· rfl); (· rfl); (· ((conv => lhs; whnf) <;> rfl)))
    (apply ow_move; (· rfl); (· ((conv => lhs; whnf) <;> rfl)))
    refine ow_guard_yes rfl rfl rfl rfl ?_
    (apply ow_move; (· rfl); (· ((conv => lhs; whnf) <;> rfl)))
    refine ow_guard_yes rfl rfl rfl rfl ?_
    (apply ow_move; (· rfl); (· ((conv => lhs; whnf) <;> rfl)))
    refine ow_guard_yes rfl rfl rfl rfl ?_
    (apply ow_move; (· rfl); (· ((conv => lhs; whnf) <;> rfl)))
    refine ow_guard_yes rfl rfl rfl rfl ?_
    clear hu
    refine ow_sliceHi (m := min (k15 : Int) (ps.length : Int)) rfl (tyAt rfl) rfl (tyAt rfl) rfl rfl (by omega) (by omega) ?_
    rw [hml]
    have hu := (appOk.sl (H.cap (i := 2) rfl)).subP (cap := cv) (sz := 1) (by simp; omega) 0 (min k15 ps.length)
    rw [Nat.zero_mul, List.drop_zero, show (ints .i64 (ps.map (·.2))).take (min k15 ps.length) = ints .i64 ((ps.take k15).map (·.2)) by rw [← hmin]; unfold ints; rw [List.map_take, List.map_take]] at hu
    refine ow_guard_yes rfl rfl rfl rfl ?_
    refine ow_call rfl rfl (ent (by kernel_rfl)) (CallsV.mono (sameInts_spec qd (subP qv cv 0 1) _ _ _ _ (List.map (fun x : Int × Int => x.2) (ps.take k15)) (List.map (fun x : Int × Int => x.2) (ps.take k15)) (by simp) (by simp) (by first | omega | (simp only [List.length_map, List.length_take]; omega)) (by first | omega | (simp only [List.length_map, List.length_take]; omega)) _ (appOk.sl (H.cap (i := 0) rfl)) hu) ?_) rfl
    rintro v w ⟨rfl, H'⟩
    replace H := H.call H'
    rw [List.nil_append] at H
    clear H'
    rw [decide_eq_true (rfl : (List.map (fun x : Int × Int => x.2) (ps.take k15)) = (List.map (fun x : Int × Int => x.2) (ps.take k15)))]
    (apply ow_pick_t; (· rfl); (· rfl); (· ((conv => lhs; whnf) <;> rfl)))
    (apply ow_move; (· rfl); (· ((conv => lhs; whnf) <;> rfl)))
    refine ow_guard_yes rfl rfl rfl rfl ?_
    (apply ow_move; (· rfl); (· ((conv => lhs; whnf) <;> rfl)))
    refine ow_guard_yes rfl rfl rfl rfl ?_
    refine ow_call rfl rfl (ent (by kernel_rfl)) (CallsV.mono (count_spec q3 cap3 mate (by omega) _ (H.oldSl hs)) ?_) rfl
    rintro v w ⟨rfl, H'⟩
    replace H := H.call H'
    clear H'
    rw [hct]
    refine ow_guard_yes rfl rfl rfl rfl ?_
    (apply ow_move; (· rfl); (· ((conv => lhs; whnf) <;> rfl)))
    refine ow_guard_yes rfl rfl rfl rfl ?_
    refine ow_eql rfl rfl rfl ?_
    (apply ow_pick_t; (· rfl); (· rfl); (· ((conv => lhs; whnf) <;> rfl)))
    (apply ow_assign; (· rfl); (· ((conv => lhs; whnf) <;> rfl)))
    refine ow_nil ?_
    refine wc_ret ?_
    obtain ⟨w, hT, H⟩ := H.takes Try.prog
    refine ⟨.inr rfl, w, hT, _, .tmp .nil, ?_⟩
    exact ⟨congrArg Value.bool (decide_eq_true rfl), H.none⟩
end Go.Proofs.Ytgliblmpiilloaa
