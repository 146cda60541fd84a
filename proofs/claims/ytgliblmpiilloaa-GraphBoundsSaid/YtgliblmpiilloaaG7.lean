/- The statement's function 'sandtablelaw08.GraphBounds' returns true at every input, and changes nothing that was there. -/
import Derived.Test.YtgliblmpiilloaaG6
namespace Go.Proofs.Ytgliblmpiilloaa
set_option linter.all false
open Go Go.Sx Go.Proofs
set_option maxRecDepth 100000
set_option maxHeartbeats 2000000
theorem row_nil (n : Nat) (a : Int) : rowT (List.replicate n []) a = [] := by
  unfold rowT
  split
  · rw [List.getD_eq_getElem?_getD, List.getElem?_replicate]; split <;> rfl
  · rfl
theorem btw_nil (n : Nat) (a b : Int) : btw (List.replicate n []) a b = 0 := by unfold btw; rw [row_nil]; rfl
theorem deg_nil (n : Nat) (a : Int) : degT (List.replicate n []) a = 0 := by unfold degT; rw [row_nil]; rfl
theorem joinN_bad {T : List IE} {n : Nat} {a b z : Int} (h : ¬ (inR n a ∧ inR n b ∧ a ≠ b)) : joinN T n a b z = (1, T) := by unfold joinN; rw [if_neg h]
theorem joinN_far {T : List IE} {n : Nat} {a b z : Int} (h : inR n a ∧ inR n b ∧ a ≠ b) (hz : ¬ (mayW z ∧ mayW (btw T a b + z))) : joinN T n a b z = (23, T) := by unfold joinN; rw [if_pos h, if_neg hz]
theorem joinN_ok {T : List IE} {n : Nat} {a b z : Int} (h : inR n a ∧ inR n b ∧ a ≠ b) (hz : mayW z ∧ mayW (btw T a b + z)) : joinN T n a b z = (0, joinT T a.toNat b.toNat (btw T a b + z)) := by unfold joinN; rw [if_pos h, if_pos hz]
theorem law08Bounds (q : Option Addr) (cap : Nat) (ws : List Int) (a b z : Int) (hm : ws.length ≤ 9223372036854775807) (hz64 : I64 z) (w0 : World) (hq : SlH (hp w0) q (ints .i64 ws)) :
    CallsV Try.prog 10 #[.slice q ws.length cap, .int .i64 a, .int .i64 b, .int .i64 z] w0 fun v w => v = .bool true ∧ St Pu w0 w [] [] := by
  refine callsV_of Try.func10 rfl rfl ?_
  refine wc_seq ?_
  refine wc_region ?_
  (apply ow_assign; (· rfl); (· ((conv => lhs; whnf) <;> rfl)))
  refine ow_nil ?_
  refine wc_seq ?_
  refine wc_seq ?_
  refine wc_region ?_
  refine ow_call rfl rfl (ent (by kernel_rfl)) (CallsV.mono (alive08 w0) ?_) rfl
  rintro v w ⟨rfl, H⟩
  refine ow_not rfl rfl ?_
  refine ow_nil ?_
  refine wc_cond_false rfl ?_
  refine wc_skip ?_
  refine wc_seq ?_
  refine wc_seq ?_
  refine wc_region ?_
  (apply ow_move; (· rfl); (· ((conv => lhs; whnf) <;> rfl)))
  refine ow_len rfl rfl (tyAt rfl) rfl ?_
  refine ow_gtr rfl rfl rfl ?_
  (apply ow_move; (· rfl); (· ((conv => lhs; whnf) <;> rfl)))
  refine ow_guard_dec rfl rfl rfl (fun h => ?_) (fun h => ?_) <;> try dsimp only at h
  · refine ow_guard_no rfl rfl rfl rfl rfl rfl rfl ?_
    refine ow_guard_no rfl rfl rfl rfl rfl rfl rfl ?_
    refine ow_guard_no rfl rfl rfl rfl rfl rfl rfl ?_
    (apply ow_pick_t; (· rfl); (· rfl); (· ((conv => lhs; whnf) <;> rfl)))
    refine ow_nil ?_
    refine wc_cond_true rfl ?_
    refine wc_seq ?_
    refine wc_region ?_
    (apply ow_assign; (· rfl); (· ((conv => lhs; whnf) <;> rfl)))
    refine ow_nil ?_
    refine wc_ret ?_
    obtain ⟨w, hT, H⟩ := H.takes Try.prog
    refine ⟨.inr rfl, w, hT, _, .tmp .nil, ?_⟩
    exact ⟨rfl, H⟩
  have h30 : ws.length ≤ 30 := by omega
  clear h
  refine ow_guard_yes rfl rfl rfl rfl ?_
  (apply ow_move; (· rfl); (· ((conv => lhs; whnf) <;> rfl)))
  refine ow_guard_yes rfl rfl rfl rfl ?_
  refine ow_len rfl rfl (tyAt rfl) rfl ?_
  refine ow_guard_yes rfl rfl rfl rfl ?_
  refine ow_lss rfl rfl rfl ?_
  (apply ow_pick_f; (· rfl); (· rfl); (· ((conv => lhs; whnf) <;> rfl)))
  refine ow_nil ?_
  refine wc_cond_dec rfl (fun h => ?_) (fun h => ?_) <;> try dsimp only at h
  · refine wc_seq ?_
    refine wc_region ?_
    (apply ow_assign; (· rfl); (· ((conv => lhs; whnf) <;> rfl)))
    refine ow_nil ?_
    refine wc_ret ?_
    obtain ⟨w, hT, H⟩ := H.takes Try.prog
    refine ⟨.inr rfl, w, hT, _, .tmp .nil, ?_⟩
    exact ⟨rfl, H⟩
  have h2 : 2 ≤ ws.length := by omega
  clear h
  refine wc_skip ?_
  refine wc_seq ?_
  refine wc_region ?_
  (apply ow_move; (· rfl); (· ((conv => lhs; whnf) <;> rfl)))
  refine ow_call rfl rfl (ent (by kernel_rfl)) (CallsV.mono (new_spec q cap ws hm w (H.oldSl hq)) ?_) rfl
  rintro v w (⟨_, h, _⟩ | ⟨rfl, _, _, H'⟩ | ⟨⟨gb, pw, cw, pn, cn, ws'⟩, ms, rfl, hgw, h4, hmay, htb, H'⟩)
  · omega
  · replace H := H.call H'
    rw [List.nil_append] at H
    (apply ow_move; (· rfl); (· ((conv => lhs; whnf) <;> rfl)))
    refine ow_extract rfl rfl rfl ?_
    refine ow_extract rfl rfl rfl ?_
    (apply ow_assign; (· rfl); (· ((conv => lhs; whnf) <;> rfl)))
    (apply ow_assign; (· rfl); (· ((conv => lhs; whnf) <;> rfl)))
    refine ow_nil ?_
    refine wc_seq ?_
    refine wc_seq ?_
    refine wc_region ?_
    (apply ow_move; (· rfl); (· ((conv => lhs; whnf) <;> rfl)))
    refine ow_neq rfl rfl rfl ?_
    refine ow_nil ?_
    refine wc_cond_true rfl ?_
    refine wc_seq ?_
    refine wc_region ?_
    (apply ow_move; (· rfl); (· ((conv => lhs; whnf) <;> rfl)))
    refine ow_eqlPn rfl rfl rfl (tyAt rfl) rfl ?_
    (apply ow_assign; (· rfl); (· ((conv => lhs; whnf) <;> rfl)))
    refine ow_nil ?_
    refine wc_ret ?_
    obtain ⟨w, hT, H⟩ := H.takes Try.prog
    refine ⟨.inr rfl, w, hT, _, .tmp .nil, ?_⟩
    exact ⟨rfl, H⟩
  dsimp only at hgw
  have hgw2 := hgw.symm
  subst hgw2
  replace H := H.call H'
  clear H'
  obtain ⟨n, hN⟩ : ∃ n, ws.length = n := ⟨_, rfl⟩
  obtain ⟨T, hT⟩ : ∃ T, List.replicate n ([] : IE) = T := ⟨_, rfl⟩
  have hb0 : ∀ x y, btw T x y = 0 := fun x y => by rw [← hT]; exact btw_nil n x y
  have hd0 : ∀ x, degT T x = 0 := fun x => by rw [← hT]; exact deg_nil n x
  have hTl : T.length = ws.length := by rw [← hT, List.length_replicate, hN]
  rw [hN, hT] at htb
  have hW : Wf (tb ms) := by rw [htb, ← hT]; exact wf_nil n
  have hn : ms.length = (GX.mk gb pw cw pn cn ws).ws.length := ms_len (by rw [htb, hTl])
  obtain ⟨ka, hka, eka⟩ := and_mask a (m := 255) (by decide)
  obtain ⟨kb, hkb, ekb⟩ := and_mask b (m := 255) (by decide)
  (apply ow_move; (· rfl); (· ((conv => lhs; whnf) <;> rfl)))
  refine ow_extract rfl rfl rfl ?_
  refine ow_extract rfl rfl rfl ?_
  (apply ow_assign; (· rfl); (· ((conv => lhs; whnf) <;> rfl)))
  (apply ow_assign; (· rfl); (· ((conv => lhs; whnf) <;> rfl)))
  refine ow_nil ?_
  refine wc_seq ?_
  refine wc_seq ?_
  refine wc_region ?_
  (apply ow_move; (· rfl); (· ((conv => lhs; whnf) <;> rfl)))
  refine ow_neq rfl rfl rfl ?_
  refine ow_nil ?_
  refine wc_cond_false rfl ?_
  refine wc_skip ?_
  refine wc_seq ?_
  refine wc_region ?_
  (apply ow_move; (· rfl); (· ((conv => lhs; whnf) <;> rfl)))
  refine ow_len rfl rfl (tyAt rfl) rfl ?_
  (apply ow_assign; (· rfl); (· ((conv => lhs; whnf) <;> rfl)))
  refine ow_nil ?_
  refine wc_seq ?_
  rw [hN]
  skip
  refine wc_drawK (fun w => St Pu w0 w (grC ⟨gb, pw, cw, pn, cn, ws⟩ ms ++ []) []) 99 (by kernel_rfl) (by kernel_rfl) (by intro c e D w h; first | exact h.elim | (rcases h with ⟨h | h, _⟩ <;> cases h)) ?_
  replace H := H.drew
  apply ak_take (i := 0) rfl rfl rfl rfl (by kernel_rfl) (by with_reducible first | exact H | rfl)
  · intro w Q' HS hq; replace H := HS; clear HS; (apply ow_move; (· rfl); (· ((conv => lhs; whnf) <;> rfl))); exact ow_nil hq
  apply ak_take (i := 1) rfl rfl rfl rfl (by kernel_rfl) (by with_reducible first | exact H | rfl)
  · intro w Q' HS hq; replace H := HS; clear HS; refine ow_and rfl rfl rfl ?_; exact ow_nil hq
  rw [show bw .and .i64 a 255 = (ka : Int) from eka]
  apply ak_take (i := 2) rfl rfl rfl rfl (by kernel_rfl) (by with_reducible first | exact H | rfl)
  · intro w Q' HS hq; replace H := HS; clear HS; (apply ow_move; (· rfl); (· ((conv => lhs; whnf) <;> rfl))); exact ow_nil hq
  apply ak_take (i := 3) rfl rfl rfl rfl (by kernel_rfl) (by with_reducible first | exact H | rfl)
  · intro w Q' HS hq; replace H := HS; clear HS; refine ow_rem rfl rfl rfl (by omega) (by omega) ?_; exact ow_nil hq
  apply ak_take (i := 4) rfl rfl rfl rfl (by kernel_rfl) (by with_reducible first | exact H | rfl)
  · intro w Q' HS hq; replace H := HS; clear HS; (apply ow_move; (· rfl); (· ((conv => lhs; whnf) <;> rfl))); exact ow_nil hq
  apply ak_take (i := 5) rfl rfl rfl rfl (by kernel_rfl) (by with_reducible first | exact H | rfl)
  · intro w Q' HS hq; replace H := HS; clear HS; refine ow_and rfl rfl rfl ?_; exact ow_nil hq
  rw [show bw .and .i64 b 255 = (kb : Int) from ekb]
  apply ak_take (i := 6) rfl rfl rfl rfl (by kernel_rfl) (by with_reducible first | exact H | rfl)
  · intro w Q' HS hq; replace H := HS; clear HS; (apply ow_move; (· rfl); (· ((conv => lhs; whnf) <;> rfl))); exact ow_nil hq
  apply ak_take (i := 7) rfl rfl rfl rfl (by kernel_rfl) (by with_reducible first | exact H | rfl)
  · intro w Q' HS hq; replace H := HS; clear HS; refine ow_rem rfl rfl rfl (by omega) (by omega) ?_; exact ow_nil hq
  apply ak_take (i := 8) rfl rfl rfl rfl (by kernel_rfl) (by with_reducible first | exact H | rfl)
  · intro w Q' HS hq; replace H := HS; clear HS; (apply ow_assign; (· rfl); (· ((conv => lhs; whnf) <;> rfl))); exact ow_nil hq
  apply ak_take (i := 9) rfl rfl rfl rfl (by kernel_rfl) (by with_reducible first | exact H | rfl)
  · intro w Q' HS hq; replace H := HS; clear HS; (apply ow_assign; (· rfl); (· ((conv => lhs; whnf) <;> rfl))); exact ow_nil hq
  refine ak_done (by kernel_rfl) ?_
  rw [← Int.natCast_emod ka n, ← Int.natCast_emod kb n]
  have hA : ka % n < n := Nat.mod_lt _ (by omega)
  have hB : kb % n < n := Nat.mod_lt _ (by omega)
  generalize ka % n = A at hA ⊢
  generalize kb % n = B at hB ⊢
  have iA : inR ws.length (A : Int) := ⟨by omega, by omega⟩
  have iB : inR ws.length (B : Int) := ⟨by omega, by omega⟩
  refine wc_seq ?_
  refine wc_seq ?_
  refine wc_region ?_
  (apply ow_move; (· rfl); (· ((conv => lhs; whnf) <;> rfl)))
  (apply ow_move; (· rfl); (· ((conv => lhs; whnf) <;> rfl)))
  (apply ow_move; (· rfl); (· ((conv => lhs; whnf) <;> rfl)))
  refine ow_call rfl rfl (ent (by kernel_rfl)) (CallsV.mono (join_gspec ⟨gb, pw, cw, pn, cn, ws⟩ ms (A : Int) (A : Int) 1 hn h4 hW _ H.begin) ?_) rfl
  rintro v w ⟨rfl, ms', htb', H'⟩
  replace H := H.callC (fun _ h => h) H'
  clear H'
  have hlT : (tb ms).length = (GX.mk gb pw cw pn cn ws).ws.length := by rw [htb]; exact hTl
  have hW' := (joinN_wf hW hlT (A : Int) (A : Int) 1).1
  rw [← htb'] at hW'
  have hn' : ms'.length = (GX.mk gb pw cw pn cn ws).ws.length := ms_len (by rw [htb']; exact (joinN_wf hW hlT (A : Int) (A : Int) 1).2)
  clear hlT
  rw [htb] at htb' ⊢
  rw [joinN_bad (fun h => h.2.2 rfl)] at htb' ⊢
  dsimp only at htb' ⊢
  clear hW hn htb
  obtain ⟨ms, rfl⟩ : ∃ m, m = ms' := ⟨_, rfl⟩
  have hW := hW'
  have hn := hn'
  have htb := htb'
  clear hW' hn' htb'
  refine ow_neq rfl rfl rfl ?_
  (apply ow_move; (· rfl); (· ((conv => lhs; whnf) <;> rfl)))
  refine ow_guard_yes rfl rfl rfl rfl ?_
  (apply ow_move; (· rfl); (· ((conv => lhs; whnf) <;> rfl)))
  refine ow_guard_yes rfl rfl rfl rfl ?_
  (apply ow_move; (· rfl); (· ((conv => lhs; whnf) <;> rfl)))
  refine ow_guard_yes rfl rfl rfl rfl ?_
  (apply ow_move; (· rfl); (· ((conv => lhs; whnf) <;> rfl)))
  refine ow_guard_yes rfl rfl rfl rfl ?_
  refine ow_call rfl rfl (ent (by kernel_rfl)) (CallsV.mono (join_gspec ⟨gb, pw, cw, pn, cn, ws⟩ ms (A : Int) (n : Int) 1 hn h4 hW _ H.begin) ?_) rfl
  rintro v w ⟨rfl, ms', htb', H'⟩
  replace H := H.callC (fun _ h => h) H'
  clear H'
  have hlT : (tb ms).length = (GX.mk gb pw cw pn cn ws).ws.length := by rw [htb]; exact hTl
  have hW' := (joinN_wf hW hlT (A : Int) (n : Int) 1).1
  rw [← htb'] at hW'
  have hn' : ms'.length = (GX.mk gb pw cw pn cn ws).ws.length := ms_len (by rw [htb']; exact (joinN_wf hW hlT (A : Int) (n : Int) 1).2)
  clear hlT
  rw [htb] at htb' ⊢
  rw [joinN_bad (fun h => absurd h.2.1.2 (by dsimp only; omega))] at htb' ⊢
  dsimp only at htb' ⊢
  clear hW hn htb
  obtain ⟨ms, rfl⟩ : ∃ m, m = ms' := ⟨_, rfl⟩
  have hW := hW'
  have hn := hn'
  have htb := htb'
  clear hW' hn' htb'
  refine ow_guard_yes rfl rfl rfl rfl ?_
  refine ow_neq rfl rfl rfl ?_
  (apply ow_pick_f; (· rfl); (· rfl); (· ((conv => lhs; whnf) <;> rfl)))
  (apply ow_move; (· rfl); (· ((conv => lhs; whnf) <;> rfl)))
  refine ow_guard_yes rfl rfl rfl rfl ?_
  (apply ow_move; (· rfl); (· ((conv => lhs; whnf) <;> rfl)))
  refine ow_guard_yes rfl rfl rfl rfl ?_
  (apply ow_move; (· rfl); (· ((conv => lhs; whnf) <;> rfl)))
  refine ow_guard_yes rfl rfl rfl rfl ?_
  refine ow_call rfl rfl (ent (by kernel_rfl)) (CallsV.mono (join_gspec ⟨gb, pw, cw, pn, cn, ws⟩ ms (-1 : Int) (B : Int) 1 hn h4 hW _ H.begin) ?_) rfl
  rintro v w ⟨rfl, ms', htb', H'⟩
  replace H := H.callC (fun _ h => h) H'
  clear H'
  have hlT : (tb ms).length = (GX.mk gb pw cw pn cn ws).ws.length := by rw [htb]; exact hTl
  have hW' := (joinN_wf hW hlT (-1 : Int) (B : Int) 1).1
  rw [← htb'] at hW'
  have hn' : ms'.length = (GX.mk gb pw cw pn cn ws).ws.length := ms_len (by rw [htb']; exact (joinN_wf hW hlT (-1 : Int) (B : Int) 1).2)
  clear hlT
  rw [htb] at htb' ⊢
  rw [joinN_bad (fun h => absurd h.1.1 (by decide))] at htb' ⊢
  dsimp only at htb' ⊢
  clear hW hn htb
  obtain ⟨ms, rfl⟩ : ∃ m, m = ms' := ⟨_, rfl⟩
  have hW := hW'
  have hn := hn'
  have htb := htb'
  clear hW' hn' htb'
  refine ow_guard_yes rfl rfl rfl rfl ?_
  refine ow_neq rfl rfl rfl ?_
  (apply ow_pick_f; (· rfl); (· rfl); (· ((conv => lhs; whnf) <;> rfl)))
  (apply ow_move; (· rfl); (· ((conv => lhs; whnf) <;> rfl)))
  refine ow_guard_yes rfl rfl rfl rfl ?_
  (apply ow_move; (· rfl); (· ((conv => lhs; whnf) <;> rfl)))
  refine ow_guard_yes rfl rfl rfl rfl ?_
  (apply ow_move; (· rfl); (· ((conv => lhs; whnf) <;> rfl)))
  refine ow_guard_yes rfl rfl rfl rfl ?_
  refine ow_call rfl rfl (ent (by kernel_rfl)) (CallsV.mono (degree_gspec ⟨gb, pw, cw, pn, cn, ws⟩ ms (A : Int) hn h4 hW _ (gr_at H)) ?_) rfl
  rintro v w ⟨rfl, H'⟩
  replace H := H.call H'
  rw [List.nil_append] at H
  clear H'
  rw [htb, hd0]
  refine ow_guard_yes rfl rfl rfl rfl ?_
  refine ow_neq rfl rfl rfl ?_
  (apply ow_pick_f; (· rfl); (· rfl); (· ((conv => lhs; whnf) <;> rfl)))
  refine ow_nil ?_
  refine wc_cond_false rfl ?_
  refine wc_skip ?_
  refine wc_seq ?_
  refine wc_seq ?_
  refine wc_region ?_
  (apply ow_move; (· rfl); (· ((conv => lhs; whnf) <;> rfl)))
  (apply ow_move; (· rfl); (· ((conv => lhs; whnf) <;> rfl)))
  refine ow_eql rfl rfl rfl ?_
  refine ow_nil ?_
  refine wc_cond_dec rfl (fun h => ?_) (fun h => ?_) <;> try dsimp only at h
  · refine wc_seq ?_
    refine wc_region ?_
    (apply ow_assign; (· rfl); (· ((conv => lhs; whnf) <;> rfl)))
    refine ow_nil ?_
    refine wc_ret ?_
    obtain ⟨w, hT, H⟩ := H.takes Try.prog
    refine ⟨.inr rfl, w, hT, _, .tmp .nil, ?_⟩
    exact ⟨rfl, H.none⟩
  have hAB : A ≠ B := by omega
  have hgood : inR ws.length (A : Int) ∧ inR ws.length (B : Int) ∧ (A : Int) ≠ (B : Int) := ⟨iA, iB, h⟩
  have hgood2 : inR ws.length (B : Int) ∧ inR ws.length (A : Int) ∧ (B : Int) ≠ (A : Int) := ⟨iB, iA, fun e => h e.symm⟩
  refine wc_skip ?_
  refine wc_seq ?_
  refine wc_region ?_
  (apply ow_move; (· rfl); (· ((conv => lhs; whnf) <;> rfl)))
  (apply ow_move; (· rfl); (· ((conv => lhs; whnf) <;> rfl)))
  (apply ow_move; (· rfl); (· ((conv => lhs; whnf) <;> rfl)))
  (apply ow_move; (· rfl); (· ((conv => lhs; whnf) <;> rfl)))
  refine ow_call rfl rfl (ent (by kernel_rfl)) (CallsV.mono (join_gspec ⟨gb, pw, cw, pn, cn, ws⟩ ms (A : Int) (B : Int) z hn h4 hW _ H.begin) ?_) rfl
  rintro v w ⟨rfl, ms', htb', H'⟩
  replace H := H.callC (fun _ h => h) H'
  clear H'
  have hlT : (tb ms).length = (GX.mk gb pw cw pn cn ws).ws.length := by rw [htb]; exact hTl
  have hW' := (joinN_wf hW hlT (A : Int) (B : Int) z).1
  rw [← htb'] at hW'
  have hn' : ms'.length = (GX.mk gb pw cw pn cn ws).ws.length := ms_len (by rw [htb']; exact (joinN_wf hW hlT (A : Int) (B : Int) z).2)
  clear hlT
  rw [htb] at htb' ⊢
  by_cases hz : mayW z
  · have hz' := hz
    unfold mayW at hz'
    rw [joinN_ok hgood ⟨hz, by rw [hb0, Int.zero_add]; exact hz⟩, hb0, Int.zero_add, Int.toNat_natCast, Int.toNat_natCast] at htb' ⊢
    dsimp only at htb' ⊢
    clear hW hn htb
    obtain ⟨ms, rfl⟩ : ∃ m, m = ms' := ⟨_, rfl⟩
    have hW := hW'
    have hn := hn'
    have htb := htb'
    clear hW' hn' htb'
    have hWT : Wf T := by rw [← hT]; exact wf_nil n
    obtain ⟨T1, hT1⟩ : ∃ T1, joinT T A B z = T1 := ⟨_, rfl⟩
    have hbt : ∀ x y, btw T1 x y = if (x = (A : Int) ∧ y = (B : Int)) ∨ (x = (B : Int) ∧ y = (A : Int)) then z else btw T x y := fun x y => by rw [← hT1]; exact joinT_btw hWT z (by omega) (by omega) hAB x y
    have hTl1 : T1.length = ws.length := by rw [← hT1, joinT_len, hTl]
    have hWT1 : Wf T1 := by rw [← hT1]; exact joinT_wf hWT (by omega) (by omega) hAB hz
    rw [hT1] at htb
    clear hTl hd0
    have hTl := hTl1
    (apply ow_assign; (· rfl); (· ((conv => lhs; whnf) <;> rfl)))
    refine ow_nil ?_
    refine wc_seq ?_
    refine wc_seq ?_
    refine wc_region ?_
    (apply ow_move; (· rfl); (· ((conv => lhs; whnf) <;> rfl)))
    refine ow_eql rfl rfl rfl ?_
    (apply ow_move; (· rfl); (· ((conv => lhs; whnf) <;> rfl)))
    refine ow_geq rfl rfl rfl ?_
    (apply ow_move; (· rfl); (· ((conv => lhs; whnf) <;> rfl)))
    refine ow_guard_dec rfl rfl rfl (fun _ => ?_) (fun h => (h (by omega)).elim)
    refine ow_guard_yes rfl rfl rfl rfl ?_
    (apply ow_move; (· rfl); (· ((conv => lhs; whnf) <;> rfl)))
    refine ow_guard_yes rfl rfl rfl rfl ?_
    refine ow_leq rfl rfl rfl ?_
    (apply ow_pick_t; (· rfl); (· rfl); (· ((conv => lhs; whnf) <;> rfl)))
    rw [decide_eq_true hz'.2]
    refine ow_neqb rfl rfl rfl (tyAt rfl) rfl ?_
    (apply ow_move; (· rfl); (· ((conv => lhs; whnf) <;> rfl)))
    refine ow_guard_yes rfl rfl rfl rfl ?_
    (apply ow_move; (· rfl); (· ((conv => lhs; whnf) <;> rfl)))
    refine ow_guard_yes rfl rfl rfl rfl ?_
    refine ow_neq rfl rfl rfl ?_
    refine ow_guard_yes rfl rfl rfl rfl ?_
    (apply ow_move; (· rfl); (· ((conv => lhs; whnf) <;> rfl)))
    refine ow_guard_no rfl rfl rfl rfl rfl rfl rfl ?_
    refine ow_guard_no rfl rfl rfl rfl rfl rfl rfl ?_
    refine ow_guard_no rfl rfl rfl rfl rfl rfl rfl ?_
    refine ow_guard_un rfl rfl rfl rfl rfl rfl ?_
    refine ow_guard_un rfl rfl rfl rfl rfl rfl ?_
    refine ow_guard_un rfl rfl rfl rfl rfl rfl ?_
    refine ow_guard_un rfl rfl rfl rfl rfl rfl ?_
    refine ow_guard_un rfl rfl rfl rfl rfl rfl ?_
    refine ow_guard_no rfl rfl rfl rfl rfl rfl rfl ?_
    refine ow_guard_yes rfl rfl rfl rfl ?_
    (apply ow_pick_f; (· rfl); (· rfl); (· ((conv => lhs; whnf) <;> rfl)))
    (apply ow_pick_f; (· rfl); (· rfl); (· ((conv => lhs; whnf) <;> rfl)))
    refine ow_nil ?_
    refine wc_cond_false rfl ?_
    refine wc_skip ?_
    refine wc_seq ?_
    refine wc_seq ?_
    refine wc_region ?_
    (apply ow_move; (· rfl); (· ((conv => lhs; whnf) <;> rfl)))
    refine ow_neq rfl rfl rfl ?_
    refine ow_nil ?_
    refine wc_cond_false rfl ?_
    refine wc_skip ?_
    refine wc_seq ?_
    refine wc_region ?_
    (apply ow_move; (· rfl); (· ((conv => lhs; whnf) <;> rfl)))
    refine ow_sub rfl rfl rfl (by simp only [InK]; omega) ?_
    (apply ow_assign; (· rfl); (· ((conv => lhs; whnf) <;> rfl)))
    refine ow_nil ?_
    refine wc_seq ?_
    refine wc_region ?_
    (apply ow_move; (· rfl); (· ((conv => lhs; whnf) <;> rfl)))
    (apply ow_move; (· rfl); (· ((conv => lhs; whnf) <;> rfl)))
    (apply ow_move; (· rfl); (· ((conv => lhs; whnf) <;> rfl)))
    (apply ow_move; (· rfl); (· ((conv => lhs; whnf) <;> rfl)))
    refine ow_add rfl rfl rfl (by simp only [InK]; omega) ?_
    have hs1 : btw T1 (B : Int) (A : Int) = z := by rw [hbt, if_pos (.inr ⟨rfl, rfl⟩)]
    have hs2 : btw T1 (A : Int) (B : Int) = z := by rw [hbt, if_pos (.inl ⟨rfl, rfl⟩)]
    refine ow_call rfl rfl (ent (by kernel_rfl)) (CallsV.mono (join_gspec ⟨gb, pw, cw, pn, cn, ws⟩ ms (B : Int) (A : Int) (1099511627776 - z + 1) hn h4 hW _ H.begin) ?_) rfl
    rintro v w ⟨rfl, ms', htb', H'⟩
    replace H := H.callC (fun _ h => h) H'
    clear H'
    have hlT : (tb ms).length = (GX.mk gb pw cw pn cn ws).ws.length := by rw [htb]; exact hTl
    have hW' := (joinN_wf hW hlT (B : Int) (A : Int) (1099511627776 - z + 1)).1
    rw [← htb'] at hW'
    have hn' : ms'.length = (GX.mk gb pw cw pn cn ws).ws.length := ms_len (by rw [htb']; exact (joinN_wf hW hlT (B : Int) (A : Int) (1099511627776 - z + 1)).2)
    clear hlT
    rw [htb] at htb' ⊢
    rw [joinN_far hgood2 (fun h => by have := h.2; rw [hs1] at this; unfold mayW at this; omega)] at htb' ⊢
    dsimp only at htb' ⊢
    clear hW hn htb
    obtain ⟨ms, rfl⟩ : ∃ m, m = ms' := ⟨_, rfl⟩
    have hW := hW'
    have hn := hn'
    have htb := htb'
    clear hW' hn' htb'
    refine ow_eql rfl rfl rfl ?_
    (apply ow_move; (· rfl); (· ((conv => lhs; whnf) <;> rfl)))
    refine ow_guard_yes rfl rfl rfl rfl ?_
    (apply ow_move; (· rfl); (· ((conv => lhs; whnf) <;> rfl)))
    refine ow_guard_yes rfl rfl rfl rfl ?_
    (apply ow_move; (· rfl); (· ((conv => lhs; whnf) <;> rfl)))
    refine ow_guard_yes rfl rfl rfl rfl ?_
    (apply ow_move; (· rfl); (· ((conv => lhs; whnf) <;> rfl)))
    refine ow_guard_yes rfl rfl rfl rfl ?_
    refine ow_call rfl rfl (ent (by kernel_rfl)) (CallsV.mono (between_spec ⟨gb, pw, cw, pn, cn, ws⟩ ms (A : Int) (B : Int) hn h4 hW _ (gr_at H)) ?_) rfl
    rintro v w ⟨rfl, H'⟩
    replace H := H.call H'
    rw [List.nil_append] at H
    clear H'
    rw [htb, hs2]
    refine ow_guard_yes rfl rfl rfl rfl ?_
    (apply ow_move; (· rfl); (· ((conv => lhs; whnf) <;> rfl)))
    refine ow_guard_yes rfl rfl rfl rfl ?_
    refine ow_eql rfl rfl rfl ?_
    (apply ow_pick_t; (· rfl); (· rfl); (· ((conv => lhs; whnf) <;> rfl)))
    (apply ow_move; (· rfl); (· ((conv => lhs; whnf) <;> rfl)))
    refine ow_guard_dec rfl rfl rfl (fun _ => ?_) (fun h => (h (by with_reducible rfl)).elim)
    refine ow_guard_yes rfl rfl rfl rfl ?_
    (apply ow_move; (· rfl); (· ((conv => lhs; whnf) <;> rfl)))
    refine ow_guard_yes rfl rfl rfl rfl ?_
    refine ow_eql rfl rfl rfl ?_
    refine ow_guard_yes rfl rfl rfl rfl ?_
    (apply ow_move; (· rfl); (· ((conv => lhs; whnf) <;> rfl)))
    rw [decide_eq_true (rfl : z = z)]
    skip
    refine ow_guard_dec rfl rfl rfl (fun h => ?_) (fun h => ?_) <;> try dsimp only at h
    · refine ow_guard_no rfl rfl rfl rfl rfl rfl rfl ?_
      refine ow_guard_no rfl rfl rfl rfl rfl rfl rfl ?_
      refine ow_guard_no rfl rfl rfl rfl rfl rfl rfl ?_
      refine ow_guard_no rfl rfl rfl rfl rfl rfl rfl ?_
      refine ow_guard_no rfl rfl rfl rfl rfl rfl rfl ?_
      refine ow_guard_no rfl rfl rfl rfl rfl rfl rfl ?_
      refine ow_guard_no rfl rfl rfl rfl rfl rfl rfl ?_
      refine ow_guard_un rfl rfl rfl rfl rfl rfl ?_
      refine ow_guard_un rfl rfl rfl rfl rfl rfl ?_
      refine ow_guard_un rfl rfl rfl rfl rfl rfl ?_
      refine ow_guard_un rfl rfl rfl rfl rfl rfl ?_
      refine ow_guard_un rfl rfl rfl rfl rfl rfl ?_
      refine ow_guard_no rfl rfl rfl rfl rfl rfl rfl ?_
      refine ow_guard_yes rfl rfl rfl rfl ?_
      (apply ow_pick_t; (· rfl); (· rfl); (· ((conv => lhs; whnf) <;> rfl)))
      (apply ow_pick_t; (· rfl); (· rfl); (· ((conv => lhs; whnf) <;> rfl)))
      (apply ow_assign; (· rfl); (· ((conv => lhs; whnf) <;> rfl)))
      refine ow_nil ?_
      refine wc_ret ?_
      obtain ⟨w, hT, H⟩ := H.takes Try.prog
      refine ⟨.inr rfl, w, hT, _, .tmp .nil, ?_⟩
      exact ⟨rfl, H.none⟩
    · refine ow_guard_yes rfl rfl rfl rfl ?_
      (apply ow_move; (· rfl); (· ((conv => lhs; whnf) <;> rfl)))
      refine ow_guard_yes rfl rfl rfl rfl ?_
      (apply ow_move; (· rfl); (· ((conv => lhs; whnf) <;> rfl)))
      refine ow_guard_yes rfl rfl rfl rfl ?_
      (apply ow_move; (· rfl); (· ((conv => lhs; whnf) <;> rfl)))
      refine ow_guard_yes rfl rfl rfl rfl ?_
      (apply ow_move; (· rfl); (· ((conv => lhs; whnf) <;> rfl)))
      refine ow_guard_yes rfl rfl rfl rfl ?_
      refine ow_call rfl rfl (ent (by kernel_rfl)) (CallsV.mono (join_gspec ⟨gb, pw, cw, pn, cn, ws⟩ ms (B : Int) (A : Int) (1099511627776 - z) hn h4 hW _ H.begin) ?_) rfl
      rintro v w ⟨rfl, ms', htb', H'⟩
      replace H := H.callC (fun _ h => h) H'
      clear H'
      have hlT : (tb ms).length = (GX.mk gb pw cw pn cn ws).ws.length := by rw [htb]; exact hTl
      have hW' := (joinN_wf hW hlT (B : Int) (A : Int) (1099511627776 - z)).1
      rw [← htb'] at hW'
      have hn' : ms'.length = (GX.mk gb pw cw pn cn ws).ws.length := ms_len (by rw [htb']; exact (joinN_wf hW hlT (B : Int) (A : Int) (1099511627776 - z)).2)
      clear hlT
      rw [htb] at htb' ⊢
      rw [joinN_ok hgood2 ⟨by unfold mayW; omega, by rw [hs1]; unfold mayW; omega⟩, hs1, Int.toNat_natCast, Int.toNat_natCast] at htb' ⊢
      dsimp only at htb' ⊢
      clear hW hn htb
      obtain ⟨ms, rfl⟩ : ∃ m, m = ms' := ⟨_, rfl⟩
      have hW := hW'
      have hn := hn'
      have htb := htb'
      clear hW' hn' htb'
      have hs3 : btw (joinT T1 B A (z + (1099511627776 - z))) (A : Int) (B : Int) = 1099511627776 := by
        rw [joinT_btw hWT1 _ (by omega) (by omega) (fun e => hAB e.symm), if_pos (.inr ⟨rfl, rfl⟩)]
        omega
      refine ow_guard_yes rfl rfl rfl rfl ?_
      refine ow_eql rfl rfl rfl ?_
      refine ow_guard_yes rfl rfl rfl rfl ?_
      (apply ow_move; (· rfl); (· ((conv => lhs; whnf) <;> rfl)))
      refine ow_guard_yes rfl rfl rfl rfl ?_
      (apply ow_move; (· rfl); (· ((conv => lhs; whnf) <;> rfl)))
      refine ow_guard_yes rfl rfl rfl rfl ?_
      (apply ow_move; (· rfl); (· ((conv => lhs; whnf) <;> rfl)))
      refine ow_guard_yes rfl rfl rfl rfl ?_
      (apply ow_move; (· rfl); (· ((conv => lhs; whnf) <;> rfl)))
      refine ow_guard_yes rfl rfl rfl rfl ?_
      refine ow_call rfl rfl (ent (by kernel_rfl)) (CallsV.mono (between_spec ⟨gb, pw, cw, pn, cn, ws⟩ ms (A : Int) (B : Int) hn h4 hW _ (gr_at H)) ?_) rfl
      rintro v w ⟨rfl, H'⟩
      replace H := H.call H'
      rw [List.nil_append] at H
      clear H'
      rw [htb, hs3]
      refine ow_guard_yes rfl rfl rfl rfl ?_
      refine ow_eql rfl rfl rfl ?_
      refine ow_guard_yes rfl rfl rfl rfl ?_
      (apply ow_pick_t; (· rfl); (· rfl); (· ((conv => lhs; whnf) <;> rfl)))
      refine ow_guard_yes rfl rfl rfl rfl ?_
      (apply ow_pick_f; (· rfl); (· rfl); (· ((conv => lhs; whnf) <;> rfl)))
      (apply ow_pick_t; (· rfl); (· rfl); (· ((conv => lhs; whnf) <;> rfl)))
      (apply ow_assign; (· rfl); (· ((conv => lhs; whnf) <;> rfl)))
      refine ow_nil ?_
      refine wc_ret ?_
      obtain ⟨w, hT, H⟩ := H.takes Try.prog
      refine ⟨.inr rfl, w, hT, _, .tmp .nil, ?_⟩
      exact ⟨rfl, H.none⟩
  · rw [joinN_far hgood (fun h => hz h.1)] at htb' ⊢
    dsimp only at htb' ⊢
    clear hW hn htb
    obtain ⟨ms, rfl⟩ : ∃ m, m = ms' := ⟨_, rfl⟩
    have hW := hW'
    have hn := hn'
    have htb := htb'
    clear hW' hn' htb'
    (apply ow_assign; (· rfl); (· ((conv => lhs; whnf) <;> rfl)))
    refine ow_nil ?_
    refine wc_seq ?_
    refine wc_seq ?_
    refine wc_region ?_
    (apply ow_move; (· rfl); (· ((conv => lhs; whnf) <;> rfl)))
    refine ow_eql rfl rfl rfl ?_
    (apply ow_move; (· rfl); (· ((conv => lhs; whnf) <;> rfl)))
    refine ow_geq rfl rfl rfl ?_
    (apply ow_move; (· rfl); (· ((conv => lhs; whnf) <;> rfl)))
    refine ow_guard_dec rfl rfl rfl (fun h => ?_) (fun h => ?_) <;> try dsimp only at h
    · refine ow_guard_yes rfl rfl rfl rfl ?_
      (apply ow_move; (· rfl); (· ((conv => lhs; whnf) <;> rfl)))
      refine ow_guard_yes rfl rfl rfl rfl ?_
      refine ow_leq rfl rfl rfl ?_
      (apply ow_pick_t; (· rfl); (· rfl); (· ((conv => lhs; whnf) <;> rfl)))
      rw [decide_eq_false (show ¬ (z ≤ 1099511627776) from fun h2 => hz ⟨h, h2⟩)]
      refine ow_neqb rfl rfl rfl (tyAt rfl) rfl ?_
      (apply ow_move; (· rfl); (· ((conv => lhs; whnf) <;> rfl)))
      refine ow_guard_yes rfl rfl rfl rfl ?_
      (apply ow_move; (· rfl); (· ((conv => lhs; whnf) <;> rfl)))
      refine ow_guard_yes rfl rfl rfl rfl ?_
      refine ow_neq rfl rfl rfl ?_
      refine ow_guard_yes rfl rfl rfl rfl ?_
      (apply ow_move; (· rfl); (· ((conv => lhs; whnf) <;> rfl)))
      refine ow_guard_yes rfl rfl rfl rfl ?_
      (apply ow_move; (· rfl); (· ((conv => lhs; whnf) <;> rfl)))
      refine ow_guard_yes rfl rfl rfl rfl ?_
      refine ow_neq rfl rfl rfl ?_
      refine ow_guard_yes rfl rfl rfl rfl ?_
      (apply ow_move; (· rfl); (· ((conv => lhs; whnf) <;> rfl)))
      refine ow_guard_yes rfl rfl rfl rfl ?_
      (apply ow_move; (· rfl); (· ((conv => lhs; whnf) <;> rfl)))
      refine ow_guard_yes rfl rfl rfl rfl ?_
      (apply ow_move; (· rfl); (· ((conv => lhs; whnf) <;> rfl)))
      refine ow_guard_yes rfl rfl rfl rfl ?_
      (apply ow_move; (· rfl); (· ((conv => lhs; whnf) <;> rfl)))
      refine ow_guard_yes rfl rfl rfl rfl ?_
      refine ow_call rfl rfl (ent (by kernel_rfl)) (CallsV.mono (between_spec ⟨gb, pw, cw, pn, cn, ws⟩ ms (A : Int) (B : Int) hn h4 hW _ (gr_at H)) ?_) rfl
      rintro v w ⟨rfl, H'⟩
      replace H := H.call H'
      rw [List.nil_append] at H
      clear H'
      rw [htb, hb0]
      refine ow_guard_yes rfl rfl rfl rfl ?_
      refine ow_neq rfl rfl rfl ?_
      refine ow_guard_yes rfl rfl rfl rfl ?_
      (apply ow_pick_f; (· rfl); (· rfl); (· ((conv => lhs; whnf) <;> rfl)))
      refine ow_guard_yes rfl rfl rfl rfl ?_
      (apply ow_pick_t; (· rfl); (· rfl); (· ((conv => lhs; whnf) <;> rfl)))
      (apply ow_pick_f; (· rfl); (· rfl); (· ((conv => lhs; whnf) <;> rfl)))
      refine ow_nil ?_
      refine wc_cond_false rfl ?_
      refine wc_skip ?_
      refine wc_seq ?_
      refine wc_seq ?_
      refine wc_region ?_
      (apply ow_move; (· rfl); (· ((conv => lhs; whnf) <;> rfl)))
      refine ow_neq rfl rfl rfl ?_
      refine ow_nil ?_
      refine wc_cond_true rfl ?_
      refine wc_seq ?_
      refine wc_region ?_
      (apply ow_assign; (· rfl); (· ((conv => lhs; whnf) <;> rfl)))
      refine ow_nil ?_
      refine wc_ret ?_
      obtain ⟨w, hT, H⟩ := H.takes Try.prog
      refine ⟨.inr rfl, w, hT, _, .tmp .nil, ?_⟩
      exact ⟨rfl, H.none⟩
    · refine ow_guard_no rfl rfl rfl rfl rfl rfl rfl ?_
      refine ow_guard_no rfl rfl rfl rfl rfl rfl rfl ?_
      (apply ow_pick_f; (· rfl); (· rfl); (· ((conv => lhs; whnf) <;> rfl)))
      refine ow_neqb rfl rfl rfl (tyAt rfl) rfl ?_
      (apply ow_move; (· rfl); (· ((conv => lhs; whnf) <;> rfl)))
      refine ow_guard_yes rfl rfl rfl rfl ?_
      (apply ow_move; (· rfl); (· ((conv => lhs; whnf) <;> rfl)))
      refine ow_guard_yes rfl rfl rfl rfl ?_
      refine ow_neq rfl rfl rfl ?_
      refine ow_guard_yes rfl rfl rfl rfl ?_
      (apply ow_move; (· rfl); (· ((conv => lhs; whnf) <;> rfl)))
      refine ow_guard_yes rfl rfl rfl rfl ?_
      (apply ow_move; (· rfl); (· ((conv => lhs; whnf) <;> rfl)))
      refine ow_guard_yes rfl rfl rfl rfl ?_
      refine ow_neq rfl rfl rfl ?_
      refine ow_guard_yes rfl rfl rfl rfl ?_
      (apply ow_move; (· rfl); (· ((conv => lhs; whnf) <;> rfl)))
      refine ow_guard_yes rfl rfl rfl rfl ?_
      (apply ow_move; (· rfl); (· ((conv => lhs; whnf) <;> rfl)))
      refine ow_guard_yes rfl rfl rfl rfl ?_
      (apply ow_move; (· rfl); (· ((conv => lhs; whnf) <;> rfl)))
      refine ow_guard_yes rfl rfl rfl rfl ?_
      (apply ow_move; (· rfl); (· ((conv => lhs; whnf) <;> rfl)))
      refine ow_guard_yes rfl rfl rfl rfl ?_
      refine ow_call rfl rfl (ent (by kernel_rfl)) (CallsV.mono (between_spec ⟨gb, pw, cw, pn, cn, ws⟩ ms (A : Int) (B : Int) hn h4 hW _ (gr_at H)) ?_) rfl
      rintro v w ⟨rfl, H'⟩
      replace H := H.call H'
      rw [List.nil_append] at H
      clear H'
      rw [htb, hb0]
      refine ow_guard_yes rfl rfl rfl rfl ?_
      refine ow_neq rfl rfl rfl ?_
      refine ow_guard_yes rfl rfl rfl rfl ?_
      (apply ow_pick_f; (· rfl); (· rfl); (· ((conv => lhs; whnf) <;> rfl)))
      refine ow_guard_yes rfl rfl rfl rfl ?_
      (apply ow_pick_t; (· rfl); (· rfl); (· ((conv => lhs; whnf) <;> rfl)))
      (apply ow_pick_f; (· rfl); (· rfl); (· ((conv => lhs; whnf) <;> rfl)))
      refine ow_nil ?_
      refine wc_cond_false rfl ?_
      refine wc_skip ?_
      refine wc_seq ?_
      refine wc_seq ?_
      refine wc_region ?_
      (apply ow_move; (· rfl); (· ((conv => lhs; whnf) <;> rfl)))
      refine ow_neq rfl rfl rfl ?_
      refine ow_nil ?_
      refine wc_cond_true rfl ?_
      refine wc_seq ?_
      refine wc_region ?_
      (apply ow_assign; (· rfl); (· ((conv => lhs; whnf) <;> rfl)))
      refine ow_nil ?_
      refine wc_ret ?_
      obtain ⟨w, hT, H⟩ := H.takes Try.prog
      refine ⟨.inr rfl, w, hT, _, .tmp .nil, ?_⟩
      exact ⟨rfl, H.none⟩
end Go.Proofs.Ytgliblmpiilloaa
