/- Sections: the document's Pack, function 79. -/
import Derived.Test.YtphmjdbdhhbdoaaV44
namespace Go.Proofs.Ytphmjdbdhhbdoaa
set_option linter.all false
open Go Go.Sx Go.Proofs
set_option maxRecDepth 100000
set_option maxHeartbeats 2000000
abbrev Pc := Option Addr × Nat × List Nat
def bodyP (s : SecM) : Pc := (s.2.1, s.2.2.1, s.2.2.2)
def slC (ps : List Pc) : List Cap := ps.map fun x => .sl x.1 (nats .u8 x.2.2)
theorem slC_at {M : Nat → Prop} {w0 w : World} {A : List Cap} {D : List Nat} {ps : List Pc} (H : St M w0 w (A ++ slC ps) D) : ∀ x ∈ ps, SlH (hp w) x.1 (nats .u8 x.2.2) := by
  intro x hx
  obtain ⟨k, hk⟩ := List.getElem?_of_mem hx
  have h1 : (A ++ slC ps)[A.length + k]? = some (.sl x.1 (nats .u8 x.2.2)) := by
    rw [List.getElem?_append_right (by omega), Nat.add_sub_cancel_left]
    simp [slC, hk]
  exact H.cap h1
theorem slC_snoc (ps qs : List Pc) : slC (ps ++ qs) = slC ps ++ slC qs := by simp [slC]
theorem joinSl_app (ps qs : List Pc) : joinSl (ps ++ qs) = joinSl ps ++ joinSl qs := by simp [joinSl]
theorem joinB_app (ps qs : List Pc) : joinB (ps ++ qs) = joinB ps ++ joinB qs := by simp [joinB]
theorem perm45 {α : Type} {a : α} {X Y S : List α} (h : X.Perm Y) : (X ++ a :: S).Perm (a :: (S ++ Y)) := List.perm_middle.trans (.cons _ (List.perm_append_comm.trans (List.Perm.append_left S h)))
theorem refPack_spec (q : Option Addr) (len cap : Nat) (list : List SecM) (hl : len = list.length) (hm : list.length ≤ 1000000) (hok : ∀ s ∈ list, secOk s) (hT : (rawPack (list.map secP)).length ≤ 90000) (w0 : World) (hs : SecsAt (hp w0) q list) :
    CallsV Try.prog 79 #[.slice q len cap] w0 fun v w => ∃ p c, v = .tuple #[.slice p (packN (list.map secP)).1.length c, .int .i64 (packN (list.map secP)).2] ∧ St Pu w0 w [.app p (packN (list.map secP)).1.length c 5 1 (nats .u8 (packN (list.map secP)).1)] [] := by
  subst hl
  refine callsV_of Try.func79 rfl rfl ?_
  have H := St.init w0
  refine wc_seq ?_
  refine wc_region ?_
  (apply ow_assign; (· rfl); (· ((conv => lhs; whnf) <;> rfl)))
  (apply ow_assign; (· rfl); (· ((conv => lhs; whnf) <;> rfl)))
  refine ow_nil ?_
  refine wc_seq ?_
  refine wc_seq ?_
  refine wc_region ?_
  (apply ow_move; (· rfl); (· ((conv => lhs; whnf) <;> rfl)))
  refine ow_len rfl rfl (tyAt rfl) rfl ?_
  refine ow_gtr rfl rfl rfl ?_
  refine ow_nil ?_
  refine wc_cond_dec rfl (fun h => ?_) (fun h => ?_) <;> try dsimp only at h
  · refine wc_seq ?_
    refine wc_region ?_
    (apply ow_assign; (· rfl); (· ((conv => lhs; whnf) <;> rfl)))
    (apply ow_assign; (· rfl); (· ((conv => lhs; whnf) <;> rfl)))
    refine ow_nil ?_
    refine wc_ret ?_
    obtain ⟨w, hT, H⟩ := H.takes Try.prog
    refine ⟨.inr rfl, w, hT, _, .tmp (.tmp .nil), ?_⟩
    rw [show packN (list.map secP) = ([], 3) by unfold packN checkN; rw [if_pos (show 255 < (list.map secP).length by rw [List.length_map]; omega)]; rfl]
    exact ⟨none, 0, rfl, H.nilApp 5 1⟩
  have hraw := rawPack_S list
  have hRL := congrArg List.length hraw
  simp only [List.length_append] at hRL
  have hraw256 : ∀ c ∈ rawPack (list.map secP), c < 256 := rawPack_lt
    (fun s h => by obtain ⟨x, hx, rfl⟩ := List.mem_map.1 h; exact (hok x hx).1) (fun s h => by obtain ⟨x, hx, rfl⟩ := List.mem_map.1 h; exact (hok x hx).2)
  have hpk : packN (list.map secP) = if Rises (list.map secP) list.length then (sealN (rawPack (list.map secP)), 0) else ([], 46) := by
    unfold packN checkN
    rw [if_neg (show ¬ 255 < (list.map secP).length by rw [List.length_map]; omega), List.length_map]
    by_cases h5 : Rises (list.map secP) list.length
    · rw [if_pos h5, if_pos rfl, if_pos h5]
    · rw [if_neg h5, if_neg (by decide), if_neg h5]
  rw [hpk]
  clear hpk
  generalize hRG : rawPack (list.map secP) = raw at hraw hRL hT hraw256 ⊢
  have hS4 : signL.length = 4 := rfl
  refine wc_skip ?_
  refine wc_seq ?_
  refine wc_region ?_
  refine ow_buildSlice1 (vs := [.int .u8 83, .int .u8 65, .int .u8 78, .int .u8 68]) H rfl (tyAt rfl) rfl (tyAt rfl) rfl rfl rfl rfl rfl (by simp [Value.one]) (fun b1 w H => ?_)
  replace H := H.rowToSl (i := 0) rfl
  dsimp only [List.set] at H
  (apply ow_move; (· rfl); (· ((conv => lhs; whnf) <;> rfl)))
  refine ow_len rfl rfl (tyAt rfl) rfl ?_
  refine ow_conv_in rfl rfl (tyAt rfl) (tyAt rfl) rfl (by simp only [InK]; omega) ?_
  refine ow_call rfl rfl (ent (by kernel_rfl)) (CallsV.mono (refPut_spec list.length (by omega) _) ?_) rfl
  rintro v w ⟨pp, cp, rfl, H'⟩
  replace H := H.call H'
  simp only [List.cons_append, List.nil_append] at H
  clear H'
  replace H := H.appToSl (i := 0) rfl
  dsimp only [List.set] at H
  skip
  refine ow_buildSlice1 (vs := [.slice _ _ _, .slice _ _ _]) H rfl (tyAt rfl) rfl (tyAt rfl) rfl rfl rfl rfl rfl (by simp [Value.one]) (fun b w H => ?_)
  replace H := H.rowApp (i := 0) (len := 2) (sz := 1) rfl rfl (by omega)
  dsimp only [List.set] at H
  replace H : St Pu w0 w (.app (some ⟨b, 0, none⟩) 2 2 22 1 (joinSl [(some ⟨b1, 0, none⟩, 4, signL), (pp, cp, putN list.length)]) :: slC [(some ⟨b1, 0, none⟩, 4, signL), (pp, cp, putN list.length)]) [] := H.perm (.cons _ (List.Perm.swap _ _ _))
  (apply ow_assign; (· rfl); (· ((conv => lhs; whnf) <;> rfl)))
  refine ow_nil ?_
  refine wc_seq ?_
  refine wc_seq ?_
  refine wc_region ?_
  (apply ow_assign; (· rfl); (· ((conv => lhs; whnf) <;> rfl)))
  refine ow_nil ?_
  refine wc_block ?_
  refine wc_loopS [2, 3, 4, 5, 6, 17, 18, 19, 20, 21, 22, 23, 24, 25, 26, 27, 28, 29, 30, 31, 32, 33, 34, 35, 36, 37, 38, 39, 40, 41, 42, 43, 44, 45, 46, 47, 48, 49, 50, 51, 52, 53, 54, 55, 56, 57, 58, 59] (fun (s : Nat × Option Addr × Nat × List Pc) e => upd (upd e 5 (.int .i64 s.1)) 4 (.slice s.2.1 (2 + 3 * s.1) s.2.2.1))
    (fun s D w => D = [] ∧ s.1 ≤ list.length ∧ Rises (list.map secP) s.1 ∧ joinB s.2.2.2 = signL ++ putN list.length ++ (list.take s.1).flatMap headS ∧ s.2.2.2.length = 2 + 3 * s.1 ∧ St Pu w0 w (.app s.2.1 (2 + 3 * s.1) s.2.2.1 22 1 (joinSl s.2.2.2) :: slC s.2.2.2) [])
    (fun s _ => list.length - s.1) (0, some ⟨b, 0, none⟩, 2, [(some ⟨b1, 0, none⟩, 4, signL), (pp, cp, putN list.length)]) (by first | exact rfl | exact upd_self' rfl rfl | exact upd_self' rfl (upd_self' rfl rfl) | exact upd_self' rfl (upd_self' rfl (upd_self' rfl rfl)) | exact upd_self' rfl (upd_self' rfl (upd_self' rfl (upd_self' rfl rfl)))) ⟨rfl, Nat.zero_le _, fun k hk => by omega, by simp [joinB], rfl, H⟩ ?_
  clear H w
  rintro ⟨i, p, c, ps⟩ j D w ⟨rfl, hi, hr, hjb, hpl, H⟩
  dsimp only at hi hr hjb hpl H ⊢
  refine wc_seq ?_
  refine wc_seq ?_
  refine wc_region ?_
  (apply ow_move; (· rfl); (· ((conv => lhs; whnf) <;> rfl)))
  (apply ow_move; (· rfl); (· ((conv => lhs; whnf) <;> rfl)))
  refine ow_len rfl rfl (tyAt rfl) rfl ?_
  refine ow_lss rfl rfl rfl ?_
  refine ow_nil ?_
  refine wc_cond_dec rfl (fun h => ?_) (fun h => ?_) <;> try dsimp only at h
  · have hlt : i < list.length := by omega
    obtain ⟨x, hx⟩ : ∃ x, list[i]? = some x := ⟨_, List.getElem?_eq_getElem hlt⟩
    have hxm := List.mem_of_getElem? hx
    have hox := hok x hxm
    have hbx := (hs.2 x hxm).2.2.2
    have hbl : x.2.2.2.length ≤ 90000 := by
      have h1 := flat_take_len bodyS list (i + 1)
      rw [flat_snoc bodyS hx, List.length_append] at h1
      unfold bodyS at h1 hRL
      omega
    obtain ⟨hs1, hs2⟩ := hs
    have hs' := H.oldSl hs1
    obtain ⟨bq, oq, rfl⟩ := hs'.some_of (by rw [flat_len sec_len]; omega)
    clear hs'
    refine wc_skip ?_
    refine wc_seq ?_
    refine wc_block ?_
    refine wc_seq ?_
    refine wc_seq ?_
    have G := H.drew
    replace H := H.none
    refine wc_drawK (fun w => St Pu w0 w [] []) 99 (by kernel_rfl) (by kernel_rfl) (by intro c e D w h; first | exact h.elim | (rcases h with ⟨h | h, _⟩ <;> cases h)) ?_
    replace H := H.drew
    apply ak_take (i := 0) rfl rfl rfl rfl (by kernel_rfl) (by with_reducible first | exact H | rfl)
    · intro w Q' HS hq; replace H := HS; clear HS; (apply ow_move; (· rfl); (· ((conv => lhs; whnf) <;> rfl))); exact ow_nil hq
    apply ak_take (i := 1) rfl rfl rfl rfl (by kernel_rfl) (by with_reducible first | exact H | rfl)
    · intro w Q' HS hq; replace H := HS; clear HS; refine ow_gtr rfl rfl rfl ?_; exact ow_nil hq
    apply ak_take (i := 2) rfl rfl rfl rfl (by kernel_rfl) (by with_reducible first | exact H | rfl)
    · intro w Q' HS hq; replace H := HS; clear HS; (apply ow_move; (· rfl); (· ((conv => lhs; whnf) <;> rfl))); exact ow_nil hq
    refine ak_guard_dec (dj := 25) rfl (fun h => ?_) (fun h => ?_) <;> try dsimp only at h
    · obtain ⟨y, hy⟩ : ∃ y, list[i - 1]? = some y := ⟨_, List.getElem?_eq_getElem (by omega)⟩
      have gx := map_getD list hx
      have gy := map_getD list hy
      apply ak_take (i := 3) rfl rfl rfl rfl (by kernel_rfl) (by with_reducible first | exact H | rfl)
      · intro w Q' HS hq; replace H := HS; clear HS; refine ow_guard_yes rfl rfl rfl rfl ?_; (apply ow_move; (· rfl); (· ((conv => lhs; whnf) <;> rfl))); exact ow_nil hq
      apply ak_take (i := 4) rfl rfl rfl rfl (by kernel_rfl) (by with_reducible first | exact H | rfl)
      · intro w Q' HS hq; replace H := HS; clear HS; refine ow_guard_yes rfl rfl rfl rfl ?_; (apply ow_move; (· rfl); (· ((conv => lhs; whnf) <;> rfl))); exact ow_nil hq
      apply ak_take (i := 5) rfl rfl rfl rfl (by kernel_rfl) (by with_reducible first | exact H | rfl)
      · intro w Q' HS hq; replace H := HS; clear HS; refine ow_guard_yes rfl rfl rfl rfl ?_; refine ow_idxK (j := i) (sz := 2) rfl (tyAt rfl) rfl (tyAt rfl) rfl rfl rfl hlt rfl ?_; exact ow_nil hq
      apply ak_take (i := 6) rfl rfl rfl rfl (by kernel_rfl) (by with_reducible first | exact H | rfl)
      · intro w Q' HS hq; replace H := HS; clear HS; refine ow_guard_yes rfl rfl rfl rfl ?_; refine ow_fieldAddr rfl (tyAt rfl) rfl rfl rfl (tyAt rfl) rfl rfl ?_; exact ow_nil hq
      apply ak_take (i := 7) rfl rfl rfl rfl (by kernel_rfl) (by with_reducible first | exact H | rfl)
      · intro w Q' HS hq; replace H := HS; clear HS; refine ow_guard_yes rfl rfl rfl rfl ?_; refine ow_load rfl (tyAt rfl) rfl rfl (secs_at (H.oldSl hs1) hx).1 ?_; exact ow_nil hq
      apply ak_take (i := 8) rfl rfl rfl rfl (by kernel_rfl) (by with_reducible first | exact H | rfl)
      · intro w Q' HS hq; replace H := HS; clear HS; refine ow_guard_yes rfl rfl rfl rfl ?_; (apply ow_move; (· rfl); (· ((conv => lhs; whnf) <;> rfl))); exact ow_nil hq
      apply ak_take (i := 9) rfl rfl rfl rfl (by kernel_rfl) (by with_reducible first | exact H | rfl)
      · intro w Q' HS hq; replace H := HS; clear HS; refine ow_guard_yes rfl rfl rfl rfl ?_; (apply ow_move; (· rfl); (· ((conv => lhs; whnf) <;> rfl))); exact ow_nil hq
      apply ak_take (i := 10) rfl rfl rfl rfl (by kernel_rfl) (by with_reducible first | exact H | rfl)
      · intro w Q' HS hq; replace H := HS; clear HS; refine ow_guard_yes rfl rfl rfl rfl ?_; refine ow_sub rfl rfl rfl (by simp only [InK]; omega) ?_; exact ow_nil hq
      apply ak_take (i := 11) rfl rfl rfl rfl (by kernel_rfl) (by with_reducible first | exact H | rfl)
      · intro w Q' HS hq; replace H := HS; clear HS; refine ow_guard_yes rfl rfl rfl rfl ?_; refine ow_idxK (j := i - 1) (sz := 2) rfl (tyAt rfl) rfl (tyAt rfl) rfl rfl (by omega) (by omega) rfl ?_; exact ow_nil hq
      apply ak_take (i := 12) rfl rfl rfl rfl (by kernel_rfl) (by with_reducible first | exact H | rfl)
      · intro w Q' HS hq; replace H := HS; clear HS; refine ow_guard_yes rfl rfl rfl rfl ?_; refine ow_fieldAddr rfl (tyAt rfl) rfl rfl rfl (tyAt rfl) rfl rfl ?_; exact ow_nil hq
      apply ak_take (i := 13) rfl rfl rfl rfl (by kernel_rfl) (by with_reducible first | exact H | rfl)
      · intro w Q' HS hq; replace H := HS; clear HS; refine ow_guard_yes rfl rfl rfl rfl ?_; refine ow_load rfl (tyAt rfl) rfl rfl (secs_at (H.oldSl hs1) hy).1 ?_; exact ow_nil hq
      apply ak_take (i := 14) rfl rfl rfl rfl (by kernel_rfl) (by with_reducible first | exact H | rfl)
      · intro w Q' HS hq; replace H := HS; clear HS; refine ow_guard_yes rfl rfl rfl rfl ?_; refine ow_leq rfl rfl rfl ?_; exact ow_nil hq
      apply ak_take (i := 15) rfl rfl rfl rfl (by kernel_rfl) (by with_reducible first | exact H | rfl)
      · intro w Q' HS hq; replace H := HS; clear HS; (apply ow_pick_t; (· rfl); (· rfl); (· ((conv => lhs; whnf) <;> rfl))); exact ow_nil hq
      refine ak_done (by kernel_rfl) ?_
      skip
      refine wc_cond_dec rfl (fun h => ?_) (fun h => ?_) <;> try dsimp only at h
      · refine wc_seq ?_
        refine wc_region ?_
        (apply ow_assign; (· rfl); (· ((conv => lhs; whnf) <;> rfl)))
        (apply ow_assign; (· rfl); (· ((conv => lhs; whnf) <;> rfl)))
        refine ow_nil ?_
        refine wc_ret ?_
        obtain ⟨w, hT, H⟩ := H.takes Try.prog
        refine ⟨.inr rfl, w, hT, _, .tmp (.tmp .nil), ?_⟩
        have hnr : ¬ Rises (list.map secP) list.length := by
          intro h2
          have := h2 (i - 1) (by omega)
          rw [show i - 1 + 1 = i by omega, gx, gy] at this
          unfold secP at this
          dsimp only at this
          omega
        rw [if_neg hnr]
        exact ⟨none, 0, rfl, H.nilApp 5 1⟩
      have hrise : Rises (list.map secP) (i + 1) := by
        intro k hk
        by_cases hki : k = i - 1
        · subst hki
          rw [show i - 1 + 1 = i by omega, gx, gy]
          unfold secP
          dsimp only
          omega
        · exact hr k (by omega)
      refine wc_skip ?_
      refine wc_seq ?_
      refine wc_region ?_
      (apply ow_move; (· rfl); (· ((conv => lhs; whnf) <;> rfl)))
      (apply ow_move; (· rfl); (· ((conv => lhs; whnf) <;> rfl)))
      refine ow_idxK (j := i) (sz := 2) rfl (tyAt rfl) rfl (tyAt rfl) rfl rfl rfl hlt rfl ?_
      refine ow_fieldAddr rfl (tyAt rfl) rfl rfl rfl (tyAt rfl) rfl rfl ?_
      refine ow_load rfl (tyAt rfl) rfl rfl (secs_at (H.oldSl hs1) hx).2 ?_
      (apply ow_assign; (· rfl); (· ((conv => lhs; whnf) <;> rfl)))
      refine ow_nil ?_
      have G := G.drew
      replace H := H.none
      refine wc_drawK (fun w => St Pu w0 w [] []) 99 (by kernel_rfl) (by kernel_rfl) (by intro c e D w h; first | exact h.elim | (rcases h with ⟨h | h, _⟩ <;> cases h)) ?_
      replace H := H.drew
      apply ak_take (i := 0) rfl rfl rfl rfl (by kernel_rfl) (by with_reducible first | exact H | rfl)
      · intro w Q' HS hq; replace H := HS; clear HS; (apply ow_move; (· rfl); (· ((conv => lhs; whnf) <;> rfl))); exact ow_nil hq
      apply ak_take (i := 1) rfl rfl rfl rfl (by kernel_rfl) (by with_reducible first | exact H | rfl)
      · intro w Q' HS hq; replace H := HS; clear HS; (apply ow_move; (· rfl); (· ((conv => lhs; whnf) <;> rfl))); exact ow_nil hq
      apply ak_take (i := 2) rfl rfl rfl rfl (by kernel_rfl) (by with_reducible first | exact H | rfl)
      · intro w Q' HS hq; replace H := HS; clear HS; (apply ow_move; (· rfl); (· ((conv => lhs; whnf) <;> rfl))); exact ow_nil hq
      apply ak_take (i := 3) rfl rfl rfl rfl (by kernel_rfl) (by with_reducible first | exact H | rfl)
      · intro w Q' HS hq; replace H := HS; clear HS; refine ow_idxK (j := i) (sz := 2) rfl (tyAt rfl) rfl (tyAt rfl) rfl rfl rfl hlt rfl ?_; exact ow_nil hq
      apply ak_take (i := 4) rfl rfl rfl rfl (by kernel_rfl) (by with_reducible first | exact H | rfl)
      · intro w Q' HS hq; replace H := HS; clear HS; refine ow_fieldAddr rfl (tyAt rfl) rfl rfl rfl (tyAt rfl) rfl rfl ?_; exact ow_nil hq
      apply ak_take (i := 5) rfl rfl rfl rfl (by kernel_rfl) (by with_reducible first | exact H | rfl)
      · intro w Q' HS hq; replace H := HS; clear HS; refine ow_load rfl (tyAt rfl) rfl rfl (secs_at (H.oldSl hs1) hx).1 ?_; exact ow_nil hq
      apply ak_take (i := 7) rfl rfl rfl rfl (by kernel_rfl) (by with_reducible first | exact H | rfl)
      · intro w Q' HS hq; replace H := HS; clear HS; (apply ow_move; (· rfl); (· ((conv => lhs; whnf) <;> rfl))); exact ow_nil hq
      apply ak_take (i := 8) rfl rfl rfl rfl (by kernel_rfl) (by with_reducible first | exact H | rfl)
      · intro w Q' HS hq; replace H := HS; clear HS; refine ow_len rfl rfl (tyAt rfl) rfl ?_; exact ow_nil hq
      apply ak_take (i := 9) rfl rfl rfl rfl (by kernel_rfl) (by with_reducible first | exact H | rfl)
      · intro w Q' HS hq; replace H := HS; clear HS; refine ow_conv_in rfl rfl (tyAt rfl) (tyAt rfl) rfl (by simp only [InK]; omega) ?_; exact ow_nil hq
      apply ak_take (i := 11) rfl rfl rfl rfl (by kernel_rfl) (by with_reducible first | exact H | rfl)
      · intro w Q' HS hq; replace H := HS; clear HS; (apply ow_move; (· rfl); (· ((conv => lhs; whnf) <;> rfl))); exact ow_nil hq
      replace H := G
      clear G
      apply ak_two (i := 6) (j := 10)
      · kernel_rfl
      · rfl
      · rfl
      · rfl
      · rfl
      · refine ow_buildSlice1 (vs := [.int .u8 _]) H rfl (tyAt rfl) rfl (tyAt rfl) rfl rfl rfl rfl rfl (by simp [Value.one]) (fun b6 w H => ?_)
        replace H := H.rowToSl (i := 0) rfl
        dsimp only [List.set] at H
        refine ow_nil ⟨fun _ => H.none, ?_⟩
        apply ak_one (i := 10)
        · kernel_rfl
        · rfl
        · rfl
        refine ow_call rfl rfl (ent (by kernel_rfl)) (CallsV.mono (refPut_spec x.2.2.2.length (by omega) _) ?_) rfl
        rintro v w ⟨p10, c10, rfl, H'⟩
        replace H := H.call H'
        clear H'
        replace H := H.appToSl (i := 0) rfl
        dsimp only [List.set, List.cons_append, List.nil_append] at H
        refine ow_nil ⟨fun _ => H.none, ?_⟩
        apply ak_one (i := 12)
        · kernel_rfl
        · rfl
        · rfl
        refine ow_call rfl rfl (ent (by kernel_rfl)) (CallsV.mono (refMore_spec' 3988292384 0 (by decide) (by decide) _ _ _ x.2.2.2 rfl hox.2 (by omega) _ (H.oldSl hbx)) ?_) rfl
        rintro v w ⟨rfl, rfl⟩
        refine ow_nil ⟨fun _ => H.none, ?_⟩
        apply ak_one (i := 13)
        · kernel_rfl
        · rfl
        · rfl
        refine ow_call rfl rfl (ent (by kernel_rfl)) (CallsV.mono (refFixed_spec (sumN 3988292384 0 x.2.2.2) (sumN_usual_lt hox.2) _) ?_) rfl
        rintro v w ⟨p13, c13, rfl, H'⟩
        replace H := H.call H'
        clear H'
        replace H := H.appToSl (i := 0) rfl
        dsimp only [List.set, List.cons_append, List.nil_append] at H
        refine ow_nil ⟨fun _ => H.none, ?_⟩
        replace H : St Pu w0 w (.app p (2 + 3 * i) c 22 1 (joinSl ps) :: (slC ps ++ slC [(some ⟨b6, 0, none⟩, 1, [x.1]), (p10, c10, putN x.2.2.2.length), (p13, c13, leB 4 (sumN usual 0 x.2.2.2))])) [] := H.perm (perm45 (X := [_, _, _]) (List.reverse_perm [_, _, _]))
        apply ak_one (i := 14)
        · kernel_rfl
        · rfl
        · rfl
        refine ow_buildSlice1 (vs := [.slice _ _ _, .slice _ _ _, .slice _ _ _]) H rfl (tyAt rfl) rfl (tyAt rfl) rfl rfl rfl rfl rfl (by simp [Value.one]) (fun b w H => ?_)
        refine ow_nil ⟨fun _ => H.none, ?_⟩
        apply ak_one (i := 15)
        · kernel_rfl
        · rfl
        · rfl
        refine ow_append (i := 1) H rfl rfl (tyAt rfl) rfl (tyAt rfl) rfl (by decide) rfl rfl (H.rowSl (i := 0) rfl) (by first | rfl | (simp; done) | (simp; omega)) (by simp [Value.oneCell']) (by first | omega | (dsimp only; omega) | (simp; omega)) (by first | omega | (dsimp only; omega) | (simp; omega)) (fun p3 c3 w H => ?_)
        dsimp only [List.set] at H
        replace H := H.drop
        refine ow_nil ⟨fun _ => H.none, ?_⟩
        apply ak_one (i := 16)
        · kernel_rfl
        · rfl
        · rfl
        (apply ow_assign; (· rfl); (· ((conv => lhs; whnf) <;> rfl)))
        refine ow_nil ⟨fun _ => H.none, ?_⟩
        refine ak_done (by kernel_rfl) ?_
        refine wc_region ?_
        (apply ow_move; (· rfl); (· ((conv => lhs; whnf) <;> rfl)))
        refine ow_add rfl rfl rfl (by simp only [InK]; omega) ?_
        (apply ow_assign; (· rfl); (· ((conv => lhs; whnf) <;> rfl)))
        refine ow_nil ?_
        replace H : St Pu w0 w (.app p3 (2 + 3 * i + 3) c3 22 1 (joinSl (ps ++ [(some ⟨b6, 0, none⟩, 1, [x.1]), (p10, c10, putN x.2.2.2.length), (p13, c13, leB 4 (sumN usual 0 x.2.2.2))])) :: slC (ps ++ [(some ⟨b6, 0, none⟩, 1, [x.1]), (p10, c10, putN x.2.2.2.length), (p13, c13, leB 4 (sumN usual 0 x.2.2.2))])) [] := by
          rw [slC_snoc, joinSl_app]
          exact H
        refine ⟨(i + 1, p3, c3, ps ++ [_, _, _]), by first | exact rfl | exact upd_self' rfl rfl | exact upd_self' rfl (upd_self' rfl rfl) | exact upd_self' rfl (upd_self' rfl (upd_self' rfl rfl)) | exact upd_self' rfl (upd_self' rfl (upd_self' rfl (upd_self' rfl rfl))), by repeat (first | with_reducible exact Off.mix | with_reducible exact Off.refl | ((with_reducible refine Off.upd ?_ ?_); (· rfl))), ⟨rfl, hlt, hrise, ?_, ?_, H⟩, by dsimp only; omega⟩
        · dsimp only; rw [joinB_app, hjb, flat_snoc headS hx]; simp [joinB, headS, headN, secP]
        · dsimp only; rw [List.length_append, hpl]; rfl
      · refine ow_call rfl rfl (ent (by kernel_rfl)) (CallsV.mono (refPut_spec x.2.2.2.length (by omega) _) ?_) rfl
        rintro v w ⟨p10, c10, rfl, H'⟩
        replace H := H.call H'
        clear H'
        replace H := H.appToSl (i := 0) rfl
        dsimp only [List.set, List.cons_append, List.nil_append] at H
        refine ow_nil ⟨fun _ => H.none, ?_⟩
        apply ak_two (i := 6) (j := 12)
        · kernel_rfl
        · rfl
        · rfl
        · rfl
        · rfl
        · refine ow_buildSlice1 (vs := [.int .u8 _]) H rfl (tyAt rfl) rfl (tyAt rfl) rfl rfl rfl rfl rfl (by simp [Value.one]) (fun b6 w H => ?_)
          replace H := H.rowToSl (i := 0) rfl
          dsimp only [List.set] at H
          refine ow_nil ⟨fun _ => H.none, ?_⟩
          apply ak_one (i := 12)
          · kernel_rfl
          · rfl
          · rfl
          refine ow_call rfl rfl (ent (by kernel_rfl)) (CallsV.mono (refMore_spec' 3988292384 0 (by decide) (by decide) _ _ _ x.2.2.2 rfl hox.2 (by omega) _ (H.oldSl hbx)) ?_) rfl
          rintro v w ⟨rfl, rfl⟩
          refine ow_nil ⟨fun _ => H.none, ?_⟩
          apply ak_one (i := 13)
          · kernel_rfl
          · rfl
          · rfl
          refine ow_call rfl rfl (ent (by kernel_rfl)) (CallsV.mono (refFixed_spec (sumN 3988292384 0 x.2.2.2) (sumN_usual_lt hox.2) _) ?_) rfl
          rintro v w ⟨p13, c13, rfl, H'⟩
          replace H := H.call H'
          clear H'
          replace H := H.appToSl (i := 0) rfl
          dsimp only [List.set, List.cons_append, List.nil_append] at H
          refine ow_nil ⟨fun _ => H.none, ?_⟩
          replace H : St Pu w0 w (.app p (2 + 3 * i) c 22 1 (joinSl ps) :: (slC ps ++ slC [(some ⟨b6, 0, none⟩, 1, [x.1]), (p10, c10, putN x.2.2.2.length), (p13, c13, leB 4 (sumN usual 0 x.2.2.2))])) [] := H.perm (perm45 (X := [_, _, _]) (List.perm_append_comm (l₁ := [_]) (l₂ := [_, _])))
          apply ak_one (i := 14)
          · kernel_rfl
          · rfl
          · rfl
          refine ow_buildSlice1 (vs := [.slice _ _ _, .slice _ _ _, .slice _ _ _]) H rfl (tyAt rfl) rfl (tyAt rfl) rfl rfl rfl rfl rfl (by simp [Value.one]) (fun b w H => ?_)
          refine ow_nil ⟨fun _ => H.none, ?_⟩
          apply ak_one (i := 15)
          · kernel_rfl
          · rfl
          · rfl
          refine ow_append (i := 1) H rfl rfl (tyAt rfl) rfl (tyAt rfl) rfl (by decide) rfl rfl (H.rowSl (i := 0) rfl) (by first | rfl | (simp; done) | (simp; omega)) (by simp [Value.oneCell']) (by first | omega | (dsimp only; omega) | (simp; omega)) (by first | omega | (dsimp only; omega) | (simp; omega)) (fun p3 c3 w H => ?_)
          dsimp only [List.set] at H
          replace H := H.drop
          refine ow_nil ⟨fun _ => H.none, ?_⟩
          apply ak_one (i := 16)
          · kernel_rfl
          · rfl
          · rfl
          (apply ow_assign; (· rfl); (· ((conv => lhs; whnf) <;> rfl)))
          refine ow_nil ⟨fun _ => H.none, ?_⟩
          refine ak_done (by kernel_rfl) ?_
          refine wc_region ?_
          (apply ow_move; (· rfl); (· ((conv => lhs; whnf) <;> rfl)))
          refine ow_add rfl rfl rfl (by simp only [InK]; omega) ?_
          (apply ow_assign; (· rfl); (· ((conv => lhs; whnf) <;> rfl)))
          refine ow_nil ?_
          replace H : St Pu w0 w (.app p3 (2 + 3 * i + 3) c3 22 1 (joinSl (ps ++ [(some ⟨b6, 0, none⟩, 1, [x.1]), (p10, c10, putN x.2.2.2.length), (p13, c13, leB 4 (sumN usual 0 x.2.2.2))])) :: slC (ps ++ [(some ⟨b6, 0, none⟩, 1, [x.1]), (p10, c10, putN x.2.2.2.length), (p13, c13, leB 4 (sumN usual 0 x.2.2.2))])) [] := by
            rw [slC_snoc, joinSl_app]
            exact H
          refine ⟨(i + 1, p3, c3, ps ++ [_, _, _]), by first | exact rfl | exact upd_self' rfl rfl | exact upd_self' rfl (upd_self' rfl rfl) | exact upd_self' rfl (upd_self' rfl (upd_self' rfl rfl)) | exact upd_self' rfl (upd_self' rfl (upd_self' rfl (upd_self' rfl rfl))), by repeat (first | with_reducible exact Off.mix | with_reducible exact Off.refl | ((with_reducible refine Off.upd ?_ ?_); (· rfl))), ⟨rfl, hlt, hrise, ?_, ?_, H⟩, by dsimp only; omega⟩
          · dsimp only; rw [joinB_app, hjb, flat_snoc headS hx]; simp [joinB, headS, headN, secP]
          · dsimp only; rw [List.length_append, hpl]; rfl
        · refine ow_call rfl rfl (ent (by kernel_rfl)) (CallsV.mono (refMore_spec' 3988292384 0 (by decide) (by decide) _ _ _ x.2.2.2 rfl hox.2 (by omega) _ (H.oldSl hbx)) ?_) rfl
          rintro v w ⟨rfl, rfl⟩
          refine ow_nil ⟨fun _ => H.none, ?_⟩
          apply ak_two (i := 6) (j := 13)
          · kernel_rfl
          · rfl
          · rfl
          · rfl
          · rfl
          · refine ow_buildSlice1 (vs := [.int .u8 _]) H rfl (tyAt rfl) rfl (tyAt rfl) rfl rfl rfl rfl rfl (by simp [Value.one]) (fun b6 w H => ?_)
            replace H := H.rowToSl (i := 0) rfl
            dsimp only [List.set] at H
            refine ow_nil ⟨fun _ => H.none, ?_⟩
            apply ak_one (i := 13)
            · kernel_rfl
            · rfl
            · rfl
            refine ow_call rfl rfl (ent (by kernel_rfl)) (CallsV.mono (refFixed_spec (sumN 3988292384 0 x.2.2.2) (sumN_usual_lt hox.2) _) ?_) rfl
            rintro v w ⟨p13, c13, rfl, H'⟩
            replace H := H.call H'
            clear H'
            replace H := H.appToSl (i := 0) rfl
            dsimp only [List.set, List.cons_append, List.nil_append] at H
            refine ow_nil ⟨fun _ => H.none, ?_⟩
            replace H : St Pu w0 w (.app p (2 + 3 * i) c 22 1 (joinSl ps) :: (slC ps ++ slC [(some ⟨b6, 0, none⟩, 1, [x.1]), (p10, c10, putN x.2.2.2.length), (p13, c13, leB 4 (sumN usual 0 x.2.2.2))])) [] := H.perm (perm45 (X := [_, _, _]) (List.perm_append_comm (l₁ := [_]) (l₂ := [_, _])))
            apply ak_one (i := 14)
            · kernel_rfl
            · rfl
            · rfl
            refine ow_buildSlice1 (vs := [.slice _ _ _, .slice _ _ _, .slice _ _ _]) H rfl (tyAt rfl) rfl (tyAt rfl) rfl rfl rfl rfl rfl (by simp [Value.one]) (fun b w H => ?_)
            refine ow_nil ⟨fun _ => H.none, ?_⟩
            apply ak_one (i := 15)
            · kernel_rfl
            · rfl
            · rfl
            refine ow_append (i := 1) H rfl rfl (tyAt rfl) rfl (tyAt rfl) rfl (by decide) rfl rfl (H.rowSl (i := 0) rfl) (by first | rfl | (simp; done) | (simp; omega)) (by simp [Value.oneCell']) (by first | omega | (dsimp only; omega) | (simp; omega)) (by first | omega | (dsimp only; omega) | (simp; omega)) (fun p3 c3 w H => ?_)
            dsimp only [List.set] at H
            replace H := H.drop
            refine ow_nil ⟨fun _ => H.none, ?_⟩
            apply ak_one (i := 16)
            · kernel_rfl
            · rfl
            · rfl
            (apply ow_assign; (· rfl); (· ((conv => lhs; whnf) <;> rfl)))
            refine ow_nil ⟨fun _ => H.none, ?_⟩
            refine ak_done (by kernel_rfl) ?_
            refine wc_region ?_
            (apply ow_move; (· rfl); (· ((conv => lhs; whnf) <;> rfl)))
            refine ow_add rfl rfl rfl (by simp only [InK]; omega) ?_
            (apply ow_assign; (· rfl); (· ((conv => lhs; whnf) <;> rfl)))
            refine ow_nil ?_
            replace H : St Pu w0 w (.app p3 (2 + 3 * i + 3) c3 22 1 (joinSl (ps ++ [(some ⟨b6, 0, none⟩, 1, [x.1]), (p10, c10, putN x.2.2.2.length), (p13, c13, leB 4 (sumN usual 0 x.2.2.2))])) :: slC (ps ++ [(some ⟨b6, 0, none⟩, 1, [x.1]), (p10, c10, putN x.2.2.2.length), (p13, c13, leB 4 (sumN usual 0 x.2.2.2))])) [] := by
              rw [slC_snoc, joinSl_app]
              exact H
            refine ⟨(i + 1, p3, c3, ps ++ [_, _, _]), by first | exact rfl | exact upd_self' rfl rfl | exact upd_self' rfl (upd_self' rfl rfl) | exact upd_self' rfl (upd_self' rfl (upd_self' rfl rfl)) | exact upd_self' rfl (upd_self' rfl (upd_self' rfl (upd_self' rfl rfl))), by repeat (first | with_reducible exact Off.mix | with_reducible exact Off.refl | ((with_reducible refine Off.upd ?_ ?_); (· rfl))), ⟨rfl, hlt, hrise, ?_, ?_, H⟩, by dsimp only; omega⟩
            · dsimp only; rw [joinB_app, hjb, flat_snoc headS hx]; simp [joinB, headS, headN, secP]
            · dsimp only; rw [List.length_append, hpl]; rfl
          · refine ow_call rfl rfl (ent (by kernel_rfl)) (CallsV.mono (refFixed_spec (sumN 3988292384 0 x.2.2.2) (sumN_usual_lt hox.2) _) ?_) rfl
            rintro v w ⟨p13, c13, rfl, H'⟩
            replace H := H.call H'
            clear H'
            replace H := H.appToSl (i := 0) rfl
            dsimp only [List.set, List.cons_append, List.nil_append] at H
            refine ow_nil ⟨fun _ => H.none, ?_⟩
            apply ak_one (i := 6)
            · kernel_rfl
            · rfl
            · rfl
            refine ow_buildSlice1 (vs := [.int .u8 _]) H rfl (tyAt rfl) rfl (tyAt rfl) rfl rfl rfl rfl rfl (by simp [Value.one]) (fun b6 w H => ?_)
            replace H := H.rowToSl (i := 0) rfl
            dsimp only [List.set] at H
            refine ow_nil ⟨fun _ => H.none, ?_⟩
            replace H : St Pu w0 w (.app p (2 + 3 * i) c 22 1 (joinSl ps) :: (slC ps ++ slC [(some ⟨b6, 0, none⟩, 1, [x.1]), (p10, c10, putN x.2.2.2.length), (p13, c13, leB 4 (sumN usual 0 x.2.2.2))])) [] := H.perm (perm45 (X := [_, _, _]) (.cons _ (.swap _ _ _)))
            apply ak_one (i := 14)
            · kernel_rfl
            · rfl
            · rfl
            refine ow_buildSlice1 (vs := [.slice _ _ _, .slice _ _ _, .slice _ _ _]) H rfl (tyAt rfl) rfl (tyAt rfl) rfl rfl rfl rfl rfl (by simp [Value.one]) (fun b w H => ?_)
            refine ow_nil ⟨fun _ => H.none, ?_⟩
            apply ak_one (i := 15)
            · kernel_rfl
            · rfl
            · rfl
            refine ow_append (i := 1) H rfl rfl (tyAt rfl) rfl (tyAt rfl) rfl (by decide) rfl rfl (H.rowSl (i := 0) rfl) (by first | rfl | (simp; done) | (simp; omega)) (by simp [Value.oneCell']) (by first | omega | (dsimp only; omega) | (simp; omega)) (by first | omega | (dsimp only; omega) | (simp; omega)) (fun p3 c3 w H => ?_)
            dsimp only [List.set] at H
            replace H := H.drop
            refine ow_nil ⟨fun _ => H.none, ?_⟩
            apply ak_one (i := 16)
            · kernel_rfl
            · rfl
            · rfl
            (apply ow_assign; (· rfl); (· ((conv => lhs; whnf) <;> rfl)))
            refine ow_nil ⟨fun _ => H.none, ?_⟩
            refine ak_done (by kernel_rfl) ?_
            refine wc_region ?_
            (apply ow_move; (· rfl); (· ((conv => lhs; whnf) <;> rfl)))
            refine ow_add rfl rfl rfl (by simp only [InK]; omega) ?_
            (apply ow_assign; (· rfl); (· ((conv => lhs; whnf) <;> rfl)))
            refine ow_nil ?_
            replace H : St Pu w0 w (.app p3 (2 + 3 * i + 3) c3 22 1 (joinSl (ps ++ [(some ⟨b6, 0, none⟩, 1, [x.1]), (p10, c10, putN x.2.2.2.length), (p13, c13, leB 4 (sumN usual 0 x.2.2.2))])) :: slC (ps ++ [(some ⟨b6, 0, none⟩, 1, [x.1]), (p10, c10, putN x.2.2.2.length), (p13, c13, leB 4 (sumN usual 0 x.2.2.2))])) [] := by
              rw [slC_snoc, joinSl_app]
              exact H
            refine ⟨(i + 1, p3, c3, ps ++ [_, _, _]), by first | exact rfl | exact upd_self' rfl rfl | exact upd_self' rfl (upd_self' rfl rfl) | exact upd_self' rfl (upd_self' rfl (upd_self' rfl rfl)) | exact upd_self' rfl (upd_self' rfl (upd_self' rfl (upd_self' rfl rfl))), by repeat (first | with_reducible exact Off.mix | with_reducible exact Off.refl | ((with_reducible refine Off.upd ?_ ?_); (· rfl))), ⟨rfl, hlt, hrise, ?_, ?_, H⟩, by dsimp only; omega⟩
            · dsimp only; rw [joinB_app, hjb, flat_snoc headS hx]; simp [joinB, headS, headN, secP]
            · dsimp only; rw [List.length_append, hpl]; rfl
    · have hrise : Rises (list.map secP) (i + 1) := fun k hk => by omega
      apply ak_take (i := 3) rfl rfl rfl rfl (by kernel_rfl) (by with_reducible first | exact H | rfl)
      · intro w Q' HS hq; replace H := HS; clear HS; refine ow_guard_no rfl rfl rfl rfl rfl rfl rfl ?_; exact ow_nil hq
      apply ak_take (i := 4) rfl rfl rfl rfl (by kernel_rfl) (by with_reducible first | exact H | rfl)
      · intro w Q' HS hq; replace H := HS; clear HS; refine ow_guard_no rfl rfl rfl rfl rfl rfl rfl ?_; exact ow_nil hq
      apply ak_take (i := 5) rfl rfl rfl rfl (by kernel_rfl) (by with_reducible first | exact H | rfl)
      · intro w Q' HS hq; replace H := HS; clear HS; refine ow_guard_no rfl rfl rfl rfl rfl rfl rfl ?_; exact ow_nil hq
      apply ak_take (i := 6) rfl rfl rfl rfl (by kernel_rfl) (by with_reducible first | exact H | rfl)
      · intro w Q' HS hq; replace H := HS; clear HS; refine ow_guard_no rfl rfl rfl rfl rfl rfl rfl ?_; exact ow_nil hq
      apply ak_take (i := 7) rfl rfl rfl rfl (by kernel_rfl) (by with_reducible first | exact H | rfl)
      · intro w Q' HS hq; replace H := HS; clear HS; refine ow_guard_no rfl rfl rfl rfl rfl rfl rfl ?_; exact ow_nil hq
      apply ak_take (i := 8) rfl rfl rfl rfl (by kernel_rfl) (by with_reducible first | exact H | rfl)
      · intro w Q' HS hq; replace H := HS; clear HS; refine ow_guard_no rfl rfl rfl rfl rfl rfl rfl ?_; exact ow_nil hq
      apply ak_take (i := 9) rfl rfl rfl rfl (by kernel_rfl) (by with_reducible first | exact H | rfl)
      · intro w Q' HS hq; replace H := HS; clear HS; refine ow_guard_no rfl rfl rfl rfl rfl rfl rfl ?_; exact ow_nil hq
      apply ak_take (i := 10) rfl rfl rfl rfl (by kernel_rfl) (by with_reducible first | exact H | rfl)
      · intro w Q' HS hq; replace H := HS; clear HS; refine ow_guard_no rfl rfl rfl rfl rfl rfl rfl ?_; exact ow_nil hq
      apply ak_take (i := 11) rfl rfl rfl rfl (by kernel_rfl) (by with_reducible first | exact H | rfl)
      · intro w Q' HS hq; replace H := HS; clear HS; refine ow_guard_no rfl rfl rfl rfl rfl rfl rfl ?_; exact ow_nil hq
      apply ak_take (i := 12) rfl rfl rfl rfl (by kernel_rfl) (by with_reducible first | exact H | rfl)
      · intro w Q' HS hq; replace H := HS; clear HS; refine ow_guard_no rfl rfl rfl rfl rfl rfl rfl ?_; exact ow_nil hq
      apply ak_take (i := 13) rfl rfl rfl rfl (by kernel_rfl) (by with_reducible first | exact H | rfl)
      · intro w Q' HS hq; replace H := HS; clear HS; refine ow_guard_no rfl rfl rfl rfl rfl rfl rfl ?_; exact ow_nil hq
      apply ak_take (i := 14) rfl rfl rfl rfl (by kernel_rfl) (by with_reducible first | exact H | rfl)
      · intro w Q' HS hq; replace H := HS; clear HS; refine ow_guard_no rfl rfl rfl rfl rfl rfl rfl ?_; exact ow_nil hq
      apply ak_take (i := 15) rfl rfl rfl rfl (by kernel_rfl) (by with_reducible first | exact H | rfl)
      · intro w Q' HS hq; replace H := HS; clear HS; (apply ow_pick_f; (· rfl); (· rfl); (· ((conv => lhs; whnf) <;> rfl))); exact ow_nil hq
      refine ak_done (by kernel_rfl) ?_
      refine wc_cond_false rfl ?_
      refine wc_skip ?_
      refine wc_seq ?_
      refine wc_region ?_
      (apply ow_move; (· rfl); (· ((conv => lhs; whnf) <;> rfl)))
      (apply ow_move; (· rfl); (· ((conv => lhs; whnf) <;> rfl)))
      refine ow_idxK (j := i) (sz := 2) rfl (tyAt rfl) rfl (tyAt rfl) rfl rfl rfl hlt rfl ?_
      refine ow_fieldAddr rfl (tyAt rfl) rfl rfl rfl (tyAt rfl) rfl rfl ?_
      refine ow_load rfl (tyAt rfl) rfl rfl (secs_at (H.oldSl hs1) hx).2 ?_
      (apply ow_assign; (· rfl); (· ((conv => lhs; whnf) <;> rfl)))
      refine ow_nil ?_
      have G := G.drew
      replace H := H.none
      refine wc_drawK (fun w => St Pu w0 w [] []) 99 (by kernel_rfl) (by kernel_rfl) (by intro c e D w h; first | exact h.elim | (rcases h with ⟨h | h, _⟩ <;> cases h)) ?_
      replace H := H.drew
      apply ak_take (i := 0) rfl rfl rfl rfl (by kernel_rfl) (by with_reducible first | exact H | rfl)
      · intro w Q' HS hq; replace H := HS; clear HS; (apply ow_move; (· rfl); (· ((conv => lhs; whnf) <;> rfl))); exact ow_nil hq
      apply ak_take (i := 1) rfl rfl rfl rfl (by kernel_rfl) (by with_reducible first | exact H | rfl)
      · intro w Q' HS hq; replace H := HS; clear HS; (apply ow_move; (· rfl); (· ((conv => lhs; whnf) <;> rfl))); exact ow_nil hq
      apply ak_take (i := 2) rfl rfl rfl rfl (by kernel_rfl) (by with_reducible first | exact H | rfl)
      · intro w Q' HS hq; replace H := HS; clear HS; (apply ow_move; (· rfl); (· ((conv => lhs; whnf) <;> rfl))); exact ow_nil hq
      apply ak_take (i := 3) rfl rfl rfl rfl (by kernel_rfl) (by with_reducible first | exact H | rfl)
      · intro w Q' HS hq; replace H := HS; clear HS; refine ow_idxK (j := i) (sz := 2) rfl (tyAt rfl) rfl (tyAt rfl) rfl rfl rfl hlt rfl ?_; exact ow_nil hq
      apply ak_take (i := 4) rfl rfl rfl rfl (by kernel_rfl) (by with_reducible first | exact H | rfl)
      · intro w Q' HS hq; replace H := HS; clear HS; refine ow_fieldAddr rfl (tyAt rfl) rfl rfl rfl (tyAt rfl) rfl rfl ?_; exact ow_nil hq
      apply ak_take (i := 5) rfl rfl rfl rfl (by kernel_rfl) (by with_reducible first | exact H | rfl)
      · intro w Q' HS hq; replace H := HS; clear HS; refine ow_load rfl (tyAt rfl) rfl rfl (secs_at (H.oldSl hs1) hx).1 ?_; exact ow_nil hq
      apply ak_take (i := 7) rfl rfl rfl rfl (by kernel_rfl) (by with_reducible first | exact H | rfl)
      · intro w Q' HS hq; replace H := HS; clear HS; (apply ow_move; (· rfl); (· ((conv => lhs; whnf) <;> rfl))); exact ow_nil hq
      apply ak_take (i := 8) rfl rfl rfl rfl (by kernel_rfl) (by with_reducible first | exact H | rfl)
      · intro w Q' HS hq; replace H := HS; clear HS; refine ow_len rfl rfl (tyAt rfl) rfl ?_; exact ow_nil hq
      apply ak_take (i := 9) rfl rfl rfl rfl (by kernel_rfl) (by with_reducible first | exact H | rfl)
      · intro w Q' HS hq; replace H := HS; clear HS; refine ow_conv_in rfl rfl (tyAt rfl) (tyAt rfl) rfl (by simp only [InK]; omega) ?_; exact ow_nil hq
      apply ak_take (i := 11) rfl rfl rfl rfl (by kernel_rfl) (by with_reducible first | exact H | rfl)
      · intro w Q' HS hq; replace H := HS; clear HS; (apply ow_move; (· rfl); (· ((conv => lhs; whnf) <;> rfl))); exact ow_nil hq
      replace H := G
      clear G
      apply ak_two (i := 6) (j := 10)
      · kernel_rfl
      · rfl
      · rfl
      · rfl
      · rfl
      · refine ow_buildSlice1 (vs := [.int .u8 _]) H rfl (tyAt rfl) rfl (tyAt rfl) rfl rfl rfl rfl rfl (by simp [Value.one]) (fun b6 w H => ?_)
        replace H := H.rowToSl (i := 0) rfl
        dsimp only [List.set] at H
        refine ow_nil ⟨fun _ => H.none, ?_⟩
        apply ak_one (i := 10)
        · kernel_rfl
        · rfl
        · rfl
        refine ow_call rfl rfl (ent (by kernel_rfl)) (CallsV.mono (refPut_spec x.2.2.2.length (by omega) _) ?_) rfl
        rintro v w ⟨p10, c10, rfl, H'⟩
        replace H := H.call H'
        clear H'
        replace H := H.appToSl (i := 0) rfl
        dsimp only [List.set, List.cons_append, List.nil_append] at H
        refine ow_nil ⟨fun _ => H.none, ?_⟩
        apply ak_one (i := 12)
        · kernel_rfl
        · rfl
        · rfl
        refine ow_call rfl rfl (ent (by kernel_rfl)) (CallsV.mono (refMore_spec' 3988292384 0 (by decide) (by decide) _ _ _ x.2.2.2 rfl hox.2 (by omega) _ (H.oldSl hbx)) ?_) rfl
        rintro v w ⟨rfl, rfl⟩
        refine ow_nil ⟨fun _ => H.none, ?_⟩
        apply ak_one (i := 13)
        · kernel_rfl
        · rfl
        · rfl
        refine ow_call rfl rfl (ent (by kernel_rfl)) (CallsV.mono (refFixed_spec (sumN 3988292384 0 x.2.2.2) (sumN_usual_lt hox.2) _) ?_) rfl
        rintro v w ⟨p13, c13, rfl, H'⟩
        replace H := H.call H'
        clear H'
        replace H := H.appToSl (i := 0) rfl
        dsimp only [List.set, List.cons_append, List.nil_append] at H
        refine ow_nil ⟨fun _ => H.none, ?_⟩
        replace H : St Pu w0 w (.app p (2 + 3 * i) c 22 1 (joinSl ps) :: (slC ps ++ slC [(some ⟨b6, 0, none⟩, 1, [x.1]), (p10, c10, putN x.2.2.2.length), (p13, c13, leB 4 (sumN usual 0 x.2.2.2))])) [] := H.perm (perm45 (X := [_, _, _]) (List.reverse_perm [_, _, _]))
        apply ak_one (i := 14)
        · kernel_rfl
        · rfl
        · rfl
        refine ow_buildSlice1 (vs := [.slice _ _ _, .slice _ _ _, .slice _ _ _]) H rfl (tyAt rfl) rfl (tyAt rfl) rfl rfl rfl rfl rfl (by simp [Value.one]) (fun b w H => ?_)
        refine ow_nil ⟨fun _ => H.none, ?_⟩
        apply ak_one (i := 15)
        · kernel_rfl
        · rfl
        · rfl
        refine ow_append (i := 1) H rfl rfl (tyAt rfl) rfl (tyAt rfl) rfl (by decide) rfl rfl (H.rowSl (i := 0) rfl) (by first | rfl | (simp; done) | (simp; omega)) (by simp [Value.oneCell']) (by first | omega | (dsimp only; omega) | (simp; omega)) (by first | omega | (dsimp only; omega) | (simp; omega)) (fun p3 c3 w H => ?_)
        dsimp only [List.set] at H
        replace H := H.drop
        refine ow_nil ⟨fun _ => H.none, ?_⟩
        apply ak_one (i := 16)
        · kernel_rfl
        · rfl
        · rfl
        (apply ow_assign; (· rfl); (· ((conv => lhs; whnf) <;> rfl)))
        refine ow_nil ⟨fun _ => H.none, ?_⟩
        refine ak_done (by kernel_rfl) ?_
        refine wc_region ?_
        (apply ow_move; (· rfl); (· ((conv => lhs; whnf) <;> rfl)))
        refine ow_add rfl rfl rfl (by simp only [InK]; omega) ?_
        (apply ow_assign; (· rfl); (· ((conv => lhs; whnf) <;> rfl)))
        refine ow_nil ?_
        replace H : St Pu w0 w (.app p3 (2 + 3 * i + 3) c3 22 1 (joinSl (ps ++ [(some ⟨b6, 0, none⟩, 1, [x.1]), (p10, c10, putN x.2.2.2.length), (p13, c13, leB 4 (sumN usual 0 x.2.2.2))])) :: slC (ps ++ [(some ⟨b6, 0, none⟩, 1, [x.1]), (p10, c10, putN x.2.2.2.length), (p13, c13, leB 4 (sumN usual 0 x.2.2.2))])) [] := by
          rw [slC_snoc, joinSl_app]
          exact H
        refine ⟨(i + 1, p3, c3, ps ++ [_, _, _]), by first | exact rfl | exact upd_self' rfl rfl | exact upd_self' rfl (upd_self' rfl rfl) | exact upd_self' rfl (upd_self' rfl (upd_self' rfl rfl)) | exact upd_self' rfl (upd_self' rfl (upd_self' rfl (upd_self' rfl rfl))), by repeat (first | with_reducible exact Off.mix | with_reducible exact Off.refl | ((with_reducible refine Off.upd ?_ ?_); (· rfl))), ⟨rfl, hlt, hrise, ?_, ?_, H⟩, by dsimp only; omega⟩
        · dsimp only; rw [joinB_app, hjb, flat_snoc headS hx]; simp [joinB, headS, headN, secP]
        · dsimp only; rw [List.length_append, hpl]; rfl
      · refine ow_call rfl rfl (ent (by kernel_rfl)) (CallsV.mono (refPut_spec x.2.2.2.length (by omega) _) ?_) rfl
        rintro v w ⟨p10, c10, rfl, H'⟩
        replace H := H.call H'
        clear H'
        replace H := H.appToSl (i := 0) rfl
        dsimp only [List.set, List.cons_append, List.nil_append] at H
        refine ow_nil ⟨fun _ => H.none, ?_⟩
        apply ak_two (i := 6) (j := 12)
        · kernel_rfl
        · rfl
        · rfl
        · rfl
        · rfl
        · refine ow_buildSlice1 (vs := [.int .u8 _]) H rfl (tyAt rfl) rfl (tyAt rfl) rfl rfl rfl rfl rfl (by simp [Value.one]) (fun b6 w H => ?_)
          replace H := H.rowToSl (i := 0) rfl
          dsimp only [List.set] at H
          refine ow_nil ⟨fun _ => H.none, ?_⟩
          apply ak_one (i := 12)
          · kernel_rfl
          · rfl
          · rfl
          refine ow_call rfl rfl (ent (by kernel_rfl)) (CallsV.mono (refMore_spec' 3988292384 0 (by decide) (by decide) _ _ _ x.2.2.2 rfl hox.2 (by omega) _ (H.oldSl hbx)) ?_) rfl
          rintro v w ⟨rfl, rfl⟩
          refine ow_nil ⟨fun _ => H.none, ?_⟩
          apply ak_one (i := 13)
          · kernel_rfl
          · rfl
          · rfl
          refine ow_call rfl rfl (ent (by kernel_rfl)) (CallsV.mono (refFixed_spec (sumN 3988292384 0 x.2.2.2) (sumN_usual_lt hox.2) _) ?_) rfl
          rintro v w ⟨p13, c13, rfl, H'⟩
          replace H := H.call H'
          clear H'
          replace H := H.appToSl (i := 0) rfl
          dsimp only [List.set, List.cons_append, List.nil_append] at H
          refine ow_nil ⟨fun _ => H.none, ?_⟩
          replace H : St Pu w0 w (.app p (2 + 3 * i) c 22 1 (joinSl ps) :: (slC ps ++ slC [(some ⟨b6, 0, none⟩, 1, [x.1]), (p10, c10, putN x.2.2.2.length), (p13, c13, leB 4 (sumN usual 0 x.2.2.2))])) [] := H.perm (perm45 (X := [_, _, _]) (List.perm_append_comm (l₁ := [_]) (l₂ := [_, _])))
          apply ak_one (i := 14)
          · kernel_rfl
          · rfl
          · rfl
          refine ow_buildSlice1 (vs := [.slice _ _ _, .slice _ _ _, .slice _ _ _]) H rfl (tyAt rfl) rfl (tyAt rfl) rfl rfl rfl rfl rfl (by simp [Value.one]) (fun b w H => ?_)
          refine ow_nil ⟨fun _ => H.none, ?_⟩
          apply ak_one (i := 15)
          · kernel_rfl
          · rfl
          · rfl
          refine ow_append (i := 1) H rfl rfl (tyAt rfl) rfl (tyAt rfl) rfl (by decide) rfl rfl (H.rowSl (i := 0) rfl) (by first | rfl | (simp; done) | (simp; omega)) (by simp [Value.oneCell']) (by first | omega | (dsimp only; omega) | (simp; omega)) (by first | omega | (dsimp only; omega) | (simp; omega)) (fun p3 c3 w H => ?_)
          dsimp only [List.set] at H
          replace H := H.drop
          refine ow_nil ⟨fun _ => H.none, ?_⟩
          apply ak_one (i := 16)
          · kernel_rfl
          · rfl
          · rfl
          (apply ow_assign; (· rfl); (· ((conv => lhs; whnf) <;> rfl)))
          refine ow_nil ⟨fun _ => H.none, ?_⟩
          refine ak_done (by kernel_rfl) ?_
          refine wc_region ?_
          (apply ow_move; (· rfl); (· ((conv => lhs; whnf) <;> rfl)))
          refine ow_add rfl rfl rfl (by simp only [InK]; omega) ?_
          (apply ow_assign; (· rfl); (· ((conv => lhs; whnf) <;> rfl)))
          refine ow_nil ?_
          replace H : St Pu w0 w (.app p3 (2 + 3 * i + 3) c3 22 1 (joinSl (ps ++ [(some ⟨b6, 0, none⟩, 1, [x.1]), (p10, c10, putN x.2.2.2.length), (p13, c13, leB 4 (sumN usual 0 x.2.2.2))])) :: slC (ps ++ [(some ⟨b6, 0, none⟩, 1, [x.1]), (p10, c10, putN x.2.2.2.length), (p13, c13, leB 4 (sumN usual 0 x.2.2.2))])) [] := by
            rw [slC_snoc, joinSl_app]
            exact H
          refine ⟨(i + 1, p3, c3, ps ++ [_, _, _]), by first | exact rfl | exact upd_self' rfl rfl | exact upd_self' rfl (upd_self' rfl rfl) | exact upd_self' rfl (upd_self' rfl (upd_self' rfl rfl)) | exact upd_self' rfl (upd_self' rfl (upd_self' rfl (upd_self' rfl rfl))), by repeat (first | with_reducible exact Off.mix | with_reducible exact Off.refl | ((with_reducible refine Off.upd ?_ ?_); (· rfl))), ⟨rfl, hlt, hrise, ?_, ?_, H⟩, by dsimp only; omega⟩
          · dsimp only; rw [joinB_app, hjb, flat_snoc headS hx]; simp [joinB, headS, headN, secP]
          · dsimp only; rw [List.length_append, hpl]; rfl
        · refine ow_call rfl rfl (ent (by kernel_rfl)) (CallsV.mono (refMore_spec' 3988292384 0 (by decide) (by decide) _ _ _ x.2.2.2 rfl hox.2 (by omega) _ (H.oldSl hbx)) ?_) rfl
          rintro v w ⟨rfl, rfl⟩
          refine ow_nil ⟨fun _ => H.none, ?_⟩
          apply ak_two (i := 6) (j := 13)
          · kernel_rfl
          · rfl
          · rfl
          · rfl
          · rfl
          · refine ow_buildSlice1 (vs := [.int .u8 _]) H rfl (tyAt rfl) rfl (tyAt rfl) rfl rfl rfl rfl rfl (by simp [Value.one]) (fun b6 w H => ?_)
            replace H := H.rowToSl (i := 0) rfl
            dsimp only [List.set] at H
            refine ow_nil ⟨fun _ => H.none, ?_⟩
            apply ak_one (i := 13)
            · kernel_rfl
            · rfl
            · rfl
            refine ow_call rfl rfl (ent (by kernel_rfl)) (CallsV.mono (refFixed_spec (sumN 3988292384 0 x.2.2.2) (sumN_usual_lt hox.2) _) ?_) rfl
            rintro v w ⟨p13, c13, rfl, H'⟩
            replace H := H.call H'
            clear H'
            replace H := H.appToSl (i := 0) rfl
            dsimp only [List.set, List.cons_append, List.nil_append] at H
            refine ow_nil ⟨fun _ => H.none, ?_⟩
            replace H : St Pu w0 w (.app p (2 + 3 * i) c 22 1 (joinSl ps) :: (slC ps ++ slC [(some ⟨b6, 0, none⟩, 1, [x.1]), (p10, c10, putN x.2.2.2.length), (p13, c13, leB 4 (sumN usual 0 x.2.2.2))])) [] := H.perm (perm45 (X := [_, _, _]) (List.perm_append_comm (l₁ := [_]) (l₂ := [_, _])))
            apply ak_one (i := 14)
            · kernel_rfl
            · rfl
            · rfl
            refine ow_buildSlice1 (vs := [.slice _ _ _, .slice _ _ _, .slice _ _ _]) H rfl (tyAt rfl) rfl (tyAt rfl) rfl rfl rfl rfl rfl (by simp [Value.one]) (fun b w H => ?_)
            refine ow_nil ⟨fun _ => H.none, ?_⟩
            apply ak_one (i := 15)
            · kernel_rfl
            · rfl
            · rfl
            refine ow_append (i := 1) H rfl rfl (tyAt rfl) rfl (tyAt rfl) rfl (by decide) rfl rfl (H.rowSl (i := 0) rfl) (by first | rfl | (simp; done) | (simp; omega)) (by simp [Value.oneCell']) (by first | omega | (dsimp only; omega) | (simp; omega)) (by first | omega | (dsimp only; omega) | (simp; omega)) (fun p3 c3 w H => ?_)
            dsimp only [List.set] at H
            replace H := H.drop
            refine ow_nil ⟨fun _ => H.none, ?_⟩
            apply ak_one (i := 16)
            · kernel_rfl
            · rfl
            · rfl
            (apply ow_assign; (· rfl); (· ((conv => lhs; whnf) <;> rfl)))
            refine ow_nil ⟨fun _ => H.none, ?_⟩
            refine ak_done (by kernel_rfl) ?_
            refine wc_region ?_
            (apply ow_move; (· rfl); (· ((conv => lhs; whnf) <;> rfl)))
            refine ow_add rfl rfl rfl (by simp only [InK]; omega) ?_
            (apply ow_assign; (· rfl); (· ((conv => lhs; whnf) <;> rfl)))
            refine ow_nil ?_
            replace H : St Pu w0 w (.app p3 (2 + 3 * i + 3) c3 22 1 (joinSl (ps ++ [(some ⟨b6, 0, none⟩, 1, [x.1]), (p10, c10, putN x.2.2.2.length), (p13, c13, leB 4 (sumN usual 0 x.2.2.2))])) :: slC (ps ++ [(some ⟨b6, 0, none⟩, 1, [x.1]), (p10, c10, putN x.2.2.2.length), (p13, c13, leB 4 (sumN usual 0 x.2.2.2))])) [] := by
              rw [slC_snoc, joinSl_app]
              exact H
            refine ⟨(i + 1, p3, c3, ps ++ [_, _, _]), by first | exact rfl | exact upd_self' rfl rfl | exact upd_self' rfl (upd_self' rfl rfl) | exact upd_self' rfl (upd_self' rfl (upd_self' rfl rfl)) | exact upd_self' rfl (upd_self' rfl (upd_self' rfl (upd_self' rfl rfl))), by repeat (first | with_reducible exact Off.mix | with_reducible exact Off.refl | ((with_reducible refine Off.upd ?_ ?_); (· rfl))), ⟨rfl, hlt, hrise, ?_, ?_, H⟩, by dsimp only; omega⟩
            · dsimp only; rw [joinB_app, hjb, flat_snoc headS hx]; simp [joinB, headS, headN, secP]
            · dsimp only; rw [List.length_append, hpl]; rfl
          · refine ow_call rfl rfl (ent (by kernel_rfl)) (CallsV.mono (refFixed_spec (sumN 3988292384 0 x.2.2.2) (sumN_usual_lt hox.2) _) ?_) rfl
            rintro v w ⟨p13, c13, rfl, H'⟩
            replace H := H.call H'
            clear H'
            replace H := H.appToSl (i := 0) rfl
            dsimp only [List.set, List.cons_append, List.nil_append] at H
            refine ow_nil ⟨fun _ => H.none, ?_⟩
            apply ak_one (i := 6)
            · kernel_rfl
            · rfl
            · rfl
            refine ow_buildSlice1 (vs := [.int .u8 _]) H rfl (tyAt rfl) rfl (tyAt rfl) rfl rfl rfl rfl rfl (by simp [Value.one]) (fun b6 w H => ?_)
            replace H := H.rowToSl (i := 0) rfl
            dsimp only [List.set] at H
            refine ow_nil ⟨fun _ => H.none, ?_⟩
            replace H : St Pu w0 w (.app p (2 + 3 * i) c 22 1 (joinSl ps) :: (slC ps ++ slC [(some ⟨b6, 0, none⟩, 1, [x.1]), (p10, c10, putN x.2.2.2.length), (p13, c13, leB 4 (sumN usual 0 x.2.2.2))])) [] := H.perm (perm45 (X := [_, _, _]) (.cons _ (.swap _ _ _)))
            apply ak_one (i := 14)
            · kernel_rfl
            · rfl
            · rfl
            refine ow_buildSlice1 (vs := [.slice _ _ _, .slice _ _ _, .slice _ _ _]) H rfl (tyAt rfl) rfl (tyAt rfl) rfl rfl rfl rfl rfl (by simp [Value.one]) (fun b w H => ?_)
            refine ow_nil ⟨fun _ => H.none, ?_⟩
            apply ak_one (i := 15)
            · kernel_rfl
            · rfl
            · rfl
            refine ow_append (i := 1) H rfl rfl (tyAt rfl) rfl (tyAt rfl) rfl (by decide) rfl rfl (H.rowSl (i := 0) rfl) (by first | rfl | (simp; done) | (simp; omega)) (by simp [Value.oneCell']) (by first | omega | (dsimp only; omega) | (simp; omega)) (by first | omega | (dsimp only; omega) | (simp; omega)) (fun p3 c3 w H => ?_)
            dsimp only [List.set] at H
            replace H := H.drop
            refine ow_nil ⟨fun _ => H.none, ?_⟩
            apply ak_one (i := 16)
            · kernel_rfl
            · rfl
            · rfl
            (apply ow_assign; (· rfl); (· ((conv => lhs; whnf) <;> rfl)))
            refine ow_nil ⟨fun _ => H.none, ?_⟩
            refine ak_done (by kernel_rfl) ?_
            refine wc_region ?_
            (apply ow_move; (· rfl); (· ((conv => lhs; whnf) <;> rfl)))
            refine ow_add rfl rfl rfl (by simp only [InK]; omega) ?_
            (apply ow_assign; (· rfl); (· ((conv => lhs; whnf) <;> rfl)))
            refine ow_nil ?_
            replace H : St Pu w0 w (.app p3 (2 + 3 * i + 3) c3 22 1 (joinSl (ps ++ [(some ⟨b6, 0, none⟩, 1, [x.1]), (p10, c10, putN x.2.2.2.length), (p13, c13, leB 4 (sumN usual 0 x.2.2.2))])) :: slC (ps ++ [(some ⟨b6, 0, none⟩, 1, [x.1]), (p10, c10, putN x.2.2.2.length), (p13, c13, leB 4 (sumN usual 0 x.2.2.2))])) [] := by
              rw [slC_snoc, joinSl_app]
              exact H
            refine ⟨(i + 1, p3, c3, ps ++ [_, _, _]), by first | exact rfl | exact upd_self' rfl rfl | exact upd_self' rfl (upd_self' rfl rfl) | exact upd_self' rfl (upd_self' rfl (upd_self' rfl rfl)) | exact upd_self' rfl (upd_self' rfl (upd_self' rfl (upd_self' rfl rfl))), by repeat (first | with_reducible exact Off.mix | with_reducible exact Off.refl | ((with_reducible refine Off.upd ?_ ?_); (· rfl))), ⟨rfl, hlt, hrise, ?_, ?_, H⟩, by dsimp only; omega⟩
            · dsimp only; rw [joinB_app, hjb, flat_snoc headS hx]; simp [joinB, headS, headN, secP]
            · dsimp only; rw [List.length_append, hpl]; rfl
  have hi' : i = list.length := by omega
  subst hi'
  rw [if_pos hr]
  rw [List.take_length] at hjb
  clear hr hi
  generalize hN : 2 + 3 * list.length = N at hpl H ⊢
  refine wc_exit ?_
  refine wc_seq ?_
  refine wc_seq ?_
  refine wc_region ?_
  (apply ow_assign; (· rfl); (· ((conv => lhs; whnf) <;> rfl)))
  refine ow_nil ?_
  refine wc_block ?_
  refine wc_loopS [4, 7, 60, 61, 62, 63, 64, 65, 66, 67, 68, 69, 70, 71, 72, 73] (fun (s : Nat × Option Addr × Nat) e => upd (upd e 7 (.int .i64 s.1)) 4 (.slice s.2.1 (N + s.1) s.2.2))
    (fun s D w => D = [] ∧ s.1 ≤ list.length ∧ St Pu w0 w (.app s.2.1 (N + s.1) s.2.2 22 1 (joinSl (ps ++ (list.take s.1).map bodyP)) :: slC ps) [])
    (fun s _ => list.length - s.1) (0, p, c) (by first | exact rfl | exact upd_self' rfl rfl | exact upd_self' rfl (upd_self' rfl rfl) | exact upd_self' rfl (upd_self' rfl (upd_self' rfl rfl)) | exact upd_self' rfl (upd_self' rfl (upd_self' rfl (upd_self' rfl rfl)))) ⟨rfl, Nat.zero_le _, by simpa using H⟩ ?_
  clear H w
  rintro ⟨i, p, c⟩ j D w ⟨rfl, hi, H⟩
  dsimp only at hi H ⊢
  refine wc_seq ?_
  refine wc_seq ?_
  refine wc_region ?_
  (apply ow_move; (· rfl); (· ((conv => lhs; whnf) <;> rfl)))
  (apply ow_move; (· rfl); (· ((conv => lhs; whnf) <;> rfl)))
  refine ow_len rfl rfl (tyAt rfl) rfl ?_
  refine ow_lss rfl rfl rfl ?_
  refine ow_nil ?_
  refine wc_cond_dec rfl (fun h => ?_) (fun h => ?_) <;> try dsimp only at h
  · have hlt : i < list.length := by omega
    obtain ⟨x, hx⟩ : ∃ x, list[i]? = some x := ⟨_, List.getElem?_eq_getElem hlt⟩
    obtain ⟨hs1, hs2⟩ := hs
    have hs' := H.oldSl hs1
    obtain ⟨bq, oq, rfl⟩ := hs'.some_of (by rw [flat_len sec_len]; omega)
    clear hs'
    refine wc_skip ?_
    refine wc_seq ?_
    refine wc_block ?_
    refine wc_region ?_
    (apply ow_move; (· rfl); (· ((conv => lhs; whnf) <;> rfl)))
    (apply ow_move; (· rfl); (· ((conv => lhs; whnf) <;> rfl)))
    (apply ow_move; (· rfl); (· ((conv => lhs; whnf) <;> rfl)))
    refine ow_idxK (j := i) (sz := 2) rfl (tyAt rfl) rfl (tyAt rfl) rfl rfl rfl hlt rfl ?_
    refine ow_fieldAddr rfl (tyAt rfl) rfl rfl rfl (tyAt rfl) rfl rfl ?_
    refine ow_load rfl (tyAt rfl) rfl rfl (secs_at (H.oldSl hs1) hx).2 ?_
    refine ow_buildSlice1 (vs := [.slice _ _ _]) H rfl (tyAt rfl) rfl (tyAt rfl) rfl rfl rfl rfl rfl (by simp [Value.one]) (fun b w H => ?_)
    refine ow_append (i := 1) H rfl rfl (tyAt rfl) rfl (tyAt rfl) rfl (by decide) rfl rfl (H.rowSl (i := 0) rfl) rfl (by simp [Value.oneCell']) (by first | omega | (dsimp only; omega) | (simp; omega)) (by first | omega | (dsimp only; omega) | (simp; omega)) (fun p3 c3 w H => ?_)
    dsimp only [List.set] at H
    replace H := H.drop
    (apply ow_assign; (· rfl); (· ((conv => lhs; whnf) <;> rfl)))
    refine ow_nil ?_
    refine wc_region ?_
    (apply ow_move; (· rfl); (· ((conv => lhs; whnf) <;> rfl)))
    refine ow_add rfl rfl rfl (by simp only [InK]; omega) ?_
    (apply ow_assign; (· rfl); (· ((conv => lhs; whnf) <;> rfl)))
    refine ow_nil ?_
    refine ⟨(i + 1, p3, c3), by first | exact rfl | exact upd_self' rfl rfl | exact upd_self' rfl (upd_self' rfl rfl) | exact upd_self' rfl (upd_self' rfl (upd_self' rfl rfl)) | exact upd_self' rfl (upd_self' rfl (upd_self' rfl (upd_self' rfl rfl))), by repeat (first | with_reducible exact Off.mix | with_reducible exact Off.refl | ((with_reducible refine Off.upd ?_ ?_); (· rfl))), ⟨rfl, hlt, ?_⟩, by dsimp only; omega⟩
    dsimp only
    rw [take_snoc hx, List.map_append, ← List.append_assoc, joinSl_app]
    exact H
  · have hi' : i = list.length := by omega
    subst hi'
    rw [List.take_length] at H
    have hall : ∀ y ∈ ps ++ list.map bodyP, SlH (hp w) y.1 (nats .u8 y.2.2) := by
      intro y hy
      rcases List.mem_append.1 hy with hy | hy
      · exact slC_at (A := [_]) H y hy
      · obtain ⟨s, hsm, rfl⟩ := List.mem_map.1 hy
        exact H.oldSl (hs.2 s hsm).2.2.2
    have hjr : joinB (ps ++ list.map bodyP) = raw := by
      rw [joinB_app, hjb, hraw]
      congr 1
      unfold joinB
      rw [List.flatMap_map]
      rfl
    have hlen : (ps ++ list.map bodyP).length = N + list.length := by rw [List.length_append, List.length_map, hpl]
    refine wc_exit ?_
    refine wc_seq ?_
    refine wc_region ?_
    (apply ow_move; (· rfl); (· ((conv => lhs; whnf) <;> rfl)))
    refine ow_call rfl rfl (ent (by kernel_rfl)) (CallsV.mono (join_spec p _ c (ps ++ list.map bodyP) hlen.symm (by omega) (by rw [hjr]; omega) _ (appOk.sl (H.cap (i := 0) rfl)) hall) ?_) rfl
    rintro v w ⟨p3, c3, rfl, H'⟩
    replace H := H.call H'
    simp only [List.cons_append, List.nil_append] at H
    clear H'
    rw [hjr] at H ⊢
    have hr3 := appOk.sl (H.cap (i := 0) rfl)
    skip
    refine ow_call rfl rfl (ent (by kernel_rfl)) (CallsV.mono (refSeal_spec p3 _ c3 raw rfl (by omega) hraw256 _ hr3) ?_) rfl
    rintro v w ⟨p4, c4, rfl, H'⟩
    replace H := H.call H'
    simp only [List.cons_append, List.nil_append] at H
    clear H'
    (apply ow_assign; (· rfl); (· ((conv => lhs; whnf) <;> rfl)))
    (apply ow_assign; (· rfl); (· ((conv => lhs; whnf) <;> rfl)))
    refine ow_nil ?_
    refine wc_ret ?_
    obtain ⟨w, hT, H⟩ := H.takes Try.prog
    refine ⟨.inr rfl, w, hT, _, .tmp (.tmp .nil), ?_⟩
    exact ⟨p4, c4, rfl, H.only (i := 0) rfl⟩
end Go.Proofs.Ytphmjdbdhhbdoaa
