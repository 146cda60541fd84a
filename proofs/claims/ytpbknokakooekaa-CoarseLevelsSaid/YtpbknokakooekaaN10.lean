/- Pairing: the document's Heavy: function 68. -/
import Derived.Test.YtpbknokakooekaaN3
import Derived.Test.YtpbknokakooekaaQD
namespace Go.Proofs.Ytpbknokakooekaa
set_option linter.all false
open Go Go.Sx Go.Proofs
set_option maxRecDepth 100000
set_option maxHeartbeats 2000000
theorem idL_succ (n : Nat) : idL (n + 1) = idL n ++ [(n : Int)] := by unfold idL; rw [List.range_succ, List.map_append]; rfl
theorem refHeavy_spec (T : List IE) (x : RX) (rows : List RowR) (hW : Wf T) (hl : T.length = x.ws.length) (h4 : x.ws.length ≤ 4096) (hM : Mx T x.ws.length rows) (w0 : World) (hR : Rf (hp w0) x rows) :
    CallsV Try.prog 40 #[.agg ⟨rfV x rows⟩] w0 fun v w => ∃ p c, v = .slice p (heavyL T).length c ∧ St Pu w0 w [.app p (heavyL T).length c 3 1 (ints .i64 (heavyL T))] [] := by
  refine callsV_of Try.func40 rfl rfl ?_
  have H := St.init w0
  have hvl : ∀ i, (hvy T i).length = x.ws.length := fun i => by rw [hvy_len, hl]
  unfold heavyL
  rw [hl, hvl]
  refine wc_seq ?_
  refine wc_region ?_
  refine ow_box (l := rfV x rows) H rfl rfl rfl (fun b1 w H => ?_)
  (apply ow_assign; (· rfl); (· ((conv => lhs; whnf) <;> rfl)))
  refine ow_nil ?_
  refine wc_seq ?_
  refine wc_region ?_
  refine ow_fieldAddr rfl (tyAt rfl) rfl rfl rfl (tyAt rfl) rfl rfl ?_
  refine ow_load rfl (tyAt rfl) rfl rfl (H.cell (i := 0) rfl rfl) ?_
  refine ow_len rfl rfl (tyAt rfl) rfl ?_
  (apply ow_assign; (· rfl); (· ((conv => lhs; whnf) <;> rfl)))
  refine ow_nil ?_
  refine wc_seq ?_
  refine wc_region ?_
  refine ow_buildSlice0 H rfl (tyAt rfl) rfl (tyAt rfl) (fun ba w H => ?_)
  replace H := H.rowApp (i := 0) (len := 0) (sz := 1) rfl rfl (by omega)
  replace H : St Pu w0 w [.row b1 45 (rfV x rows), .app (some ⟨ba, 0, none⟩) 0 0 3 1 (ints .i64 (idL 0))] [] := H.perm (List.Perm.swap _ _ _)
  (apply ow_assign; (· rfl); (· ((conv => lhs; whnf) <;> rfl)))
  refine ow_nil ?_
  refine wc_seq ?_
  refine wc_seq ?_
  refine wc_region ?_
  (apply ow_assign; (· rfl); (· ((conv => lhs; whnf) <;> rfl)))
  refine ow_nil ?_
  refine wc_blockJ [4, 5, 13, 14, 15, 16, 17, 18, 19, 20, 21] (fun (s : Option Addr × Nat) e => upd e 4 (.slice s.1 x.ws.length s.2)) (fun s D w => D = [] ∧ St Pu w0 w [.row b1 45 (rfV x rows), .app s.1 x.ws.length s.2 3 1 (ints .i64 (hvy T 0))] []) ?_ ?_
  · refine wc_loopS [4, 5, 13, 14, 15, 16, 17, 18, 19, 20, 21] (fun (s : Nat × Option Addr × Nat) e => upd (upd e 4 (.slice s.2.1 s.1 s.2.2)) 5 (.int .i64 s.1)) (fun s D w => D = [] ∧ s.1 ≤ x.ws.length ∧ St Pu w0 w [.row b1 45 (rfV x rows), .app s.2.1 s.1 s.2.2 3 1 (ints .i64 (idL s.1))] []) (fun s _ => x.ws.length - s.1) (0, some ⟨ba, 0, none⟩, 0) (by first | exact rfl | exact upd_self' rfl rfl | exact upd_self' rfl (upd_self' rfl rfl) | exact upd_self' rfl (upd_self' rfl (upd_self' rfl rfl)) | exact upd_self' rfl (upd_self' rfl (upd_self' rfl (upd_self' rfl rfl)))) ⟨rfl, Nat.zero_le _, H⟩ ?_
    clear H
    rintro ⟨i, q4, c4⟩ j D w ⟨rfl, hi, H⟩
    dsimp only at hi H ⊢
    refine wc_seq ?_
    refine wc_seq ?_
    refine wc_region ?_
    (apply ow_move; (· rfl); (· ((conv => lhs; whnf) <;> rfl)))
    (apply ow_move; (· rfl); (· ((conv => lhs; whnf) <;> rfl)))
    refine ow_lss rfl rfl rfl ?_
    refine ow_nil ?_
    refine wc_cond_dec rfl (fun h => ?_) (fun h => ?_) <;> try dsimp only at h
    · have hlt : i < x.ws.length := by omega
      refine wc_skip ?_
      refine wc_seq ?_
      refine wc_block ?_
      refine wc_region ?_
      (apply ow_move; (· rfl); (· ((conv => lhs; whnf) <;> rfl)))
      (apply ow_move; (· rfl); (· ((conv => lhs; whnf) <;> rfl)))
      refine ow_buildSlice1 (vs := [.int .i64 (i : Int)]) H rfl (tyAt rfl) rfl (tyAt rfl) rfl rfl rfl rfl rfl (by simp [Value.one]) (fun ea w H => ?_)
      refine ow_append (i := 2) H rfl rfl (tyAt rfl) rfl (tyAt rfl) rfl (by decide) rfl rfl (H.rowSl (i := 0) rfl) rfl (by simp [Value.oneCell']) (by dsimp only; omega) (by omega) (fun p1 d1 w H => ?_)
      dsimp only [List.set] at H
      replace H := H.drop
      rw [← ints_snoc, ← idL_succ] at H
      (apply ow_assign; (· rfl); (· ((conv => lhs; whnf) <;> rfl)))
      refine ow_nil ?_
      refine wc_region ?_
      (apply ow_move; (· rfl); (· ((conv => lhs; whnf) <;> rfl)))
      refine ow_add rfl rfl rfl (by simp only [InK]; omega) ?_
      (apply ow_assign; (· rfl); (· ((conv => lhs; whnf) <;> rfl)))
      refine ow_nil ?_
      exact ⟨(i + 1, p1, d1), by first | exact rfl | exact upd_self' rfl rfl | exact upd_self' rfl (upd_self' rfl rfl) | exact upd_self' rfl (upd_self' rfl (upd_self' rfl rfl)) | exact upd_self' rfl (upd_self' rfl (upd_self' rfl (upd_self' rfl rfl))), by repeat (first | with_reducible exact Off.mix | with_reducible exact Off.refl | ((with_reducible refine Off.upd ?_ ?_); (· rfl))), ⟨rfl, hlt, H⟩, by dsimp only; omega⟩
    · have hi' : i = x.ws.length := by omega
      subst hi'
      have e : hvy T 0 = idL x.ws.length := by rw [hvy, hl]
      rw [← e] at H
      refine wc_exit ?_
      exact ⟨(q4, c4), by first | exact rfl | exact upd_self' rfl rfl | exact upd_self' rfl (upd_self' rfl rfl) | exact upd_self' rfl (upd_self' rfl (upd_self' rfl rfl)) | exact upd_self' rfl (upd_self' rfl (upd_self' rfl (upd_self' rfl rfl))), by repeat (first | with_reducible exact Off.mix | with_reducible exact Off.refl | ((with_reducible refine Off.upd ?_ ?_); (· rfl)) | ((with_reducible refine Off.mixN ?_ ?_); (· rfl))), ⟨rfl, H⟩⟩
  clear H
  rintro ⟨q4, c4⟩ j D w ⟨rfl, H⟩
  dsimp only at H ⊢
  refine wc_seq ?_
  refine wc_seq ?_
  refine wc_region ?_
  (apply ow_assign; (· rfl); (· ((conv => lhs; whnf) <;> rfl)))
  refine ow_nil ?_
  refine wc_blockJ [6, 7, 8, 22, 23, 24, 25, 26, 27, 28, 29, 30, 31, 32, 33, 34, 35, 36, 37, 38, 39, 40, 41, 42, 43, 44, 45, 46, 47, 48, 49, 50, 51, 52, 53, 54, 55, 56, 57, 58, 59, 60, 61, 62, 63, 64, 65, 66, 67, 68, 69, 70, 71, 72, 73, 74, 75, 76, 77, 78, 79, 80, 81, 82, 83, 84, 85, 86, 87, 88, 89, 90, 91, 92, 93] (fun (_ : Unit) e => e) (fun _ D w => D = [] ∧ St Pu w0 w [.row b1 45 (rfV x rows), .app q4 x.ws.length c4 3 1 (ints .i64 (hvy T x.ws.length))] []) ?_ ?_
  · refine wc_loopS [6, 7, 8, 22, 23, 24, 25, 26, 27, 28, 29, 30, 31, 32, 33, 34, 35, 36, 37, 38, 39, 40, 41, 42, 43, 44, 45, 46, 47, 48, 49, 50, 51, 52, 53, 54, 55, 56, 57, 58, 59, 60, 61, 62, 63, 64, 65, 66, 67, 68, 69, 70, 71, 72, 73, 74, 75, 76, 77, 78, 79, 80, 81, 82, 83, 84, 85, 86, 87, 88, 89, 90, 91, 92, 93] (fun (s : Nat) e => upd e 6 (.int .i64 s)) (fun s D w => D = [] ∧ s ≤ x.ws.length ∧ St Pu w0 w [.row b1 45 (rfV x rows), .app q4 x.ws.length c4 3 1 (ints .i64 (hvy T s))] []) (fun s _ => x.ws.length - s) 0 (by first | exact rfl | exact upd_self' rfl rfl | exact upd_self' rfl (upd_self' rfl rfl) | exact upd_self' rfl (upd_self' rfl (upd_self' rfl rfl)) | exact upd_self' rfl (upd_self' rfl (upd_self' rfl (upd_self' rfl rfl)))) ⟨rfl, Nat.zero_le _, H⟩ ?_
    clear H
    rintro i j D w ⟨rfl, hi, H⟩
    refine wc_seq ?_
    refine wc_seq ?_
    refine wc_region ?_
    (apply ow_move; (· rfl); (· ((conv => lhs; whnf) <;> rfl)))
    (apply ow_move; (· rfl); (· ((conv => lhs; whnf) <;> rfl)))
    refine ow_lss rfl rfl rfl ?_
    refine ow_nil ?_
    refine wc_cond_dec rfl (fun h => ?_) (fun h => ?_) <;> try dsimp only at h
    · have hlt : i < x.ws.length := by omega
      have hml := hvl i
      obtain ⟨g4, rfl⟩ : ∃ g, q4 = some ⟨g, 0, none⟩ := appOk.some (H.cap (i := 1) rfl) (by simp; omega)
      have hne : (hvy T i).getD i 0 ≠ (i : Int) → hvy T (i + 1) = hvy T i := fun h => by rw [hvy, if_neg h]
      have hto := hvy_to hW (i := i) (by omega)
      rw [hl] at hto
      generalize hm' : hvy T (i + 1) = m' at hne hto
      generalize hvy T i = m at *
      refine wc_skip ?_
      refine wc_seq ?_
      refine wc_block ?_
      refine wc_seq ?_
      refine wc_seq ?_
      refine wc_region ?_
      (apply ow_move; (· rfl); (· ((conv => lhs; whnf) <;> rfl)))
      (apply ow_move; (· rfl); (· ((conv => lhs; whnf) <;> rfl)))
      refine ow_idx1 (j := i) rfl (tyAt rfl) rfl (tyAt rfl) rfl rfl rfl hlt rfl ?_
      refine ow_load rfl (tyAt rfl) rfl rfl (SlH.int (appOk.sl (H.cap (i := 1) rfl)) (by omega)) ?_
      (apply ow_move; (· rfl); (· ((conv => lhs; whnf) <;> rfl)))
      refine ow_neq rfl rfl rfl ?_
      refine ow_nil ?_
      refine wc_cond_dec rfl (fun h => ?_) (fun h => ?_) <;> try dsimp only at h
      · rw [← hne h] at H
        refine wc_exit ?_
        refine wc_region ?_
        (apply ow_move; (· rfl); (· ((conv => lhs; whnf) <;> rfl)))
        refine ow_add rfl rfl rfl (by simp only [InK]; omega) ?_
        (apply ow_assign; (· rfl); (· ((conv => lhs; whnf) <;> rfl)))
        refine ow_nil ?_
        exact ⟨i + 1, by first | exact rfl | exact upd_self' rfl rfl | exact upd_self' rfl (upd_self' rfl rfl) | exact upd_self' rfl (upd_self' rfl (upd_self' rfl rfl)) | exact upd_self' rfl (upd_self' rfl (upd_self' rfl (upd_self' rfl rfl))), by repeat (first | with_reducible exact Off.mix | with_reducible exact Off.refl | ((with_reducible refine Off.upd ?_ ?_); (· rfl))), ⟨rfl, hlt, by rw [hm']; exact H⟩, by omega⟩
      have hmi : m.getD i 0 = (i : Int) := Decidable.of_not_not h
      replace hto := hto hmi
      clear h hne
      have hal : i < rows.length := by rw [hM.len]; exact hlt
      obtain ⟨r, hr⟩ : ∃ r, rows[i]? = some r := ⟨_, List.getElem?_eq_getElem hal⟩
      have hrl := hM.row _ r hr
      have hv := hM.val _ r hr
      obtain ⟨bp, o, hpw⟩ := hR.2.1.some_of (by rw [List.length_map]; omega)
      have hrm := List.mem_of_getElem? hr
      have hrc : (rows.map slR)[i]? = some (slR r) := by rw [List.getElem?_map, hr]; rfl
      have hs2 := hR.2.1
      rw [hpw] at hs2
      have hz0 : toZ T m i 0 = -1 := rfl
      refine wc_skip ?_
      refine wc_seq ?_
      refine wc_region ?_
      (apply ow_assign; (· rfl); (· ((conv => lhs; whnf) <;> rfl)))
      refine ow_nil ?_
      refine wc_seq ?_
      refine wc_seq ?_
      refine wc_region ?_
      (apply ow_assign; (· rfl); (· ((conv => lhs; whnf) <;> rfl)))
      refine ow_nil ?_
      refine wc_blockJ [7, 8, 33, 34, 35, 36, 37, 38, 39, 40, 41, 42, 43, 44, 45, 46, 47, 48, 49, 50, 51, 52, 53, 54, 55, 56, 57, 58, 59, 60, 61, 62, 63, 64, 65, 66, 67, 68, 69, 70, 71, 72, 73, 74, 75, 76, 77, 78, 79, 80, 81, 82, 83] (fun (_ : Unit) e => upd e 7 (.int .i64 (toZ T m i x.ws.length))) (fun _ D w => D = [] ∧ St Pu w0 w [.row b1 45 (rfV x rows), .app (some ⟨g4, 0, none⟩) x.ws.length c4 3 1 (ints .i64 m)] []) ?_ ?_
      · refine wc_loopS [7, 8, 33, 34, 35, 36, 37, 38, 39, 40, 41, 42, 43, 44, 45, 46, 47, 48, 49, 50, 51, 52, 53, 54, 55, 56, 57, 58, 59, 60, 61, 62, 63, 64, 65, 66, 67, 68, 69, 70, 71, 72, 73, 74, 75, 76, 77, 78, 79, 80, 81, 82, 83] (fun (s : Nat) e => upd (upd e 7 (.int .i64 (toZ T m i s))) 8 (.int .i64 s)) (fun s D w => D = [] ∧ s ≤ x.ws.length ∧ St Pu w0 w [.row b1 45 (rfV x rows), .app (some ⟨g4, 0, none⟩) x.ws.length c4 3 1 (ints .i64 m)] []) (fun s _ => x.ws.length - s) 0 (by first | exact rfl | exact upd_self' rfl rfl | exact upd_self' rfl (upd_self' rfl rfl) | exact upd_self' rfl (upd_self' rfl (upd_self' rfl rfl)) | exact upd_self' rfl (upd_self' rfl (upd_self' rfl (upd_self' rfl rfl)))) ⟨rfl, Nat.zero_le _, H⟩ ?_
        clear H
        rintro k jj D w ⟨rfl, hk, H⟩
        refine wc_seq ?_
        refine wc_seq ?_
        refine wc_region ?_
        (apply ow_move; (· rfl); (· ((conv => lhs; whnf) <;> rfl)))
        (apply ow_move; (· rfl); (· ((conv => lhs; whnf) <;> rfl)))
        refine ow_lss rfl rfl rfl ?_
        refine ow_nil ?_
        refine wc_cond_dec rfl (fun h => ?_) (fun h => ?_) <;> try dsimp only at h
        · have hlk : k < x.ws.length := by omega
          have hyx := toZ_yes hW m i k
          have hnx := toZ_no hW m i k
          have htl := toZ_lt hW m i k
          have hvk := hv k hlk
          generalize toZ T m i k = to at *
          clear h
          refine wc_skip ?_
          refine wc_seq ?_
          refine wc_block ?_
          refine wc_seq ?_
          refine wc_drawK (fun w => St Pu w0 w [.row b1 45 (rfV x rows), .app (some ⟨g4, 0, none⟩) x.ws.length c4 3 1 (ints .i64 m)] []) 99 (by kernel_rfl) (by kernel_rfl) (by intro c e D w h; first | exact h.elim | (rcases h with ⟨h | h, _⟩ <;> cases h)) ?_
          replace H := H.drew
          apply ak_take (i := 0) rfl rfl rfl rfl (by kernel_rfl) (by with_reducible first | exact H | rfl)
          · intro w Q' HS hq; replace H := HS; clear HS; (apply ow_move; (· rfl); (· ((conv => lhs; whnf) <;> rfl))); exact ow_nil hq
          apply ak_take (i := 1) rfl rfl rfl rfl (by kernel_rfl) (by with_reducible first | exact H | rfl)
          · intro w Q' HS hq; replace H := HS; clear HS; (apply ow_move; (· rfl); (· ((conv => lhs; whnf) <;> rfl))); exact ow_nil hq
          apply ak_take (i := 2) rfl rfl rfl rfl (by kernel_rfl) (by with_reducible first | exact H | rfl)
          · intro w Q' HS hq; replace H := HS; clear HS; refine ow_neq rfl rfl rfl ?_; exact ow_nil hq
          apply ak_take (i := 3) rfl rfl rfl rfl (by kernel_rfl) (by with_reducible first | exact H | rfl)
          · intro w Q' HS hq; replace H := HS; clear HS; (apply ow_move; (· rfl); (· ((conv => lhs; whnf) <;> rfl))); exact ow_nil hq
          refine ak_guard_dec (dj := 41) rfl (fun h => ?_) (fun h => ?_) <;> try dsimp only at h
          · have hki : k ≠ i := fun e => h (by rw [e])
            clear h
            apply ak_take (i := 4) rfl rfl rfl rfl (by kernel_rfl) (by with_reducible first | exact H | rfl)
            · intro w Q' HS hq; replace H := HS; clear HS; refine ow_guard_yes rfl rfl rfl rfl ?_; (apply ow_move; (· rfl); (· ((conv => lhs; whnf) <;> rfl))); exact ow_nil hq
            apply ak_take (i := 5) rfl rfl rfl rfl (by kernel_rfl) (by with_reducible first | exact H | rfl)
            · intro w Q' HS hq; replace H := HS; clear HS; refine ow_guard_yes rfl rfl rfl rfl ?_; (apply ow_move; (· rfl); (· ((conv => lhs; whnf) <;> rfl))); exact ow_nil hq
            apply ak_take (i := 6) rfl rfl rfl rfl (by kernel_rfl) (by with_reducible first | exact H | rfl)
            · intro w Q' HS hq; replace H := HS; clear HS; refine ow_guard_yes rfl rfl rfl rfl ?_; refine ow_idx1 (j := k) rfl (tyAt rfl) rfl (tyAt rfl) rfl rfl (by first | rfl | omega) (by omega) rfl ?_; exact ow_nil hq
            apply ak_take (i := 7) rfl rfl rfl rfl (by kernel_rfl) (by with_reducible first | exact H | rfl)
            · intro w Q' HS hq; replace H := HS; clear HS; refine ow_guard_yes rfl rfl rfl rfl ?_; refine ow_load rfl (tyAt rfl) rfl rfl (SlH.int (appOk.sl (H.cap (i := 1) rfl)) (by omega)) ?_; exact ow_nil hq
            apply ak_take (i := 8) rfl rfl rfl rfl (by kernel_rfl) (by with_reducible first | exact H | rfl)
            · intro w Q' HS hq; replace H := HS; clear HS; refine ow_guard_yes rfl rfl rfl rfl ?_; (apply ow_move; (· rfl); (· ((conv => lhs; whnf) <;> rfl))); exact ow_nil hq
            apply ak_take (i := 9) rfl rfl rfl rfl (by kernel_rfl) (by with_reducible first | exact H | rfl)
            · intro w Q' HS hq; replace H := HS; clear HS; refine ow_guard_yes rfl rfl rfl rfl ?_; refine ow_eql rfl rfl rfl ?_; exact ow_nil hq
            apply ak_take (i := 10) rfl rfl rfl rfl (by kernel_rfl) (by with_reducible first | exact H | rfl)
            · intro w Q' HS hq; replace H := HS; clear HS; (apply ow_pick_t; (· rfl); (· rfl); (· ((conv => lhs; whnf) <;> rfl))); exact ow_nil hq
            apply ak_take (i := 11) rfl rfl rfl rfl (by kernel_rfl) (by with_reducible first | exact H | rfl)
            · intro w Q' HS hq; replace H := HS; clear HS; (apply ow_move; (· rfl); (· ((conv => lhs; whnf) <;> rfl))); exact ow_nil hq
            refine ak_guard_dec (dj := 49) rfl (fun h => ?_) (fun h => ?_) <;> try dsimp only at h
            · have hmk := h
              clear h
              apply ak_take (i := 12) rfl rfl rfl rfl (by kernel_rfl) (by with_reducible first | exact H | rfl)
              · intro w Q' HS hq; replace H := HS; clear HS; refine ow_guard_yes rfl rfl rfl rfl ?_; refine ow_fieldAddr rfl (tyAt rfl) rfl rfl rfl (tyAt rfl) rfl rfl ?_; exact ow_nil hq
              apply ak_take (i := 13) rfl rfl rfl rfl (by kernel_rfl) (by with_reducible first | exact H | rfl)
              · intro w Q' HS hq; replace H := HS; clear HS; refine ow_guard_yes rfl rfl rfl rfl ?_; refine ow_load rfl (tyAt rfl) rfl rfl (H.cell (i := 0) rfl rfl) ?_; exact ow_nil hq
              rw [hpw]
              apply ak_take (i := 14) rfl rfl rfl rfl (by kernel_rfl) (by with_reducible first | exact H | rfl)
              · intro w Q' HS hq; replace H := HS; clear HS; refine ow_guard_yes rfl rfl rfl rfl ?_; (apply ow_move; (· rfl); (· ((conv => lhs; whnf) <;> rfl))); exact ow_nil hq
              apply ak_take (i := 15) rfl rfl rfl rfl (by kernel_rfl) (by with_reducible first | exact H | rfl)
              · intro w Q' HS hq; replace H := HS; clear HS; refine ow_guard_yes rfl rfl rfl rfl ?_; refine ow_idx1 (j := i) rfl (tyAt rfl) rfl (tyAt rfl) rfl rfl rfl hal rfl ?_; exact ow_nil hq
              apply ak_take (i := 16) rfl rfl rfl rfl (by kernel_rfl) (by with_reducible first | exact H | rfl)
              · intro w Q' HS hq; replace H := HS; clear HS; refine ow_guard_yes rfl rfl rfl rfl ?_; refine ow_load rfl (tyAt rfl) rfl rfl ((H.oldSl hs2).cell (j := i) hrc) ?_; exact ow_nil hq
              apply ak_take (i := 17) rfl rfl rfl rfl (by kernel_rfl) (by with_reducible first | exact H | rfl)
              · intro w Q' HS hq; replace H := HS; clear HS; refine ow_guard_yes rfl rfl rfl rfl ?_; (apply ow_move; (· rfl); (· ((conv => lhs; whnf) <;> rfl))); exact ow_nil hq
              apply ak_take (i := 18) rfl rfl rfl rfl (by kernel_rfl) (by with_reducible first | exact H | rfl)
              · intro w Q' HS hq; replace H := HS; clear HS; refine ow_guard_yes rfl rfl rfl rfl ?_; refine ow_idx1 (j := k) rfl (tyAt rfl) rfl (tyAt rfl) rfl rfl (by first | rfl | omega) (by omega) rfl ?_; exact ow_nil hq
              apply ak_take (i := 19) rfl rfl rfl rfl (by kernel_rfl) (by with_reducible first | exact H | rfl)
              · intro w Q' HS hq; replace H := HS; clear HS; refine ow_guard_yes rfl rfl rfl rfl ?_; refine ow_load rfl (tyAt rfl) rfl rfl ((H.oldSl (hR.2.2 r hrm)).int (by omega)) ?_; exact ow_nil hq
              rw [hvk]
              apply ak_take (i := 20) rfl rfl rfl rfl (by kernel_rfl) (by with_reducible first | exact H | rfl)
              · intro w Q' HS hq; replace H := HS; clear HS; refine ow_guard_yes rfl rfl rfl rfl ?_; refine ow_gtr rfl rfl rfl ?_; exact ow_nil hq
              apply ak_take (i := 21) rfl rfl rfl rfl (by kernel_rfl) (by with_reducible first | exact H | rfl)
              · intro w Q' HS hq; replace H := HS; clear HS; (apply ow_pick_t; (· rfl); (· rfl); (· ((conv => lhs; whnf) <;> rfl))); exact ow_nil hq
              apply ak_take (i := 22) rfl rfl rfl rfl (by kernel_rfl) (by with_reducible first | exact H | rfl)
              · intro w Q' HS hq; replace H := HS; clear HS; (apply ow_move; (· rfl); (· ((conv => lhs; whnf) <;> rfl))); exact ow_nil hq
              refine ak_guard_dec (dj := 60) rfl (fun h => ?_) (fun h => ?_) <;> try dsimp only at h
              · have hpk := h
                clear h
                apply ak_take (i := 23) rfl rfl rfl rfl (by kernel_rfl) (by with_reducible first | exact H | rfl)
                · intro w Q' HS hq; replace H := HS; clear HS; refine ow_guard_yes rfl rfl rfl rfl ?_; (apply ow_move; (· rfl); (· ((conv => lhs; whnf) <;> rfl))); exact ow_nil hq
                apply ak_take (i := 24) rfl rfl rfl rfl (by kernel_rfl) (by with_reducible first | exact H | rfl)
                · intro w Q' HS hq; replace H := HS; clear HS; refine ow_guard_yes rfl rfl rfl rfl ?_; refine ow_lss rfl rfl rfl ?_; exact ow_nil hq
                apply ak_take (i := 25) rfl rfl rfl rfl (by kernel_rfl) (by with_reducible first | exact H | rfl)
                · intro w Q' HS hq; replace H := HS; clear HS; refine ow_guard_yes rfl rfl rfl rfl ?_; (apply ow_move; (· rfl); (· ((conv => lhs; whnf) <;> rfl))); exact ow_nil hq
                refine ak_guard_dec (dj := 63) rfl (fun h => ?_) (fun h => ?_) <;> try dsimp only at h
                · apply ak_take (i := 26) rfl rfl rfl rfl (by kernel_rfl) (by with_reducible first | exact H | rfl)
                  · intro w Q' HS hq; replace H := HS; clear HS; refine ow_guard_no rfl rfl rfl rfl rfl rfl rfl ?_; exact ow_nil hq
                  apply ak_take (i := 27) rfl rfl rfl rfl (by kernel_rfl) (by with_reducible first | exact H | rfl)
                  · intro w Q' HS hq; replace H := HS; clear HS; refine ow_guard_no rfl rfl rfl rfl rfl rfl rfl ?_; exact ow_nil hq
                  apply ak_take (i := 28) rfl rfl rfl rfl (by kernel_rfl) (by with_reducible first | exact H | rfl)
                  · intro w Q' HS hq; replace H := HS; clear HS; refine ow_guard_no rfl rfl rfl rfl rfl rfl rfl ?_; exact ow_nil hq
                  apply ak_take (i := 29) rfl rfl rfl rfl (by kernel_rfl) (by with_reducible first | exact H | rfl)
                  · intro w Q' HS hq; replace H := HS; clear HS; refine ow_guard_no rfl rfl rfl rfl rfl rfl rfl ?_; exact ow_nil hq
                  apply ak_take (i := 30) rfl rfl rfl rfl (by kernel_rfl) (by with_reducible first | exact H | rfl)
                  · intro w Q' HS hq; replace H := HS; clear HS; refine ow_guard_no rfl rfl rfl rfl rfl rfl rfl ?_; exact ow_nil hq
                  apply ak_take (i := 31) rfl rfl rfl rfl (by kernel_rfl) (by with_reducible first | exact H | rfl)
                  · intro w Q' HS hq; replace H := HS; clear HS; refine ow_guard_no rfl rfl rfl rfl rfl rfl rfl ?_; exact ow_nil hq
                  apply ak_take (i := 32) rfl rfl rfl rfl (by kernel_rfl) (by with_reducible first | exact H | rfl)
                  · intro w Q' HS hq; replace H := HS; clear HS; refine ow_guard_no rfl rfl rfl rfl rfl rfl rfl ?_; exact ow_nil hq
                  apply ak_take (i := 33) rfl rfl rfl rfl (by kernel_rfl) (by with_reducible first | exact H | rfl)
                  · intro w Q' HS hq; replace H := HS; clear HS; refine ow_guard_no rfl rfl rfl rfl rfl rfl rfl ?_; exact ow_nil hq
                  apply ak_take (i := 34) rfl rfl rfl rfl (by kernel_rfl) (by with_reducible first | exact H | rfl)
                  · intro w Q' HS hq; replace H := HS; clear HS; refine ow_guard_no rfl rfl rfl rfl rfl rfl rfl ?_; exact ow_nil hq
                  apply ak_take (i := 35) rfl rfl rfl rfl (by kernel_rfl) (by with_reducible first | exact H | rfl)
                  · intro w Q' HS hq; replace H := HS; clear HS; refine ow_guard_no rfl rfl rfl rfl rfl rfl rfl ?_; exact ow_nil hq
                  apply ak_take (i := 36) rfl rfl rfl rfl (by kernel_rfl) (by with_reducible first | exact H | rfl)
                  · intro w Q' HS hq; replace H := HS; clear HS; refine ow_guard_no rfl rfl rfl rfl rfl rfl rfl ?_; exact ow_nil hq
                  apply ak_take (i := 37) rfl rfl rfl rfl (by kernel_rfl) (by with_reducible first | exact H | rfl)
                  · intro w Q' HS hq; replace H := HS; clear HS; refine ow_guard_no rfl rfl rfl rfl rfl rfl rfl ?_; exact ow_nil hq
                  apply ak_take (i := 38) rfl rfl rfl rfl (by kernel_rfl) (by with_reducible first | exact H | rfl)
                  · intro w Q' HS hq; replace H := HS; clear HS; refine ow_guard_no rfl rfl rfl rfl rfl rfl rfl ?_; exact ow_nil hq
                  apply ak_take (i := 39) rfl rfl rfl rfl (by kernel_rfl) (by with_reducible first | exact H | rfl)
                  · intro w Q' HS hq; replace H := HS; clear HS; refine ow_guard_no rfl rfl rfl rfl rfl rfl rfl ?_; exact ow_nil hq
                  apply ak_take (i := 40) rfl rfl rfl rfl (by kernel_rfl) (by with_reducible first | exact H | rfl)
                  · intro w Q' HS hq; replace H := HS; clear HS; refine ow_guard_no rfl rfl rfl rfl rfl rfl rfl ?_; exact ow_nil hq
                  apply ak_take (i := 41) rfl rfl rfl rfl (by kernel_rfl) (by with_reducible first | exact H | rfl)
                  · intro w Q' HS hq; replace H := HS; clear HS; refine ow_guard_no rfl rfl rfl rfl rfl rfl rfl ?_; exact ow_nil hq
                  apply ak_take (i := 42) rfl rfl rfl rfl (by kernel_rfl) (by with_reducible first | exact H | rfl)
                  · intro w Q' HS hq; replace H := HS; clear HS; refine ow_guard_no rfl rfl rfl rfl rfl rfl rfl ?_; exact ow_nil hq
                  apply ak_take (i := 43) rfl rfl rfl rfl (by kernel_rfl) (by with_reducible first | exact H | rfl)
                  · intro w Q' HS hq; replace H := HS; clear HS; refine ow_guard_yes rfl rfl rfl rfl ?_; (apply ow_pick_t; (· rfl); (· rfl); (· ((conv => lhs; whnf) <;> rfl))); exact ow_nil hq
                  apply ak_take (i := 44) rfl rfl rfl rfl (by kernel_rfl) (by with_reducible first | exact H | rfl)
                  · intro w Q' HS hq; replace H := HS; clear HS; (apply ow_pick_t; (· rfl); (· rfl); (· ((conv => lhs; whnf) <;> rfl))); exact ow_nil hq
                  refine ak_done (by kernel_rfl) ?_
                  refine wc_cond_true rfl ?_
                  refine wc_region ?_
                  (apply ow_move; (· rfl); (· ((conv => lhs; whnf) <;> rfl)))
                  (apply ow_assign; (· rfl); (· ((conv => lhs; whnf) <;> rfl)))
                  refine ow_nil ?_
                  refine wc_region ?_
                  (apply ow_move; (· rfl); (· ((conv => lhs; whnf) <;> rfl)))
                  refine ow_add rfl rfl rfl (by simp only [InK]; omega) ?_
                  (apply ow_assign; (· rfl); (· ((conv => lhs; whnf) <;> rfl)))
                  refine ow_nil ?_
                  refine ⟨k + 1, ?_, by repeat (first | with_reducible exact Off.mix | with_reducible exact Off.refl | ((with_reducible refine Off.upd ?_ ?_); (· rfl))), ⟨rfl, by omega, H⟩, by omega⟩
                  rw [hyx hmk hpk (.inl h)]
                  first | exact rfl | exact upd_self' rfl rfl | exact upd_self' rfl (upd_self' rfl rfl) | exact upd_self' rfl (upd_self' rfl (upd_self' rfl rfl)) | exact upd_self' rfl (upd_self' rfl (upd_self' rfl (upd_self' rfl rfl)))
                · have htb : ∃ b : Nat, b < k ∧ to = (b : Int) := by
                    rcases htl with ⟨h1, _⟩ | ⟨b, hb, h1, _⟩
                    · omega
                    · exact ⟨b, hb, h1⟩
                  obtain ⟨tb0, htb, rfl⟩ := htb
                  have hvt := hv tb0 (by omega)
                  apply ak_take (i := 26) rfl rfl rfl rfl (by kernel_rfl) (by with_reducible first | exact H | rfl)
                  · intro w Q' HS hq; replace H := HS; clear HS; refine ow_guard_yes rfl rfl rfl rfl ?_; refine ow_fieldAddr rfl (tyAt rfl) rfl rfl rfl (tyAt rfl) rfl rfl ?_; exact ow_nil hq
                  apply ak_take (i := 27) rfl rfl rfl rfl (by kernel_rfl) (by with_reducible first | exact H | rfl)
                  · intro w Q' HS hq; replace H := HS; clear HS; refine ow_guard_yes rfl rfl rfl rfl ?_; refine ow_load rfl (tyAt rfl) rfl rfl (H.cell (i := 0) rfl rfl) ?_; exact ow_nil hq
                  rw [hpw]
                  apply ak_take (i := 28) rfl rfl rfl rfl (by kernel_rfl) (by with_reducible first | exact H | rfl)
                  · intro w Q' HS hq; replace H := HS; clear HS; refine ow_guard_yes rfl rfl rfl rfl ?_; (apply ow_move; (· rfl); (· ((conv => lhs; whnf) <;> rfl))); exact ow_nil hq
                  apply ak_take (i := 29) rfl rfl rfl rfl (by kernel_rfl) (by with_reducible first | exact H | rfl)
                  · intro w Q' HS hq; replace H := HS; clear HS; refine ow_guard_yes rfl rfl rfl rfl ?_; refine ow_idx1 (j := i) rfl (tyAt rfl) rfl (tyAt rfl) rfl rfl rfl hal rfl ?_; exact ow_nil hq
                  apply ak_take (i := 30) rfl rfl rfl rfl (by kernel_rfl) (by with_reducible first | exact H | rfl)
                  · intro w Q' HS hq; replace H := HS; clear HS; refine ow_guard_yes rfl rfl rfl rfl ?_; refine ow_load rfl (tyAt rfl) rfl rfl ((H.oldSl hs2).cell (j := i) hrc) ?_; exact ow_nil hq
                  apply ak_take (i := 31) rfl rfl rfl rfl (by kernel_rfl) (by with_reducible first | exact H | rfl)
                  · intro w Q' HS hq; replace H := HS; clear HS; refine ow_guard_yes rfl rfl rfl rfl ?_; (apply ow_move; (· rfl); (· ((conv => lhs; whnf) <;> rfl))); exact ow_nil hq
                  apply ak_take (i := 32) rfl rfl rfl rfl (by kernel_rfl) (by with_reducible first | exact H | rfl)
                  · intro w Q' HS hq; replace H := HS; clear HS; refine ow_guard_yes rfl rfl rfl rfl ?_; refine ow_idx1 (j := k) rfl (tyAt rfl) rfl (tyAt rfl) rfl rfl (by first | rfl | omega) (by omega) rfl ?_; exact ow_nil hq
                  apply ak_take (i := 33) rfl rfl rfl rfl (by kernel_rfl) (by with_reducible first | exact H | rfl)
                  · intro w Q' HS hq; replace H := HS; clear HS; refine ow_guard_yes rfl rfl rfl rfl ?_; refine ow_load rfl (tyAt rfl) rfl rfl ((H.oldSl (hR.2.2 r hrm)).int (by omega)) ?_; exact ow_nil hq
                  apply ak_take (i := 34) rfl rfl rfl rfl (by kernel_rfl) (by with_reducible first | exact H | rfl)
                  · intro w Q' HS hq; replace H := HS; clear HS; refine ow_guard_yes rfl rfl rfl rfl ?_; refine ow_fieldAddr rfl (tyAt rfl) rfl rfl rfl (tyAt rfl) rfl rfl ?_; exact ow_nil hq
                  apply ak_take (i := 35) rfl rfl rfl rfl (by kernel_rfl) (by with_reducible first | exact H | rfl)
                  · intro w Q' HS hq; replace H := HS; clear HS; refine ow_guard_yes rfl rfl rfl rfl ?_; refine ow_load rfl (tyAt rfl) rfl rfl (H.cell (i := 0) rfl rfl) ?_; exact ow_nil hq
                  rw [hpw]
                  apply ak_take (i := 36) rfl rfl rfl rfl (by kernel_rfl) (by with_reducible first | exact H | rfl)
                  · intro w Q' HS hq; replace H := HS; clear HS; refine ow_guard_yes rfl rfl rfl rfl ?_; (apply ow_move; (· rfl); (· ((conv => lhs; whnf) <;> rfl))); exact ow_nil hq
                  apply ak_take (i := 37) rfl rfl rfl rfl (by kernel_rfl) (by with_reducible first | exact H | rfl)
                  · intro w Q' HS hq; replace H := HS; clear HS; refine ow_guard_yes rfl rfl rfl rfl ?_; refine ow_idx1 (j := i) rfl (tyAt rfl) rfl (tyAt rfl) rfl rfl rfl hal rfl ?_; exact ow_nil hq
                  apply ak_take (i := 38) rfl rfl rfl rfl (by kernel_rfl) (by with_reducible first | exact H | rfl)
                  · intro w Q' HS hq; replace H := HS; clear HS; refine ow_guard_yes rfl rfl rfl rfl ?_; refine ow_load rfl (tyAt rfl) rfl rfl ((H.oldSl hs2).cell (j := i) hrc) ?_; exact ow_nil hq
                  apply ak_take (i := 39) rfl rfl rfl rfl (by kernel_rfl) (by with_reducible first | exact H | rfl)
                  · intro w Q' HS hq; replace H := HS; clear HS; refine ow_guard_yes rfl rfl rfl rfl ?_; (apply ow_move; (· rfl); (· ((conv => lhs; whnf) <;> rfl))); exact ow_nil hq
                  apply ak_take (i := 40) rfl rfl rfl rfl (by kernel_rfl) (by with_reducible first | exact H | rfl)
                  · intro w Q' HS hq; replace H := HS; clear HS; refine ow_guard_yes rfl rfl rfl rfl ?_; refine ow_idx1 (j := tb0) rfl (tyAt rfl) rfl (tyAt rfl) rfl rfl (by first | rfl | omega) (by omega) rfl ?_; exact ow_nil hq
                  apply ak_take (i := 41) rfl rfl rfl rfl (by kernel_rfl) (by with_reducible first | exact H | rfl)
                  · intro w Q' HS hq; replace H := HS; clear HS; refine ow_guard_yes rfl rfl rfl rfl ?_; refine ow_load rfl (tyAt rfl) rfl rfl ((H.oldSl (hR.2.2 r hrm)).int (by omega)) ?_; exact ow_nil hq
                  rw [hvk, hvt]
                  apply ak_take (i := 42) rfl rfl rfl rfl (by kernel_rfl) (by with_reducible first | exact H | rfl)
                  · intro w Q' HS hq; replace H := HS; clear HS; refine ow_guard_yes rfl rfl rfl rfl ?_; refine ow_gtr rfl rfl rfl ?_; exact ow_nil hq
                  apply ak_take (i := 43) rfl rfl rfl rfl (by kernel_rfl) (by with_reducible first | exact H | rfl)
                  · intro w Q' HS hq; replace H := HS; clear HS; refine ow_guard_yes rfl rfl rfl rfl ?_; (apply ow_pick_f; (· rfl); (· rfl); (· ((conv => lhs; whnf) <;> rfl))); exact ow_nil hq
                  apply ak_take (i := 44) rfl rfl rfl rfl (by kernel_rfl) (by with_reducible first | exact H | rfl)
                  · intro w Q' HS hq; replace H := HS; clear HS; (apply ow_pick_t; (· rfl); (· rfl); (· ((conv => lhs; whnf) <;> rfl))); exact ow_nil hq
                  refine ak_done (by kernel_rfl) ?_
                  have hnn := h
                  clear h
                  skip
                  refine wc_cond_dec rfl (fun h => ?_) (fun h => ?_) <;> try dsimp only at h
                  · refine wc_region ?_
                    (apply ow_move; (· rfl); (· ((conv => lhs; whnf) <;> rfl)))
                    (apply ow_assign; (· rfl); (· ((conv => lhs; whnf) <;> rfl)))
                    refine ow_nil ?_
                    refine wc_region ?_
                    (apply ow_move; (· rfl); (· ((conv => lhs; whnf) <;> rfl)))
                    refine ow_add rfl rfl rfl (by simp only [InK]; omega) ?_
                    (apply ow_assign; (· rfl); (· ((conv => lhs; whnf) <;> rfl)))
                    refine ow_nil ?_
                    refine ⟨k + 1, ?_, by repeat (first | with_reducible exact Off.mix | with_reducible exact Off.refl | ((with_reducible refine Off.upd ?_ ?_); (· rfl))), ⟨rfl, by omega, H⟩, by omega⟩
                    rw [hyx hmk hpk (.inr h)]
                    first | exact rfl | exact upd_self' rfl rfl | exact upd_self' rfl (upd_self' rfl rfl) | exact upd_self' rfl (upd_self' rfl (upd_self' rfl rfl)) | exact upd_self' rfl (upd_self' rfl (upd_self' rfl (upd_self' rfl rfl)))
                  · refine wc_skip ?_
                    refine wc_region ?_
                    (apply ow_move; (· rfl); (· ((conv => lhs; whnf) <;> rfl)))
                    refine ow_add rfl rfl rfl (by simp only [InK]; omega) ?_
                    (apply ow_assign; (· rfl); (· ((conv => lhs; whnf) <;> rfl)))
                    refine ow_nil ?_
                    refine ⟨k + 1, ?_, by repeat (first | with_reducible exact Off.mix | with_reducible exact Off.refl | ((with_reducible refine Off.upd ?_ ?_); (· rfl))), ⟨rfl, by omega, H⟩, by omega⟩
                    rw [hnx (fun h' => h'.2.2.2.elim hnn h)]
                    first | exact rfl | exact upd_self' rfl rfl | exact upd_self' rfl (upd_self' rfl rfl) | exact upd_self' rfl (upd_self' rfl (upd_self' rfl rfl)) | exact upd_self' rfl (upd_self' rfl (upd_self' rfl (upd_self' rfl rfl)))
              · apply ak_take (i := 23) rfl rfl rfl rfl (by kernel_rfl) (by with_reducible first | exact H | rfl)
                · intro w Q' HS hq; replace H := HS; clear HS; refine ow_guard_no rfl rfl rfl rfl rfl rfl rfl ?_; exact ow_nil hq
                apply ak_take (i := 24) rfl rfl rfl rfl (by kernel_rfl) (by with_reducible first | exact H | rfl)
                · intro w Q' HS hq; replace H := HS; clear HS; refine ow_guard_no rfl rfl rfl rfl rfl rfl rfl ?_; exact ow_nil hq
                apply ak_take (i := 25) rfl rfl rfl rfl (by kernel_rfl) (by with_reducible first | exact H | rfl)
                · intro w Q' HS hq; replace H := HS; clear HS; refine ow_guard_no rfl rfl rfl rfl rfl rfl rfl ?_; exact ow_nil hq
                apply ak_take (i := 26) rfl rfl rfl rfl (by kernel_rfl) (by with_reducible first | exact H | rfl)
                · intro w Q' HS hq; replace H := HS; clear HS; refine ow_guard_un rfl rfl rfl rfl rfl rfl ?_; exact ow_nil hq
                apply ak_take (i := 27) rfl rfl rfl rfl (by kernel_rfl) (by with_reducible first | exact H | rfl)
                · intro w Q' HS hq; replace H := HS; clear HS; refine ow_guard_un rfl rfl rfl rfl rfl rfl ?_; exact ow_nil hq
                apply ak_take (i := 28) rfl rfl rfl rfl (by kernel_rfl) (by with_reducible first | exact H | rfl)
                · intro w Q' HS hq; replace H := HS; clear HS; refine ow_guard_un rfl rfl rfl rfl rfl rfl ?_; exact ow_nil hq
                apply ak_take (i := 29) rfl rfl rfl rfl (by kernel_rfl) (by with_reducible first | exact H | rfl)
                · intro w Q' HS hq; replace H := HS; clear HS; refine ow_guard_un rfl rfl rfl rfl rfl rfl ?_; exact ow_nil hq
                apply ak_take (i := 30) rfl rfl rfl rfl (by kernel_rfl) (by with_reducible first | exact H | rfl)
                · intro w Q' HS hq; replace H := HS; clear HS; refine ow_guard_un rfl rfl rfl rfl rfl rfl ?_; exact ow_nil hq
                apply ak_take (i := 31) rfl rfl rfl rfl (by kernel_rfl) (by with_reducible first | exact H | rfl)
                · intro w Q' HS hq; replace H := HS; clear HS; refine ow_guard_un rfl rfl rfl rfl rfl rfl ?_; exact ow_nil hq
                apply ak_take (i := 32) rfl rfl rfl rfl (by kernel_rfl) (by with_reducible first | exact H | rfl)
                · intro w Q' HS hq; replace H := HS; clear HS; refine ow_guard_un rfl rfl rfl rfl rfl rfl ?_; exact ow_nil hq
                apply ak_take (i := 33) rfl rfl rfl rfl (by kernel_rfl) (by with_reducible first | exact H | rfl)
                · intro w Q' HS hq; replace H := HS; clear HS; refine ow_guard_un rfl rfl rfl rfl rfl rfl ?_; exact ow_nil hq
                apply ak_take (i := 34) rfl rfl rfl rfl (by kernel_rfl) (by with_reducible first | exact H | rfl)
                · intro w Q' HS hq; replace H := HS; clear HS; refine ow_guard_un rfl rfl rfl rfl rfl rfl ?_; exact ow_nil hq
                apply ak_take (i := 35) rfl rfl rfl rfl (by kernel_rfl) (by with_reducible first | exact H | rfl)
                · intro w Q' HS hq; replace H := HS; clear HS; refine ow_guard_un rfl rfl rfl rfl rfl rfl ?_; exact ow_nil hq
                apply ak_take (i := 36) rfl rfl rfl rfl (by kernel_rfl) (by with_reducible first | exact H | rfl)
                · intro w Q' HS hq; replace H := HS; clear HS; refine ow_guard_un rfl rfl rfl rfl rfl rfl ?_; exact ow_nil hq
                apply ak_take (i := 37) rfl rfl rfl rfl (by kernel_rfl) (by with_reducible first | exact H | rfl)
                · intro w Q' HS hq; replace H := HS; clear HS; refine ow_guard_un rfl rfl rfl rfl rfl rfl ?_; exact ow_nil hq
                apply ak_take (i := 38) rfl rfl rfl rfl (by kernel_rfl) (by with_reducible first | exact H | rfl)
                · intro w Q' HS hq; replace H := HS; clear HS; refine ow_guard_un rfl rfl rfl rfl rfl rfl ?_; exact ow_nil hq
                apply ak_take (i := 39) rfl rfl rfl rfl (by kernel_rfl) (by with_reducible first | exact H | rfl)
                · intro w Q' HS hq; replace H := HS; clear HS; refine ow_guard_un rfl rfl rfl rfl rfl rfl ?_; exact ow_nil hq
                apply ak_take (i := 40) rfl rfl rfl rfl (by kernel_rfl) (by with_reducible first | exact H | rfl)
                · intro w Q' HS hq; replace H := HS; clear HS; refine ow_guard_un rfl rfl rfl rfl rfl rfl ?_; exact ow_nil hq
                apply ak_take (i := 41) rfl rfl rfl rfl (by kernel_rfl) (by with_reducible first | exact H | rfl)
                · intro w Q' HS hq; replace H := HS; clear HS; refine ow_guard_un rfl rfl rfl rfl rfl rfl ?_; exact ow_nil hq
                apply ak_take (i := 42) rfl rfl rfl rfl (by kernel_rfl) (by with_reducible first | exact H | rfl)
                · intro w Q' HS hq; replace H := HS; clear HS; refine ow_guard_un rfl rfl rfl rfl rfl rfl ?_; exact ow_nil hq
                apply ak_take (i := 43) rfl rfl rfl rfl (by kernel_rfl) (by with_reducible first | exact H | rfl)
                · intro w Q' HS hq; replace H := HS; clear HS; refine ow_guard_no rfl rfl rfl rfl rfl rfl rfl ?_; exact ow_nil hq
                apply ak_take (i := 44) rfl rfl rfl rfl (by kernel_rfl) (by with_reducible first | exact H | rfl)
                · intro w Q' HS hq; replace H := HS; clear HS; (apply ow_pick_f; (· rfl); (· rfl); (· ((conv => lhs; whnf) <;> rfl))); exact ow_nil hq
                refine ak_done (by kernel_rfl) ?_
                refine wc_cond_false rfl ?_
                refine wc_skip ?_
                refine wc_region ?_
                (apply ow_move; (· rfl); (· ((conv => lhs; whnf) <;> rfl)))
                refine ow_add rfl rfl rfl (by simp only [InK]; omega) ?_
                (apply ow_assign; (· rfl); (· ((conv => lhs; whnf) <;> rfl)))
                refine ow_nil ?_
                refine ⟨k + 1, ?_, by repeat (first | with_reducible exact Off.mix | with_reducible exact Off.refl | ((with_reducible refine Off.upd ?_ ?_); (· rfl))), ⟨rfl, by omega, H⟩, by omega⟩
                rw [hnx (fun h' => h h'.2.2.1)]
                first | exact rfl | exact upd_self' rfl rfl | exact upd_self' rfl (upd_self' rfl rfl) | exact upd_self' rfl (upd_self' rfl (upd_self' rfl rfl)) | exact upd_self' rfl (upd_self' rfl (upd_self' rfl (upd_self' rfl rfl)))
            · apply ak_take (i := 12) rfl rfl rfl rfl (by kernel_rfl) (by with_reducible first | exact H | rfl)
              · intro w Q' HS hq; replace H := HS; clear HS; refine ow_guard_no rfl rfl rfl rfl rfl rfl rfl ?_; exact ow_nil hq
              apply ak_take (i := 13) rfl rfl rfl rfl (by kernel_rfl) (by with_reducible first | exact H | rfl)
              · intro w Q' HS hq; replace H := HS; clear HS; refine ow_guard_no rfl rfl rfl rfl rfl rfl rfl ?_; exact ow_nil hq
              apply ak_take (i := 14) rfl rfl rfl rfl (by kernel_rfl) (by with_reducible first | exact H | rfl)
              · intro w Q' HS hq; replace H := HS; clear HS; refine ow_guard_no rfl rfl rfl rfl rfl rfl rfl ?_; exact ow_nil hq
              apply ak_take (i := 15) rfl rfl rfl rfl (by kernel_rfl) (by with_reducible first | exact H | rfl)
              · intro w Q' HS hq; replace H := HS; clear HS; refine ow_guard_no rfl rfl rfl rfl rfl rfl rfl ?_; exact ow_nil hq
              apply ak_take (i := 16) rfl rfl rfl rfl (by kernel_rfl) (by with_reducible first | exact H | rfl)
              · intro w Q' HS hq; replace H := HS; clear HS; refine ow_guard_no rfl rfl rfl rfl rfl rfl rfl ?_; exact ow_nil hq
              apply ak_take (i := 17) rfl rfl rfl rfl (by kernel_rfl) (by with_reducible first | exact H | rfl)
              · intro w Q' HS hq; replace H := HS; clear HS; refine ow_guard_no rfl rfl rfl rfl rfl rfl rfl ?_; exact ow_nil hq
              apply ak_take (i := 18) rfl rfl rfl rfl (by kernel_rfl) (by with_reducible first | exact H | rfl)
              · intro w Q' HS hq; replace H := HS; clear HS; refine ow_guard_no rfl rfl rfl rfl rfl rfl rfl ?_; exact ow_nil hq
              apply ak_take (i := 19) rfl rfl rfl rfl (by kernel_rfl) (by with_reducible first | exact H | rfl)
              · intro w Q' HS hq; replace H := HS; clear HS; refine ow_guard_no rfl rfl rfl rfl rfl rfl rfl ?_; exact ow_nil hq
              apply ak_take (i := 20) rfl rfl rfl rfl (by kernel_rfl) (by with_reducible first | exact H | rfl)
              · intro w Q' HS hq; replace H := HS; clear HS; refine ow_guard_no rfl rfl rfl rfl rfl rfl rfl ?_; exact ow_nil hq
              apply ak_take (i := 21) rfl rfl rfl rfl (by kernel_rfl) (by with_reducible first | exact H | rfl)
              · intro w Q' HS hq; replace H := HS; clear HS; (apply ow_pick_f; (· rfl); (· rfl); (· ((conv => lhs; whnf) <;> rfl))); exact ow_nil hq
              apply ak_take (i := 22) rfl rfl rfl rfl (by kernel_rfl) (by with_reducible first | exact H | rfl)
              · intro w Q' HS hq; replace H := HS; clear HS; (apply ow_move; (· rfl); (· ((conv => lhs; whnf) <;> rfl))); exact ow_nil hq
              apply ak_take (i := 23) rfl rfl rfl rfl (by kernel_rfl) (by with_reducible first | exact H | rfl)
              · intro w Q' HS hq; replace H := HS; clear HS; refine ow_guard_no rfl rfl rfl rfl rfl rfl rfl ?_; exact ow_nil hq
              apply ak_take (i := 24) rfl rfl rfl rfl (by kernel_rfl) (by with_reducible first | exact H | rfl)
              · intro w Q' HS hq; replace H := HS; clear HS; refine ow_guard_no rfl rfl rfl rfl rfl rfl rfl ?_; exact ow_nil hq
              apply ak_take (i := 25) rfl rfl rfl rfl (by kernel_rfl) (by with_reducible first | exact H | rfl)
              · intro w Q' HS hq; replace H := HS; clear HS; refine ow_guard_no rfl rfl rfl rfl rfl rfl rfl ?_; exact ow_nil hq
              apply ak_take (i := 26) rfl rfl rfl rfl (by kernel_rfl) (by with_reducible first | exact H | rfl)
              · intro w Q' HS hq; replace H := HS; clear HS; refine ow_guard_un rfl rfl rfl rfl rfl rfl ?_; exact ow_nil hq
              apply ak_take (i := 27) rfl rfl rfl rfl (by kernel_rfl) (by with_reducible first | exact H | rfl)
              · intro w Q' HS hq; replace H := HS; clear HS; refine ow_guard_un rfl rfl rfl rfl rfl rfl ?_; exact ow_nil hq
              apply ak_take (i := 28) rfl rfl rfl rfl (by kernel_rfl) (by with_reducible first | exact H | rfl)
              · intro w Q' HS hq; replace H := HS; clear HS; refine ow_guard_un rfl rfl rfl rfl rfl rfl ?_; exact ow_nil hq
              apply ak_take (i := 29) rfl rfl rfl rfl (by kernel_rfl) (by with_reducible first | exact H | rfl)
              · intro w Q' HS hq; replace H := HS; clear HS; refine ow_guard_un rfl rfl rfl rfl rfl rfl ?_; exact ow_nil hq
              apply ak_take (i := 30) rfl rfl rfl rfl (by kernel_rfl) (by with_reducible first | exact H | rfl)
              · intro w Q' HS hq; replace H := HS; clear HS; refine ow_guard_un rfl rfl rfl rfl rfl rfl ?_; exact ow_nil hq
              apply ak_take (i := 31) rfl rfl rfl rfl (by kernel_rfl) (by with_reducible first | exact H | rfl)
              · intro w Q' HS hq; replace H := HS; clear HS; refine ow_guard_un rfl rfl rfl rfl rfl rfl ?_; exact ow_nil hq
              apply ak_take (i := 32) rfl rfl rfl rfl (by kernel_rfl) (by with_reducible first | exact H | rfl)
              · intro w Q' HS hq; replace H := HS; clear HS; refine ow_guard_un rfl rfl rfl rfl rfl rfl ?_; exact ow_nil hq
              apply ak_take (i := 33) rfl rfl rfl rfl (by kernel_rfl) (by with_reducible first | exact H | rfl)
              · intro w Q' HS hq; replace H := HS; clear HS; refine ow_guard_un rfl rfl rfl rfl rfl rfl ?_; exact ow_nil hq
              apply ak_take (i := 34) rfl rfl rfl rfl (by kernel_rfl) (by with_reducible first | exact H | rfl)
              · intro w Q' HS hq; replace H := HS; clear HS; refine ow_guard_un rfl rfl rfl rfl rfl rfl ?_; exact ow_nil hq
              apply ak_take (i := 35) rfl rfl rfl rfl (by kernel_rfl) (by with_reducible first | exact H | rfl)
              · intro w Q' HS hq; replace H := HS; clear HS; refine ow_guard_un rfl rfl rfl rfl rfl rfl ?_; exact ow_nil hq
              apply ak_take (i := 36) rfl rfl rfl rfl (by kernel_rfl) (by with_reducible first | exact H | rfl)
              · intro w Q' HS hq; replace H := HS; clear HS; refine ow_guard_un rfl rfl rfl rfl rfl rfl ?_; exact ow_nil hq
              apply ak_take (i := 37) rfl rfl rfl rfl (by kernel_rfl) (by with_reducible first | exact H | rfl)
              · intro w Q' HS hq; replace H := HS; clear HS; refine ow_guard_un rfl rfl rfl rfl rfl rfl ?_; exact ow_nil hq
              apply ak_take (i := 38) rfl rfl rfl rfl (by kernel_rfl) (by with_reducible first | exact H | rfl)
              · intro w Q' HS hq; replace H := HS; clear HS; refine ow_guard_un rfl rfl rfl rfl rfl rfl ?_; exact ow_nil hq
              apply ak_take (i := 39) rfl rfl rfl rfl (by kernel_rfl) (by with_reducible first | exact H | rfl)
              · intro w Q' HS hq; replace H := HS; clear HS; refine ow_guard_un rfl rfl rfl rfl rfl rfl ?_; exact ow_nil hq
              apply ak_take (i := 40) rfl rfl rfl rfl (by kernel_rfl) (by with_reducible first | exact H | rfl)
              · intro w Q' HS hq; replace H := HS; clear HS; refine ow_guard_un rfl rfl rfl rfl rfl rfl ?_; exact ow_nil hq
              apply ak_take (i := 41) rfl rfl rfl rfl (by kernel_rfl) (by with_reducible first | exact H | rfl)
              · intro w Q' HS hq; replace H := HS; clear HS; refine ow_guard_un rfl rfl rfl rfl rfl rfl ?_; exact ow_nil hq
              apply ak_take (i := 42) rfl rfl rfl rfl (by kernel_rfl) (by with_reducible first | exact H | rfl)
              · intro w Q' HS hq; replace H := HS; clear HS; refine ow_guard_un rfl rfl rfl rfl rfl rfl ?_; exact ow_nil hq
              apply ak_take (i := 43) rfl rfl rfl rfl (by kernel_rfl) (by with_reducible first | exact H | rfl)
              · intro w Q' HS hq; replace H := HS; clear HS; refine ow_guard_no rfl rfl rfl rfl rfl rfl rfl ?_; exact ow_nil hq
              apply ak_take (i := 44) rfl rfl rfl rfl (by kernel_rfl) (by with_reducible first | exact H | rfl)
              · intro w Q' HS hq; replace H := HS; clear HS; (apply ow_pick_f; (· rfl); (· rfl); (· ((conv => lhs; whnf) <;> rfl))); exact ow_nil hq
              refine ak_done (by kernel_rfl) ?_
              refine wc_cond_false rfl ?_
              refine wc_skip ?_
              refine wc_region ?_
              (apply ow_move; (· rfl); (· ((conv => lhs; whnf) <;> rfl)))
              refine ow_add rfl rfl rfl (by simp only [InK]; omega) ?_
              (apply ow_assign; (· rfl); (· ((conv => lhs; whnf) <;> rfl)))
              refine ow_nil ?_
              refine ⟨k + 1, ?_, by repeat (first | with_reducible exact Off.mix | with_reducible exact Off.refl | ((with_reducible refine Off.upd ?_ ?_); (· rfl))), ⟨rfl, by omega, H⟩, by omega⟩
              rw [hnx (fun h' => h h'.2.1)]
              first | exact rfl | exact upd_self' rfl rfl | exact upd_self' rfl (upd_self' rfl rfl) | exact upd_self' rfl (upd_self' rfl (upd_self' rfl rfl)) | exact upd_self' rfl (upd_self' rfl (upd_self' rfl (upd_self' rfl rfl)))
          · apply ak_take (i := 4) rfl rfl rfl rfl (by kernel_rfl) (by with_reducible first | exact H | rfl)
            · intro w Q' HS hq; replace H := HS; clear HS; refine ow_guard_no rfl rfl rfl rfl rfl rfl rfl ?_; exact ow_nil hq
            apply ak_take (i := 5) rfl rfl rfl rfl (by kernel_rfl) (by with_reducible first | exact H | rfl)
            · intro w Q' HS hq; replace H := HS; clear HS; refine ow_guard_no rfl rfl rfl rfl rfl rfl rfl ?_; exact ow_nil hq
            apply ak_take (i := 6) rfl rfl rfl rfl (by kernel_rfl) (by with_reducible first | exact H | rfl)
            · intro w Q' HS hq; replace H := HS; clear HS; refine ow_guard_no rfl rfl rfl rfl rfl rfl rfl ?_; exact ow_nil hq
            apply ak_take (i := 7) rfl rfl rfl rfl (by kernel_rfl) (by with_reducible first | exact H | rfl)
            · intro w Q' HS hq; replace H := HS; clear HS; refine ow_guard_no rfl rfl rfl rfl rfl rfl rfl ?_; exact ow_nil hq
            apply ak_take (i := 8) rfl rfl rfl rfl (by kernel_rfl) (by with_reducible first | exact H | rfl)
            · intro w Q' HS hq; replace H := HS; clear HS; refine ow_guard_no rfl rfl rfl rfl rfl rfl rfl ?_; exact ow_nil hq
            apply ak_take (i := 9) rfl rfl rfl rfl (by kernel_rfl) (by with_reducible first | exact H | rfl)
            · intro w Q' HS hq; replace H := HS; clear HS; refine ow_guard_no rfl rfl rfl rfl rfl rfl rfl ?_; exact ow_nil hq
            apply ak_take (i := 10) rfl rfl rfl rfl (by kernel_rfl) (by with_reducible first | exact H | rfl)
            · intro w Q' HS hq; replace H := HS; clear HS; (apply ow_pick_f; (· rfl); (· rfl); (· ((conv => lhs; whnf) <;> rfl))); exact ow_nil hq
            apply ak_take (i := 11) rfl rfl rfl rfl (by kernel_rfl) (by with_reducible first | exact H | rfl)
            · intro w Q' HS hq; replace H := HS; clear HS; (apply ow_move; (· rfl); (· ((conv => lhs; whnf) <;> rfl))); exact ow_nil hq
            apply ak_take (i := 12) rfl rfl rfl rfl (by kernel_rfl) (by with_reducible first | exact H | rfl)
            · intro w Q' HS hq; replace H := HS; clear HS; refine ow_guard_no rfl rfl rfl rfl rfl rfl rfl ?_; exact ow_nil hq
            apply ak_take (i := 13) rfl rfl rfl rfl (by kernel_rfl) (by with_reducible first | exact H | rfl)
            · intro w Q' HS hq; replace H := HS; clear HS; refine ow_guard_no rfl rfl rfl rfl rfl rfl rfl ?_; exact ow_nil hq
            apply ak_take (i := 14) rfl rfl rfl rfl (by kernel_rfl) (by with_reducible first | exact H | rfl)
            · intro w Q' HS hq; replace H := HS; clear HS; refine ow_guard_no rfl rfl rfl rfl rfl rfl rfl ?_; exact ow_nil hq
            apply ak_take (i := 15) rfl rfl rfl rfl (by kernel_rfl) (by with_reducible first | exact H | rfl)
            · intro w Q' HS hq; replace H := HS; clear HS; refine ow_guard_no rfl rfl rfl rfl rfl rfl rfl ?_; exact ow_nil hq
            apply ak_take (i := 16) rfl rfl rfl rfl (by kernel_rfl) (by with_reducible first | exact H | rfl)
            · intro w Q' HS hq; replace H := HS; clear HS; refine ow_guard_no rfl rfl rfl rfl rfl rfl rfl ?_; exact ow_nil hq
            apply ak_take (i := 17) rfl rfl rfl rfl (by kernel_rfl) (by with_reducible first | exact H | rfl)
            · intro w Q' HS hq; replace H := HS; clear HS; refine ow_guard_no rfl rfl rfl rfl rfl rfl rfl ?_; exact ow_nil hq
            apply ak_take (i := 18) rfl rfl rfl rfl (by kernel_rfl) (by with_reducible first | exact H | rfl)
            · intro w Q' HS hq; replace H := HS; clear HS; refine ow_guard_no rfl rfl rfl rfl rfl rfl rfl ?_; exact ow_nil hq
            apply ak_take (i := 19) rfl rfl rfl rfl (by kernel_rfl) (by with_reducible first | exact H | rfl)
            · intro w Q' HS hq; replace H := HS; clear HS; refine ow_guard_no rfl rfl rfl rfl rfl rfl rfl ?_; exact ow_nil hq
            apply ak_take (i := 20) rfl rfl rfl rfl (by kernel_rfl) (by with_reducible first | exact H | rfl)
            · intro w Q' HS hq; replace H := HS; clear HS; refine ow_guard_no rfl rfl rfl rfl rfl rfl rfl ?_; exact ow_nil hq
            apply ak_take (i := 21) rfl rfl rfl rfl (by kernel_rfl) (by with_reducible first | exact H | rfl)
            · intro w Q' HS hq; replace H := HS; clear HS; (apply ow_pick_f; (· rfl); (· rfl); (· ((conv => lhs; whnf) <;> rfl))); exact ow_nil hq
            apply ak_take (i := 22) rfl rfl rfl rfl (by kernel_rfl) (by with_reducible first | exact H | rfl)
            · intro w Q' HS hq; replace H := HS; clear HS; (apply ow_move; (· rfl); (· ((conv => lhs; whnf) <;> rfl))); exact ow_nil hq
            apply ak_take (i := 23) rfl rfl rfl rfl (by kernel_rfl) (by with_reducible first | exact H | rfl)
            · intro w Q' HS hq; replace H := HS; clear HS; refine ow_guard_no rfl rfl rfl rfl rfl rfl rfl ?_; exact ow_nil hq
            apply ak_take (i := 24) rfl rfl rfl rfl (by kernel_rfl) (by with_reducible first | exact H | rfl)
            · intro w Q' HS hq; replace H := HS; clear HS; refine ow_guard_no rfl rfl rfl rfl rfl rfl rfl ?_; exact ow_nil hq
            apply ak_take (i := 25) rfl rfl rfl rfl (by kernel_rfl) (by with_reducible first | exact H | rfl)
            · intro w Q' HS hq; replace H := HS; clear HS; refine ow_guard_no rfl rfl rfl rfl rfl rfl rfl ?_; exact ow_nil hq
            apply ak_take (i := 26) rfl rfl rfl rfl (by kernel_rfl) (by with_reducible first | exact H | rfl)
            · intro w Q' HS hq; replace H := HS; clear HS; refine ow_guard_un rfl rfl rfl rfl rfl rfl ?_; exact ow_nil hq
            apply ak_take (i := 27) rfl rfl rfl rfl (by kernel_rfl) (by with_reducible first | exact H | rfl)
            · intro w Q' HS hq; replace H := HS; clear HS; refine ow_guard_un rfl rfl rfl rfl rfl rfl ?_; exact ow_nil hq
            apply ak_take (i := 28) rfl rfl rfl rfl (by kernel_rfl) (by with_reducible first | exact H | rfl)
            · intro w Q' HS hq; replace H := HS; clear HS; refine ow_guard_un rfl rfl rfl rfl rfl rfl ?_; exact ow_nil hq
            apply ak_take (i := 29) rfl rfl rfl rfl (by kernel_rfl) (by with_reducible first | exact H | rfl)
            · intro w Q' HS hq; replace H := HS; clear HS; refine ow_guard_un rfl rfl rfl rfl rfl rfl ?_; exact ow_nil hq
            apply ak_take (i := 30) rfl rfl rfl rfl (by kernel_rfl) (by with_reducible first | exact H | rfl)
            · intro w Q' HS hq; replace H := HS; clear HS; refine ow_guard_un rfl rfl rfl rfl rfl rfl ?_; exact ow_nil hq
            apply ak_take (i := 31) rfl rfl rfl rfl (by kernel_rfl) (by with_reducible first | exact H | rfl)
            · intro w Q' HS hq; replace H := HS; clear HS; refine ow_guard_un rfl rfl rfl rfl rfl rfl ?_; exact ow_nil hq
            apply ak_take (i := 32) rfl rfl rfl rfl (by kernel_rfl) (by with_reducible first | exact H | rfl)
            · intro w Q' HS hq; replace H := HS; clear HS; refine ow_guard_un rfl rfl rfl rfl rfl rfl ?_; exact ow_nil hq
            apply ak_take (i := 33) rfl rfl rfl rfl (by kernel_rfl) (by with_reducible first | exact H | rfl)
            · intro w Q' HS hq; replace H := HS; clear HS; refine ow_guard_un rfl rfl rfl rfl rfl rfl ?_; exact ow_nil hq
            apply ak_take (i := 34) rfl rfl rfl rfl (by kernel_rfl) (by with_reducible first | exact H | rfl)
            · intro w Q' HS hq; replace H := HS; clear HS; refine ow_guard_un rfl rfl rfl rfl rfl rfl ?_; exact ow_nil hq
            apply ak_take (i := 35) rfl rfl rfl rfl (by kernel_rfl) (by with_reducible first | exact H | rfl)
            · intro w Q' HS hq; replace H := HS; clear HS; refine ow_guard_un rfl rfl rfl rfl rfl rfl ?_; exact ow_nil hq
            apply ak_take (i := 36) rfl rfl rfl rfl (by kernel_rfl) (by with_reducible first | exact H | rfl)
            · intro w Q' HS hq; replace H := HS; clear HS; refine ow_guard_un rfl rfl rfl rfl rfl rfl ?_; exact ow_nil hq
            apply ak_take (i := 37) rfl rfl rfl rfl (by kernel_rfl) (by with_reducible first | exact H | rfl)
            · intro w Q' HS hq; replace H := HS; clear HS; refine ow_guard_un rfl rfl rfl rfl rfl rfl ?_; exact ow_nil hq
            apply ak_take (i := 38) rfl rfl rfl rfl (by kernel_rfl) (by with_reducible first | exact H | rfl)
            · intro w Q' HS hq; replace H := HS; clear HS; refine ow_guard_un rfl rfl rfl rfl rfl rfl ?_; exact ow_nil hq
            apply ak_take (i := 39) rfl rfl rfl rfl (by kernel_rfl) (by with_reducible first | exact H | rfl)
            · intro w Q' HS hq; replace H := HS; clear HS; refine ow_guard_un rfl rfl rfl rfl rfl rfl ?_; exact ow_nil hq
            apply ak_take (i := 40) rfl rfl rfl rfl (by kernel_rfl) (by with_reducible first | exact H | rfl)
            · intro w Q' HS hq; replace H := HS; clear HS; refine ow_guard_un rfl rfl rfl rfl rfl rfl ?_; exact ow_nil hq
            apply ak_take (i := 41) rfl rfl rfl rfl (by kernel_rfl) (by with_reducible first | exact H | rfl)
            · intro w Q' HS hq; replace H := HS; clear HS; refine ow_guard_un rfl rfl rfl rfl rfl rfl ?_; exact ow_nil hq
            apply ak_take (i := 42) rfl rfl rfl rfl (by kernel_rfl) (by with_reducible first | exact H | rfl)
            · intro w Q' HS hq; replace H := HS; clear HS; refine ow_guard_un rfl rfl rfl rfl rfl rfl ?_; exact ow_nil hq
            apply ak_take (i := 43) rfl rfl rfl rfl (by kernel_rfl) (by with_reducible first | exact H | rfl)
            · intro w Q' HS hq; replace H := HS; clear HS; refine ow_guard_no rfl rfl rfl rfl rfl rfl rfl ?_; exact ow_nil hq
            apply ak_take (i := 44) rfl rfl rfl rfl (by kernel_rfl) (by with_reducible first | exact H | rfl)
            · intro w Q' HS hq; replace H := HS; clear HS; (apply ow_pick_f; (· rfl); (· rfl); (· ((conv => lhs; whnf) <;> rfl))); exact ow_nil hq
            refine ak_done (by kernel_rfl) ?_
            refine wc_cond_false rfl ?_
            refine wc_skip ?_
            refine wc_region ?_
            (apply ow_move; (· rfl); (· ((conv => lhs; whnf) <;> rfl)))
            refine ow_add rfl rfl rfl (by simp only [InK]; omega) ?_
            (apply ow_assign; (· rfl); (· ((conv => lhs; whnf) <;> rfl)))
            refine ow_nil ?_
            refine ⟨k + 1, ?_, by repeat (first | with_reducible exact Off.mix | with_reducible exact Off.refl | ((with_reducible refine Off.upd ?_ ?_); (· rfl))), ⟨rfl, by omega, H⟩, by omega⟩
            rw [hnx (fun h' => h'.1 (by omega))]
            first | exact rfl | exact upd_self' rfl rfl | exact upd_self' rfl (upd_self' rfl rfl) | exact upd_self' rfl (upd_self' rfl (upd_self' rfl rfl)) | exact upd_self' rfl (upd_self' rfl (upd_self' rfl (upd_self' rfl rfl)))
        · have hk' : k = x.ws.length := by omega
          subst hk'
          refine wc_exit ?_
          exact ⟨(), by first | exact rfl | exact upd_self' rfl rfl | exact upd_self' rfl (upd_self' rfl rfl) | exact upd_self' rfl (upd_self' rfl (upd_self' rfl rfl)) | exact upd_self' rfl (upd_self' rfl (upd_self' rfl (upd_self' rfl rfl))), by repeat (first | with_reducible exact Off.mix | with_reducible exact Off.refl | ((with_reducible refine Off.upd ?_ ?_); (· rfl)) | ((with_reducible refine Off.mixN ?_ ?_); (· rfl))), ⟨rfl, H⟩⟩
      clear H
      rintro _ jj D w ⟨rfl, H⟩
      rcases hto with ⟨ht, rfl⟩ | ⟨b, hb, ht, hm2⟩
      · obtain ⟨to, hto⟩ : ∃ to, toZ T m' i x.ws.length = to := ⟨_, rfl⟩
        rw [hto] at ht ⊢
        refine wc_seq ?_
        refine wc_region ?_
        (apply ow_move; (· rfl); (· ((conv => lhs; whnf) <;> rfl)))
        refine ow_geq rfl rfl rfl ?_
        refine ow_nil ?_
        refine wc_cond_dec rfl (fun h => ?_) (fun h => ?_) <;> try dsimp only at h
        · omega
        refine wc_skip ?_
        refine wc_region ?_
        (apply ow_move; (· rfl); (· ((conv => lhs; whnf) <;> rfl)))
        refine ow_add rfl rfl rfl (by simp only [InK]; omega) ?_
        (apply ow_assign; (· rfl); (· ((conv => lhs; whnf) <;> rfl)))
        refine ow_nil ?_
        exact ⟨i + 1, by first | exact rfl | exact upd_self' rfl rfl | exact upd_self' rfl (upd_self' rfl rfl) | exact upd_self' rfl (upd_self' rfl (upd_self' rfl rfl)) | exact upd_self' rfl (upd_self' rfl (upd_self' rfl (upd_self' rfl rfl))), by repeat (first | with_reducible exact Off.mix | with_reducible exact Off.refl | ((with_reducible refine Off.upd ?_ ?_); (· rfl)) | ((with_reducible refine Off.mixN ?_ ?_); (· rfl))), ⟨rfl, hlt, by rw [hm']; exact H⟩, by omega⟩
      · rw [ht]
        refine wc_seq ?_
        refine wc_region ?_
        (apply ow_move; (· rfl); (· ((conv => lhs; whnf) <;> rfl)))
        refine ow_geq rfl rfl rfl ?_
        refine ow_nil ?_
        refine wc_cond_true rfl ?_
        refine wc_seq ?_
        refine wc_region ?_
        (apply ow_move; (· rfl); (· ((conv => lhs; whnf) <;> rfl)))
        (apply ow_move; (· rfl); (· ((conv => lhs; whnf) <;> rfl)))
        (apply ow_move; (· rfl); (· ((conv => lhs; whnf) <;> rfl)))
        refine ow_idx1 (j := i) rfl (tyAt rfl) rfl (tyAt rfl) rfl rfl rfl hlt rfl ?_
        refine ow_storeApp (i := 1) (o := 0 + i) (v := .int .i64 (b : Int)) H (tyAt rfl) rfl rfl rfl rfl rfl (by simp; omega) (fun w H => ?_)
        dsimp only [List.set] at H
        refine ow_nil ?_
        refine wc_region ?_
        (apply ow_move; (· rfl); (· ((conv => lhs; whnf) <;> rfl)))
        (apply ow_move; (· rfl); (· ((conv => lhs; whnf) <;> rfl)))
        (apply ow_move; (· rfl); (· ((conv => lhs; whnf) <;> rfl)))
        refine ow_idx1 (j := b) rfl (tyAt rfl) rfl (tyAt rfl) rfl rfl rfl hb rfl ?_
        refine ow_storeApp (i := 1) (o := 0 + b) (v := .int .i64 (i : Int)) H (tyAt rfl) rfl rfl rfl rfl rfl (by simp; omega) (fun w H => ?_)
        dsimp only [List.set] at H
        rw [Nat.zero_add, Nat.zero_add, ints_setI, ints_setI, ← hm2] at H
        refine ow_nil ?_
        refine wc_region ?_
        (apply ow_move; (· rfl); (· ((conv => lhs; whnf) <;> rfl)))
        refine ow_add rfl rfl rfl (by simp only [InK]; omega) ?_
        (apply ow_assign; (· rfl); (· ((conv => lhs; whnf) <;> rfl)))
        refine ow_nil ?_
        exact ⟨i + 1, by first | exact rfl | exact upd_self' rfl rfl | exact upd_self' rfl (upd_self' rfl rfl) | exact upd_self' rfl (upd_self' rfl (upd_self' rfl rfl)) | exact upd_self' rfl (upd_self' rfl (upd_self' rfl (upd_self' rfl rfl))), by repeat (first | with_reducible exact Off.mix | with_reducible exact Off.refl | ((with_reducible refine Off.upd ?_ ?_); (· rfl)) | ((with_reducible refine Off.mixN ?_ ?_); (· rfl))), ⟨rfl, hlt, by rw [hm']; exact H⟩, by omega⟩
    · have hi' : i = x.ws.length := by omega
      subst hi'
      refine wc_exit ?_
      exact ⟨(), by first | exact rfl | exact upd_self' rfl rfl | exact upd_self' rfl (upd_self' rfl rfl) | exact upd_self' rfl (upd_self' rfl (upd_self' rfl rfl)) | exact upd_self' rfl (upd_self' rfl (upd_self' rfl (upd_self' rfl rfl))), by repeat (first | with_reducible exact Off.mix | with_reducible exact Off.refl | ((with_reducible refine Off.upd ?_ ?_); (· rfl)) | ((with_reducible refine Off.mixN ?_ ?_); (· rfl))), ⟨rfl, H⟩⟩
  clear H
  rintro _ j D w ⟨rfl, H⟩
  refine wc_seq ?_
  refine wc_region ?_
  (apply ow_move; (· rfl); (· ((conv => lhs; whnf) <;> rfl)))
  (apply ow_assign; (· rfl); (· ((conv => lhs; whnf) <;> rfl)))
  refine ow_nil ?_
  refine wc_ret ?_
  obtain ⟨w, hT, H⟩ := H.takes Try.prog
  refine ⟨.inr rfl, w, hT, _, .tmp .nil, ?_⟩
  exact ⟨q4, c4, rfl, H.drop⟩
end Go.Proofs.Ytpbknokakooekaa

