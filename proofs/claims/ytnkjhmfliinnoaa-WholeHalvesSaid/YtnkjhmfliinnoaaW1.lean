/- The whole: a mesh, and that a graph is sound. -/
import Derived.Test.YtnkjhmfliinnoaaE8
namespace Go.Proofs.Ytnkjhmfliinnoaa
set_option linter.all false
open Go Go.Sx Go.Proofs
set_option maxRecDepth 100000
set_option maxHeartbeats 2000000
theorem mesh_spec (q q2 : Option Addr) (cap cap2 : Nat) (ws js : List Int) (hm : ws.length ≤ 9223372036854775807) (hm2 : js.length ≤ 9223372036854775807) (w0 : World) (hq : SlH (hp w0) q (ints .i64 ws)) (hq2 : SlH (hp w0) q2 (ints .i64 js)) :
    CallsV Try.prog 15 #[.slice q ws.length cap, .slice q2 js.length cap2] w0 fun v w => (v = .pointer none ∧ St Pu w0 w [] []) ∨
      (∃ g ms, v = .pointer (some ⟨g.b, 0, none⟩) ∧ g.ws = ws ∧ ws.length ≤ 24 ∧ (∀ z ∈ ws, mayW z) ∧ Wf (tb ms) ∧ ms.length = ws.length ∧ St Pu w0 w (grC g ms) []) := by
  refine callsV_of Try.func15 rfl rfl ?_
  have H := St.init w0
  refine wc_seq ?_
  refine wc_region ?_
  (apply ow_assign; (· rfl); (· ((conv => lhs; whnf) <;> rfl)))
  refine ow_nil ?_
  refine wc_seq ?_
  refine wc_seq ?_
  refine wc_region ?_
  (apply ow_move; (· rfl); (· ((conv => lhs; whnf) <;> rfl)))
  refine ow_len rfl rfl (tyAt rfl) rfl ?_
  refine ow_gtr rfl rfl rfl ?_
  (apply ow_move; (· rfl); (· ((conv => lhs; whnf) <;> rfl)))
  refine ow_guard_dec rfl rfl rfl (fun h => ?_) (fun h => ?_) <;> try dsimp only at h
  · refine ow_guard_no rfl rfl rfl rfl rfl rfl rfl ?_
    refine ow_guard_no rfl rfl rfl rfl rfl rfl rfl ?_
    refine ow_guard_no rfl rfl rfl rfl rfl rfl rfl ?_
    (apply ow_pick_t; (· rfl); (· rfl); (· ((conv => lhs; whnf) <;> rfl)))
    refine ow_nil ?_
    refine wc_cond_true rfl ?_
    refine wc_seq ?_
    refine wc_region ?_
    (apply ow_assign; (· rfl); (· ((conv => lhs; whnf) <;> rfl)))
    refine ow_nil ?_
    refine wc_ret ?_
    obtain ⟨w, hT, H⟩ := H.takes Try.prog
    refine ⟨.inr rfl, w, hT, _, .tmp .nil, ?_⟩
    exact .inl ⟨rfl, H⟩
  have h24 : ws.length ≤ 24 := by omega
  clear h
  refine ow_guard_yes rfl rfl rfl rfl ?_
  (apply ow_move; (· rfl); (· ((conv => lhs; whnf) <;> rfl)))
  refine ow_guard_yes rfl rfl rfl rfl ?_
  refine ow_len rfl rfl (tyAt rfl) rfl ?_
  refine ow_guard_yes rfl rfl rfl rfl ?_
  refine ow_gtr rfl rfl rfl ?_
  (apply ow_pick_f; (· rfl); (· rfl); (· ((conv => lhs; whnf) <;> rfl)))
  refine ow_nil ?_
  refine wc_cond_dec rfl (fun h => ?_) (fun h => ?_) <;> try dsimp only at h
  · refine wc_seq ?_
    refine wc_region ?_
    (apply ow_assign; (· rfl); (· ((conv => lhs; whnf) <;> rfl)))
    refine ow_nil ?_
    refine wc_ret ?_
    obtain ⟨w, hT, H⟩ := H.takes Try.prog
    refine ⟨.inr rfl, w, hT, _, .tmp .nil, ?_⟩
    exact .inl ⟨rfl, H⟩
  have h90 : js.length ≤ 90 := by omega
  clear h
  refine wc_skip ?_
  refine wc_seq ?_
  refine wc_region ?_
  (apply ow_move; (· rfl); (· ((conv => lhs; whnf) <;> rfl)))
  refine ow_call rfl rfl (ent (by kernel_rfl)) (CallsV.mono (new_spec q cap ws hm w0 hq) ?_) rfl
  rintro v w (⟨_, h, _⟩ | ⟨rfl, _, _, H'⟩ | ⟨g, ms, rfl, rfl, _, hmay, htb, H'⟩)
  · omega
  · replace H := H'
    clear H'
    (apply ow_move; (· rfl); (· ((conv => lhs; whnf) <;> rfl)))
    refine ow_extract rfl rfl rfl ?_
    refine ow_extract rfl rfl rfl ?_
    (apply ow_assign; (· rfl); (· ((conv => lhs; whnf) <;> rfl)))
    (apply ow_assign; (· rfl); (· ((conv => lhs; whnf) <;> rfl)))
    refine ow_nil ?_
    refine wc_seq ?_
    refine wc_seq ?_
    refine wc_region ?_
    (apply ow_move; (· rfl); (· ((conv => lhs; whnf) <;> rfl)))
    refine ow_neq rfl rfl rfl ?_
    refine ow_nil ?_
    refine wc_cond_true rfl ?_
    refine wc_seq ?_
    refine wc_region ?_
    (apply ow_assign; (· rfl); (· ((conv => lhs; whnf) <;> rfl)))
    refine ow_nil ?_
    refine wc_ret ?_
    obtain ⟨w, hT, H⟩ := H.takes Try.prog
    refine ⟨.inr rfl, w, hT, _, .tmp .nil, ?_⟩
    exact .inl ⟨rfl, H⟩
  replace H : St Pu w0 w (grC g ms ++ []) [] := by rw [List.append_nil]; exact H'
  have hW : Wf (tb ms) := by rw [htb]; exact wf_nil _
  have hn : ms.length = g.ws.length := ms_len (by rw [htb, List.length_replicate])
  clear H' htb
  (apply ow_move; (· rfl); (· ((conv => lhs; whnf) <;> rfl)))
  refine ow_extract rfl rfl rfl ?_
  refine ow_extract rfl rfl rfl ?_
  (apply ow_assign; (· rfl); (· ((conv => lhs; whnf) <;> rfl)))
  (apply ow_assign; (· rfl); (· ((conv => lhs; whnf) <;> rfl)))
  refine ow_nil ?_
  refine wc_seq ?_
  refine wc_seq ?_
  refine wc_region ?_
  (apply ow_move; (· rfl); (· ((conv => lhs; whnf) <;> rfl)))
  refine ow_neq rfl rfl rfl ?_
  refine ow_nil ?_
  refine wc_cond_false rfl ?_
  refine wc_skip ?_
  refine wc_seq ?_
  refine wc_seq ?_
  refine wc_region ?_
  (apply ow_assign; (· rfl); (· ((conv => lhs; whnf) <;> rfl)))
  refine ow_nil ?_
  refine wc_block ?_
  refine wc_loopS [7, 23, 24, 25, 26, 27, 28, 29, 30, 31, 32, 33, 34, 35, 36, 37, 38, 39, 40, 41, 42, 43, 44, 45, 46, 47] (fun (s : Nat) e => upd e 7 (.int .i64 s)) (fun s D w => D = [] ∧ s ≤ js.length ∧ ∃ ms, Wf (tb ms) ∧ ms.length = g.ws.length ∧ St Pu w0 w (grC g ms ++ []) []) (fun s _ => js.length - s) 0 (by first | exact rfl | exact upd_self' rfl rfl | exact upd_self' rfl (upd_self' rfl rfl) | exact upd_self' rfl (upd_self' rfl (upd_self' rfl rfl)) | exact upd_self' rfl (upd_self' rfl (upd_self' rfl (upd_self' rfl rfl)))) ⟨rfl, Nat.zero_le _, ms, hW, hn, H⟩ ?_
  clear H hW hn
  rintro i j D w ⟨rfl, hi, ms, hW, hn, H⟩
  refine wc_seq ?_
  refine wc_seq ?_
  refine wc_region ?_
  (apply ow_move; (· rfl); (· ((conv => lhs; whnf) <;> rfl)))
  refine ow_add rfl rfl rfl (by simp only [InK]; omega) ?_
  (apply ow_move; (· rfl); (· ((conv => lhs; whnf) <;> rfl)))
  refine ow_len rfl rfl (tyAt rfl) rfl ?_
  refine ow_lss rfl rfl rfl ?_
  refine ow_nil ?_
  refine wc_cond_dec rfl (fun h => ?_) (fun h => ?_) <;> try dsimp only at h
  · have hlt : i + 2 < js.length := by omega
    clear h
    have hsx := hq2
    obtain ⟨bq, oq, rfl⟩ := hq2.some_of (by simp; omega)
    obtain ⟨a, ha⟩ : ∃ a, js.getD i 0 = a := ⟨_, rfl⟩
    obtain ⟨b, hb⟩ : ∃ b, js.getD (i + 1) 0 = b := ⟨_, rfl⟩
    obtain ⟨z, hz⟩ : ∃ z, js.getD (i + 2) 0 = z := ⟨_, rfl⟩
    obtain ⟨kz, hkz, ekz0⟩ := and_mask z (m := 4095) (by decide)
    have ekz : Sx.bw .and .i64 z 4095 = (kz : Int) := ekz0
    have hWj := joinN_wf hW (n := g.ws.length) (by rw [tb_len]; exact hn) a b ((kz : Int) + 1)
    refine wc_skip ?_
    refine wc_seq ?_
    refine wc_block ?_
    refine wc_drawK (fun w => St Pu w0 w [] []) 99 (by kernel_rfl) (by kernel_rfl) (by intro c e D w h; first | exact h.elim | (rcases h with ⟨h | h, _⟩ <;> cases h)) ?_
    replace H := H.drew
    have G := H
    replace H := H.none
    apply ak_take (i := 0) rfl rfl rfl rfl (by kernel_rfl) (by with_reducible first | exact H | rfl)
    · intro w Q' HS hq; replace H := HS; clear HS; (apply ow_move; (· rfl); (· ((conv => lhs; whnf) <;> rfl))); exact ow_nil hq
    apply ak_take (i := 1) rfl rfl rfl rfl (by kernel_rfl) (by with_reducible first | exact H | rfl)
    · intro w Q' HS hq; replace H := HS; clear HS; (apply ow_move; (· rfl); (· ((conv => lhs; whnf) <;> rfl))); exact ow_nil hq
    apply ak_take (i := 2) rfl rfl rfl rfl (by kernel_rfl) (by with_reducible first | exact H | rfl)
    · intro w Q' HS hq; replace H := HS; clear HS; (apply ow_move; (· rfl); (· ((conv => lhs; whnf) <;> rfl))); exact ow_nil hq
    apply ak_take (i := 3) rfl rfl rfl rfl (by kernel_rfl) (by with_reducible first | exact H | rfl)
    · intro w Q' HS hq; replace H := HS; clear HS; refine ow_idx1 (j := i) rfl (tyAt rfl) rfl (tyAt rfl) rfl rfl rfl (by omega) rfl ?_; exact ow_nil hq
    apply ak_take (i := 4) rfl rfl rfl rfl (by kernel_rfl) (by with_reducible first | exact H | rfl)
    · intro w Q' HS hq; replace H := HS; clear HS; refine ow_load rfl (tyAt rfl) rfl rfl ((H.oldSl hsx).int (by omega)) ?_; exact ow_nil hq
    rw [ha]
    apply ak_take (i := 5) rfl rfl rfl rfl (by kernel_rfl) (by with_reducible first | exact H | rfl)
    · intro w Q' HS hq; replace H := HS; clear HS; (apply ow_move; (· rfl); (· ((conv => lhs; whnf) <;> rfl))); exact ow_nil hq
    apply ak_take (i := 6) rfl rfl rfl rfl (by kernel_rfl) (by with_reducible first | exact H | rfl)
    · intro w Q' HS hq; replace H := HS; clear HS; (apply ow_move; (· rfl); (· ((conv => lhs; whnf) <;> rfl))); exact ow_nil hq
    apply ak_take (i := 7) rfl rfl rfl rfl (by kernel_rfl) (by with_reducible first | exact H | rfl)
    · intro w Q' HS hq; replace H := HS; clear HS; refine ow_add rfl rfl rfl (by simp only [InK]; omega) ?_; exact ow_nil hq
    apply ak_take (i := 8) rfl rfl rfl rfl (by kernel_rfl) (by with_reducible first | exact H | rfl)
    · intro w Q' HS hq; replace H := HS; clear HS; refine ow_idx1 (j := i + 1) rfl (tyAt rfl) rfl (tyAt rfl) rfl rfl (by omega) (by omega) rfl ?_; exact ow_nil hq
    apply ak_take (i := 9) rfl rfl rfl rfl (by kernel_rfl) (by with_reducible first | exact H | rfl)
    · intro w Q' HS hq; replace H := HS; clear HS; refine ow_load rfl (tyAt rfl) rfl rfl ((H.oldSl hsx).int (by omega)) ?_; exact ow_nil hq
    rw [hb]
    apply ak_take (i := 10) rfl rfl rfl rfl (by kernel_rfl) (by with_reducible first | exact H | rfl)
    · intro w Q' HS hq; replace H := HS; clear HS; (apply ow_move; (· rfl); (· ((conv => lhs; whnf) <;> rfl))); exact ow_nil hq
    apply ak_take (i := 11) rfl rfl rfl rfl (by kernel_rfl) (by with_reducible first | exact H | rfl)
    · intro w Q' HS hq; replace H := HS; clear HS; (apply ow_move; (· rfl); (· ((conv => lhs; whnf) <;> rfl))); exact ow_nil hq
    apply ak_take (i := 12) rfl rfl rfl rfl (by kernel_rfl) (by with_reducible first | exact H | rfl)
    · intro w Q' HS hq; replace H := HS; clear HS; refine ow_add rfl rfl rfl (by simp only [InK]; omega) ?_; exact ow_nil hq
    apply ak_take (i := 13) rfl rfl rfl rfl (by kernel_rfl) (by with_reducible first | exact H | rfl)
    · intro w Q' HS hq; replace H := HS; clear HS; refine ow_idx1 (j := i + 2) rfl (tyAt rfl) rfl (tyAt rfl) rfl rfl (by omega) (by omega) rfl ?_; exact ow_nil hq
    apply ak_take (i := 14) rfl rfl rfl rfl (by kernel_rfl) (by with_reducible first | exact H | rfl)
    · intro w Q' HS hq; replace H := HS; clear HS; refine ow_load rfl (tyAt rfl) rfl rfl ((H.oldSl hsx).int (by omega)) ?_; exact ow_nil hq
    rw [hz]
    apply ak_take (i := 15) rfl rfl rfl rfl (by kernel_rfl) (by with_reducible first | exact H | rfl)
    · intro w Q' HS hq; replace H := HS; clear HS; refine ow_and rfl rfl rfl ?_; exact ow_nil hq
    rw [ekz]
    apply ak_take (i := 16) rfl rfl rfl rfl (by kernel_rfl) (by with_reducible first | exact H | rfl)
    · intro w Q' HS hq; replace H := HS; clear HS; refine ow_add rfl rfl rfl (by simp only [InK]; omega) ?_; exact ow_nil hq
    replace H := G
    clear G
    apply ak_one (i := 17)
    · kernel_rfl
    · rfl
    · rfl
    refine ow_call rfl rfl (ent (by kernel_rfl)) (CallsV.mono (join_gspec g ms a b ((kz : Int) + 1) hn (by omega) hW _ H.begin) ?_) rfl
    rintro v w ⟨rfl, ms2, htb2, H'⟩
    replace H := H.callC (fun _ h => h) H'
    clear H'
    refine ow_nil ⟨fun _ => H.none, ?_⟩
    refine ak_done (by kernel_rfl) ?_
    rw [← htb2] at hWj
    refine wc_region ?_
    (apply ow_move; (· rfl); (· ((conv => lhs; whnf) <;> rfl)))
    refine ow_add rfl rfl rfl (by simp only [InK]; omega) ?_
    (apply ow_assign; (· rfl); (· ((conv => lhs; whnf) <;> rfl)))
    refine ow_nil ?_
    exact ⟨i + 3, by first | exact rfl | exact upd_self' rfl rfl | exact upd_self' rfl (upd_self' rfl rfl) | exact upd_self' rfl (upd_self' rfl (upd_self' rfl rfl)) | exact upd_self' rfl (upd_self' rfl (upd_self' rfl (upd_self' rfl rfl))), by repeat (first | with_reducible exact Off.mix | with_reducible exact Off.refl | ((with_reducible refine Off.upd ?_ ?_); (· rfl))), ⟨rfl, by omega, ms2, hWj.1, by rw [← tb_len]; exact hWj.2, H⟩, by omega⟩
  · refine wc_exit ?_
    refine wc_seq ?_
    refine wc_region ?_
    (apply ow_move; (· rfl); (· ((conv => lhs; whnf) <;> rfl)))
    (apply ow_assign; (· rfl); (· ((conv => lhs; whnf) <;> rfl)))
    refine ow_nil ?_
    refine wc_ret ?_
    obtain ⟨w, hT, H⟩ := H.takes Try.prog
    refine ⟨.inr rfl, w, hT, _, .tmp .nil, ?_⟩
    rw [List.append_nil] at H
    exact .inr ⟨g, ms, rfl, rfl, h24, hmay, hW, hn, H⟩
/-! ### soundGraph -/
abbrev T08 : List IE := [[(1, 3)], [(0, 3)], []]
theorem jn08 : joinN (List.replicate 3 []) 3 0 1 3 = (0, T08) := by decide
theorem bt08 : btw T08 1 0 = 3 := by decide
theorem hv08 : heavyL T08 = [1, 0, 2] := by decide
theorem rt08 : RightP [1, 0, 2] := by decide
theorem nw08 : nwL [1, 0, 2] [1, 1, 1] = [2, 1] := by decide
theorem sj08 : ShJ [1, 1, 1] [1, 0, 2] T08 = (0, [[], []]) := by decide
theorem may08 : ∀ x ∈ ([2, 1] : List Int), mayW x := by decide
theorem ok08 : ShOk [1, 1, 1] [1, 0, 2] T08 := ⟨⟨rfl, rt08⟩, by rw [nw08]; exact may08, by rw [sj08]⟩
theorem ps08 : (passL T08 [1, 1, 1] (3, 3) [0, 1, 1]).2 = 3 := by decide +kernel
theorem hl08 : (halveL T08 [1, 1, 1] 1).getD 0 9 = 0 := by decide +kernel
theorem hl08b : (halveL T08 [1, 1, 1] 1).length = 3 := by decide +kernel
theorem sound08 (w0 : World) : CallsV Try.prog 14 #[] w0 fun v w => v = .bool true ∧ St Pu w0 w [] [] := by
  refine callsV_of Try.func14 rfl rfl ?_
  have H := St.init w0
  refine wc_seq ?_
  refine wc_region ?_
  (apply ow_assign; (· rfl); (· ((conv => lhs; whnf) <;> rfl)))
  refine ow_nil ?_
  refine wc_seq ?_
  refine wc_region ?_
  refine ow_buildSlice1 (vs := [.int .i64 1, .int .i64 1, .int .i64 1]) H rfl (tyAt rfl) rfl (tyAt rfl) rfl rfl rfl rfl rfl (by simp [Value.one]) (fun b w H => ?_)
  have hs1 := H.rowSl (i := 0) rfl
  skip
  refine ow_call rfl rfl (ent (by kernel_rfl)) (CallsV.mono (new_spec (some ⟨b, 0, none⟩) 3 [1, 1, 1] (by decide) w hs1) ?_) rfl
  clear hs1
  rintro v w (⟨_, h, _⟩ | ⟨_, _, ⟨z, hz, hnz⟩, _⟩ | ⟨g, ms, rfl, hgw, _, hmay, htb, H'⟩)
  · exact absurd h (by decide)
  · exact absurd (show mayW z from (show ∀ z ∈ ([1, 1, 1] : List Int), mayW z by decide) z hz) hnz
  replace H : St Pu w0 w (grC g ms ++ []) [] := by rw [List.append_nil]; exact (H.call H').sub (List.sublist_append_left _ _)
  clear H'
  rw [← hgw] at hmay
  have hgl : g.ws.length = 3 := by rw [hgw]; rfl
  have hW0 : Wf (tb ms) := by rw [htb]; exact wf_nil _
  have hn0 : ms.length = g.ws.length := ms_len (by rw [htb, List.length_replicate, hgl]; rfl)
  have hjn : joinN (tb ms) g.ws.length 0 1 3 = (0, T08) := by rw [htb, hgl]; exact jn08
  have hWj := joinN_wf hW0 (n := g.ws.length) (by rw [tb_len]; exact hn0) 0 1 3
  rw [hjn] at hWj
  replace hWj : Wf T08 ∧ T08.length = g.ws.length := hWj
  (apply ow_move; (· rfl); (· ((conv => lhs; whnf) <;> rfl)))
  refine ow_extract rfl rfl rfl ?_
  refine ow_extract rfl rfl rfl ?_
  (apply ow_assign; (· rfl); (· ((conv => lhs; whnf) <;> rfl)))
  (apply ow_assign; (· rfl); (· ((conv => lhs; whnf) <;> rfl)))
  refine ow_nil ?_
  refine wc_seq ?_
  refine wc_seq ?_
  refine wc_region ?_
  (apply ow_move; (· rfl); (· ((conv => lhs; whnf) <;> rfl)))
  refine ow_eqlPn rfl rfl rfl (tyAt rfl) rfl ?_
  (apply ow_move; (· rfl); (· ((conv => lhs; whnf) <;> rfl)))
  refine ow_guard_yes rfl rfl rfl rfl ?_
  (apply ow_move; (· rfl); (· ((conv => lhs; whnf) <;> rfl)))
  refine ow_guard_yes rfl rfl rfl rfl ?_
  refine ow_neq rfl rfl rfl ?_
  (apply ow_pick_f; (· rfl); (· rfl); (· ((conv => lhs; whnf) <;> rfl)))
  (apply ow_move; (· rfl); (· ((conv => lhs; whnf) <;> rfl)))
  refine ow_guard_yes rfl rfl rfl rfl ?_
  (apply ow_move; (· rfl); (· ((conv => lhs; whnf) <;> rfl)))
  refine ow_guard_yes rfl rfl rfl rfl ?_
  refine ow_call rfl rfl (ent (by kernel_rfl)) (CallsV.mono (join_gspec g ms 0 1 3 hn0 (by omega) hW0 _ H.begin) ?_) rfl
  rintro v w ⟨rfl, ms2, htb2, H'⟩
  replace H := H.callC (fun _ h => h) H'
  clear H'
  rw [hjn] at htb2 ⊢
  replace htb2 : tb ms2 = T08 := htb2
  have hW : Wf (tb ms2) := by rw [htb2]; exact hWj.1
  have hn : ms2.length = g.ws.length := by rw [← tb_len, htb2]; exact hWj.2
  clear hW0 hn0 hjn hWj htb
  replace H : St Pu w0 w ([] ++ (grC g ms2 ++ [])) [] := H
  obtain ⟨RR, hRR⟩ : ∃ RR, grC g ms2 ++ [] = RR := ⟨_, rfl⟩
  have hGr : ∀ {w : World} {pre : List Cap}, St Pu w0 w (pre ++ RR) [] → Gr (hp w) g ms2 := fun H => gr_of_ok fun c hc => okAll H c (List.mem_append_right _ (by rw [← hRR]; exact List.mem_append_left _ hc))
  rw [hRR] at H
  clear hRR
  refine ow_guard_yes rfl rfl rfl rfl ?_
  refine ow_neq rfl rfl rfl ?_
  (apply ow_pick_f; (· rfl); (· rfl); (· ((conv => lhs; whnf) <;> rfl)))
  (apply ow_move; (· rfl); (· ((conv => lhs; whnf) <;> rfl)))
  refine ow_guard_yes rfl rfl rfl rfl ?_
  (apply ow_move; (· rfl); (· ((conv => lhs; whnf) <;> rfl)))
  refine ow_guard_yes rfl rfl rfl rfl ?_
  refine ow_call rfl rfl (ent (by kernel_rfl)) (CallsV.mono (between_spec g ms2 1 0 hn (by omega) hW _ (hGr H)) ?_) rfl
  rintro v w ⟨rfl, H'⟩
  replace H : St Pu w0 w ([] ++ RR) [] := H.call H'
  clear H'
  rw [show btw (tb ms2) 1 0 = 3 by rw [htb2]; exact bt08]
  refine ow_guard_yes rfl rfl rfl rfl ?_
  refine ow_neq rfl rfl rfl ?_
  (apply ow_pick_f; (· rfl); (· rfl); (· ((conv => lhs; whnf) <;> rfl)))
  refine ow_nil ?_
  refine wc_cond_false rfl ?_
  refine wc_skip ?_
  refine wc_seq ?_
  refine wc_region ?_
  (apply ow_move; (· rfl); (· ((conv => lhs; whnf) <;> rfl)))
  refine ow_call rfl rfl (ent (by kernel_rfl)) (CallsV.mono (split14_spec g ms2 2 hmay hn (by omega) hW _ (hGr H)) ?_) rfl
  rintro v w hh
  obtain ⟨hk2, p, q1, c1, hS, rfl, H'⟩ := hh.resolve_left (fun h => h.1 (by unfold mayK; decide))
  replace H := H.call H'
  clear H' hh
  have hR := SplR.right (k := (2 : Int).toNat) (by unfold mayK; decide) hS
  have hR1 := mend_right (T := tb ms2) hmay hR
  have hf1 := good_fits hR1 (mend_good (T := tb ms2) hmay hR)
  have hml := hR1.2.1
  obtain ⟨m1, hm1⟩ : ∃ m1, mendL (tb ms2) g.ws (2 : Int).toNat p = m1 := ⟨_, rfl⟩
  rw [hm1] at H hml hf1
  replace hf1 : fitsB g.ws m1 2 := hf1
  have hft := fun w hG hs => fits_spec g ms2 m1 q1 c1 2 (by omega) hmay hn (by omega) w hG hs
  rw [decide_eq_true hf1, hml] at hft
  (apply ow_move; (· rfl); (· ((conv => lhs; whnf) <;> rfl)))
  refine ow_extract rfl rfl rfl ?_
  refine ow_extract rfl rfl rfl ?_
  (apply ow_assign; (· rfl); (· ((conv => lhs; whnf) <;> rfl)))
  (apply ow_assign; (· rfl); (· ((conv => lhs; whnf) <;> rfl)))
  refine ow_nil ?_
  refine wc_seq ?_
  refine wc_seq ?_
  refine wc_region ?_
  (apply ow_move; (· rfl); (· ((conv => lhs; whnf) <;> rfl)))
  refine ow_neq rfl rfl rfl ?_
  (apply ow_move; (· rfl); (· ((conv => lhs; whnf) <;> rfl)))
  refine ow_guard_yes rfl rfl rfl rfl ?_
  (apply ow_move; (· rfl); (· ((conv => lhs; whnf) <;> rfl)))
  refine ow_guard_yes rfl rfl rfl rfl ?_
  refine ow_len rfl rfl (tyAt rfl) rfl ?_
  refine ow_guard_yes rfl rfl rfl rfl ?_
  refine ow_neq rfl rfl rfl ?_
  (apply ow_pick_f; (· rfl); (· rfl); (· ((conv => lhs; whnf) <;> rfl)))
  refine ow_nil ?_
  refine wc_cond_dec rfl (fun h => ?_) (fun h => ?_) <;> try dsimp only at h
  · omega
  clear h
  refine wc_skip ?_
  refine wc_seq ?_
  refine wc_region ?_
  (apply ow_move; (· rfl); (· ((conv => lhs; whnf) <;> rfl)))
  refine ow_buildSlice1 (vs := [.int .i64 0, .int .i64 1, .int .i64 1]) H rfl (tyAt rfl) rfl (tyAt rfl) rfl rfl rfl rfl rfl (by simp [Value.one]) (fun b2 w H => ?_)
  have hs2 := H.rowSl (i := 0) rfl
  skip
  refine ow_buildArr (l := bdV (3, 3)) (vs := [(0, .int .i64 3), (1, .int .i64 3)]) rfl (tyAt rfl) rfl (tyAt rfl) rfl rfl ?_
  skip
  refine ow_call rfl rfl (ent (by kernel_rfl)) (CallsV.mono (pass_spec g ms2 [0, 1, 1] (some ⟨b2, 0, none⟩) 3 (3, 3) (by decide) hmay hn (by omega) hW _ (hGr (pre := [_, _]) H) hs2) ?_) rfl
  clear hs2
  rintro v w ⟨q3, c3, rfl, H'⟩
  replace H : St Pu w0 w ([.app q1 g.ws.length c1 3 1 (ints .i64 m1)] ++ RR) [] := (H.call H').drop.drop
  clear H'
  rw [show (passL (tb ms2) g.ws (3, 3) [0, 1, 1]).2 = 3 by rw [htb2, hgw]; exact ps08]
  have hhv : halveL (tb ms2) g.ws 1 = halveL T08 [1, 1, 1] 1 := by rw [htb2, hgw]
  obtain ⟨hv, hvd⟩ : ∃ hv, halveL T08 [1, 1, 1] 1 = hv := ⟨_, rfl⟩
  have hv0 := hl08
  have hvl := hl08b
  rw [hvd] at hhv hv0 hvl
  have hhs := fun w hG => halve_spec g ms2 1 hn (by omega) hmay hW (by decide) w hG
  rw [hhv] at hhs
  (apply ow_move; (· rfl); (· ((conv => lhs; whnf) <;> rfl)))
  refine ow_extract rfl rfl rfl ?_
  refine ow_extract rfl rfl rfl ?_
  (apply ow_assign; (· rfl); (· ((conv => lhs; whnf) <;> rfl)))
  (apply ow_assign; (· rfl); (· ((conv => lhs; whnf) <;> rfl)))
  refine ow_nil ?_
  refine wc_seq ?_
  refine wc_region ?_
  (apply ow_move; (· rfl); (· ((conv => lhs; whnf) <;> rfl)))
  refine ow_call rfl rfl (ent (by kernel_rfl)) (CallsV.mono (hhs _ (hGr (pre := [_]) H)) ?_) rfl
  rintro v w ⟨bh, rfl, H'⟩
  replace H : St Pu w0 w ([.row bh 3 (ints .i64 hv), .app q1 g.ws.length c1 3 1 (ints .i64 m1)] ++ RR) [] := H.call H'
  clear H' hhs
  have hhvy : heavyL (tb ms2) = [1, 0, 2] := by rw [htb2]; exact hv08
  (apply ow_assign; (· rfl); (· ((conv => lhs; whnf) <;> rfl)))
  refine ow_nil ?_
  refine wc_seq ?_
  refine wc_region ?_
  (apply ow_move; (· rfl); (· ((conv => lhs; whnf) <;> rfl)))
  (apply ow_move; (· rfl); (· ((conv => lhs; whnf) <;> rfl)))
  refine ow_call rfl rfl (ent (by kernel_rfl)) (CallsV.mono (heavy_spec g ms2 hn (by omega) hW _ (hGr H)) ?_) rfl
  rintro v w ⟨by1, rfl, H'⟩
  rw [hhvy] at H' ⊢
  replace H : St Pu w0 w ([.row by1 3 (ints .i64 [1, 0, 2]), .row bh 3 (ints .i64 hv), .app q1 g.ws.length c1 3 1 (ints .i64 m1)] ++ RR) [] := H.call H'
  clear H'
  have hsy := H.rowSl (i := 0) rfl
  skip
  refine ow_call rfl rfl (ent (by kernel_rfl)) (CallsV.mono (shrink_spec g ms2 [1, 0, 2] (some ⟨by1, 0, none⟩) 3 (by decide) hn hmay (by omega) hW _ (hGr H) hsy) ?_) rfl
  rintro v w (⟨f, _, hE, _⟩ | ⟨g', ms', bi, rfl, _, _, _, H'⟩)
  · exact absurd (show ShOk g.ws [1, 0, 2] (tb ms2) by rw [hgw, htb2]; exact ok08) hE.no
  replace H : St Pu w0 w ([.row by1 3 (ints .i64 [1, 0, 2]), .row bh 3 (ints .i64 hv), .app q1 g.ws.length c1 3 1 (ints .i64 m1)] ++ RR) [] := (H.call H').sub (List.sublist_append_right _ _)
  clear H' hsy
  (apply ow_move; (· rfl); (· ((conv => lhs; whnf) <;> rfl)))
  refine ow_extract rfl rfl rfl ?_
  refine ow_extract rfl rfl rfl ?_
  refine ow_extract rfl rfl rfl ?_
  (apply ow_assign; (· rfl); (· ((conv => lhs; whnf) <;> rfl)))
  (apply ow_assign; (· rfl); (· ((conv => lhs; whnf) <;> rfl)))
  (apply ow_assign; (· rfl); (· ((conv => lhs; whnf) <;> rfl)))
  refine ow_nil ?_
  refine wc_seq ?_
  refine wc_region ?_
  (apply ow_move; (· rfl); (· ((conv => lhs; whnf) <;> rfl)))
  (apply ow_move; (· rfl); (· ((conv => lhs; whnf) <;> rfl)))
  refine ow_call rfl rfl (ent (by kernel_rfl)) (CallsV.mono (hft _ (hGr H) (appOk.sl (H.cap (i := 2) rfl))) ?_) rfl
  rintro v w ⟨rfl, H'⟩
  replace H : St Pu w0 w ([.row by1 3 (ints .i64 [1, 0, 2]), .row bh 3 (ints .i64 hv), .app q1 g.ws.length c1 3 1 (ints .i64 m1)] ++ RR) [] := H.call H'
  clear H'
  rw [hvl]
  (apply ow_move; (· rfl); (· ((conv => lhs; whnf) <;> rfl)))
  refine ow_guard_yes rfl rfl rfl rfl ?_
  (apply ow_move; (· rfl); (· ((conv => lhs; whnf) <;> rfl)))
  refine ow_guard_yes rfl rfl rfl rfl ?_
  refine ow_len rfl rfl (tyAt rfl) rfl ?_
  refine ow_guard_yes rfl rfl rfl rfl ?_
  refine ow_eql rfl rfl rfl ?_
  (apply ow_pick_t; (· rfl); (· rfl); (· ((conv => lhs; whnf) <;> rfl)))
  (apply ow_move; (· rfl); (· ((conv => lhs; whnf) <;> rfl)))
  refine ow_guard_yes rfl rfl rfl rfl ?_
  (apply ow_move; (· rfl); (· ((conv => lhs; whnf) <;> rfl)))
  refine ow_guard_yes rfl rfl rfl rfl ?_
  refine ow_eql rfl rfl rfl ?_
  (apply ow_pick_t; (· rfl); (· rfl); (· ((conv => lhs; whnf) <;> rfl)))
  (apply ow_move; (· rfl); (· ((conv => lhs; whnf) <;> rfl)))
  refine ow_guard_yes rfl rfl rfl rfl ?_
  (apply ow_move; (· rfl); (· ((conv => lhs; whnf) <;> rfl)))
  refine ow_guard_yes rfl rfl rfl rfl ?_
  refine ow_len rfl rfl (tyAt rfl) rfl ?_
  refine ow_guard_yes rfl rfl rfl rfl ?_
  refine ow_eql rfl rfl rfl ?_
  (apply ow_pick_t; (· rfl); (· rfl); (· ((conv => lhs; whnf) <;> rfl)))
  (apply ow_move; (· rfl); (· ((conv => lhs; whnf) <;> rfl)))
  refine ow_guard_yes rfl rfl rfl rfl ?_
  (apply ow_move; (· rfl); (· ((conv => lhs; whnf) <;> rfl)))
  refine ow_guard_yes rfl rfl rfl rfl ?_
  refine ow_idx1 (j := 0) rfl (tyAt rfl) rfl (tyAt rfl) rfl rfl rfl (by omega) rfl ?_
  have hsv : SlH (hp w) (some ⟨bh, 0, none⟩) (ints .i64 hv) := H.rowSl (i := 1) rfl
  refine ow_guard_yes rfl rfl rfl rfl ?_
  refine ow_load rfl (tyAt rfl) rfl rfl (hsv.int (j := 0) (by omega)) ?_
  rw [show hv.getD 0 0 = 0 by rw [← hvd]; decide +kernel]
  refine ow_guard_yes rfl rfl rfl rfl ?_
  refine ow_eql rfl rfl rfl ?_
  (apply ow_pick_t; (· rfl); (· rfl); (· ((conv => lhs; whnf) <;> rfl)))
  (apply ow_move; (· rfl); (· ((conv => lhs; whnf) <;> rfl)))
  refine ow_guard_yes rfl rfl rfl rfl ?_
  (apply ow_move; (· rfl); (· ((conv => lhs; whnf) <;> rfl)))
  refine ow_guard_yes rfl rfl rfl rfl ?_
  refine ow_neqPn rfl rfl rfl (tyAt rfl) rfl ?_
  (apply ow_pick_t; (· rfl); (· rfl); (· ((conv => lhs; whnf) <;> rfl)))
  (apply ow_move; (· rfl); (· ((conv => lhs; whnf) <;> rfl)))
  refine ow_guard_yes rfl rfl rfl rfl ?_
  (apply ow_move; (· rfl); (· ((conv => lhs; whnf) <;> rfl)))
  refine ow_guard_yes rfl rfl rfl rfl ?_
  refine ow_len rfl rfl (tyAt rfl) rfl ?_
  refine ow_guard_yes rfl rfl rfl rfl ?_
  refine ow_eql rfl rfl rfl ?_
  (apply ow_pick_t; (· rfl); (· rfl); (· ((conv => lhs; whnf) <;> rfl)))
  (apply ow_move; (· rfl); (· ((conv => lhs; whnf) <;> rfl)))
  refine ow_guard_yes rfl rfl rfl rfl ?_
  (apply ow_move; (· rfl); (· ((conv => lhs; whnf) <;> rfl)))
  refine ow_guard_yes rfl rfl rfl rfl ?_
  refine ow_eql rfl rfl rfl ?_
  (apply ow_pick_t; (· rfl); (· rfl); (· ((conv => lhs; whnf) <;> rfl)))
  (apply ow_assign; (· rfl); (· ((conv => lhs; whnf) <;> rfl)))
  refine ow_nil ?_
  refine wc_ret ?_
  obtain ⟨w, hT, H⟩ := H.takes Try.prog
  refine ⟨.inr rfl, w, hT, _, .tmp .nil, ?_⟩
  exact ⟨rfl, H.none⟩
end Go.Proofs.Ytnkjhmfliinnoaa

