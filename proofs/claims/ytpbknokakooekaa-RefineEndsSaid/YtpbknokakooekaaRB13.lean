/- The document's moves of a pass. -/
import Derived.Test.YtpbknokakooekaaRA13
namespace Go.Proofs.Ytpbknokakooekaa
set_option linter.all false
open Go Go.Sx Go.Proofs
set_option maxRecDepth 100000
set_option maxHeartbeats 2000000
theorem mvU_zero {T : List IE} {ws : List Int} (hm : ∀ z ∈ ws, mayW z) (hl : T.length = ws.length) {p : List Int} : ∀ t, mvU T ws (0, 0) p t = []
  | 0 => rfl
  | t + 1 => by
    rw [mvU, mvU_zero hm hl t, List.nil_append]
    rcases nxA_char (T := T) (ws := ws) (bd := (0, 0)) (s := rs T ws (0, 0) p t) with ⟨h1, _⟩ | ⟨z, hz, _, h2, _⟩
    · rw [if_pos h1]
    · exfalso
      have h3 := h2.2
      have h4 := wtAt_in (p := (rs T ws (0, 0) p t).1) hm (1 - (rs T ws (0, 0) p t).1.getD z 0).toNat (rs T ws (0, 0) p t).1.length
      have h5 : 1 ≤ ws.getD z 0 := by
        rw [List.getD_eq_getElem?_getD, List.getElem?_eq_getElem (by omega)]
        exact (hm _ (List.getElem_mem (by omega))).1
      unfold bdA at h3
      split at h3 <;> (dsimp only at h3; omega)
theorem mvL_eq {T : List IE} {ws : List Int} (hm : ∀ z ∈ ws, mayW z) (hl : T.length = ws.length) {bd : Int × Int} {p : List Int} (hR : CutR T.length p 2) : mvL T ws bd p = mvU T ws bd p T.length := by
  unfold mvL
  by_cases hb : bd = (0, 0)
  · subst hb
    rw [if_neg (fun h => h.2 rfl), mvU_zero hm hl]
  · rw [if_pos ⟨hR, hb⟩]
abbrev rmC (b3 b5 : Nat) (q8 q9 : Option Addr) (c8 c9 : Nat) (x : RX) (rows : List RowR) (bd : Int × Int) (l : List (Int × Int)) : List Cap := [.row b3 45 (rfV x rows), .row b5 34 (bdV bd), .app q8 l.length c8 3 1 (ints .i64 (l.map (·.1))), .app q9 l.length c9 2 1 (ints .i64 (l.map (·.2)))]
theorem refMoves_spec (T : List IE) (x : RX) (rows : List RowR) (p : List Int) (q : Option Addr) (c : Nat) (bd : Int × Int) (hW : Wf T) (hl : T.length = x.ws.length) (h4 : x.ws.length ≤ 1000) (hM : Mx T x.ws.length rows) (hmay : ∀ z ∈ x.ws, mayW z) (hm : p.length ≤ 1000000) (w0 : World) (hRf : Rf (hp w0) x rows) (hs : SlH (hp w0) q (ints .i64 p)) :
    CallsV Try.prog 44 #[.agg ⟨rfV x rows⟩, .slice q p.length c, .agg ⟨bdV bd⟩] w0 fun v w => ∃ q1 c1 q2 c2, v = .tuple #[.slice q1 (mvL T x.ws bd p).length c1, .slice q2 (mvL T x.ws bd p).length c2] ∧
      St Pu w0 w [.app q1 (mvL T x.ws bd p).length c1 3 1 (ints .i64 ((mvL T x.ws bd p).map (·.1))), .app q2 (mvL T x.ws bd p).length c2 2 1 (ints .i64 ((mvL T x.ws bd p).map (·.2)))] [] := by
  refine callsV_of Try.func44 rfl rfl ?_
  have H := St.init w0
  refine wc_seq ?_
  refine wc_region ?_
  refine ow_box (l := rfV x rows) H rfl rfl rfl (fun b3 w H => ?_)
  refine ow_box (l := bdV bd) H rfl rfl rfl (fun b5 w H => ?_)
  (apply ow_assign; (· rfl); (· ((conv => lhs; whnf) <;> rfl)))
  (apply ow_assign; (· rfl); (· ((conv => lhs; whnf) <;> rfl)))
  refine ow_nil ?_
  refine wc_seq ?_
  refine wc_region ?_
  refine ow_buildSlice0 H rfl (tyAt rfl) rfl (tyAt rfl) (fun ba w H => ?_)
  replace H := H.rowApp (i := 0) (len := 0) (sz := 1) rfl rfl (by omega)
  dsimp only [List.set] at H
  refine ow_buildSlice0 H rfl (tyAt rfl) rfl (tyAt rfl) (fun bb w H => ?_)
  replace H := H.rowApp (i := 0) (len := 0) (sz := 1) rfl rfl (by omega)
  dsimp only [List.set] at H
  replace H : St Pu w0 w (rmC b3 b5 (some ⟨ba, 0, none⟩) (some ⟨bb, 0, none⟩) 0 0 x rows bd []) [] := H.pick [3, 2, 1, 0] rfl (by decide)
  (apply ow_assign; (· rfl); (· ((conv => lhs; whnf) <;> rfl)))
  (apply ow_assign; (· rfl); (· ((conv => lhs; whnf) <;> rfl)))
  refine ow_nil ?_
  refine wc_seq ?_
  refine wc_seq ?_
  refine wc_region ?_
  refine ow_loadA (l := rfV x rows) rfl (tyAt rfl) rfl rfl rfl (H.cells (i := 0) (o := 0) (m := 2) rfl rfl) ?_
  (apply ow_move; (· rfl); (· ((conv => lhs; whnf) <;> rfl)))
  refine ow_call rfl rfl (ent (by kernel_rfl)) (CallsV.mono (refRight9_spec x rows p q c 2 (by omega) (by omega) _ (H.oldSl hs)) ?_) rfl
  rintro v w ⟨rfl, H'⟩
  replace H := H.call H'
  rw [List.nil_append] at H
  clear H'
  by_cases hR : ¬ CutR x.ws.length p 2
  · rw [decide_eq_false hR]
    have e : mvL T x.ws bd p = [] := if_neg (fun h => hR (by rw [← hl]; exact h.1))
    rw [e]
    refine ow_not rfl rfl ?_
    refine ow_nil ?_
    refine wc_cond_true rfl ?_
    refine wc_seq ?_
    refine wc_region ?_
    (apply ow_move; (· rfl); (· ((conv => lhs; whnf) <;> rfl)))
    (apply ow_move; (· rfl); (· ((conv => lhs; whnf) <;> rfl)))
    (apply ow_assign; (· rfl); (· ((conv => lhs; whnf) <;> rfl)))
    (apply ow_assign; (· rfl); (· ((conv => lhs; whnf) <;> rfl)))
    refine ow_nil ?_
    refine wc_ret ?_
    obtain ⟨w, hT, H⟩ := H.takes Try.prog
    refine ⟨.inr rfl, w, hT, _, .tmp (.tmp .nil), ?_⟩
    exact ⟨_, _, _, _, rfl, H.pick [2, 3] rfl (by decide)⟩
  replace hR := Decidable.of_not_not hR
  rw [decide_eq_true hR]
  have hRT : CutR T.length p 2 := by rw [hl]; exact hR
  rw [mvL_eq hmay hl hRT]
  have h2p := two_of hR
  have hpl : p.length = T.length := hRT.2.1
  have hpn : p.length = x.ws.length := hR.2.1
  obtain ⟨n, hnd⟩ : ∃ n, x.ws.length = n := ⟨_, rfl⟩
  rw [hpn, hnd]
  replace H : St Pu w0 w (rmC b3 b5 (some ⟨ba, 0, none⟩) (some ⟨bb, 0, none⟩) 0 0 x rows bd (mvU T x.ws bd p 0) ++ []) [] := H
  refine ow_not rfl rfl ?_
  refine ow_nil ?_
  refine wc_cond_false rfl ?_
  refine wc_skip ?_
  refine wc_seq ?_
  refine wc_seq ?_
  refine wc_region ?_
  (apply ow_assign; (· rfl); (· ((conv => lhs; whnf) <;> rfl)))
  refine ow_nil ?_
  refine wc_block ?_
  refine wc_loopS [1, 8, 9, 10, 11, 12, 13, 14, 23, 24, 25, 26, 27, 28, 29, 30, 31, 32, 33, 34, 35, 36, 37, 38, 39, 40, 41, 42, 43, 44, 45, 46, 47, 48, 49, 50, 51, 52, 53, 54, 55, 56, 57, 58, 59, 60, 61, 62, 63, 64, 65, 66, 67, 68, 69, 70, 71, 72, 73, 74, 75, 76, 77, 78, 79, 80, 81, 82, 83, 84, 85, 86, 87, 88, 89, 90, 91, 92, 93, 94, 95, 96, 97, 98, 99] (fun (s : Nat × Option Addr × Nat × Option Addr × Nat × Option Addr × Nat) e => upd (upd (upd (upd e 1 (.slice s.2.2.2.2.2.1 n s.2.2.2.2.2.2)) 8 (.slice s.2.1 (mvU T x.ws bd p s.1).length s.2.2.1)) 9 (.slice s.2.2.2.1 (mvU T x.ws bd p s.1).length s.2.2.2.2.1)) 10 (.int .i64 s.1))
    (fun s D w => D = [] ∧ s.1 ≤ n ∧ ∃ L, PartIn w0 L s.2.2.2.2.2.1 (rs T x.ws bd p s.1).1 ∧ St Pu w0 w (rmC b3 b5 s.2.1 s.2.2.2.1 s.2.2.1 s.2.2.2.2.1 x rows bd (mvU T x.ws bd p s.1) ++ L) []) (fun s _ => n - s.1) (0, some ⟨ba, 0, none⟩, 0, some ⟨bb, 0, none⟩, 0, q, c) (by first | exact rfl | exact upd_self' rfl rfl | exact upd_self' rfl (upd_self' rfl rfl) | exact upd_self' rfl (upd_self' rfl (upd_self' rfl rfl)) | exact upd_self' rfl (upd_self' rfl (upd_self' rfl (upd_self' rfl rfl)))) ⟨rfl, Nat.zero_le _, [], .inl hs, H⟩ ?_
  clear H
  rintro ⟨t, q8, c8, q9, c9, qp, cp⟩ j D w ⟨rfl, ht, L, hP, H⟩
  dsimp only at ht hP H ⊢
  have hI := ri_all (ws := x.ws) (bd := bd) h2p hpl t
  have hflag := flag_in (ws := x.ws) (bd := bd) h2p hpl t
  have hml := mvU_len T x.ws bd p t
  have hst : ∀ z : Nat, z < T.length → nxA T x.ws bd (rs T x.ws bd p t) = (z : Int) → (rs T x.ws bd p (t + 1)).1 = (rs T x.ws bd p t).1.set z (1 - (rs T x.ws bd p t).1.getD z 0) ∧ mvU T x.ws bd p (t + 1) = mvU T x.ws bd p t ++ [((z : Int), (gnL T (rs T x.ws bd p t).1).getD z 0)] := fun z hz h1 => by
    have := rs_move hW h2p hpl (t := t) hz h1
    exact ⟨this.1, this.2.2⟩
  have hsp : nxA T x.ws bd (rs T x.ws bd p t) = -1 → rs T x.ws bd p (t + 1) = rs T x.ws bd p t ∧ mvU T x.ws bd p (t + 1) = mvU T x.ws bd p t := fun h => rs_stop h 1
  have hnx : nxA T x.ws bd (rs T x.ws bd p t) = nxR x.ws bd (gnL T (rs T x.ws bd p t).1) (rs T x.ws bd p t) n := by unfold nxA; rw [hl, hnd]
  have hchA := nxA_char (T := T) (ws := x.ws) (bd := bd) (s := rs T x.ws bd p t)
  generalize rs T x.ws bd p t = S at *
  generalize hmld : mvU T x.ws bd p t = ml at *
  obtain ⟨P, mv⟩ := S
  have hPl : P.length = n := by have := hI.len; dsimp only at this; omega
  have hPv : two P := hI.val
  have hPR : CutR x.ws.length P 2 := cutR_of hPv (by rw [hPl, hnd])
  dsimp only at hP hflag hst hnx
  have hga : ∀ i, i < n → (gnL T P).getD i 0 = gainV T P i (1 - P.getD i 0) := fun i hi => gnL_at (by omega)
  have hgl := gnL_len T P
  have hGn := fun (i : Nat) (hi : i < n) w hR' hsz => refGain_spec T x rows P qp cp i hW hl h4 hM (by omega) hPv (by omega) w hR' hsz
  rw [hPl] at hGn
  have hwt := fun w hR' hsz => refWeights9_spec x rows P qp cp 2 (by omega) hmay hPR w hR' hsz
  rw [hPl] at hwt
  refine wc_seq ?_
  refine wc_seq ?_
  refine wc_region ?_
  (apply ow_move; (· rfl); (· ((conv => lhs; whnf) <;> rfl)))
  (apply ow_move; (· rfl); (· ((conv => lhs; whnf) <;> rfl)))
  refine ow_len rfl rfl (tyAt rfl) rfl ?_
  refine ow_lss rfl rfl rfl ?_
  refine ow_nil ?_
  refine wc_cond_dec rfl (fun h => ?_) (fun h => ?_) <;> try dsimp only at h
  · have hltn : t < n := by omega
    clear h
    refine wc_skip ?_
    refine wc_seq ?_
    refine wc_block ?_
    refine wc_seq ?_
    refine wc_region ?_
    (apply ow_assign; (· rfl); (· ((conv => lhs; whnf) <;> rfl)))
    refine ow_nil ?_
    refine wc_seq ?_
    refine wc_region ?_
    refine ow_loadA (l := rfV x rows) rfl (tyAt rfl) rfl rfl rfl (H.cells (i := 0) (o := 0) (m := 2) rfl rfl) ?_
    (apply ow_move; (· rfl); (· ((conv => lhs; whnf) <;> rfl)))
    refine ow_call rfl rfl (ent (by kernel_rfl)) (CallsV.mono (hwt _ (Rf.old H hRf) (hP.sl H)) ?_) rfl
    rintro v w ⟨bw, rfl, H'⟩
    replace H : St Pu w0 w ((.row bw 2 (ints .i64 (wtL x.ws P 2 n)) :: rmC b3 b5 q8 q9 c8 c9 x rows bd ml) ++ L) [] := H.call H'
    clear H'
    have hWl := wtL_len x.ws P 2 n
    have hWa : ∀ k, k < n → (wtL x.ws P 2 n).getD (1 - P.getD k 0).toNat 0 = wtAt x.ws P (1 - P.getD k 0).toNat n := fun k hk => wtL_at (by have := hPv k (by omega); omega)
    have hWr : ∀ k, 0 ≤ wtAt x.ws P k n ∧ wtAt x.ws P k n ≤ 1099511627776000 := fun k => by
      have := wtAt_in (p := P) hmay k n
      omega
    generalize wtL x.ws P 2 n = WW at *
    (apply ow_assign; (· rfl); (· ((conv => lhs; whnf) <;> rfl)))
    refine ow_nil ?_
    refine wc_seq ?_
    refine wc_seq ?_
    refine wc_region ?_
    (apply ow_assign; (· rfl); (· ((conv => lhs; whnf) <;> rfl)))
    refine ow_nil ?_
    refine wc_blockJ [11, 13, 14, 32, 33, 34, 35, 36, 37, 38, 39, 40, 41, 42, 43, 44, 45, 46, 47, 48, 49, 50, 51, 52, 53, 54, 55, 56, 57, 58, 59, 60, 61, 62, 63, 64, 65, 66, 67, 68, 69, 70, 71, 72, 73, 74, 75, 76, 77, 78] (fun (_ : Unit) e => upd e 11 (.int .i64 (nxR x.ws bd (gnL T P) (P, mv) n))) (fun _ D w => D = [] ∧ St Pu w0 w ((.row bw 2 (ints .i64 WW) :: rmC b3 b5 q8 q9 c8 c9 x rows bd ml) ++ L) []) ?_ ?_
    · refine wc_loopS [11, 13, 14, 32, 33, 34, 35, 36, 37, 38, 39, 40, 41, 42, 43, 44, 45, 46, 47, 48, 49, 50, 51, 52, 53, 54, 55, 56, 57, 58, 59, 60, 61, 62, 63, 64, 65, 66, 67, 68, 69, 70, 71, 72, 73, 74, 75, 76, 77, 78] (fun (k : Nat) e => upd (upd e 11 (.int .i64 (nxR x.ws bd (gnL T P) (P, mv) k))) 13 (.int .i64 k)) (fun k D w => D = [] ∧ k ≤ n ∧ St Pu w0 w ((.row bw 2 (ints .i64 WW) :: rmC b3 b5 q8 q9 c8 c9 x rows bd ml) ++ L) []) (fun k _ => n - k) 0 (by first | exact rfl | exact upd_self' rfl rfl | exact upd_self' rfl (upd_self' rfl rfl) | exact upd_self' rfl (upd_self' rfl (upd_self' rfl rfl)) | exact upd_self' rfl (upd_self' rfl (upd_self' rfl (upd_self' rfl rfl)))) ⟨rfl, Nat.zero_le _, H⟩ ?_
      clear H
      rintro k jj D w ⟨rfl, hk, H⟩
      have hch := nxR_char x.ws bd (gnL T P) (P, mv) k
      have hsn : nxR x.ws bd (gnL T P) (P, mv) (k + 1) = if mayR x.ws bd (P, mv) k ∧ (nxR x.ws bd (gnL T P) (P, mv) k = -1 ∨ (gnL T P).getD (nxR x.ws bd (gnL T P) (P, mv) k).toNat 0 < (gnL T P).getD k 0) then (k : Int) else nxR x.ws bd (gnL T P) (P, mv) k := rfl
      obtain ⟨B, hB⟩ : ∃ B, nxR x.ws bd (gnL T P) (P, mv) k = B := ⟨_, rfl⟩
      rw [hB] at hch hsn ⊢
      refine wc_seq ?_
      refine wc_seq ?_
      refine wc_region ?_
      (apply ow_move; (· rfl); (· ((conv => lhs; whnf) <;> rfl)))
      (apply ow_move; (· rfl); (· ((conv => lhs; whnf) <;> rfl)))
      refine ow_len rfl rfl (tyAt rfl) rfl ?_
      refine ow_lss rfl rfl rfl ?_
      refine ow_nil ?_
      refine wc_cond_dec rfl (fun h => ?_) (fun h => ?_) <;> try dsimp only at h
      · have hlt : k < n := by omega
        clear h
        have hvk := hPv k (by omega)
        have hWk := hWa k hlt
        have hWrk := hWr (1 - P.getD k 0).toNat
        have hwn := ws_nn hmay k
        have hmr : mayR x.ws bd (P, mv) k ↔ (mv.getD k false = false ∧ WW.getD (1 - P.getD k 0).toNat 0 + x.ws.getD k 0 ≤ bdA bd (1 - P.getD k 0)) := by
          unfold mayR
          dsimp only
          rw [hWk, hPl]
        have hfk := hflag k (by omega)
        have hbc : (bdV bd)[(1 - P.getD k 0).toNat]? = some (.int .i64 (bdA bd (1 - P.getD k 0))) := by
          rcases hvk with e | e <;> rw [e] <;> rfl
        obtain ⟨bqp, oqp, hqp⟩ := (hP.sl H).some_of (by simp; omega)
        have hpk : ∀ {w : World}, St Pu w0 w ((.row bw 2 (ints .i64 WW) :: rmC b3 b5 q8 q9 c8 c9 x rows bd ml) ++ L) [] → SlH (hp w) (some ⟨bqp, oqp, none⟩) (ints .i64 P) := fun H => by rw [← hqp]; exact hP.sl H
        have hsw := hRf.1
        obtain ⟨bww, oww, hpw⟩ := hRf.1.some_of (by simp; omega)
        rw [hpw] at hsw
        rw [← hWk] at hWrk
        have hgk := hGn k hlt
        rw [← hga k hlt] at hgk
        refine wc_skip ?_
        refine wc_seq ?_
        refine wc_block ?_
        refine wc_seq ?_
        refine wc_region ?_
        (apply ow_move; (· rfl); (· ((conv => lhs; whnf) <;> rfl)))
        (apply ow_move; (· rfl); (· ((conv => lhs; whnf) <;> rfl)))
        rw [hqp]
        refine ow_idx1 (j := k) rfl (tyAt rfl) rfl (tyAt rfl) rfl rfl rfl hlt rfl ?_
        refine ow_load rfl (tyAt rfl) rfl rfl ((hpk H).int (by omega)) ?_
        rw [← hqp]
        generalize P.getD k 0 = pk at *
        refine ow_sub rfl rfl rfl (by simp only [InK]; omega) ?_
        (apply ow_assign; (· rfl); (· ((conv => lhs; whnf) <;> rfl)))
        refine ow_nil ?_
        refine wc_seq ?_
        refine wc_drawK (fun w => St Pu w0 w ((.row bw 2 (ints .i64 WW) :: rmC b3 b5 q8 q9 c8 c9 x rows bd ml) ++ L) []) 99 (by kernel_rfl) (by kernel_rfl) (by intro c e D w h; first | exact h.elim | (rcases h with ⟨h | h, _⟩ <;> cases h)) ?_
        replace H := H.drew
        apply ak_take (i := 0) rfl rfl rfl rfl (by kernel_rfl) (by with_reducible first | exact H | rfl)
        · intro w Q' HS hq; replace H := HS; clear HS; (apply ow_move; (· rfl); (· ((conv => lhs; whnf) <;> rfl))); exact ow_nil hq
        apply ak_take (i := 1) rfl rfl rfl rfl (by kernel_rfl) (by with_reducible first | exact H | rfl)
        · intro w Q' HS hq; replace H := HS; clear HS; (apply ow_move; (· rfl); (· ((conv => lhs; whnf) <;> rfl))); exact ow_nil hq
        have hin := refIn_spec (ml.map (·.1)) q8 c8 (k : Int) (by rw [List.length_map]; omega)
        rw [List.length_map] at hin
        apply ak_one (i := 2)
        · kernel_rfl
        · rfl
        · rfl
        refine ow_call rfl rfl (ent (by kernel_rfl)) (CallsV.mono (hin _ (appOk.sl (H.cap (i := 3) rfl))) ?_) rfl
        rintro v w' ⟨rfl, rfl⟩
        refine ow_nil ⟨fun _ => H, ?_⟩
        by_cases hf : hasP (ml.map (·.1)) (k : Int)
        · rw [decide_eq_true hf]
          rw [if_neg (fun h' => by have := (hmr.1 h'.1).1; rw [hfk.1 hf] at this; cases this)] at hsn
          apply ak_take (i := 3) rfl rfl rfl rfl (by kernel_rfl) (by with_reducible first | exact H | rfl)
          · intro w Q' HS hq; replace H := HS; clear HS; refine ow_not rfl rfl ?_; exact ow_nil hq
          apply ak_take (i := 4) rfl rfl rfl rfl (by kernel_rfl) (by with_reducible first | exact H | rfl)
          · intro w Q' HS hq; replace H := HS; clear HS; (apply ow_move; (· rfl); (· ((conv => lhs; whnf) <;> rfl))); exact ow_nil hq
          apply ak_take (i := 5) rfl rfl rfl rfl (by kernel_rfl) (by with_reducible first | exact H | rfl)
          · intro w Q' HS hq; replace H := HS; clear HS; refine ow_guard_no rfl rfl rfl rfl rfl rfl rfl ?_; exact ow_nil hq
          apply ak_take (i := 6) rfl rfl rfl rfl (by kernel_rfl) (by with_reducible first | exact H | rfl)
          · intro w Q' HS hq; replace H := HS; clear HS; refine ow_guard_no rfl rfl rfl rfl rfl rfl rfl ?_; exact ow_nil hq
          apply ak_take (i := 7) rfl rfl rfl rfl (by kernel_rfl) (by with_reducible first | exact H | rfl)
          · intro w Q' HS hq; replace H := HS; clear HS; refine ow_guard_no rfl rfl rfl rfl rfl rfl rfl ?_; exact ow_nil hq
          apply ak_take (i := 8) rfl rfl rfl rfl (by kernel_rfl) (by with_reducible first | exact H | rfl)
          · intro w Q' HS hq; replace H := HS; clear HS; refine ow_guard_no rfl rfl rfl rfl rfl rfl rfl ?_; exact ow_nil hq
          apply ak_take (i := 9) rfl rfl rfl rfl (by kernel_rfl) (by with_reducible first | exact H | rfl)
          · intro w Q' HS hq; replace H := HS; clear HS; refine ow_guard_no rfl rfl rfl rfl rfl rfl rfl ?_; exact ow_nil hq
          apply ak_take (i := 10) rfl rfl rfl rfl (by kernel_rfl) (by with_reducible first | exact H | rfl)
          · intro w Q' HS hq; replace H := HS; clear HS; refine ow_guard_no rfl rfl rfl rfl rfl rfl rfl ?_; exact ow_nil hq
          apply ak_take (i := 11) rfl rfl rfl rfl (by kernel_rfl) (by with_reducible first | exact H | rfl)
          · intro w Q' HS hq; replace H := HS; clear HS; refine ow_guard_no rfl rfl rfl rfl rfl rfl rfl ?_; exact ow_nil hq
          apply ak_take (i := 12) rfl rfl rfl rfl (by kernel_rfl) (by with_reducible first | exact H | rfl)
          · intro w Q' HS hq; replace H := HS; clear HS; refine ow_guard_no rfl rfl rfl rfl rfl rfl rfl ?_; exact ow_nil hq
          apply ak_take (i := 13) rfl rfl rfl rfl (by kernel_rfl) (by with_reducible first | exact H | rfl)
          · intro w Q' HS hq; replace H := HS; clear HS; refine ow_guard_no rfl rfl rfl rfl rfl rfl rfl ?_; exact ow_nil hq
          apply ak_take (i := 14) rfl rfl rfl rfl (by kernel_rfl) (by with_reducible first | exact H | rfl)
          · intro w Q' HS hq; replace H := HS; clear HS; refine ow_guard_no rfl rfl rfl rfl rfl rfl rfl ?_; exact ow_nil hq
          apply ak_take (i := 15) rfl rfl rfl rfl (by kernel_rfl) (by with_reducible first | exact H | rfl)
          · intro w Q' HS hq; replace H := HS; clear HS; refine ow_guard_no rfl rfl rfl rfl rfl rfl rfl ?_; exact ow_nil hq
          apply ak_take (i := 16) rfl rfl rfl rfl (by kernel_rfl) (by with_reducible first | exact H | rfl)
          · intro w Q' HS hq; replace H := HS; clear HS; refine ow_guard_no rfl rfl rfl rfl rfl rfl rfl ?_; exact ow_nil hq
          apply ak_take (i := 17) rfl rfl rfl rfl (by kernel_rfl) (by with_reducible first | exact H | rfl)
          · intro w Q' HS hq; replace H := HS; clear HS; refine ow_guard_no rfl rfl rfl rfl rfl rfl rfl ?_; exact ow_nil hq
          apply ak_take (i := 18) rfl rfl rfl rfl (by kernel_rfl) (by with_reducible first | exact H | rfl)
          · intro w Q' HS hq; replace H := HS; clear HS; refine ow_guard_no rfl rfl rfl rfl rfl rfl rfl ?_; exact ow_nil hq
          apply ak_take (i := 19) rfl rfl rfl rfl (by kernel_rfl) (by with_reducible first | exact H | rfl)
          · intro w Q' HS hq; replace H := HS; clear HS; (apply ow_pick_f; (· rfl); (· rfl); (· ((conv => lhs; whnf) <;> rfl))); exact ow_nil hq
          apply ak_take (i := 20) rfl rfl rfl rfl (by kernel_rfl) (by with_reducible first | exact H | rfl)
          · intro w Q' HS hq; replace H := HS; clear HS; (apply ow_move; (· rfl); (· ((conv => lhs; whnf) <;> rfl))); exact ow_nil hq
          apply ak_take (i := 21) rfl rfl rfl rfl (by kernel_rfl) (by with_reducible first | exact H | rfl)
          · intro w Q' HS hq; replace H := HS; clear HS; refine ow_guard_no rfl rfl rfl rfl rfl rfl rfl ?_; exact ow_nil hq
          apply ak_take (i := 22) rfl rfl rfl rfl (by kernel_rfl) (by with_reducible first | exact H | rfl)
          · intro w Q' HS hq; replace H := HS; clear HS; refine ow_guard_no rfl rfl rfl rfl rfl rfl rfl ?_; exact ow_nil hq
          apply ak_take (i := 23) rfl rfl rfl rfl (by kernel_rfl) (by with_reducible first | exact H | rfl)
          · intro w Q' HS hq; replace H := HS; clear HS; refine ow_guard_no rfl rfl rfl rfl rfl rfl rfl ?_; exact ow_nil hq
          apply ak_take (i := 24) rfl rfl rfl rfl (by kernel_rfl) (by with_reducible first | exact H | rfl)
          · intro w Q' HS hq; replace H := HS; clear HS; refine ow_guard_un rfl rfl rfl rfl rfl rfl ?_; exact ow_nil hq
          apply ak_take (i := 25) rfl rfl rfl rfl (by kernel_rfl) (by with_reducible first | exact H | rfl)
          · intro w Q' HS hq; replace H := HS; clear HS; refine ow_guard_un rfl rfl rfl rfl rfl rfl ?_; exact ow_nil hq
          apply ak_take (i := 26) rfl rfl rfl rfl (by kernel_rfl) (by with_reducible first | exact H | rfl)
          · intro w Q' HS hq; replace H := HS; clear HS; refine ow_guard_un rfl rfl rfl rfl rfl rfl ?_; exact ow_nil hq
          apply ak_take (i := 28) rfl rfl rfl rfl (by kernel_rfl) (by with_reducible first | exact H | rfl)
          · intro w Q' HS hq; replace H := HS; clear HS; refine ow_guard_un rfl rfl rfl rfl rfl rfl ?_; exact ow_nil hq
          apply ak_take (i := 29) rfl rfl rfl rfl (by kernel_rfl) (by with_reducible first | exact H | rfl)
          · intro w Q' HS hq; replace H := HS; clear HS; refine ow_guard_un rfl rfl rfl rfl rfl rfl ?_; exact ow_nil hq
          apply ak_take (i := 30) rfl rfl rfl rfl (by kernel_rfl) (by with_reducible first | exact H | rfl)
          · intro w Q' HS hq; replace H := HS; clear HS; refine ow_guard_un rfl rfl rfl rfl rfl rfl ?_; exact ow_nil hq
          apply ak_one (i := 27)
          · kernel_rfl
          · rfl
          · rfl
          first | refine ow_guard_no rfl rfl rfl rfl rfl rfl rfl ?_ | refine ow_guard_un rfl rfl rfl rfl rfl rfl ?_
          refine ow_nil ⟨fun _ => H, ?_⟩
          apply ak_one (i := 31)
          · kernel_rfl
          · rfl
          · rfl
          first | refine ow_guard_no rfl rfl rfl rfl rfl rfl rfl ?_ | refine ow_guard_un rfl rfl rfl rfl rfl rfl ?_
          refine ow_nil ⟨fun _ => H, ?_⟩
          apply ak_take (i := 32) rfl rfl rfl rfl (by kernel_rfl) (by with_reducible first | exact H | rfl)
          · intro w Q' HS hq; replace H := HS; clear HS; refine ow_guard_un rfl rfl rfl rfl rfl rfl ?_; exact ow_nil hq
          apply ak_take (i := 33) rfl rfl rfl rfl (by kernel_rfl) (by with_reducible first | exact H | rfl)
          · intro w Q' HS hq; replace H := HS; clear HS; refine ow_guard_no rfl rfl rfl rfl rfl rfl rfl ?_; exact ow_nil hq
          apply ak_take (i := 34) rfl rfl rfl rfl (by kernel_rfl) (by with_reducible first | exact H | rfl)
          · intro w Q' HS hq; replace H := HS; clear HS; (apply ow_pick_f; (· rfl); (· rfl); (· ((conv => lhs; whnf) <;> rfl))); exact ow_nil hq
          refine ak_done (by kernel_rfl) ?_
          refine wc_cond_false rfl ?_
          refine wc_skip ?_
          refine wc_region ?_
          (apply ow_move; (· rfl); (· ((conv => lhs; whnf) <;> rfl)))
          refine ow_add rfl rfl rfl (by simp only [InK]; omega) ?_
          (apply ow_assign; (· rfl); (· ((conv => lhs; whnf) <;> rfl)))
          refine ow_nil ?_
          refine ⟨k + 1, ?_, by repeat (first | with_reducible exact Off.mix | with_reducible exact Off.refl | ((with_reducible refine Off.upd ?_ ?_); (· rfl))), ⟨rfl, hlt, H⟩, by omega⟩
          rw [hsn]
          first | exact rfl | exact upd_self' rfl rfl | exact upd_self' rfl (upd_self' rfl rfl) | exact upd_self' rfl (upd_self' rfl (upd_self' rfl rfl)) | exact upd_self' rfl (upd_self' rfl (upd_self' rfl (upd_self' rfl rfl)))
        · rw [decide_eq_false hf]
          have hmvf : mv.getD k false = false := by
            cases hc : mv.getD k false with
            | false => rfl
            | true => exact absurd (hfk.2 hc) hf
          apply ak_take (i := 3) rfl rfl rfl rfl (by kernel_rfl) (by with_reducible first | exact H | rfl)
          · intro w Q' HS hq; replace H := HS; clear HS; refine ow_not rfl rfl ?_; exact ow_nil hq
          apply ak_take (i := 4) rfl rfl rfl rfl (by kernel_rfl) (by with_reducible first | exact H | rfl)
          · intro w Q' HS hq; replace H := HS; clear HS; (apply ow_move; (· rfl); (· ((conv => lhs; whnf) <;> rfl))); exact ow_nil hq
          apply ak_take (i := 5) rfl rfl rfl rfl (by kernel_rfl) (by with_reducible first | exact H | rfl)
          · intro w Q' HS hq; replace H := HS; clear HS; refine ow_guard_yes rfl rfl rfl rfl ?_; (apply ow_move; (· rfl); (· ((conv => lhs; whnf) <;> rfl))); exact ow_nil hq
          apply ak_take (i := 6) rfl rfl rfl rfl (by kernel_rfl) (by with_reducible first | exact H | rfl)
          · intro w Q' HS hq; replace H := HS; clear HS; refine ow_guard_yes rfl rfl rfl rfl ?_; (apply ow_move; (· rfl); (· ((conv => lhs; whnf) <;> rfl))); exact ow_nil hq
          apply ak_take (i := 7) rfl rfl rfl rfl (by kernel_rfl) (by with_reducible first | exact H | rfl)
          · intro w Q' HS hq; replace H := HS; clear HS; refine ow_guard_yes rfl rfl rfl rfl ?_; refine ow_idx1 (j := (1 - pk).toNat) rfl (tyAt rfl) rfl (tyAt rfl) rfl rfl (by omega) (by omega) rfl ?_; exact ow_nil hq
          apply ak_take (i := 8) rfl rfl rfl rfl (by kernel_rfl) (by with_reducible first | exact H | rfl)
          · intro w Q' HS hq; replace H := HS; clear HS; refine ow_guard_yes rfl rfl rfl rfl ?_; refine ow_load rfl (tyAt rfl) rfl rfl (SlH.int (H.rowSl (i := 0) rfl) (by omega)) ?_; exact ow_nil hq
          apply ak_take (i := 9) rfl rfl rfl rfl (by kernel_rfl) (by with_reducible first | exact H | rfl)
          · intro w Q' HS hq; replace H := HS; clear HS; refine ow_guard_yes rfl rfl rfl rfl ?_; refine ow_fieldAddr rfl (tyAt rfl) rfl rfl rfl (tyAt rfl) rfl rfl ?_; exact ow_nil hq
          apply ak_take (i := 10) rfl rfl rfl rfl (by kernel_rfl) (by with_reducible first | exact H | rfl)
          · intro w Q' HS hq; replace H := HS; clear HS; refine ow_guard_yes rfl rfl rfl rfl ?_; refine ow_load rfl (tyAt rfl) rfl rfl (H.cell (i := 1) rfl rfl) ?_; exact ow_nil hq
          rw [hpw]
          apply ak_take (i := 11) rfl rfl rfl rfl (by kernel_rfl) (by with_reducible first | exact H | rfl)
          · intro w Q' HS hq; replace H := HS; clear HS; refine ow_guard_yes rfl rfl rfl rfl ?_; (apply ow_move; (· rfl); (· ((conv => lhs; whnf) <;> rfl))); exact ow_nil hq
          apply ak_take (i := 12) rfl rfl rfl rfl (by kernel_rfl) (by with_reducible first | exact H | rfl)
          · intro w Q' HS hq; replace H := HS; clear HS; refine ow_guard_yes rfl rfl rfl rfl ?_; refine ow_idx1 (j := k) rfl (tyAt rfl) rfl (tyAt rfl) rfl rfl rfl (by omega) rfl ?_; exact ow_nil hq
          apply ak_take (i := 13) rfl rfl rfl rfl (by kernel_rfl) (by with_reducible first | exact H | rfl)
          · intro w Q' HS hq; replace H := HS; clear HS; refine ow_guard_yes rfl rfl rfl rfl ?_; refine ow_load rfl (tyAt rfl) rfl rfl ((H.oldSl hsw).int (by omega)) ?_; exact ow_nil hq
          apply ak_take (i := 14) rfl rfl rfl rfl (by kernel_rfl) (by with_reducible first | exact H | rfl)
          · intro w Q' HS hq; replace H := HS; clear HS; refine ow_guard_yes rfl rfl rfl rfl ?_; refine ow_add rfl rfl rfl (by simp only [InK]; omega) ?_; exact ow_nil hq
          apply ak_take (i := 15) rfl rfl rfl rfl (by kernel_rfl) (by with_reducible first | exact H | rfl)
          · intro w Q' HS hq; replace H := HS; clear HS; refine ow_guard_yes rfl rfl rfl rfl ?_; (apply ow_move; (· rfl); (· ((conv => lhs; whnf) <;> rfl))); exact ow_nil hq
          apply ak_take (i := 16) rfl rfl rfl rfl (by kernel_rfl) (by with_reducible first | exact H | rfl)
          · intro w Q' HS hq; replace H := HS; clear HS; refine ow_guard_yes rfl rfl rfl rfl ?_; refine ow_idxArr1 (j := (1 - pk).toNat) rfl (tyAt rfl) rfl (tyAt rfl) rfl rfl (by omega) (by omega) rfl ?_; exact ow_nil hq
          apply ak_take (i := 17) rfl rfl rfl rfl (by kernel_rfl) (by with_reducible first | exact H | rfl)
          · intro w Q' HS hq; replace H := HS; clear HS; refine ow_guard_yes rfl rfl rfl rfl ?_; refine ow_load rfl (tyAt rfl) rfl rfl (SlH.cell (H.rowSl (i := 2) rfl) hbc) ?_; exact ow_nil hq
          apply ak_take (i := 18) rfl rfl rfl rfl (by kernel_rfl) (by with_reducible first | exact H | rfl)
          · intro w Q' HS hq; replace H := HS; clear HS; refine ow_guard_yes rfl rfl rfl rfl ?_; refine ow_leq rfl rfl rfl ?_; exact ow_nil hq
          apply ak_take (i := 19) rfl rfl rfl rfl (by kernel_rfl) (by with_reducible first | exact H | rfl)
          · intro w Q' HS hq; replace H := HS; clear HS; (apply ow_pick_t; (· rfl); (· rfl); (· ((conv => lhs; whnf) <;> rfl))); exact ow_nil hq
          apply ak_take (i := 20) rfl rfl rfl rfl (by kernel_rfl) (by with_reducible first | exact H | rfl)
          · intro w Q' HS hq; replace H := HS; clear HS; (apply ow_move; (· rfl); (· ((conv => lhs; whnf) <;> rfl))); exact ow_nil hq
          refine ak_guard_dec (dj := 63) rfl (fun h => ?_) (fun h => ?_) <;> try dsimp only at h
          · have hmay2 : mayR x.ws bd (P, mv) k := hmr.2 ⟨hmvf, h⟩
            clear h
            apply ak_take (i := 21) rfl rfl rfl rfl (by kernel_rfl) (by with_reducible first | exact H | rfl)
            · intro w Q' HS hq; replace H := HS; clear HS; refine ow_guard_yes rfl rfl rfl rfl ?_; (apply ow_move; (· rfl); (· ((conv => lhs; whnf) <;> rfl))); exact ow_nil hq
            apply ak_take (i := 22) rfl rfl rfl rfl (by kernel_rfl) (by with_reducible first | exact H | rfl)
            · intro w Q' HS hq; replace H := HS; clear HS; refine ow_guard_yes rfl rfl rfl rfl ?_; refine ow_lss rfl rfl rfl ?_; exact ow_nil hq
            apply ak_take (i := 23) rfl rfl rfl rfl (by kernel_rfl) (by with_reducible first | exact H | rfl)
            · intro w Q' HS hq; replace H := HS; clear HS; refine ow_guard_yes rfl rfl rfl rfl ?_; (apply ow_move; (· rfl); (· ((conv => lhs; whnf) <;> rfl))); exact ow_nil hq
            refine ak_guard_dec (dj := 66) rfl (fun h => ?_) (fun h => ?_) <;> try dsimp only at h
            · have hB1 : B = -1 := by rcases hch with ⟨h1, _⟩ | ⟨z, _, h1, _⟩ <;> omega
              rw [if_pos ⟨hmay2, .inl hB1⟩] at hsn
              apply ak_take (i := 24) rfl rfl rfl rfl (by kernel_rfl) (by with_reducible first | exact H | rfl)
              · intro w Q' HS hq; replace H := HS; clear HS; refine ow_guard_no rfl rfl rfl rfl rfl rfl rfl ?_; exact ow_nil hq
              apply ak_take (i := 25) rfl rfl rfl rfl (by kernel_rfl) (by with_reducible first | exact H | rfl)
              · intro w Q' HS hq; replace H := HS; clear HS; refine ow_guard_no rfl rfl rfl rfl rfl rfl rfl ?_; exact ow_nil hq
              apply ak_take (i := 26) rfl rfl rfl rfl (by kernel_rfl) (by with_reducible first | exact H | rfl)
              · intro w Q' HS hq; replace H := HS; clear HS; refine ow_guard_no rfl rfl rfl rfl rfl rfl rfl ?_; exact ow_nil hq
              apply ak_take (i := 28) rfl rfl rfl rfl (by kernel_rfl) (by with_reducible first | exact H | rfl)
              · intro w Q' HS hq; replace H := HS; clear HS; refine ow_guard_no rfl rfl rfl rfl rfl rfl rfl ?_; exact ow_nil hq
              apply ak_take (i := 29) rfl rfl rfl rfl (by kernel_rfl) (by with_reducible first | exact H | rfl)
              · intro w Q' HS hq; replace H := HS; clear HS; refine ow_guard_no rfl rfl rfl rfl rfl rfl rfl ?_; exact ow_nil hq
              apply ak_take (i := 30) rfl rfl rfl rfl (by kernel_rfl) (by with_reducible first | exact H | rfl)
              · intro w Q' HS hq; replace H := HS; clear HS; refine ow_guard_no rfl rfl rfl rfl rfl rfl rfl ?_; exact ow_nil hq
              apply ak_one (i := 27)
              · kernel_rfl
              · rfl
              · rfl
              first | refine ow_guard_no rfl rfl rfl rfl rfl rfl rfl ?_ | refine ow_guard_un rfl rfl rfl rfl rfl rfl ?_
              refine ow_nil ⟨fun _ => H, ?_⟩
              apply ak_one (i := 31)
              · kernel_rfl
              · rfl
              · rfl
              first | refine ow_guard_no rfl rfl rfl rfl rfl rfl rfl ?_ | refine ow_guard_un rfl rfl rfl rfl rfl rfl ?_
              refine ow_nil ⟨fun _ => H, ?_⟩
              apply ak_take (i := 32) rfl rfl rfl rfl (by kernel_rfl) (by with_reducible first | exact H | rfl)
              · intro w Q' HS hq; replace H := HS; clear HS; refine ow_guard_no rfl rfl rfl rfl rfl rfl rfl ?_; exact ow_nil hq
              apply ak_take (i := 33) rfl rfl rfl rfl (by kernel_rfl) (by with_reducible first | exact H | rfl)
              · intro w Q' HS hq; replace H := HS; clear HS; refine ow_guard_yes rfl rfl rfl rfl ?_; (apply ow_pick_t; (· rfl); (· rfl); (· ((conv => lhs; whnf) <;> rfl))); exact ow_nil hq
              apply ak_take (i := 34) rfl rfl rfl rfl (by kernel_rfl) (by with_reducible first | exact H | rfl)
              · intro w Q' HS hq; replace H := HS; clear HS; (apply ow_pick_t; (· rfl); (· rfl); (· ((conv => lhs; whnf) <;> rfl))); exact ow_nil hq
              refine ak_done (by kernel_rfl) ?_
              refine wc_cond_true rfl ?_
              refine wc_region ?_
              (apply ow_move; (· rfl); (· ((conv => lhs; whnf) <;> rfl)))
              (apply ow_assign; (· rfl); (· ((conv => lhs; whnf) <;> rfl)))
              refine ow_nil ?_
              refine wc_region ?_
              (apply ow_move; (· rfl); (· ((conv => lhs; whnf) <;> rfl)))
              refine ow_add rfl rfl rfl (by simp only [InK]; omega) ?_
              (apply ow_assign; (· rfl); (· ((conv => lhs; whnf) <;> rfl)))
              refine ow_nil ?_
              refine ⟨k + 1, ?_, by repeat (first | with_reducible exact Off.mix | with_reducible exact Off.refl | ((with_reducible refine Off.upd ?_ ?_); (· rfl))), ⟨rfl, hlt, H⟩, by omega⟩
              rw [hsn]
              first | exact rfl | exact upd_self' rfl rfl | exact upd_self' rfl (upd_self' rfl rfl) | exact upd_self' rfl (upd_self' rfl (upd_self' rfl rfl)) | exact upd_self' rfl (upd_self' rfl (upd_self' rfl (upd_self' rfl rfl)))
            · have hB0 : 0 ≤ B ∧ B < (k : Int) := by
                rcases hch with ⟨h1, _⟩ | ⟨z, hz, h1, _⟩
                · omega
                · omega
              clear h
              obtain ⟨zb, rfl⟩ : ∃ zb : Nat, B = (zb : Int) := ⟨B.toNat, by omega⟩
              rw [Int.toNat_natCast] at hsn
              have hgz := hGn zb (by omega)
              rw [← hga zb (by omega)] at hgz
              apply ak_take (i := 24) rfl rfl rfl rfl (by kernel_rfl) (by with_reducible first | exact H | rfl)
              · intro w Q' HS hq; replace H := HS; clear HS; refine ow_guard_yes rfl rfl rfl rfl ?_; refine ow_loadA (l := rfV x rows) rfl (tyAt rfl) rfl rfl rfl (H.cells (i := 1) (o := 0) (m := 2) rfl rfl) ?_; exact ow_nil hq
              apply ak_take (i := 25) rfl rfl rfl rfl (by kernel_rfl) (by with_reducible first | exact H | rfl)
              · intro w Q' HS hq; replace H := HS; clear HS; refine ow_guard_yes rfl rfl rfl rfl ?_; (apply ow_move; (· rfl); (· ((conv => lhs; whnf) <;> rfl))); exact ow_nil hq
              apply ak_take (i := 26) rfl rfl rfl rfl (by kernel_rfl) (by with_reducible first | exact H | rfl)
              · intro w Q' HS hq; replace H := HS; clear HS; refine ow_guard_yes rfl rfl rfl rfl ?_; (apply ow_move; (· rfl); (· ((conv => lhs; whnf) <;> rfl))); exact ow_nil hq
              apply ak_take (i := 28) rfl rfl rfl rfl (by kernel_rfl) (by with_reducible first | exact H | rfl)
              · intro w Q' HS hq; replace H := HS; clear HS; refine ow_guard_yes rfl rfl rfl rfl ?_; refine ow_loadA (l := rfV x rows) rfl (tyAt rfl) rfl rfl rfl (H.cells (i := 1) (o := 0) (m := 2) rfl rfl) ?_; exact ow_nil hq
              apply ak_take (i := 29) rfl rfl rfl rfl (by kernel_rfl) (by with_reducible first | exact H | rfl)
              · intro w Q' HS hq; replace H := HS; clear HS; refine ow_guard_yes rfl rfl rfl rfl ?_; (apply ow_move; (· rfl); (· ((conv => lhs; whnf) <;> rfl))); exact ow_nil hq
              apply ak_take (i := 30) rfl rfl rfl rfl (by kernel_rfl) (by with_reducible first | exact H | rfl)
              · intro w Q' HS hq; replace H := HS; clear HS; refine ow_guard_yes rfl rfl rfl rfl ?_; (apply ow_move; (· rfl); (· ((conv => lhs; whnf) <;> rfl))); exact ow_nil hq
              apply ak_one (i := 27)
              · kernel_rfl
              · rfl
              · rfl
              refine ow_guard_yes rfl rfl rfl rfl ?_
              refine ow_call rfl rfl (ent (by kernel_rfl)) (CallsV.mono (hgk _ (Rf.old H hRf) (hP.sl H)) ?_) rfl
              rintro v w ⟨rfl, H'⟩
              replace H := H.call H'
              rw [List.nil_append] at H
              clear H'
              refine ow_nil ⟨fun _ => H, ?_⟩
              apply ak_one (i := 31)
              · kernel_rfl
              · rfl
              · rfl
              refine ow_guard_yes rfl rfl rfl rfl ?_
              refine ow_call rfl rfl (ent (by kernel_rfl)) (CallsV.mono (hgz _ (Rf.old H hRf) (hP.sl H)) ?_) rfl
              rintro v w ⟨rfl, H'⟩
              replace H := H.call H'
              rw [List.nil_append] at H
              clear H'
              refine ow_nil ⟨fun _ => H, ?_⟩
              apply ak_take (i := 32) rfl rfl rfl rfl (by kernel_rfl) (by with_reducible first | exact H | rfl)
              · intro w Q' HS hq; replace H := HS; clear HS; refine ow_guard_yes rfl rfl rfl rfl ?_; refine ow_gtr rfl rfl rfl ?_; exact ow_nil hq
              apply ak_take (i := 33) rfl rfl rfl rfl (by kernel_rfl) (by with_reducible first | exact H | rfl)
              · intro w Q' HS hq; replace H := HS; clear HS; refine ow_guard_yes rfl rfl rfl rfl ?_; (apply ow_pick_f; (· rfl); (· rfl); (· ((conv => lhs; whnf) <;> rfl))); exact ow_nil hq
              apply ak_take (i := 34) rfl rfl rfl rfl (by kernel_rfl) (by with_reducible first | exact H | rfl)
              · intro w Q' HS hq; replace H := HS; clear HS; (apply ow_pick_t; (· rfl); (· rfl); (· ((conv => lhs; whnf) <;> rfl))); exact ow_nil hq
              refine ak_done (by kernel_rfl) ?_
              skip
              refine wc_cond_dec rfl (fun h => ?_) (fun h => ?_) <;> try dsimp only at h
              · rw [if_pos ⟨hmay2, .inr h⟩] at hsn
                refine wc_region ?_
                (apply ow_move; (· rfl); (· ((conv => lhs; whnf) <;> rfl)))
                (apply ow_assign; (· rfl); (· ((conv => lhs; whnf) <;> rfl)))
                refine ow_nil ?_
                refine wc_region ?_
                (apply ow_move; (· rfl); (· ((conv => lhs; whnf) <;> rfl)))
                refine ow_add rfl rfl rfl (by simp only [InK]; omega) ?_
                (apply ow_assign; (· rfl); (· ((conv => lhs; whnf) <;> rfl)))
                refine ow_nil ?_
                refine ⟨k + 1, ?_, by repeat (first | with_reducible exact Off.mix | with_reducible exact Off.refl | ((with_reducible refine Off.upd ?_ ?_); (· rfl))), ⟨rfl, hlt, H⟩, by omega⟩
                rw [hsn]
                first | exact rfl | exact upd_self' rfl rfl | exact upd_self' rfl (upd_self' rfl rfl) | exact upd_self' rfl (upd_self' rfl (upd_self' rfl rfl)) | exact upd_self' rfl (upd_self' rfl (upd_self' rfl (upd_self' rfl rfl)))
              · rw [if_neg (by rintro ⟨_, h' | h'⟩; omega; exact h h')] at hsn
                refine wc_skip ?_
                refine wc_region ?_
                (apply ow_move; (· rfl); (· ((conv => lhs; whnf) <;> rfl)))
                refine ow_add rfl rfl rfl (by simp only [InK]; omega) ?_
                (apply ow_assign; (· rfl); (· ((conv => lhs; whnf) <;> rfl)))
                refine ow_nil ?_
                refine ⟨k + 1, ?_, by repeat (first | with_reducible exact Off.mix | with_reducible exact Off.refl | ((with_reducible refine Off.upd ?_ ?_); (· rfl))), ⟨rfl, hlt, H⟩, by omega⟩
                rw [hsn]
                first | exact rfl | exact upd_self' rfl rfl | exact upd_self' rfl (upd_self' rfl rfl) | exact upd_self' rfl (upd_self' rfl (upd_self' rfl rfl)) | exact upd_self' rfl (upd_self' rfl (upd_self' rfl (upd_self' rfl rfl)))
          · rw [if_neg (fun h' => h (hmr.1 h'.1).2)] at hsn
            apply ak_take (i := 21) rfl rfl rfl rfl (by kernel_rfl) (by with_reducible first | exact H | rfl)
            · intro w Q' HS hq; replace H := HS; clear HS; refine ow_guard_no rfl rfl rfl rfl rfl rfl rfl ?_; exact ow_nil hq
            apply ak_take (i := 22) rfl rfl rfl rfl (by kernel_rfl) (by with_reducible first | exact H | rfl)
            · intro w Q' HS hq; replace H := HS; clear HS; refine ow_guard_no rfl rfl rfl rfl rfl rfl rfl ?_; exact ow_nil hq
            apply ak_take (i := 23) rfl rfl rfl rfl (by kernel_rfl) (by with_reducible first | exact H | rfl)
            · intro w Q' HS hq; replace H := HS; clear HS; refine ow_guard_no rfl rfl rfl rfl rfl rfl rfl ?_; exact ow_nil hq
            apply ak_take (i := 24) rfl rfl rfl rfl (by kernel_rfl) (by with_reducible first | exact H | rfl)
            · intro w Q' HS hq; replace H := HS; clear HS; refine ow_guard_un rfl rfl rfl rfl rfl rfl ?_; exact ow_nil hq
            apply ak_take (i := 25) rfl rfl rfl rfl (by kernel_rfl) (by with_reducible first | exact H | rfl)
            · intro w Q' HS hq; replace H := HS; clear HS; refine ow_guard_un rfl rfl rfl rfl rfl rfl ?_; exact ow_nil hq
            apply ak_take (i := 26) rfl rfl rfl rfl (by kernel_rfl) (by with_reducible first | exact H | rfl)
            · intro w Q' HS hq; replace H := HS; clear HS; refine ow_guard_un rfl rfl rfl rfl rfl rfl ?_; exact ow_nil hq
            apply ak_take (i := 28) rfl rfl rfl rfl (by kernel_rfl) (by with_reducible first | exact H | rfl)
            · intro w Q' HS hq; replace H := HS; clear HS; refine ow_guard_un rfl rfl rfl rfl rfl rfl ?_; exact ow_nil hq
            apply ak_take (i := 29) rfl rfl rfl rfl (by kernel_rfl) (by with_reducible first | exact H | rfl)
            · intro w Q' HS hq; replace H := HS; clear HS; refine ow_guard_un rfl rfl rfl rfl rfl rfl ?_; exact ow_nil hq
            apply ak_take (i := 30) rfl rfl rfl rfl (by kernel_rfl) (by with_reducible first | exact H | rfl)
            · intro w Q' HS hq; replace H := HS; clear HS; refine ow_guard_un rfl rfl rfl rfl rfl rfl ?_; exact ow_nil hq
            apply ak_one (i := 27)
            · kernel_rfl
            · rfl
            · rfl
            first | refine ow_guard_no rfl rfl rfl rfl rfl rfl rfl ?_ | refine ow_guard_un rfl rfl rfl rfl rfl rfl ?_
            refine ow_nil ⟨fun _ => H, ?_⟩
            apply ak_one (i := 31)
            · kernel_rfl
            · rfl
            · rfl
            first | refine ow_guard_no rfl rfl rfl rfl rfl rfl rfl ?_ | refine ow_guard_un rfl rfl rfl rfl rfl rfl ?_
            refine ow_nil ⟨fun _ => H, ?_⟩
            apply ak_take (i := 32) rfl rfl rfl rfl (by kernel_rfl) (by with_reducible first | exact H | rfl)
            · intro w Q' HS hq; replace H := HS; clear HS; refine ow_guard_un rfl rfl rfl rfl rfl rfl ?_; exact ow_nil hq
            apply ak_take (i := 33) rfl rfl rfl rfl (by kernel_rfl) (by with_reducible first | exact H | rfl)
            · intro w Q' HS hq; replace H := HS; clear HS; refine ow_guard_no rfl rfl rfl rfl rfl rfl rfl ?_; exact ow_nil hq
            apply ak_take (i := 34) rfl rfl rfl rfl (by kernel_rfl) (by with_reducible first | exact H | rfl)
            · intro w Q' HS hq; replace H := HS; clear HS; (apply ow_pick_f; (· rfl); (· rfl); (· ((conv => lhs; whnf) <;> rfl))); exact ow_nil hq
            refine ak_done (by kernel_rfl) ?_
            refine wc_cond_false rfl ?_
            refine wc_skip ?_
            refine wc_region ?_
            (apply ow_move; (· rfl); (· ((conv => lhs; whnf) <;> rfl)))
            refine ow_add rfl rfl rfl (by simp only [InK]; omega) ?_
            (apply ow_assign; (· rfl); (· ((conv => lhs; whnf) <;> rfl)))
            refine ow_nil ?_
            refine ⟨k + 1, ?_, by repeat (first | with_reducible exact Off.mix | with_reducible exact Off.refl | ((with_reducible refine Off.upd ?_ ?_); (· rfl))), ⟨rfl, hlt, H⟩, by omega⟩
            rw [hsn]
            first | exact rfl | exact upd_self' rfl rfl | exact upd_self' rfl (upd_self' rfl rfl) | exact upd_self' rfl (upd_self' rfl (upd_self' rfl rfl)) | exact upd_self' rfl (upd_self' rfl (upd_self' rfl (upd_self' rfl rfl)))
      · have hk' : k = n := by omega
        subst hk'
        rw [hB]
        refine wc_exit ?_
        exact ⟨(), by first | exact rfl | exact upd_self' rfl rfl | exact upd_self' rfl (upd_self' rfl rfl) | exact upd_self' rfl (upd_self' rfl (upd_self' rfl rfl)) | exact upd_self' rfl (upd_self' rfl (upd_self' rfl (upd_self' rfl rfl))), by repeat (first | with_reducible exact Off.mix | with_reducible exact Off.refl | ((with_reducible refine Off.upd ?_ ?_); (· rfl))), ⟨rfl, H⟩⟩
    clear H
    rintro _ jj D w ⟨rfl, H⟩
    replace H : St Pu w0 w (rmC b3 b5 q8 q9 c8 c9 x rows bd ml ++ L) [] := H.drop
    rw [← hnx]
    rcases hchA with ⟨h1, _⟩ | ⟨z, hz, h1, _, _⟩
    · rw [h1]
      obtain ⟨e1, e2⟩ := hsp h1
      refine wc_seq ?_
      refine wc_region ?_
      (apply ow_move; (· rfl); (· ((conv => lhs; whnf) <;> rfl)))
      refine ow_geq rfl rfl rfl ?_
      refine ow_nil ?_
      refine wc_cond_false rfl ?_
      refine wc_skip ?_
      refine wc_region ?_
      (apply ow_move; (· rfl); (· ((conv => lhs; whnf) <;> rfl)))
      refine ow_add rfl rfl rfl (by simp only [InK]; omega) ?_
      (apply ow_assign; (· rfl); (· ((conv => lhs; whnf) <;> rfl)))
      refine ow_nil ?_
      refine ⟨(t + 1, q8, c8, q9, c9, qp, cp), ?_, by repeat (first | with_reducible exact Off.mix | with_reducible exact Off.refl | ((with_reducible refine Off.upd ?_ ?_); (· rfl)) | ((with_reducible refine Off.mixN ?_ ?_); (· rfl))), ⟨rfl, hltn, L, by rw [e1]; exact hP, by rw [e2]; exact H⟩, by dsimp only; omega⟩
      rw [e2]
      first | exact rfl | exact upd_self' rfl rfl | exact upd_self' rfl (upd_self' rfl rfl) | exact upd_self' rfl (upd_self' rfl (upd_self' rfl rfl)) | exact upd_self' rfl (upd_self' rfl (upd_self' rfl (upd_self' rfl rfl)))
    · rw [h1]
      obtain ⟨e1, e2⟩ := hst z hz h1
      have hzn : z < n := by omega
      have hvz := hPv z (by omega)
      have hgz := hGn z hzn
      rw [← hga z hzn] at hgz
      have hmo := fun w hsz => refMove_spec P qp cp z (1 - P.getD z 0) (by omega) (by omega) w hsz
      rw [hPl] at hmo
      obtain ⟨bqp, oqp, hqp⟩ := (hP.sl H).some_of (by simp; omega)
      refine wc_seq ?_
      refine wc_region ?_
      (apply ow_move; (· rfl); (· ((conv => lhs; whnf) <;> rfl)))
      refine ow_geq rfl rfl rfl ?_
      refine ow_nil ?_
      refine wc_cond_true rfl ?_
      refine wc_seq ?_
      refine wc_region ?_
      (apply ow_move; (· rfl); (· ((conv => lhs; whnf) <;> rfl)))
      (apply ow_move; (· rfl); (· ((conv => lhs; whnf) <;> rfl)))
      refine ow_buildSlice1 (vs := [.int .i64 (z : Int)]) H rfl (tyAt rfl) rfl (tyAt rfl) rfl rfl rfl rfl rfl (by simp [Value.one]) (fun ea w H => ?_)
      refine ow_append (i := 3) H rfl rfl (tyAt rfl) rfl (tyAt rfl) rfl (by decide) rfl rfl (H.rowSl (i := 0) rfl) rfl (by simp [Value.oneCell']) (by dsimp only; omega) (by omega) (fun p1 d1 w H => ?_)
      simp only [List.cons_append, List.nil_append, List.set] at H
      replace H := H.drop
      (apply ow_assign; (· rfl); (· ((conv => lhs; whnf) <;> rfl)))
      refine ow_nil ?_
      refine wc_seq ?_
      refine wc_region ?_
      (apply ow_move; (· rfl); (· ((conv => lhs; whnf) <;> rfl)))
      refine ow_loadA (l := rfV x rows) rfl (tyAt rfl) rfl rfl rfl (H.cells (i := 0) (o := 0) (m := 2) rfl rfl) ?_
      (apply ow_move; (· rfl); (· ((conv => lhs; whnf) <;> rfl)))
      (apply ow_move; (· rfl); (· ((conv => lhs; whnf) <;> rfl)))
      refine ow_call rfl rfl (ent (by kernel_rfl)) (CallsV.mono (hgz _ (Rf.old H hRf) (PartIn.sl (C := [_, _, _, _]) hP H)) ?_) rfl
      rintro v w ⟨rfl, H'⟩
      replace H := H.call H'
      rw [List.nil_append] at H
      clear H'
      skip
      refine ow_buildSlice1 (vs := [.int .i64 ((gnL T P).getD z 0)]) H rfl (tyAt rfl) rfl (tyAt rfl) rfl rfl rfl rfl rfl (by simp [Value.one]) (fun eb w H => ?_)
      refine ow_append (i := 4) H rfl rfl (tyAt rfl) rfl (tyAt rfl) rfl (by decide) rfl rfl (H.rowSl (i := 0) rfl) rfl (by simp [Value.oneCell']) (by dsimp only; omega) (by omega) (fun p2 d2 w H => ?_)
      simp only [List.cons_append, List.nil_append, List.set] at H
      replace H := H.drop
      rw [← ints_snoc1, ← ints_snoc1] at H
      (apply ow_assign; (· rfl); (· ((conv => lhs; whnf) <;> rfl)))
      refine ow_nil ?_
      refine wc_region ?_
      (apply ow_move; (· rfl); (· ((conv => lhs; whnf) <;> rfl)))
      (apply ow_move; (· rfl); (· ((conv => lhs; whnf) <;> rfl)))
      (apply ow_move; (· rfl); (· ((conv => lhs; whnf) <;> rfl)))
      (apply ow_move; (· rfl); (· ((conv => lhs; whnf) <;> rfl)))
      rw [hqp]
      refine ow_idx1 (j := z) rfl (tyAt rfl) rfl (tyAt rfl) rfl rfl rfl hzn rfl ?_
      refine ow_load rfl (tyAt rfl) rfl rfl (SlH.int (by rw [← hqp]; exact PartIn.sl (C := [_, _, _, _]) hP H) (by omega)) ?_
      rw [← hqp]
      refine ow_sub rfl rfl rfl (by simp only [InK]; omega) ?_
      refine ow_call rfl rfl (ent (by kernel_rfl)) (CallsV.mono (hmo _ (PartIn.sl (C := [_, _, _, _]) hP H)) ?_) rfl
      rintro v w ⟨qn, cn, rfl, H'⟩
      replace H := H.call H'
      clear H'
      (apply ow_assign; (· rfl); (· ((conv => lhs; whnf) <;> rfl)))
      refine ow_nil ?_
      refine wc_region ?_
      (apply ow_move; (· rfl); (· ((conv => lhs; whnf) <;> rfl)))
      refine ow_add rfl rfl rfl (by simp only [InK]; omega) ?_
      (apply ow_assign; (· rfl); (· ((conv => lhs; whnf) <;> rfl)))
      refine ow_nil ?_
      have e3 : (mvU T x.ws bd p (t + 1)).length = ml.length + 1 := by rw [e2, List.length_append]; rfl
      refine ⟨(t + 1, p1, d1, p2, d2, qn, cn), ?_, by repeat (first | with_reducible exact Off.mix | with_reducible exact Off.refl | ((with_reducible refine Off.upd ?_ ?_); (· rfl)) | ((with_reducible refine Off.mixN ?_ ?_); (· rfl))), ⟨rfl, hltn, .app qn n cn 3 1 (ints .i64 (P.set z (1 - P.getD z 0))) :: L, .inr ⟨cn, ?_⟩, ?_⟩, by dsimp only; omega⟩
      · rw [e3]
        first | exact rfl | exact upd_self' rfl rfl | exact upd_self' rfl (upd_self' rfl rfl) | exact upd_self' rfl (upd_self' rfl (upd_self' rfl rfl)) | exact upd_self' rfl (upd_self' rfl (upd_self' rfl (upd_self' rfl rfl)))
      · rw [e1, List.length_set, hPl]
        exact List.mem_cons_self
      · rw [e2]
        have H2 := H.perm (List.perm_middle (l₁ := [_, _, _, _]) (l₂ := L)).symm
        unfold rmC
        rw [List.map_append, List.map_append, List.length_append]
        exact H2
  · have ht' : t = n := by omega
    subst ht'
    have hTn : T.length = t := by omega
    rw [hTn, hmld]
    refine wc_exit ?_
    refine wc_seq ?_
    refine wc_region ?_
    (apply ow_move; (· rfl); (· ((conv => lhs; whnf) <;> rfl)))
    (apply ow_move; (· rfl); (· ((conv => lhs; whnf) <;> rfl)))
    (apply ow_assign; (· rfl); (· ((conv => lhs; whnf) <;> rfl)))
    (apply ow_assign; (· rfl); (· ((conv => lhs; whnf) <;> rfl)))
    refine ow_nil ?_
    refine wc_ret ?_
    obtain ⟨w, hT, H⟩ := H.takes Try.prog
    refine ⟨.inr rfl, w, hT, _, .tmp (.tmp .nil), ?_⟩
    exact ⟨q8, c8, q9, c9, rfl, H.sub (.cons _ (.cons _ (.cons₂ _ (.cons₂ _ (List.nil_sublist _)))))⟩
end Go.Proofs.Ytpbknokakooekaa

