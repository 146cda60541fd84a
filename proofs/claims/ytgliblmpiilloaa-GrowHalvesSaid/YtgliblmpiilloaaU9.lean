/- Grow: the document's Pull, Weight, Halve (functions 58, 95, 62). -/
import Derived.Test.YtgliblmpiilloaaU3
namespace Go.Proofs.Ytgliblmpiilloaa
set_option linter.all false
open Go Go.Sx Go.Proofs
set_option maxRecDepth 100000
set_option maxHeartbeats 2000000
def plP (T : List IE) (p : List Int) (i k : Nat) : Int := sumN k fun b => if p.getD b 0 = 0 then btw T (i : Int) (b : Int) else 0
theorem plP_in {T : List IE} (hW : Wf T) (p : List Int) (i k : Nat) : 0 ≤ plP T p i k ∧ plP T p i k ≤ (k : Int) * 1099511627776 := by
  unfold plP
  constructor
  · refine Int.le_trans (Int.le_of_eq (sumN_zero k).symm) (sumN_le fun j _ => ?_)
    have := hW.btw_le (i : Int) (j : Int)
    split <;> omega
  · rw [← sumN_const]
    refine sumN_le fun j _ => ?_
    have := hW.btw_le (i : Int) (j : Int)
    split <;> omega
theorem wt0_in {ws : List Int} (h : ∀ z ∈ ws, mayW z) (p : List Int) (k : Nat) : 0 ≤ wt0 ws p k ∧ wt0 ws p k ≤ (k : Int) * 1099511627776 := by
  unfold wt0
  constructor
  · refine Int.le_trans (Int.le_of_eq (sumN_zero k).symm) (sumN_le fun j _ => ?_)
    have := ws_nn h j
    split <;> omega
  · rw [← sumN_const]
    refine sumN_le fun j _ => ?_
    have := ws_nn h j
    split <;> omega
theorem refPull_spec (T : List IE) (x : RX) (rows : List RowR) (p : List Int) (q : Option Addr) (c i : Nat) (hW : Wf T) (hl : T.length = x.ws.length) (h4 : x.ws.length ≤ 4096) (hM : Mx T x.ws.length rows) (hpl : p.length = x.ws.length) (hi : i < x.ws.length) (w0 : World) (hR : Rf (hp w0) x rows) (hs : SlH (hp w0) q (ints .i64 p)) :
    CallsV Try.prog 58 #[.agg ⟨rfV x rows⟩, .slice q p.length c, .int .i64 (i : Int)] w0 fun v w => v = .int .i64 (plT T p i) ∧ St Pu w0 w [] [] := by
  refine callsV_of Try.func58 rfl rfl ?_
  have H := St.init w0
  have hpt : plT T p i = plP T p i p.length := by unfold plT plP; rw [hl, hpl]
  rw [hpt]
  have hal : i < rows.length := by rw [hM.len]; exact hi
  obtain ⟨r, hr⟩ : ∃ r, rows[i]? = some r := ⟨_, List.getElem?_eq_getElem hal⟩
  have hrl := hM.row _ r hr
  have hv := hM.val _ r hr
  obtain ⟨bp, o, hpw⟩ := hR.2.1.some_of (by rw [List.length_map]; omega)
  have hrm := List.mem_of_getElem? hr
  have hrc : (rows.map slR)[i]? = some (slR r) := by rw [List.getElem?_map, hr]; rfl
  have hs2 := hR.2.1
  rw [hpw] at hs2
  refine wc_seq ?_
  refine wc_region ?_
  refine ow_box (l := rfV x rows) H rfl rfl rfl (fun b3 w H => ?_)
  (apply ow_assign; (· rfl); (· ((conv => lhs; whnf) <;> rfl)))
  refine ow_nil ?_
  refine wc_seq ?_
  refine wc_region ?_
  (apply ow_assign; (· rfl); (· ((conv => lhs; whnf) <;> rfl)))
  refine ow_nil ?_
  refine wc_seq ?_
  refine wc_seq ?_
  refine wc_region ?_
  (apply ow_assign; (· rfl); (· ((conv => lhs; whnf) <;> rfl)))
  refine ow_nil ?_
  refine wc_block ?_
  refine wc_loopS [7, 8, 9, 10, 11, 12, 13, 14, 15, 16, 17, 18, 19, 20, 21, 22, 23, 24, 25, 26, 27, 28, 29] (fun (s : Nat) e => upd (upd e 7 (.int .i64 (plP T p i s))) 8 (.int .i64 s)) (fun s D w => D = [] ∧ s ≤ p.length ∧ St Pu w0 w [.row b3 77 (rfV x rows)] []) (fun s _ => p.length - s) 0 (by first | exact rfl | exact upd_self' rfl rfl | exact upd_self' rfl (upd_self' rfl rfl) | exact upd_self' rfl (upd_self' rfl (upd_self' rfl rfl)) | exact upd_self' rfl (upd_self' rfl (upd_self' rfl (upd_self' rfl rfl)))) ⟨rfl, Nat.zero_le _, H⟩ ?_
  clear H
  rintro k j D w ⟨rfl, hk, H⟩
  have h1 := plP_in hW p i k
  have hsn : plP T p i (k + 1) = plP T p i k + (if p.getD k 0 = 0 then btw T (i : Int) (k : Int) else 0) := sumN_succ _ _
  refine wc_seq ?_
  refine wc_seq ?_
  refine wc_region ?_
  (apply ow_move; (· rfl); (· ((conv => lhs; whnf) <;> rfl)))
  (apply ow_move; (· rfl); (· ((conv => lhs; whnf) <;> rfl)))
  refine ow_len rfl rfl (tyAt rfl) rfl ?_
  refine ow_lss rfl rfl rfl ?_
  refine ow_nil ?_
  refine wc_cond_dec rfl (fun h => ?_) (fun h => ?_) <;> try dsimp only at h
  · have hlt : k < p.length := by omega
    have hvk := hv k (by omega)
    have hbw := hW.btw_le (i : Int) (k : Int)
    have hsx := hs
    obtain ⟨bq, oq, rfl⟩ := hs.some_of (by simp; omega)
    refine wc_skip ?_
    refine wc_seq ?_
    refine wc_block ?_
    refine wc_seq ?_
    refine wc_region ?_
    (apply ow_move; (· rfl); (· ((conv => lhs; whnf) <;> rfl)))
    (apply ow_move; (· rfl); (· ((conv => lhs; whnf) <;> rfl)))
    refine ow_idx1 (j := k) rfl (tyAt rfl) rfl (tyAt rfl) rfl rfl rfl hlt rfl ?_
    refine ow_load rfl (tyAt rfl) rfl rfl ((H.oldSl hsx).int hlt) ?_
    refine ow_eql rfl rfl rfl ?_
    refine ow_nil ?_
    refine wc_cond_dec rfl (fun h => ?_) (fun h => ?_) <;> try dsimp only at h
    · rw [if_pos h] at hsn
      refine wc_region ?_
      (apply ow_move; (· rfl); (· ((conv => lhs; whnf) <;> rfl)))
      refine ow_fieldAddr rfl (tyAt rfl) rfl rfl rfl (tyAt rfl) rfl rfl ?_
      refine ow_load rfl (tyAt rfl) rfl rfl (H.cell (i := 0) rfl rfl) ?_
      rw [hpw]
      (apply ow_move; (· rfl); (· ((conv => lhs; whnf) <;> rfl)))
      refine ow_idx1 (j := i) rfl (tyAt rfl) rfl (tyAt rfl) rfl rfl rfl hal rfl ?_
      refine ow_load rfl (tyAt rfl) rfl rfl ((H.oldSl hs2).cell (j := i) hrc) ?_
      (apply ow_move; (· rfl); (· ((conv => lhs; whnf) <;> rfl)))
      refine ow_idx1 (j := k) rfl (tyAt rfl) rfl (tyAt rfl) rfl rfl rfl (by omega) rfl ?_
      refine ow_load rfl (tyAt rfl) rfl rfl ((H.oldSl (hR.2.2 r hrm)).int (by omega)) ?_
      rw [hvk]
      refine ow_add rfl rfl rfl (by simp only [InK]; omega) ?_
      (apply ow_assign; (· rfl); (· ((conv => lhs; whnf) <;> rfl)))
      refine ow_nil ?_
      refine wc_region ?_
      (apply ow_move; (· rfl); (· ((conv => lhs; whnf) <;> rfl)))
      refine ow_add rfl rfl rfl (by simp only [InK]; omega) ?_
      (apply ow_assign; (· rfl); (· ((conv => lhs; whnf) <;> rfl)))
      refine ow_nil ?_
      refine ⟨k + 1, ?_, by repeat (first | with_reducible exact Off.mix | with_reducible exact Off.refl | ((with_reducible refine Off.upd ?_ ?_); (· rfl))), ⟨rfl, hlt, H⟩, by omega⟩
      rw [hsn]
      first | exact rfl | exact upd_self' rfl rfl | exact upd_self' rfl (upd_self' rfl rfl) | exact upd_self' rfl (upd_self' rfl (upd_self' rfl rfl)) | exact upd_self' rfl (upd_self' rfl (upd_self' rfl (upd_self' rfl rfl)))
    · rw [if_neg h, Int.add_zero] at hsn
      refine wc_skip ?_
      refine wc_region ?_
      (apply ow_move; (· rfl); (· ((conv => lhs; whnf) <;> rfl)))
      refine ow_add rfl rfl rfl (by simp only [InK]; omega) ?_
      (apply ow_assign; (· rfl); (· ((conv => lhs; whnf) <;> rfl)))
      refine ow_nil ?_
      refine ⟨k + 1, ?_, by repeat (first | with_reducible exact Off.mix | with_reducible exact Off.refl | ((with_reducible refine Off.upd ?_ ?_); (· rfl))), ⟨rfl, hlt, H⟩, by omega⟩
      rw [hsn]
      first | exact rfl | exact upd_self' rfl rfl | exact upd_self' rfl (upd_self' rfl rfl) | exact upd_self' rfl (upd_self' rfl (upd_self' rfl rfl)) | exact upd_self' rfl (upd_self' rfl (upd_self' rfl (upd_self' rfl rfl)))
  · have hk' : k = p.length := by omega
    subst hk'
    refine wc_exit ?_
    refine wc_seq ?_
    refine wc_region ?_
    (apply ow_move; (· rfl); (· ((conv => lhs; whnf) <;> rfl)))
    (apply ow_assign; (· rfl); (· ((conv => lhs; whnf) <;> rfl)))
    refine ow_nil ?_
    refine wc_ret ?_
    obtain ⟨w, hT, H⟩ := H.takes Try.prog
    refine ⟨.inr rfl, w, hT, _, .tmp .nil, ?_⟩
    exact ⟨rfl, H.none⟩
theorem refWeight_spec (x : RX) (rows : List RowR) (p : List Int) (q : Option Addr) (c : Nat) (h4 : x.ws.length ≤ 4096) (hmay : ∀ z ∈ x.ws, mayW z) (hpl : p.length = x.ws.length) (w0 : World) (hR : Rf (hp w0) x rows) (hs : SlH (hp w0) q (ints .i64 p)) :
    CallsV Try.prog 95 #[.agg ⟨rfV x rows⟩, .slice q p.length c] w0 fun v w => v = .int .i64 (wt0 x.ws p p.length) ∧ St Pu w0 w [] [] := by
  refine callsV_of Try.func95 rfl rfl ?_
  have H := St.init w0
  refine wc_seq ?_
  refine wc_region ?_
  refine ow_box (l := rfV x rows) H rfl rfl rfl (fun b2 w H => ?_)
  (apply ow_assign; (· rfl); (· ((conv => lhs; whnf) <;> rfl)))
  refine ow_nil ?_
  refine wc_seq ?_
  refine wc_region ?_
  (apply ow_assign; (· rfl); (· ((conv => lhs; whnf) <;> rfl)))
  refine ow_nil ?_
  refine wc_seq ?_
  refine wc_seq ?_
  refine wc_region ?_
  (apply ow_assign; (· rfl); (· ((conv => lhs; whnf) <;> rfl)))
  refine ow_nil ?_
  refine wc_block ?_
  refine wc_loopS [5, 6, 7, 8, 9, 10, 11, 12, 13, 14, 15, 16, 17, 18, 19, 20, 21, 22, 23, 24] (fun (s : Nat) e => upd (upd e 5 (.int .i64 (wt0 x.ws p s))) 6 (.int .i64 s)) (fun s D w => D = [] ∧ s ≤ p.length ∧ St Pu w0 w [.row b2 77 (rfV x rows)] []) (fun s _ => p.length - s) 0 (by first | exact rfl | exact upd_self' rfl rfl | exact upd_self' rfl (upd_self' rfl rfl) | exact upd_self' rfl (upd_self' rfl (upd_self' rfl rfl)) | exact upd_self' rfl (upd_self' rfl (upd_self' rfl (upd_self' rfl rfl)))) ⟨rfl, Nat.zero_le _, H⟩ ?_
  clear H
  rintro k j D w ⟨rfl, hk, H⟩
  have h1 := wt0_in hmay p k
  have hsn : wt0 x.ws p (k + 1) = wt0 x.ws p k + (if p.getD k 0 = 0 then x.ws.getD k 0 else 0) := sumN_succ _ _
  refine wc_seq ?_
  refine wc_seq ?_
  refine wc_region ?_
  (apply ow_move; (· rfl); (· ((conv => lhs; whnf) <;> rfl)))
  (apply ow_move; (· rfl); (· ((conv => lhs; whnf) <;> rfl)))
  refine ow_len rfl rfl (tyAt rfl) rfl ?_
  refine ow_lss rfl rfl rfl ?_
  refine ow_nil ?_
  refine wc_cond_dec rfl (fun h => ?_) (fun h => ?_) <;> try dsimp only at h
  · have hlt : k < p.length := by omega
    have hwk := ws_nn hmay k
    have hsx := hs
    have hsw := hR.1
    obtain ⟨bq, oq, rfl⟩ := hs.some_of (by simp; omega)
    obtain ⟨bw, ow, hpw⟩ := hR.1.some_of (by simp; omega)
    rw [hpw] at hsw
    refine wc_skip ?_
    refine wc_seq ?_
    refine wc_block ?_
    refine wc_seq ?_
    refine wc_region ?_
    (apply ow_move; (· rfl); (· ((conv => lhs; whnf) <;> rfl)))
    (apply ow_move; (· rfl); (· ((conv => lhs; whnf) <;> rfl)))
    refine ow_idx1 (j := k) rfl (tyAt rfl) rfl (tyAt rfl) rfl rfl rfl hlt rfl ?_
    refine ow_load rfl (tyAt rfl) rfl rfl ((H.oldSl hsx).int hlt) ?_
    refine ow_eql rfl rfl rfl ?_
    refine ow_nil ?_
    refine wc_cond_dec rfl (fun h => ?_) (fun h => ?_) <;> try dsimp only at h
    · rw [if_pos h] at hsn
      refine wc_region ?_
      (apply ow_move; (· rfl); (· ((conv => lhs; whnf) <;> rfl)))
      refine ow_fieldAddr rfl (tyAt rfl) rfl rfl rfl (tyAt rfl) rfl rfl ?_
      refine ow_load rfl (tyAt rfl) rfl rfl (H.cell (i := 0) rfl rfl) ?_
      rw [hpw]
      (apply ow_move; (· rfl); (· ((conv => lhs; whnf) <;> rfl)))
      refine ow_idx1 (j := k) rfl (tyAt rfl) rfl (tyAt rfl) rfl rfl rfl (by omega) rfl ?_
      refine ow_load rfl (tyAt rfl) rfl rfl ((H.oldSl hsw).int (by omega)) ?_
      refine ow_add rfl rfl rfl (by simp only [InK]; omega) ?_
      (apply ow_assign; (· rfl); (· ((conv => lhs; whnf) <;> rfl)))
      refine ow_nil ?_
      refine wc_region ?_
      (apply ow_move; (· rfl); (· ((conv => lhs; whnf) <;> rfl)))
      refine ow_add rfl rfl rfl (by simp only [InK]; omega) ?_
      (apply ow_assign; (· rfl); (· ((conv => lhs; whnf) <;> rfl)))
      refine ow_nil ?_
      refine ⟨k + 1, ?_, by repeat (first | with_reducible exact Off.mix | with_reducible exact Off.refl | ((with_reducible refine Off.upd ?_ ?_); (· rfl))), ⟨rfl, hlt, H⟩, by omega⟩
      rw [hsn]
      first | exact rfl | exact upd_self' rfl rfl | exact upd_self' rfl (upd_self' rfl rfl) | exact upd_self' rfl (upd_self' rfl (upd_self' rfl rfl)) | exact upd_self' rfl (upd_self' rfl (upd_self' rfl (upd_self' rfl rfl)))
    · rw [if_neg h, Int.add_zero] at hsn
      refine wc_skip ?_
      refine wc_region ?_
      (apply ow_move; (· rfl); (· ((conv => lhs; whnf) <;> rfl)))
      refine ow_add rfl rfl rfl (by simp only [InK]; omega) ?_
      (apply ow_assign; (· rfl); (· ((conv => lhs; whnf) <;> rfl)))
      refine ow_nil ?_
      refine ⟨k + 1, ?_, by repeat (first | with_reducible exact Off.mix | with_reducible exact Off.refl | ((with_reducible refine Off.upd ?_ ?_); (· rfl))), ⟨rfl, hlt, H⟩, by omega⟩
      rw [hsn]
      first | exact rfl | exact upd_self' rfl rfl | exact upd_self' rfl (upd_self' rfl rfl) | exact upd_self' rfl (upd_self' rfl (upd_self' rfl rfl)) | exact upd_self' rfl (upd_self' rfl (upd_self' rfl (upd_self' rfl rfl)))
  · have hk' : k = p.length := by omega
    subst hk'
    refine wc_exit ?_
    refine wc_seq ?_
    refine wc_region ?_
    (apply ow_move; (· rfl); (· ((conv => lhs; whnf) <;> rfl)))
    (apply ow_assign; (· rfl); (· ((conv => lhs; whnf) <;> rfl)))
    refine ow_nil ?_
    refine wc_ret ?_
    obtain ⟨w, hT, H⟩ := H.takes Try.prog
    refine ⟨.inr rfl, w, hT, _, .tmp .nil, ?_⟩
    exact ⟨rfl, H.none⟩
theorem nx_yes {ws pl p : List Int} {room : Int} {k : Nat} (h1 : p.getD k 0 = 1) (h2 : ws.getD k 0 ≤ room) (h3 : nxS ws pl p room k = -1 ∨ pl.getD (nxS ws pl p room k).toNat 0 < pl.getD k 0) : nxS ws pl p room (k + 1) = (k : Int) := by
  rw [nxS_yes h1]; unfold nxF; rw [Int.toNat_natCast, if_pos ⟨h2, h3⟩]
theorem nx_no {ws pl p : List Int} {room : Int} {k : Nat} (h : ¬ (p.getD k 0 = 1 ∧ ws.getD k 0 ≤ room ∧ (nxS ws pl p room k = -1 ∨ pl.getD (nxS ws pl p room k).toNat 0 < pl.getD k 0))) : nxS ws pl p room (k + 1) = nxS ws pl p room k := by
  by_cases h1 : p.getD k 0 = 1
  · rw [nxS_yes h1]; unfold nxF; rw [Int.toNat_natCast, if_neg (fun h' => h ⟨h1, h'⟩)]
  · exact nxS_no h1
theorem refHalve_spec (T : List IE) (x : RX) (rows : List RowR) (most : Int) (hW : Wf T) (hl : T.length = x.ws.length) (h4 : x.ws.length ≤ 4096) (hM : Mx T x.ws.length rows) (hmay : ∀ z ∈ x.ws, mayW z) (hmo : -9223372036854775808 ≤ most ∧ most ≤ 9223372036854775807) (w0 : World) (hR : Rf (hp w0) x rows) :
    CallsV Try.prog 62 #[.agg ⟨rfV x rows⟩, .int .i64 most] w0 fun v w => ∃ p c, v = .slice p (halveL T x.ws most).length c ∧ St Pu w0 w [.app p (halveL T x.ws most).length c 3 1 (ints .i64 (halveL T x.ws most))] [] := by
  refine callsV_of Try.func62 rfl rfl ?_
  have H := St.init w0
  have h0 : ∀ j, j < T.length → 0 ≤ x.ws.getD j 0 := fun j _ => (ws_nn hmay j).1
  have hgi := gi_all h0 most
  have hvl : ∀ k, (hlv T x.ws most k).length = x.ws.length := fun k => by rw [(hgi k).len, hl]
  unfold halveL
  rw [hl, hvl]
  refine wc_seq ?_
  refine wc_region ?_
  refine ow_box (l := rfV x rows) H rfl rfl rfl (fun b2 w H => ?_)
  (apply ow_assign; (· rfl); (· ((conv => lhs; whnf) <;> rfl)))
  refine ow_nil ?_
  refine wc_seq ?_
  refine wc_region ?_
  refine ow_buildSlice0 H rfl (tyAt rfl) rfl (tyAt rfl) (fun ba w H => ?_)
  replace H := H.rowApp (i := 0) (len := 0) (sz := 1) rfl rfl (by omega)
  replace H : St Pu w0 w [.row b2 77 (rfV x rows), .app (some ⟨ba, 0, none⟩) 0 0 3 1 (ints .i64 (List.replicate 0 1))] [] := H.perm (List.Perm.swap _ _ _)
  (apply ow_assign; (· rfl); (· ((conv => lhs; whnf) <;> rfl)))
  refine ow_nil ?_
  refine wc_seq ?_
  refine wc_seq ?_
  refine wc_region ?_
  (apply ow_assign; (· rfl); (· ((conv => lhs; whnf) <;> rfl)))
  refine ow_nil ?_
  refine wc_blockJ [5, 6, 11, 12, 13, 14, 15, 16, 17, 18, 19, 20] (fun (s : Option Addr × Nat) e => upd e 5 (.slice s.1 x.ws.length s.2)) (fun s D w => D = [] ∧ St Pu w0 w [.row b2 77 (rfV x rows), .app s.1 x.ws.length s.2 3 1 (ints .i64 (hlv T x.ws most 0))] []) ?_ ?_
  · refine wc_loopS [5, 6, 11, 12, 13, 14, 15, 16, 17, 18, 19, 20] (fun (s : Nat × Option Addr × Nat) e => upd (upd e 5 (.slice s.2.1 s.1 s.2.2)) 6 (.int .i64 s.1)) (fun s D w => D = [] ∧ s.1 ≤ x.ws.length ∧ St Pu w0 w [.row b2 77 (rfV x rows), .app s.2.1 s.1 s.2.2 3 1 (ints .i64 (List.replicate s.1 1))] []) (fun s _ => x.ws.length - s.1) (0, some ⟨ba, 0, none⟩, 0) (by first | exact rfl | exact upd_self' rfl rfl | exact upd_self' rfl (upd_self' rfl rfl) | exact upd_self' rfl (upd_self' rfl (upd_self' rfl rfl)) | exact upd_self' rfl (upd_self' rfl (upd_self' rfl (upd_self' rfl rfl)))) ⟨rfl, Nat.zero_le _, H⟩ ?_
    clear H
    rintro ⟨i, q5, c5⟩ j D w ⟨rfl, hi, H⟩
    dsimp only at hi H ⊢
    refine wc_seq ?_
    refine wc_seq ?_
    refine wc_region ?_
    (apply ow_move; (· rfl); (· ((conv => lhs; whnf) <;> rfl)))
    refine ow_fieldAddr rfl (tyAt rfl) rfl rfl rfl (tyAt rfl) rfl rfl ?_
    refine ow_load rfl (tyAt rfl) rfl rfl (H.cell (i := 0) rfl rfl) ?_
    refine ow_len rfl rfl (tyAt rfl) rfl ?_
    refine ow_lss rfl rfl rfl ?_
    refine ow_nil ?_
    refine wc_cond_dec rfl (fun h => ?_) (fun h => ?_) <;> try dsimp only at h
    · have hlt : i < x.ws.length := by omega
      have hrp : List.replicate (i + 1) (1 : Int) = List.replicate i 1 ++ [1] := by rw [List.replicate_succ']
      refine wc_skip ?_
      refine wc_seq ?_
      refine wc_block ?_
      refine wc_region ?_
      (apply ow_move; (· rfl); (· ((conv => lhs; whnf) <;> rfl)))
      refine ow_buildSlice1 (vs := [.int .i64 1]) H rfl (tyAt rfl) rfl (tyAt rfl) rfl rfl rfl rfl rfl (by simp [Value.one]) (fun ea w H => ?_)
      refine ow_append (i := 2) H rfl rfl (tyAt rfl) rfl (tyAt rfl) rfl (by decide) rfl rfl (H.rowSl (i := 0) rfl) rfl (by simp [Value.oneCell']) (by dsimp only; omega) (by omega) (fun p1 d1 w H => ?_)
      dsimp only [List.set] at H
      replace H := H.drop
      rw [← ints_snoc1, ← hrp] at H
      (apply ow_assign; (· rfl); (· ((conv => lhs; whnf) <;> rfl)))
      refine ow_nil ?_
      refine wc_region ?_
      (apply ow_move; (· rfl); (· ((conv => lhs; whnf) <;> rfl)))
      refine ow_add rfl rfl rfl (by simp only [InK]; omega) ?_
      (apply ow_assign; (· rfl); (· ((conv => lhs; whnf) <;> rfl)))
      refine ow_nil ?_
      exact ⟨(i + 1, p1, d1), by first | exact rfl | exact upd_self' rfl rfl | exact upd_self' rfl (upd_self' rfl rfl) | exact upd_self' rfl (upd_self' rfl (upd_self' rfl rfl)) | exact upd_self' rfl (upd_self' rfl (upd_self' rfl (upd_self' rfl rfl))), by repeat (first | with_reducible exact Off.mix | with_reducible exact Off.refl | ((with_reducible refine Off.upd ?_ ?_); (· rfl))), ⟨rfl, hlt, H⟩, by dsimp only; omega⟩
    · have hi' : i = x.ws.length := by omega
      subst hi'
      rw [show List.replicate x.ws.length (1 : Int) = hlv T x.ws most 0 by rw [hlv, hl]] at H
      refine wc_exit ?_
      exact ⟨(q5, c5), by first | exact rfl | exact upd_self' rfl rfl | exact upd_self' rfl (upd_self' rfl rfl) | exact upd_self' rfl (upd_self' rfl (upd_self' rfl rfl)) | exact upd_self' rfl (upd_self' rfl (upd_self' rfl (upd_self' rfl rfl))), by repeat (first | with_reducible exact Off.mix | with_reducible exact Off.refl | ((with_reducible refine Off.upd ?_ ?_); (· rfl)) | ((with_reducible refine Off.mixN ?_ ?_); (· rfl))), ⟨rfl, H⟩⟩
  clear H
  rintro ⟨q5, c5⟩ j D w ⟨rfl, H⟩
  dsimp only at H ⊢
  refine wc_seq ?_
  refine wc_seq ?_
  refine wc_region ?_
  (apply ow_assign; (· rfl); (· ((conv => lhs; whnf) <;> rfl)))
  refine ow_nil ?_
  refine wc_blockJ [7, 8, 9, 21, 22, 23, 24, 25, 26, 27, 28, 29, 30, 31, 32, 33, 34, 35, 36, 37, 38, 39, 40, 41, 42, 43, 44, 45, 46, 47, 48, 49, 50, 51, 52, 53, 54, 55, 56, 57, 58, 59, 60, 61, 62, 63, 64, 65, 66, 67, 68, 69, 70, 71, 72] (fun (_ : Unit) e => e) (fun _ D w => D = [] ∧ St Pu w0 w [.row b2 77 (rfV x rows), .app q5 x.ws.length c5 3 1 (ints .i64 (hlv T x.ws most x.ws.length))] []) ?_ ?_
  · refine wc_loopS [7, 8, 9, 21, 22, 23, 24, 25, 26, 27, 28, 29, 30, 31, 32, 33, 34, 35, 36, 37, 38, 39, 40, 41, 42, 43, 44, 45, 46, 47, 48, 49, 50, 51, 52, 53, 54, 55, 56, 57, 58, 59, 60, 61, 62, 63, 64, 65, 66, 67, 68, 69, 70, 71, 72] (fun (s : Nat) e => upd e 7 (.int .i64 s)) (fun s D w => D = [] ∧ s ≤ x.ws.length ∧ St Pu w0 w [.row b2 77 (rfV x rows), .app q5 x.ws.length c5 3 1 (ints .i64 (hlv T x.ws most s))] []) (fun s _ => x.ws.length - s) 0 (by first | exact rfl | exact upd_self' rfl rfl | exact upd_self' rfl (upd_self' rfl rfl) | exact upd_self' rfl (upd_self' rfl (upd_self' rfl rfl)) | exact upd_self' rfl (upd_self' rfl (upd_self' rfl (upd_self' rfl rfl)))) ⟨rfl, Nat.zero_le _, H⟩ ?_
    clear H
    rintro n j D w ⟨rfl, hnn, H⟩
    refine wc_seq ?_
    refine wc_seq ?_
    refine wc_region ?_
    (apply ow_move; (· rfl); (· ((conv => lhs; whnf) <;> rfl)))
    refine ow_fieldAddr rfl (tyAt rfl) rfl rfl rfl (tyAt rfl) rfl rfl ?_
    refine ow_load rfl (tyAt rfl) rfl rfl (H.cell (i := 0) rfl rfl) ?_
    refine ow_len rfl rfl (tyAt rfl) rfl ?_
    refine ow_lss rfl rfl rfl ?_
    refine ow_nil ?_
    refine wc_cond_dec rfl (fun h => ?_) (fun h => ?_) <;> try dsimp only at h
    · have hlt : n < x.ws.length := by omega
      have hg := hgi n
      have hsn : hlv T x.ws most (n + 1) = stp T x.ws most (hlv T x.ws most n) := rfl
      unfold stp at hsn
      generalize hm' : hlv T x.ws most (n + 1) = p' at hsn
      generalize hlv T x.ws most n = p at *
      have hpl : p.length = x.ws.length := by rw [hg.len, hl]
      have hzd : zAt T x.ws most p = nxS x.ws (plL T p) p (most - wt0 x.ws p x.ws.length) x.ws.length := by unfold zAt nxZ nxS sdL; rw [hl, hpl]
      rw [hzd] at hsn
      obtain ⟨g5, rfl⟩ : ∃ g, q5 = some ⟨g, 0, none⟩ := appOk.some (H.cap (i := 1) rfl) (by simp; omega)
      have hwi := wt0_in hmay p x.ws.length
      obtain ⟨W0, hW0⟩ : ∃ W0, wt0 x.ws p x.ws.length = W0 := ⟨_, rfl⟩
      rw [hW0] at hsn hwi
      have hn0 : nxS x.ws (plL T p) p (most - W0) 0 = -1 := rfl
      have hPull := fun (i : Nat) (hi : i < x.ws.length) (w : World) (hR : Rf (hp w) x rows) (hs : SlH (hp w) (some ⟨g5, 0, none⟩) (ints .i64 p)) => refPull_spec T x rows p (some ⟨g5, 0, none⟩) c5 i hW hl h4 hM hpl hi w hR hs
      have hWt := fun (w : World) (hR : Rf (hp w) x rows) (hs : SlH (hp w) (some ⟨g5, 0, none⟩) (ints .i64 p)) => refWeight_spec x rows p (some ⟨g5, 0, none⟩) c5 h4 hmay hpl w hR hs
      rw [hpl] at hPull hWt
      rw [hW0] at hWt
      refine wc_skip ?_
      refine wc_seq ?_
      refine wc_block ?_
      refine wc_seq ?_
      refine wc_region ?_
      (apply ow_assign; (· rfl); (· ((conv => lhs; whnf) <;> rfl)))
      refine ow_nil ?_
      refine wc_seq ?_
      refine wc_seq ?_
      refine wc_region ?_
      (apply ow_assign; (· rfl); (· ((conv => lhs; whnf) <;> rfl)))
      refine ow_nil ?_
      refine wc_blockJ [8, 9, 28, 29, 30, 31, 32, 33, 34, 35, 36, 37, 38, 39, 40, 41, 42, 43, 44, 45, 46, 47, 48, 49, 50, 51, 52, 53, 54, 55, 56, 57, 58, 59, 60, 61, 62, 63, 64, 65, 66, 67] (fun (_ : Unit) e => upd e 8 (.int .i64 (nxS x.ws (plL T p) p (most - W0) x.ws.length))) (fun _ D w => D = [] ∧ St Pu w0 w [.row b2 77 (rfV x rows), .app (some ⟨g5, 0, none⟩) x.ws.length c5 3 1 (ints .i64 p)] []) ?_ ?_
      · refine wc_loopS [8, 9, 28, 29, 30, 31, 32, 33, 34, 35, 36, 37, 38, 39, 40, 41, 42, 43, 44, 45, 46, 47, 48, 49, 50, 51, 52, 53, 54, 55, 56, 57, 58, 59, 60, 61, 62, 63, 64, 65, 66, 67] (fun (s : Nat) e => upd (upd e 8 (.int .i64 (nxS x.ws (plL T p) p (most - W0) s))) 9 (.int .i64 s)) (fun s D w => D = [] ∧ s ≤ x.ws.length ∧ St Pu w0 w [.row b2 77 (rfV x rows), .app (some ⟨g5, 0, none⟩) x.ws.length c5 3 1 (ints .i64 p)] []) (fun s _ => x.ws.length - s) 0 (by first | exact rfl | exact upd_self' rfl rfl | exact upd_self' rfl (upd_self' rfl rfl) | exact upd_self' rfl (upd_self' rfl (upd_self' rfl rfl)) | exact upd_self' rfl (upd_self' rfl (upd_self' rfl (upd_self' rfl rfl)))) ⟨rfl, Nat.zero_le _, H⟩ ?_
        clear H
        rintro k jj D w ⟨rfl, hk, H⟩
        refine wc_seq ?_
        refine wc_seq ?_
        refine wc_region ?_
        (apply ow_move; (· rfl); (· ((conv => lhs; whnf) <;> rfl)))
        (apply ow_move; (· rfl); (· ((conv => lhs; whnf) <;> rfl)))
        refine ow_len rfl rfl (tyAt rfl) rfl ?_
        refine ow_lss rfl rfl rfl ?_
        refine ow_nil ?_
        refine wc_cond_dec rfl (fun h => ?_) (fun h => ?_) <;> try dsimp only at h
        · have hlk : k < x.ws.length := by omega
          clear h
          have hyx := nx_yes (ws := x.ws) (pl := plL T p) (p := p) (room := most - W0) (k := k)
          have hnx := nx_no (ws := x.ws) (pl := plL T p) (p := p) (room := most - W0) (k := k)
          have hch := nxS_char x.ws (plL T p) p (most - W0) k
          generalize nxS x.ws (plL T p) p (most - W0) k = at0 at *
          have hpk : (plL T p).getD k 0 = plT T p k := plL_at (by omega)
          rw [hpk] at hyx hnx
          have hwk := ws_nn hmay k
          have hsw := hR.1
          obtain ⟨bw, ow, hpw⟩ := hR.1.some_of (by simp; omega)
          rw [hpw] at hsw
          refine wc_skip ?_
          refine wc_seq ?_
          refine wc_block ?_
          refine wc_seq ?_
          refine wc_drawK (fun w => St Pu w0 w [.row b2 77 (rfV x rows), .app (some ⟨g5, 0, none⟩) x.ws.length c5 3 1 (ints .i64 p)] []) 99 (by kernel_rfl) (by kernel_rfl) (by intro c e D w h; first | exact h.elim | (rcases h with ⟨h | h, _⟩ <;> cases h)) ?_
          replace H := H.drew
          apply ak_take (i := 0) rfl rfl rfl rfl (by kernel_rfl) (by with_reducible first | exact H | rfl)
          · intro w Q' HS hq; replace H := HS; clear HS; (apply ow_move; (· rfl); (· ((conv => lhs; whnf) <;> rfl))); exact ow_nil hq
          apply ak_take (i := 1) rfl rfl rfl rfl (by kernel_rfl) (by with_reducible first | exact H | rfl)
          · intro w Q' HS hq; replace H := HS; clear HS; (apply ow_move; (· rfl); (· ((conv => lhs; whnf) <;> rfl))); exact ow_nil hq
          apply ak_take (i := 2) rfl rfl rfl rfl (by kernel_rfl) (by with_reducible first | exact H | rfl)
          · intro w Q' HS hq; replace H := HS; clear HS; refine ow_idx1 (j := k) rfl (tyAt rfl) rfl (tyAt rfl) rfl rfl rfl hlk rfl ?_; exact ow_nil hq
          apply ak_take (i := 3) rfl rfl rfl rfl (by kernel_rfl) (by with_reducible first | exact H | rfl)
          · intro w Q' HS hq; replace H := HS; clear HS; refine ow_load rfl (tyAt rfl) rfl rfl (SlH.int (appOk.sl (H.cap (i := 1) rfl)) (by omega)) ?_; exact ow_nil hq
          apply ak_take (i := 4) rfl rfl rfl rfl (by kernel_rfl) (by with_reducible first | exact H | rfl)
          · intro w Q' HS hq; replace H := HS; clear HS; refine ow_eql rfl rfl rfl ?_; exact ow_nil hq
          apply ak_take (i := 5) rfl rfl rfl rfl (by kernel_rfl) (by with_reducible first | exact H | rfl)
          · intro w Q' HS hq; replace H := HS; clear HS; (apply ow_move; (· rfl); (· ((conv => lhs; whnf) <;> rfl))); exact ow_nil hq
          refine ak_guard_dec (dj := 39) rfl (fun h => ?_) (fun h => ?_) <;> try dsimp only at h
          · have hp1 := h
            clear h
            apply ak_take (i := 6) rfl rfl rfl rfl (by kernel_rfl) (by with_reducible first | exact H | rfl)
            · intro w Q' HS hq; replace H := HS; clear HS; refine ow_guard_yes rfl rfl rfl rfl ?_; refine ow_loadA (l := rfV x rows) rfl (tyAt rfl) rfl rfl rfl (H.cells (i := 0) (o := 0) (m := 2) rfl rfl) ?_; exact ow_nil hq
            apply ak_take (i := 7) rfl rfl rfl rfl (by kernel_rfl) (by with_reducible first | exact H | rfl)
            · intro w Q' HS hq; replace H := HS; clear HS; refine ow_guard_yes rfl rfl rfl rfl ?_; (apply ow_move; (· rfl); (· ((conv => lhs; whnf) <;> rfl))); exact ow_nil hq
            apply ak_take (i := 9) rfl rfl rfl rfl (by kernel_rfl) (by with_reducible first | exact H | rfl)
            · intro w Q' HS hq; replace H := HS; clear HS; refine ow_guard_yes rfl rfl rfl rfl ?_; refine ow_fieldAddr rfl (tyAt rfl) rfl rfl rfl (tyAt rfl) rfl rfl ?_; exact ow_nil hq
            apply ak_take (i := 10) rfl rfl rfl rfl (by kernel_rfl) (by with_reducible first | exact H | rfl)
            · intro w Q' HS hq; replace H := HS; clear HS; refine ow_guard_yes rfl rfl rfl rfl ?_; refine ow_load rfl (tyAt rfl) rfl rfl (H.cell (i := 0) rfl rfl) ?_; exact ow_nil hq
            rw [hpw]
            apply ak_take (i := 11) rfl rfl rfl rfl (by kernel_rfl) (by with_reducible first | exact H | rfl)
            · intro w Q' HS hq; replace H := HS; clear HS; refine ow_guard_yes rfl rfl rfl rfl ?_; (apply ow_move; (· rfl); (· ((conv => lhs; whnf) <;> rfl))); exact ow_nil hq
            apply ak_take (i := 12) rfl rfl rfl rfl (by kernel_rfl) (by with_reducible first | exact H | rfl)
            · intro w Q' HS hq; replace H := HS; clear HS; refine ow_guard_yes rfl rfl rfl rfl ?_; refine ow_idx1 (j := k) rfl (tyAt rfl) rfl (tyAt rfl) rfl rfl rfl (by omega) rfl ?_; exact ow_nil hq
            apply ak_take (i := 13) rfl rfl rfl rfl (by kernel_rfl) (by with_reducible first | exact H | rfl)
            · intro w Q' HS hq; replace H := HS; clear HS; refine ow_guard_yes rfl rfl rfl rfl ?_; refine ow_load rfl (tyAt rfl) rfl rfl ((H.oldSl hsw).int (by omega)) ?_; exact ow_nil hq
            apply ak_take (i := 15) rfl rfl rfl rfl (by kernel_rfl) (by with_reducible first | exact H | rfl)
            · intro w Q' HS hq; replace H := HS; clear HS; refine ow_guard_yes rfl rfl rfl rfl ?_; (apply ow_move; (· rfl); (· ((conv => lhs; whnf) <;> rfl))); exact ow_nil hq
            apply ak_one (i := 8)
            · kernel_rfl
            · rfl
            · rfl
            refine ow_guard_yes rfl rfl rfl rfl ?_
            refine ow_call rfl rfl (ent (by kernel_rfl)) (CallsV.mono (hWt _ (Rf.old H hR) (appOk.sl (H.cap (i := 1) rfl))) ?_) rfl
            rintro v w ⟨rfl, H'⟩
            replace H := H.call H'
            rw [List.nil_append] at H
            clear H'
            refine ow_nil ⟨fun _ => H, ?_⟩
            apply ak_take (i := 14) rfl rfl rfl rfl (by kernel_rfl) (by with_reducible first | exact H | rfl)
            · intro w Q' HS hq; replace H := HS; clear HS; refine ow_guard_yes rfl rfl rfl rfl ?_; refine ow_add rfl rfl rfl (by simp only [InK]; omega) ?_; exact ow_nil hq
            apply ak_take (i := 16) rfl rfl rfl rfl (by kernel_rfl) (by with_reducible first | exact H | rfl)
            · intro w Q' HS hq; replace H := HS; clear HS; refine ow_guard_yes rfl rfl rfl rfl ?_; refine ow_leq rfl rfl rfl ?_; exact ow_nil hq
            apply ak_take (i := 17) rfl rfl rfl rfl (by kernel_rfl) (by with_reducible first | exact H | rfl)
            · intro w Q' HS hq; replace H := HS; clear HS; (apply ow_pick_t; (· rfl); (· rfl); (· ((conv => lhs; whnf) <;> rfl))); exact ow_nil hq
            apply ak_take (i := 18) rfl rfl rfl rfl (by kernel_rfl) (by with_reducible first | exact H | rfl)
            · intro w Q' HS hq; replace H := HS; clear HS; (apply ow_move; (· rfl); (· ((conv => lhs; whnf) <;> rfl))); exact ow_nil hq
            refine ak_guard_dec (dj := 52) rfl (fun h => ?_) (fun h => ?_) <;> try dsimp only at h
            · have hwl : x.ws.getD k 0 ≤ most - W0 := by omega
              clear h
              apply ak_take (i := 19) rfl rfl rfl rfl (by kernel_rfl) (by with_reducible first | exact H | rfl)
              · intro w Q' HS hq; replace H := HS; clear HS; refine ow_guard_yes rfl rfl rfl rfl ?_; (apply ow_move; (· rfl); (· ((conv => lhs; whnf) <;> rfl))); exact ow_nil hq
              apply ak_take (i := 20) rfl rfl rfl rfl (by kernel_rfl) (by with_reducible first | exact H | rfl)
              · intro w Q' HS hq; replace H := HS; clear HS; refine ow_guard_yes rfl rfl rfl rfl ?_; refine ow_lss rfl rfl rfl ?_; exact ow_nil hq
              apply ak_take (i := 21) rfl rfl rfl rfl (by kernel_rfl) (by with_reducible first | exact H | rfl)
              · intro w Q' HS hq; replace H := HS; clear HS; refine ow_guard_yes rfl rfl rfl rfl ?_; (apply ow_move; (· rfl); (· ((conv => lhs; whnf) <;> rfl))); exact ow_nil hq
              refine ak_guard_dec (dj := 55) rfl (fun h => ?_) (fun h => ?_) <;> try dsimp only at h
              · have hat : at0 = -1 := by
                  rcases hch with ⟨h1, _⟩ | ⟨z, _, h1, _⟩
                  · exact h1
                  · omega
                apply ak_take (i := 22) rfl rfl rfl rfl (by kernel_rfl) (by with_reducible first | exact H | rfl)
                · intro w Q' HS hq; replace H := HS; clear HS; refine ow_guard_no rfl rfl rfl rfl rfl rfl rfl ?_; exact ow_nil hq
                apply ak_take (i := 23) rfl rfl rfl rfl (by kernel_rfl) (by with_reducible first | exact H | rfl)
                · intro w Q' HS hq; replace H := HS; clear HS; refine ow_guard_no rfl rfl rfl rfl rfl rfl rfl ?_; exact ow_nil hq
                apply ak_take (i := 24) rfl rfl rfl rfl (by kernel_rfl) (by with_reducible first | exact H | rfl)
                · intro w Q' HS hq; replace H := HS; clear HS; refine ow_guard_no rfl rfl rfl rfl rfl rfl rfl ?_; exact ow_nil hq
                apply ak_take (i := 26) rfl rfl rfl rfl (by kernel_rfl) (by with_reducible first | exact H | rfl)
                · intro w Q' HS hq; replace H := HS; clear HS; refine ow_guard_no rfl rfl rfl rfl rfl rfl rfl ?_; exact ow_nil hq
                apply ak_take (i := 27) rfl rfl rfl rfl (by kernel_rfl) (by with_reducible first | exact H | rfl)
                · intro w Q' HS hq; replace H := HS; clear HS; refine ow_guard_no rfl rfl rfl rfl rfl rfl rfl ?_; exact ow_nil hq
                apply ak_take (i := 28) rfl rfl rfl rfl (by kernel_rfl) (by with_reducible first | exact H | rfl)
                · intro w Q' HS hq; replace H := HS; clear HS; refine ow_guard_no rfl rfl rfl rfl rfl rfl rfl ?_; exact ow_nil hq
                apply ak_one (i := 25)
                · kernel_rfl
                · rfl
                · rfl
                first
                  | refine ow_guard_no rfl rfl rfl rfl rfl rfl rfl ?_
                  | refine ow_guard_un rfl rfl rfl rfl rfl rfl ?_
                refine ow_nil ⟨fun _ => H, ?_⟩
                apply ak_one (i := 29)
                · kernel_rfl
                · rfl
                · rfl
                first
                  | refine ow_guard_no rfl rfl rfl rfl rfl rfl rfl ?_
                  | refine ow_guard_un rfl rfl rfl rfl rfl rfl ?_
                refine ow_nil ⟨fun _ => H, ?_⟩
                apply ak_take (i := 30) rfl rfl rfl rfl (by kernel_rfl) (by with_reducible first | exact H | rfl)
                · intro w Q' HS hq; replace H := HS; clear HS; refine ow_guard_no rfl rfl rfl rfl rfl rfl rfl ?_; exact ow_nil hq
                apply ak_take (i := 31) rfl rfl rfl rfl (by kernel_rfl) (by with_reducible first | exact H | rfl)
                · intro w Q' HS hq; replace H := HS; clear HS; refine ow_guard_yes rfl rfl rfl rfl ?_; (apply ow_pick_t; (· rfl); (· rfl); (· ((conv => lhs; whnf) <;> rfl))); exact ow_nil hq
                apply ak_take (i := 32) rfl rfl rfl rfl (by kernel_rfl) (by with_reducible first | exact H | rfl)
                · intro w Q' HS hq; replace H := HS; clear HS; (apply ow_pick_t; (· rfl); (· rfl); (· ((conv => lhs; whnf) <;> rfl))); exact ow_nil hq
                refine ak_done (by kernel_rfl) ?_
                refine wc_cond_true rfl ?_
                refine wc_region ?_
                (apply ow_move; (· rfl); (· ((conv => lhs; whnf) <;> rfl)))
                (apply ow_assign; (· rfl); (· ((conv => lhs; whnf) <;> rfl)))
                refine ow_nil ?_
                refine wc_region ?_
                (apply ow_move; (· rfl); (· ((conv => lhs; whnf) <;> rfl)))
                refine ow_add rfl rfl rfl (by simp only [InK]; omega) ?_
                (apply ow_assign; (· rfl); (· ((conv => lhs; whnf) <;> rfl)))
                refine ow_nil ?_
                refine ⟨k + 1, ?_, by repeat (first | with_reducible exact Off.mix | with_reducible exact Off.refl | ((with_reducible refine Off.upd ?_ ?_); (· rfl))), ⟨rfl, by omega, H⟩, by omega⟩
                rw [hyx hp1 hwl (.inl hat)]
                first | exact rfl | exact upd_self' rfl rfl | exact upd_self' rfl (upd_self' rfl rfl) | exact upd_self' rfl (upd_self' rfl (upd_self' rfl rfl)) | exact upd_self' rfl (upd_self' rfl (upd_self' rfl (upd_self' rfl rfl)))
              · have hz : ∃ z : Nat, z < k ∧ at0 = (z : Int) := by
                  rcases hch with ⟨h1, _⟩ | ⟨z, hz, h1, _⟩
                  · omega
                  · exact ⟨z, hz, h1⟩
                clear h
                obtain ⟨z, hz, rfl⟩ := hz
                have hpz : (plL T p).getD z 0 = plT T p z := plL_at (by omega)
                rw [Int.toNat_natCast, hpz] at hyx hnx
                apply ak_take (i := 22) rfl rfl rfl rfl (by kernel_rfl) (by with_reducible first | exact H | rfl)
                · intro w Q' HS hq; replace H := HS; clear HS; refine ow_guard_yes rfl rfl rfl rfl ?_; refine ow_loadA (l := rfV x rows) rfl (tyAt rfl) rfl rfl rfl (H.cells (i := 0) (o := 0) (m := 2) rfl rfl) ?_; exact ow_nil hq
                apply ak_take (i := 23) rfl rfl rfl rfl (by kernel_rfl) (by with_reducible first | exact H | rfl)
                · intro w Q' HS hq; replace H := HS; clear HS; refine ow_guard_yes rfl rfl rfl rfl ?_; (apply ow_move; (· rfl); (· ((conv => lhs; whnf) <;> rfl))); exact ow_nil hq
                apply ak_take (i := 24) rfl rfl rfl rfl (by kernel_rfl) (by with_reducible first | exact H | rfl)
                · intro w Q' HS hq; replace H := HS; clear HS; refine ow_guard_yes rfl rfl rfl rfl ?_; (apply ow_move; (· rfl); (· ((conv => lhs; whnf) <;> rfl))); exact ow_nil hq
                apply ak_take (i := 26) rfl rfl rfl rfl (by kernel_rfl) (by with_reducible first | exact H | rfl)
                · intro w Q' HS hq; replace H := HS; clear HS; refine ow_guard_yes rfl rfl rfl rfl ?_; refine ow_loadA (l := rfV x rows) rfl (tyAt rfl) rfl rfl rfl (H.cells (i := 0) (o := 0) (m := 2) rfl rfl) ?_; exact ow_nil hq
                apply ak_take (i := 27) rfl rfl rfl rfl (by kernel_rfl) (by with_reducible first | exact H | rfl)
                · intro w Q' HS hq; replace H := HS; clear HS; refine ow_guard_yes rfl rfl rfl rfl ?_; (apply ow_move; (· rfl); (· ((conv => lhs; whnf) <;> rfl))); exact ow_nil hq
                apply ak_take (i := 28) rfl rfl rfl rfl (by kernel_rfl) (by with_reducible first | exact H | rfl)
                · intro w Q' HS hq; replace H := HS; clear HS; refine ow_guard_yes rfl rfl rfl rfl ?_; (apply ow_move; (· rfl); (· ((conv => lhs; whnf) <;> rfl))); exact ow_nil hq
                apply ak_one (i := 25)
                · kernel_rfl
                · rfl
                · rfl
                refine ow_guard_yes rfl rfl rfl rfl ?_
                refine ow_call rfl rfl (ent (by kernel_rfl)) (CallsV.mono (hPull k hlk _ (Rf.old H hR) (appOk.sl (H.cap (i := 1) rfl))) ?_) rfl
                rintro v w ⟨rfl, H'⟩
                replace H := H.call H'
                rw [List.nil_append] at H
                clear H'
                refine ow_nil ⟨fun _ => H, ?_⟩
                apply ak_one (i := 29)
                · kernel_rfl
                · rfl
                · rfl
                refine ow_guard_yes rfl rfl rfl rfl ?_
                refine ow_call rfl rfl (ent (by kernel_rfl)) (CallsV.mono (hPull z (by omega) _ (Rf.old H hR) (appOk.sl (H.cap (i := 1) rfl))) ?_) rfl
                rintro v w ⟨rfl, H'⟩
                replace H := H.call H'
                rw [List.nil_append] at H
                clear H'
                refine ow_nil ⟨fun _ => H, ?_⟩
                apply ak_take (i := 30) rfl rfl rfl rfl (by kernel_rfl) (by with_reducible first | exact H | rfl)
                · intro w Q' HS hq; replace H := HS; clear HS; refine ow_guard_yes rfl rfl rfl rfl ?_; refine ow_gtr rfl rfl rfl ?_; exact ow_nil hq
                apply ak_take (i := 31) rfl rfl rfl rfl (by kernel_rfl) (by with_reducible first | exact H | rfl)
                · intro w Q' HS hq; replace H := HS; clear HS; refine ow_guard_yes rfl rfl rfl rfl ?_; (apply ow_pick_f; (· rfl); (· rfl); (· ((conv => lhs; whnf) <;> rfl))); exact ow_nil hq
                apply ak_take (i := 32) rfl rfl rfl rfl (by kernel_rfl) (by with_reducible first | exact H | rfl)
                · intro w Q' HS hq; replace H := HS; clear HS; (apply ow_pick_t; (· rfl); (· rfl); (· ((conv => lhs; whnf) <;> rfl))); exact ow_nil hq
                refine ak_done (by kernel_rfl) ?_
                skip
                refine wc_cond_dec rfl (fun h => ?_) (fun h => ?_) <;> try dsimp only at h
                · refine wc_region ?_
                  (apply ow_move; (· rfl); (· ((conv => lhs; whnf) <;> rfl)))
                  (apply ow_assign; (· rfl); (· ((conv => lhs; whnf) <;> rfl)))
                  refine ow_nil ?_
                  refine wc_region ?_
                  (apply ow_move; (· rfl); (· ((conv => lhs; whnf) <;> rfl)))
                  refine ow_add rfl rfl rfl (by simp only [InK]; omega) ?_
                  (apply ow_assign; (· rfl); (· ((conv => lhs; whnf) <;> rfl)))
                  refine ow_nil ?_
                  refine ⟨k + 1, ?_, by repeat (first | with_reducible exact Off.mix | with_reducible exact Off.refl | ((with_reducible refine Off.upd ?_ ?_); (· rfl))), ⟨rfl, by omega, H⟩, by omega⟩
                  rw [hyx hp1 hwl (.inr (by omega))]
                  first | exact rfl | exact upd_self' rfl rfl | exact upd_self' rfl (upd_self' rfl rfl) | exact upd_self' rfl (upd_self' rfl (upd_self' rfl rfl)) | exact upd_self' rfl (upd_self' rfl (upd_self' rfl (upd_self' rfl rfl)))
                · refine wc_skip ?_
                  refine wc_region ?_
                  (apply ow_move; (· rfl); (· ((conv => lhs; whnf) <;> rfl)))
                  refine ow_add rfl rfl rfl (by simp only [InK]; omega) ?_
                  (apply ow_assign; (· rfl); (· ((conv => lhs; whnf) <;> rfl)))
                  refine ow_nil ?_
                  refine ⟨k + 1, ?_, by repeat (first | with_reducible exact Off.mix | with_reducible exact Off.refl | ((with_reducible refine Off.upd ?_ ?_); (· rfl))), ⟨rfl, by omega, H⟩, by omega⟩
                  rw [hnx (fun h' => h'.2.2.elim (fun h1 => by omega) (fun h1 => by omega))]
                  first | exact rfl | exact upd_self' rfl rfl | exact upd_self' rfl (upd_self' rfl rfl) | exact upd_self' rfl (upd_self' rfl (upd_self' rfl rfl)) | exact upd_self' rfl (upd_self' rfl (upd_self' rfl (upd_self' rfl rfl)))
            · apply ak_take (i := 19) rfl rfl rfl rfl (by kernel_rfl) (by with_reducible first | exact H | rfl)
              · intro w Q' HS hq; replace H := HS; clear HS; refine ow_guard_no rfl rfl rfl rfl rfl rfl rfl ?_; exact ow_nil hq
              apply ak_take (i := 20) rfl rfl rfl rfl (by kernel_rfl) (by with_reducible first | exact H | rfl)
              · intro w Q' HS hq; replace H := HS; clear HS; refine ow_guard_no rfl rfl rfl rfl rfl rfl rfl ?_; exact ow_nil hq
              apply ak_take (i := 21) rfl rfl rfl rfl (by kernel_rfl) (by with_reducible first | exact H | rfl)
              · intro w Q' HS hq; replace H := HS; clear HS; refine ow_guard_no rfl rfl rfl rfl rfl rfl rfl ?_; exact ow_nil hq
              apply ak_take (i := 22) rfl rfl rfl rfl (by kernel_rfl) (by with_reducible first | exact H | rfl)
              · intro w Q' HS hq; replace H := HS; clear HS; refine ow_guard_un rfl rfl rfl rfl rfl rfl ?_; exact ow_nil hq
              apply ak_take (i := 23) rfl rfl rfl rfl (by kernel_rfl) (by with_reducible first | exact H | rfl)
              · intro w Q' HS hq; replace H := HS; clear HS; refine ow_guard_un rfl rfl rfl rfl rfl rfl ?_; exact ow_nil hq
              apply ak_take (i := 24) rfl rfl rfl rfl (by kernel_rfl) (by with_reducible first | exact H | rfl)
              · intro w Q' HS hq; replace H := HS; clear HS; refine ow_guard_un rfl rfl rfl rfl rfl rfl ?_; exact ow_nil hq
              apply ak_take (i := 26) rfl rfl rfl rfl (by kernel_rfl) (by with_reducible first | exact H | rfl)
              · intro w Q' HS hq; replace H := HS; clear HS; refine ow_guard_un rfl rfl rfl rfl rfl rfl ?_; exact ow_nil hq
              apply ak_take (i := 27) rfl rfl rfl rfl (by kernel_rfl) (by with_reducible first | exact H | rfl)
              · intro w Q' HS hq; replace H := HS; clear HS; refine ow_guard_un rfl rfl rfl rfl rfl rfl ?_; exact ow_nil hq
              apply ak_take (i := 28) rfl rfl rfl rfl (by kernel_rfl) (by with_reducible first | exact H | rfl)
              · intro w Q' HS hq; replace H := HS; clear HS; refine ow_guard_un rfl rfl rfl rfl rfl rfl ?_; exact ow_nil hq
              apply ak_one (i := 25)
              · kernel_rfl
              · rfl
              · rfl
              first
                | refine ow_guard_no rfl rfl rfl rfl rfl rfl rfl ?_
                | refine ow_guard_un rfl rfl rfl rfl rfl rfl ?_
              refine ow_nil ⟨fun _ => H, ?_⟩
              apply ak_one (i := 29)
              · kernel_rfl
              · rfl
              · rfl
              first
                | refine ow_guard_no rfl rfl rfl rfl rfl rfl rfl ?_
                | refine ow_guard_un rfl rfl rfl rfl rfl rfl ?_
              refine ow_nil ⟨fun _ => H, ?_⟩
              apply ak_take (i := 30) rfl rfl rfl rfl (by kernel_rfl) (by with_reducible first | exact H | rfl)
              · intro w Q' HS hq; replace H := HS; clear HS; refine ow_guard_un rfl rfl rfl rfl rfl rfl ?_; exact ow_nil hq
              apply ak_take (i := 31) rfl rfl rfl rfl (by kernel_rfl) (by with_reducible first | exact H | rfl)
              · intro w Q' HS hq; replace H := HS; clear HS; refine ow_guard_no rfl rfl rfl rfl rfl rfl rfl ?_; exact ow_nil hq
              apply ak_take (i := 32) rfl rfl rfl rfl (by kernel_rfl) (by with_reducible first | exact H | rfl)
              · intro w Q' HS hq; replace H := HS; clear HS; (apply ow_pick_f; (· rfl); (· rfl); (· ((conv => lhs; whnf) <;> rfl))); exact ow_nil hq
              refine ak_done (by kernel_rfl) ?_
              refine wc_cond_false rfl ?_
              refine wc_skip ?_
              refine wc_region ?_
              (apply ow_move; (· rfl); (· ((conv => lhs; whnf) <;> rfl)))
              refine ow_add rfl rfl rfl (by simp only [InK]; omega) ?_
              (apply ow_assign; (· rfl); (· ((conv => lhs; whnf) <;> rfl)))
              refine ow_nil ?_
              refine ⟨k + 1, ?_, by repeat (first | with_reducible exact Off.mix | with_reducible exact Off.refl | ((with_reducible refine Off.upd ?_ ?_); (· rfl))), ⟨rfl, by omega, H⟩, by omega⟩
              rw [hnx (fun h' => by omega)]
              first | exact rfl | exact upd_self' rfl rfl | exact upd_self' rfl (upd_self' rfl rfl) | exact upd_self' rfl (upd_self' rfl (upd_self' rfl rfl)) | exact upd_self' rfl (upd_self' rfl (upd_self' rfl (upd_self' rfl rfl)))
          · apply ak_take (i := 6) rfl rfl rfl rfl (by kernel_rfl) (by with_reducible first | exact H | rfl)
            · intro w Q' HS hq; replace H := HS; clear HS; refine ow_guard_no rfl rfl rfl rfl rfl rfl rfl ?_; exact ow_nil hq
            apply ak_take (i := 7) rfl rfl rfl rfl (by kernel_rfl) (by with_reducible first | exact H | rfl)
            · intro w Q' HS hq; replace H := HS; clear HS; refine ow_guard_no rfl rfl rfl rfl rfl rfl rfl ?_; exact ow_nil hq
            apply ak_take (i := 9) rfl rfl rfl rfl (by kernel_rfl) (by with_reducible first | exact H | rfl)
            · intro w Q' HS hq; replace H := HS; clear HS; refine ow_guard_no rfl rfl rfl rfl rfl rfl rfl ?_; exact ow_nil hq
            apply ak_take (i := 10) rfl rfl rfl rfl (by kernel_rfl) (by with_reducible first | exact H | rfl)
            · intro w Q' HS hq; replace H := HS; clear HS; refine ow_guard_no rfl rfl rfl rfl rfl rfl rfl ?_; exact ow_nil hq
            apply ak_take (i := 11) rfl rfl rfl rfl (by kernel_rfl) (by with_reducible first | exact H | rfl)
            · intro w Q' HS hq; replace H := HS; clear HS; refine ow_guard_no rfl rfl rfl rfl rfl rfl rfl ?_; exact ow_nil hq
            apply ak_take (i := 12) rfl rfl rfl rfl (by kernel_rfl) (by with_reducible first | exact H | rfl)
            · intro w Q' HS hq; replace H := HS; clear HS; refine ow_guard_no rfl rfl rfl rfl rfl rfl rfl ?_; exact ow_nil hq
            apply ak_take (i := 13) rfl rfl rfl rfl (by kernel_rfl) (by with_reducible first | exact H | rfl)
            · intro w Q' HS hq; replace H := HS; clear HS; refine ow_guard_no rfl rfl rfl rfl rfl rfl rfl ?_; exact ow_nil hq
            apply ak_take (i := 15) rfl rfl rfl rfl (by kernel_rfl) (by with_reducible first | exact H | rfl)
            · intro w Q' HS hq; replace H := HS; clear HS; refine ow_guard_no rfl rfl rfl rfl rfl rfl rfl ?_; exact ow_nil hq
            apply ak_one (i := 8)
            · kernel_rfl
            · rfl
            · rfl
            first
              | refine ow_guard_no rfl rfl rfl rfl rfl rfl rfl ?_
              | refine ow_guard_un rfl rfl rfl rfl rfl rfl ?_
            refine ow_nil ⟨fun _ => H, ?_⟩
            apply ak_take (i := 14) rfl rfl rfl rfl (by kernel_rfl) (by with_reducible first | exact H | rfl)
            · intro w Q' HS hq; replace H := HS; clear HS; refine ow_guard_no rfl rfl rfl rfl rfl rfl rfl ?_; exact ow_nil hq
            apply ak_take (i := 16) rfl rfl rfl rfl (by kernel_rfl) (by with_reducible first | exact H | rfl)
            · intro w Q' HS hq; replace H := HS; clear HS; refine ow_guard_no rfl rfl rfl rfl rfl rfl rfl ?_; exact ow_nil hq
            apply ak_take (i := 17) rfl rfl rfl rfl (by kernel_rfl) (by with_reducible first | exact H | rfl)
            · intro w Q' HS hq; replace H := HS; clear HS; (apply ow_pick_f; (· rfl); (· rfl); (· ((conv => lhs; whnf) <;> rfl))); exact ow_nil hq
            apply ak_take (i := 18) rfl rfl rfl rfl (by kernel_rfl) (by with_reducible first | exact H | rfl)
            · intro w Q' HS hq; replace H := HS; clear HS; (apply ow_move; (· rfl); (· ((conv => lhs; whnf) <;> rfl))); exact ow_nil hq
            apply ak_take (i := 19) rfl rfl rfl rfl (by kernel_rfl) (by with_reducible first | exact H | rfl)
            · intro w Q' HS hq; replace H := HS; clear HS; refine ow_guard_no rfl rfl rfl rfl rfl rfl rfl ?_; exact ow_nil hq
            apply ak_take (i := 20) rfl rfl rfl rfl (by kernel_rfl) (by with_reducible first | exact H | rfl)
            · intro w Q' HS hq; replace H := HS; clear HS; refine ow_guard_no rfl rfl rfl rfl rfl rfl rfl ?_; exact ow_nil hq
            apply ak_take (i := 21) rfl rfl rfl rfl (by kernel_rfl) (by with_reducible first | exact H | rfl)
            · intro w Q' HS hq; replace H := HS; clear HS; refine ow_guard_no rfl rfl rfl rfl rfl rfl rfl ?_; exact ow_nil hq
            apply ak_take (i := 22) rfl rfl rfl rfl (by kernel_rfl) (by with_reducible first | exact H | rfl)
            · intro w Q' HS hq; replace H := HS; clear HS; refine ow_guard_un rfl rfl rfl rfl rfl rfl ?_; exact ow_nil hq
            apply ak_take (i := 23) rfl rfl rfl rfl (by kernel_rfl) (by with_reducible first | exact H | rfl)
            · intro w Q' HS hq; replace H := HS; clear HS; refine ow_guard_un rfl rfl rfl rfl rfl rfl ?_; exact ow_nil hq
            apply ak_take (i := 24) rfl rfl rfl rfl (by kernel_rfl) (by with_reducible first | exact H | rfl)
            · intro w Q' HS hq; replace H := HS; clear HS; refine ow_guard_un rfl rfl rfl rfl rfl rfl ?_; exact ow_nil hq
            apply ak_take (i := 26) rfl rfl rfl rfl (by kernel_rfl) (by with_reducible first | exact H | rfl)
            · intro w Q' HS hq; replace H := HS; clear HS; refine ow_guard_un rfl rfl rfl rfl rfl rfl ?_; exact ow_nil hq
            apply ak_take (i := 27) rfl rfl rfl rfl (by kernel_rfl) (by with_reducible first | exact H | rfl)
            · intro w Q' HS hq; replace H := HS; clear HS; refine ow_guard_un rfl rfl rfl rfl rfl rfl ?_; exact ow_nil hq
            apply ak_take (i := 28) rfl rfl rfl rfl (by kernel_rfl) (by with_reducible first | exact H | rfl)
            · intro w Q' HS hq; replace H := HS; clear HS; refine ow_guard_un rfl rfl rfl rfl rfl rfl ?_; exact ow_nil hq
            apply ak_one (i := 25)
            · kernel_rfl
            · rfl
            · rfl
            first
              | refine ow_guard_no rfl rfl rfl rfl rfl rfl rfl ?_
              | refine ow_guard_un rfl rfl rfl rfl rfl rfl ?_
            refine ow_nil ⟨fun _ => H, ?_⟩
            apply ak_one (i := 29)
            · kernel_rfl
            · rfl
            · rfl
            first
              | refine ow_guard_no rfl rfl rfl rfl rfl rfl rfl ?_
              | refine ow_guard_un rfl rfl rfl rfl rfl rfl ?_
            refine ow_nil ⟨fun _ => H, ?_⟩
            apply ak_take (i := 30) rfl rfl rfl rfl (by kernel_rfl) (by with_reducible first | exact H | rfl)
            · intro w Q' HS hq; replace H := HS; clear HS; refine ow_guard_un rfl rfl rfl rfl rfl rfl ?_; exact ow_nil hq
            apply ak_take (i := 31) rfl rfl rfl rfl (by kernel_rfl) (by with_reducible first | exact H | rfl)
            · intro w Q' HS hq; replace H := HS; clear HS; refine ow_guard_no rfl rfl rfl rfl rfl rfl rfl ?_; exact ow_nil hq
            apply ak_take (i := 32) rfl rfl rfl rfl (by kernel_rfl) (by with_reducible first | exact H | rfl)
            · intro w Q' HS hq; replace H := HS; clear HS; (apply ow_pick_f; (· rfl); (· rfl); (· ((conv => lhs; whnf) <;> rfl))); exact ow_nil hq
            refine ak_done (by kernel_rfl) ?_
            refine wc_cond_false rfl ?_
            refine wc_skip ?_
            refine wc_region ?_
            (apply ow_move; (· rfl); (· ((conv => lhs; whnf) <;> rfl)))
            refine ow_add rfl rfl rfl (by simp only [InK]; omega) ?_
            (apply ow_assign; (· rfl); (· ((conv => lhs; whnf) <;> rfl)))
            refine ow_nil ?_
            refine ⟨k + 1, ?_, by repeat (first | with_reducible exact Off.mix | with_reducible exact Off.refl | ((with_reducible refine Off.upd ?_ ?_); (· rfl))), ⟨rfl, by omega, H⟩, by omega⟩
            rw [hnx (fun h' => h h'.1)]
            first | exact rfl | exact upd_self' rfl rfl | exact upd_self' rfl (upd_self' rfl rfl) | exact upd_self' rfl (upd_self' rfl (upd_self' rfl rfl)) | exact upd_self' rfl (upd_self' rfl (upd_self' rfl (upd_self' rfl rfl)))
        · have hk' : k = x.ws.length := by omega
          subst hk'
          refine wc_exit ?_
          exact ⟨(), by first | exact rfl | exact upd_self' rfl rfl | exact upd_self' rfl (upd_self' rfl rfl) | exact upd_self' rfl (upd_self' rfl (upd_self' rfl rfl)) | exact upd_self' rfl (upd_self' rfl (upd_self' rfl (upd_self' rfl rfl))), by repeat (first | with_reducible exact Off.mix | with_reducible exact Off.refl | ((with_reducible refine Off.upd ?_ ?_); (· rfl)) | ((with_reducible refine Off.mixN ?_ ?_); (· rfl))), ⟨rfl, H⟩⟩
      clear H
      rintro _ jj D w ⟨rfl, H⟩
      have hch := nxS_char x.ws (plL T p) p (most - W0) x.ws.length
      generalize nxS x.ws (plL T p) p (most - W0) x.ws.length = z0 at hch hsn ⊢
      rcases hch with ⟨rfl, _⟩ | ⟨z, hz, rfl, _⟩
      · rw [if_pos rfl] at hsn
        rw [← hsn] at H
        refine wc_seq ?_
        refine wc_region ?_
        (apply ow_move; (· rfl); (· ((conv => lhs; whnf) <;> rfl)))
        refine ow_geq rfl rfl rfl ?_
        refine ow_nil ?_
        refine wc_cond_false rfl ?_
        refine wc_skip ?_
        refine wc_region ?_
        (apply ow_move; (· rfl); (· ((conv => lhs; whnf) <;> rfl)))
        refine ow_add rfl rfl rfl (by simp only [InK]; omega) ?_
        (apply ow_assign; (· rfl); (· ((conv => lhs; whnf) <;> rfl)))
        refine ow_nil ?_
        exact ⟨n + 1, by first | exact rfl | exact upd_self' rfl rfl | exact upd_self' rfl (upd_self' rfl rfl) | exact upd_self' rfl (upd_self' rfl (upd_self' rfl rfl)) | exact upd_self' rfl (upd_self' rfl (upd_self' rfl (upd_self' rfl rfl))), by repeat (first | with_reducible exact Off.mix | with_reducible exact Off.refl | ((with_reducible refine Off.upd ?_ ?_); (· rfl)) | ((with_reducible refine Off.mixN ?_ ?_); (· rfl))), ⟨rfl, hlt, by rw [hm']; exact H⟩, by omega⟩
      · rw [if_neg (by omega), Int.toNat_natCast] at hsn
        refine wc_seq ?_
        refine wc_region ?_
        (apply ow_move; (· rfl); (· ((conv => lhs; whnf) <;> rfl)))
        refine ow_geq rfl rfl rfl ?_
        refine ow_nil ?_
        refine wc_cond_true rfl ?_
        refine wc_region ?_
        (apply ow_move; (· rfl); (· ((conv => lhs; whnf) <;> rfl)))
        (apply ow_move; (· rfl); (· ((conv => lhs; whnf) <;> rfl)))
        refine ow_idx1 (j := z) rfl (tyAt rfl) rfl (tyAt rfl) rfl rfl rfl hz rfl ?_
        refine ow_storeApp (i := 1) (o := 0 + z) (v := .int .i64 0) H (tyAt rfl) rfl rfl rfl rfl rfl (by simp; omega) (fun w H => ?_)
        dsimp only [List.set] at H
        rw [Nat.zero_add, intsI_set, ← hsn] at H
        refine ow_nil ?_
        refine wc_region ?_
        (apply ow_move; (· rfl); (· ((conv => lhs; whnf) <;> rfl)))
        refine ow_add rfl rfl rfl (by simp only [InK]; omega) ?_
        (apply ow_assign; (· rfl); (· ((conv => lhs; whnf) <;> rfl)))
        refine ow_nil ?_
        exact ⟨n + 1, by first | exact rfl | exact upd_self' rfl rfl | exact upd_self' rfl (upd_self' rfl rfl) | exact upd_self' rfl (upd_self' rfl (upd_self' rfl rfl)) | exact upd_self' rfl (upd_self' rfl (upd_self' rfl (upd_self' rfl rfl))), by repeat (first | with_reducible exact Off.mix | with_reducible exact Off.refl | ((with_reducible refine Off.upd ?_ ?_); (· rfl)) | ((with_reducible refine Off.mixN ?_ ?_); (· rfl))), ⟨rfl, hlt, by rw [hm']; exact H⟩, by omega⟩
    · have hi' : n = x.ws.length := by omega
      subst hi'
      refine wc_exit ?_
      exact ⟨(), by first | exact rfl | exact upd_self' rfl rfl | exact upd_self' rfl (upd_self' rfl rfl) | exact upd_self' rfl (upd_self' rfl (upd_self' rfl rfl)) | exact upd_self' rfl (upd_self' rfl (upd_self' rfl (upd_self' rfl rfl))), by repeat (first | with_reducible exact Off.mix | with_reducible exact Off.refl | ((with_reducible refine Off.upd ?_ ?_); (· rfl)) | ((with_reducible refine Off.mixN ?_ ?_); (· rfl))), ⟨rfl, H⟩⟩
  clear H
  rintro _ j D w ⟨rfl, H⟩
  refine wc_seq ?_
  refine wc_region ?_
  (apply ow_move; (· rfl); (· ((conv => lhs; whnf) <;> rfl)))
  (apply ow_assign; (· rfl); (· ((conv => lhs; whnf) <;> rfl)))
  refine ow_nil ?_
  refine wc_ret ?_
  obtain ⟨w, hT, H⟩ := H.takes Try.prog
  refine ⟨.inr rfl, w, hT, _, .tmp .nil, ?_⟩
  exact ⟨q5, c5, rfl, H.drop⟩
end Go.Proofs.Ytgliblmpiilloaa
