/- Grow: Halve (61). -/
import Derived.Test.YtpbknokakooekaaU2
namespace Go.Proofs.Ytpbknokakooekaa
set_option linter.all false
open Go Go.Sx Go.Proofs
set_option maxRecDepth 100000
set_option maxHeartbeats 2000000
theorem intsI_set (k : IntKind) (xs : List Int) (i : Nat) (z : Int) : (ints k xs).set i (.int k z) = ints k (xs.set i z) := by unfold ints; rw [List.map_set]
theorem getE_take {es : IE} (ha : Asc ltI es) {r : Nat} {k v : Int} (h : getE (es.take r) k = some v) : (k, v) ∈ es :=
  List.mem_of_mem_take ((getE_some ltI_ok (ha.sublist (List.take_sublist _ _))).1 h)
theorem addR_in {T : List IE} (hW : Wf T) (p : List Int) (z r j : Nat) : 0 ≤ (addR (plL T p) ((rowT T (z : Int)).take r)).getD j 0 ∧ (addR (plL T p) ((rowT T (z : Int)).take r)).getD j 0 ≤ ((T.length : Int) + 1) * 1099511627776 := by
  have ha := hW.rasc (z : Int)
  rw [addR_at (n := T.length) (ha.sublist (List.take_sublist _ _)) (fun x hx => ⟨(hW.rkey (List.mem_of_mem_take hx)).1, (hW.rkey (List.mem_of_mem_take hx)).2.1⟩) _ (plL_len T p) j]
  have h1 : 0 ≤ (plL T p).getD j 0 ∧ (plL T p).getD j 0 ≤ (T.length : Int) * 1099511627776 := by
    by_cases hj : j < T.length
    · rw [plL_at hj]; exact plT_in hW p j
    · rw [List.getD_eq_getElem?_getD, List.getElem?_eq_none (by rw [plL_len]; omega)]
      exact ⟨Int.le_refl 0, by show (0 : Int) ≤ _; omega⟩
  have h2 : 0 ≤ (getE ((rowT T (z : Int)).take r) (j : Int)).getD 0 ∧ (getE ((rowT T (z : Int)).take r) (j : Int)).getD 0 ≤ 1099511627776 := by
    cases hg : getE ((rowT T (z : Int)).take r) (j : Int) with
    | none => exact ⟨Int.le_refl 0, by decide⟩
    | some v =>
      have := hW.rval (getE_take ha hg)
      exact ⟨by show 0 ≤ v; simp only at this; omega, by show v ≤ _; exact this.2⟩
  rw [Int.add_mul]
  omega
theorem plL_ones {T : List IE} {p : List Int} (h : ∀ j, j < T.length → p.getD j 0 = 1) : plL T p = List.replicate T.length 0 := by
  refine extI (by rw [plL_len, List.length_replicate]) fun j hj => ?_
  rw [plL_len] at hj
  rw [plL_at hj, plT_ones h, List.getD_eq_getElem?_getD, List.getElem?_replicate, if_pos hj]; rfl
theorem ws_nn {ws : List Int} (h : ∀ z ∈ ws, mayW z) (j : Nat) : 0 ≤ ws.getD j 0 ∧ ws.getD j 0 ≤ 1099511627776 := by
  rw [List.getD_eq_getElem?_getD]
  cases hg : ws[j]? with
  | none => exact ⟨Int.le_refl 0, by decide⟩
  | some z =>
    have := h z (List.mem_of_getElem? hg)
    unfold mayW at this
    exact ⟨by show 0 ≤ z; omega, by show z ≤ _; omega⟩
theorem halve_spec (g : GX) (ms : List MpT) (most : Int) (hn : ms.length = g.ws.length) (h4 : g.ws.length ≤ 4096) (hmay : ∀ z ∈ g.ws, mayW z) (hW : Wf (tb ms)) (hmo : -9223372036854775808 ≤ most ∧ most ≤ 9223372036854775807) (w0 : World) (hG : Gr (hp w0) g ms) :
    CallsV Try.prog 26 #[.pointer (some ⟨g.b, 0, none⟩), .int .i64 most] w0 fun v w => ∃ b, v = .slice (some ⟨b, 0, none⟩) (halveL (tb ms) g.ws most).length (halveL (tb ms) g.ws most).length ∧ St Pu w0 w [.row b 3 (ints .i64 (halveL (tb ms) g.ws most))] [] := by
  refine callsV_of Try.func26 rfl rfl ?_
  have H := St.init w0
  have hTl : (tb ms).length = g.ws.length := by rw [tb_len, hn]
  have h0 : ∀ j, j < (tb ms).length → 0 ≤ g.ws.getD j 0 := fun j _ => (ws_nn hmay j).1
  have hGI := gi_all h0 most
  have hZC := hlv_zc h0 most
  refine wc_seq ?_
  refine wc_region ?_
  (apply ow_assign; (· rfl); (· ((conv => lhs; whnf) <;> rfl)))
  refine ow_nil ?_
  refine wc_seq ?_
  refine wc_region ?_
  (apply ow_move; (· rfl); (· ((conv => lhs; whnf) <;> rfl)))
  refine ow_call rfl rfl (ent (by kernel_rfl)) (CallsV.mono (glen_spec g ms w0 hG) ?_) rfl
  rintro v w' ⟨rfl, rfl⟩
  skip
  refine ow_makeSlice (m := (g.ws.length : Int)) (z := .int .i64 0) H rfl (tyAt rfl) rfl (tyAt rfl) rfl rfl rfl rfl (by omega) (by show (8 : Int) * _ ≤ _; omega) (by omega) (fun bm w H => ?_)
  rw [Int.toNat_natCast, show List.replicate g.ws.length (Value.int .i64 0) = ints .i64 (List.replicate g.ws.length 0) by unfold ints; rw [List.map_replicate]] at H
  rw [Int.toNat_natCast]
  (apply ow_assign; (· rfl); (· ((conv => lhs; whnf) <;> rfl)))
  refine ow_nil ?_
  refine wc_seq ?_
  refine wc_seq ?_
  refine wc_region ?_
  (apply ow_move; (· rfl); (· ((conv => lhs; whnf) <;> rfl)))
  refine ow_len rfl rfl (tyAt rfl) rfl ?_
  (apply ow_move; (· rfl); (· ((conv => lhs; whnf) <;> rfl)))
  refine ow_nil ?_
  refine wc_blockJ [6, 16, 17, 18, 19, 20, 21, 22] (fun (_ : Unit) e => e) (fun _ D w => D = [] ∧ St Pu w' w [.row bm 3 (ints .i64 (hlv (tb ms) g.ws most 0))] []) ?_ ?_
  · refine wc_loopS [6, 16, 17, 18, 19, 20, 21, 22] (fun (s : Nat) e => upd e 16 (.int .i64 s)) (fun s D w => D = [] ∧ s ≤ g.ws.length ∧ ∃ xs : List Int, xs.length = g.ws.length ∧ (∀ j, j < s → xs.getD j 0 = 1) ∧ St Pu w' w [.row bm 3 (ints .i64 xs)] []) (fun s _ => g.ws.length - s) 0 (by first | exact rfl | exact upd_self' rfl rfl | exact upd_self' rfl (upd_self' rfl rfl) | exact upd_self' rfl (upd_self' rfl (upd_self' rfl rfl)) | exact upd_self' rfl (upd_self' rfl (upd_self' rfl (upd_self' rfl rfl)))) ⟨rfl, Nat.zero_le _, List.replicate g.ws.length 0, List.length_replicate, (fun j hj => absurd hj (Nat.not_lt_zero _)), H⟩ ?_
    clear H
    rintro i j D w ⟨rfl, hi, xs, hl, hx, H⟩
    refine wc_seq ?_
    refine wc_region ?_
    refine ow_lss rfl rfl rfl ?_
    refine ow_nil ?_
    refine wc_seq ?_
    refine wc_cond_dec rfl (fun h => ?_) (fun h => ?_) <;> try dsimp only at h
    · have hlt : i < g.ws.length := by omega
      refine wc_skip ?_
      refine wc_seq ?_
      refine wc_block ?_
      refine wc_seq ?_
      refine wc_region ?_
      (apply ow_move; (· rfl); (· ((conv => lhs; whnf) <;> rfl)))
      (apply ow_assign; (· rfl); (· ((conv => lhs; whnf) <;> rfl)))
      refine ow_nil ?_
      refine wc_region ?_
      (apply ow_move; (· rfl); (· ((conv => lhs; whnf) <;> rfl)))
      (apply ow_move; (· rfl); (· ((conv => lhs; whnf) <;> rfl)))
      refine ow_idx1 (j := i) rfl (tyAt rfl) rfl (tyAt rfl) rfl rfl rfl hlt rfl ?_
      refine ow_store (i := 0) (o := 0 + i) (v := .int .i64 1) H (tyAt rfl) rfl rfl rfl rfl rfl (by simp; omega) (fun w H => ?_)
      dsimp only [List.set] at H
      rw [Nat.zero_add, intsI_set] at H
      refine ow_nil ?_
      refine wc_region ?_
      refine ow_add rfl rfl rfl (by simp only [InK]; omega) ?_
      (apply ow_move; (· rfl); (· ((conv => lhs; whnf) <;> rfl)))
      refine ow_nil ?_
      refine ⟨i + 1, by first | exact rfl | exact upd_self' rfl rfl | exact upd_self' rfl (upd_self' rfl rfl) | exact upd_self' rfl (upd_self' rfl (upd_self' rfl rfl)) | exact upd_self' rfl (upd_self' rfl (upd_self' rfl (upd_self' rfl rfl))), by repeat (first | with_reducible exact Off.mix | with_reducible exact Off.refl | ((with_reducible refine Off.upd ?_ ?_); (· rfl))), ⟨rfl, hlt, xs.set i 1, by rw [List.length_set, hl], fun k hk => ?_, H⟩, by omega⟩
      rw [getD_setI xs i k _ (by omega)]
      split
      · rfl
      · exact hx k (by omega)
    · have hi' : i = g.ws.length := by omega
      subst hi'
      have he : xs = hlv (tb ms) g.ws most 0 := extI (by rw [hl, hlv, List.length_replicate, hTl]) fun j hj => by rw [hx j (by omega), hlv, ones_at (by omega)]
      rw [he] at H
      refine wc_exit ?_
      exact ⟨(), rfl, by repeat (first | with_reducible exact Off.mix | with_reducible exact Off.refl | ((with_reducible refine Off.upd ?_ ?_); (· rfl))), ⟨rfl, H⟩⟩
  clear H
  rintro _ j D w ⟨rfl, H⟩
  refine wc_seq ?_
  refine wc_region ?_
  (apply ow_move; (· rfl); (· ((conv => lhs; whnf) <;> rfl)))
  refine ow_len rfl rfl (tyAt rfl) rfl ?_
  refine ow_makeSlice (m := (g.ws.length : Int)) (z := .int .i64 0) H rfl (tyAt rfl) rfl (tyAt rfl) rfl rfl rfl rfl (by omega) (by show (8 : Int) * _ ≤ _; omega) (by omega) (fun bp w H => ?_)
  rw [Int.toNat_natCast, show List.replicate g.ws.length (Value.int .i64 0) = ints .i64 (plL (tb ms) (hlv (tb ms) g.ws most 0)) by rw [plL_ones (T := tb ms) (p := hlv (tb ms) g.ws most 0) (fun j hj => ones_at hj), hTl]; unfold ints; rw [List.map_replicate]] at H
  rw [Int.toNat_natCast]
  refine ow_alloc (l := [.slice none 0 0]) H rfl (tyAt rfl) rfl (fun b7 w H => ?_)
  refine ow_store (i := 0) (o := 0) (v := .slice (some ⟨bp, 0, none⟩) g.ws.length g.ws.length) H (tyAt rfl) rfl rfl rfl rfl rfl (by simp) (fun w H => ?_)
  dsimp only [List.set] at H
  have hz0 : most - wt0 g.ws (hlv (tb ms) g.ws most 0) (tb ms).length = most := by
    have h1 : wt0 g.ws (hlv (tb ms) g.ws most 0) (tb ms).length = 0 := by
      unfold wt0
      exact (sumN_congr (g := fun _ => 0) fun j hj => by rw [hlv, ones_at hj, if_neg (by decide)]).trans (sumN_zero _)
    omega
  have hzc0 : zc (hlv (tb ms) g.ws most 0) (tb ms).length = ((0 : Nat) : Int) := by
    unfold zc
    exact (sumN_congr (g := fun _ => 0) fun j hj => by rw [hlv, ones_at hj, if_neg (by decide)]).trans (sumN_zero _)
  refine ow_nil ?_
  refine wc_block ?_
  refine wc_loopS [1, 4, 8, 26, 27, 28, 29, 30, 31, 32, 33, 34, 35, 36, 37, 38, 39, 40, 41, 42, 43, 44] (fun (s : Nat) e => upd e 1 (.int .i64 (most - wt0 g.ws (hlv (tb ms) g.ws most s) (tb ms).length))) (fun s D w => zc (hlv (tb ms) g.ws most s) (tb ms).length = (s : Int) ∧ St Pu w' w [.row b7 22 [.slice (some ⟨bp, 0, none⟩) g.ws.length g.ws.length], .row bp 2 (ints .i64 (plL (tb ms) (hlv (tb ms) g.ws most s))), .row bm 3 (ints .i64 (hlv (tb ms) g.ws most s))] D) (fun s _ => g.ws.length - s) 0 ?lv0 ⟨hzc0, H⟩ ?_
  case lv0 =>
    rw [hz0]
    first | exact rfl | exact upd_self' rfl rfl | exact upd_self' rfl (upd_self' rfl rfl) | exact upd_self' rfl (upd_self' rfl (upd_self' rfl rfl)) | exact upd_self' rfl (upd_self' rfl (upd_self' rfl (upd_self' rfl rfl)))
  clear H hz0 hzc0
  rintro s j D w ⟨hzc, H⟩
  have hgi := hGI s
  have hch := zAt_char (ws := g.ws) (most := most) hgi.len
  have hzl := zc_le (hlv (tb ms) g.ws most s) (tb ms).length
  have hsn : hlv (tb ms) g.ws most (s + 1) = stp (tb ms) g.ws most (hlv (tb ms) g.ws most s) := rfl
  have hstop : zAt (tb ms) g.ws most (hlv (tb ms) g.ws most s) = -1 → hlv (tb ms) g.ws most s = halveL (tb ms) g.ws most := fun h => (hlv_stop h _ (by omega)).symm
  unfold stp at hsn
  generalize hp1 : hlv (tb ms) g.ws most (s + 1) = p' at hsn
  generalize hlv (tb ms) g.ws most s = p at hgi hch hzc hzl hsn hstop H ⊢
  have hpn : p.length = g.ws.length := by rw [hgi.len, hTl]
  refine wc_block ?_
  refine wc_seq ?_
  refine wc_region ?_
  (apply ow_move; (· rfl); (· ((conv => lhs; whnf) <;> rfl)))
  (apply ow_move; (· rfl); (· ((conv => lhs; whnf) <;> rfl)))
  refine ow_load rfl (tyAt rfl) rfl rfl (H.cell (i := 0) rfl rfl) ?_
  (apply ow_move; (· rfl); (· ((conv => lhs; whnf) <;> rfl)))
  have hnx := next_spec g ms p (plL (tb ms) p) (some ⟨bm, 0, none⟩) (some ⟨bp, 0, none⟩) g.ws.length g.ws.length (most - wt0 g.ws p (tb ms).length) hn h4 hpn (by rw [plL_len, hTl]) w (Gr.old H hG) (H.rowSl (i := 2) rfl) (H.rowSl (i := 1) rfl)
  rw [plL_len, hpn, hTl] at hnx
  rw [hTl] at hch hzc hzl ⊢
  refine ow_call rfl rfl (ent (by kernel_rfl)) (CallsV.mono (hnx) ?_) rfl
  rintro v w ⟨rfl, H'⟩
  replace H := H.call H'
  simp only [List.nil_append] at H
  clear H' hnx
  have hzd : zAt (tb ms) g.ws most p = nxZ g.ws (plL (tb ms) p) p (most - wt0 g.ws p g.ws.length) := by unfold zAt; rw [hTl]
  rw [← hzd]
  rcases hch with ⟨hz1, _⟩ | ⟨z, hz, hz1, hpz, hwz⟩
  · rw [hz1]
    (apply ow_assign; (· rfl); (· ((conv => lhs; whnf) <;> rfl)))
    refine ow_nil ?_
    refine wc_seq ?_
    refine wc_seq ?_
    refine wc_region ?_
    (apply ow_move; (· rfl); (· ((conv => lhs; whnf) <;> rfl)))
    refine ow_eql rfl rfl rfl ?_
    refine ow_nil ?_
    refine wc_cond_true rfl ?_
    refine wc_seq ?_
    refine wc_region ?_
    (apply ow_move; (· rfl); (· ((conv => lhs; whnf) <;> rfl)))
    (apply ow_assign; (· rfl); (· ((conv => lhs; whnf) <;> rfl)))
    refine ow_nil ?_
    refine wc_ret ?_
    obtain ⟨w, hT, H⟩ := H.takes Try.prog
    refine ⟨.inr rfl, w, hT, _, .tmp .nil, ?_⟩
    refine ⟨bm, ?_, ?_⟩
    · rw [← hstop hz1, hpn]; rfl
    · rw [← hstop hz1]
      exact H.pick [2] rfl (by decide)
  rw [hz1, if_neg (by omega), Int.toNat_natCast] at hsn
  rw [hz1]
  have hwn := ws_nn hmay z
  have hnn := hgi.nn
  have hle := hgi.le
  rw [hTl] at hnn hle
  have hwt : wtG g.ws (z : Int) = g.ws.getD z 0 := by unfold wtG; rw [if_pos ⟨by omega, by omega⟩, Int.toNat_natCast]
  (apply ow_assign; (· rfl); (· ((conv => lhs; whnf) <;> rfl)))
  refine ow_nil ?_
  refine wc_seq ?_
  refine wc_seq ?_
  refine wc_region ?_
  (apply ow_move; (· rfl); (· ((conv => lhs; whnf) <;> rfl)))
  refine ow_eql rfl rfl rfl ?_
  refine ow_nil ?_
  refine wc_cond_false rfl ?_
  refine wc_skip ?_
  refine wc_seq ?_
  refine wc_region ?_
  (apply ow_move; (· rfl); (· ((conv => lhs; whnf) <;> rfl)))
  (apply ow_move; (· rfl); (· ((conv => lhs; whnf) <;> rfl)))
  refine ow_idx1 (j := z) rfl (tyAt rfl) rfl (tyAt rfl) rfl rfl rfl hz rfl ?_
  refine ow_store (i := 2) (o := 0 + z) (v := .int .i64 0) H (tyAt rfl) rfl rfl rfl rfl rfl (by simp; omega) (fun w H => ?_)
  dsimp only [List.set] at H
  rw [Nat.zero_add, intsI_set, ← hsn] at H
  refine ow_nil ?_
  refine wc_seq ?_
  refine wc_region ?_
  (apply ow_move; (· rfl); (· ((conv => lhs; whnf) <;> rfl)))
  (apply ow_move; (· rfl); (· ((conv => lhs; whnf) <;> rfl)))
  (apply ow_move; (· rfl); (· ((conv => lhs; whnf) <;> rfl)))
  refine ow_call rfl rfl (ent (by kernel_rfl)) (CallsV.mono (weight_spec g ms (z : Int) _ (Gr.old H hG)) ?_) rfl
  rintro v w1 ⟨rfl, rfl⟩
  rw [hwt]
  refine ow_sub rfl rfl rfl (by simp only [InK]; omega) ?_
  (apply ow_assign; (· rfl); (· ((conv => lhs; whnf) <;> rfl)))
  refine ow_nil ?_
  refine wc_seq ?_
  refine wc_region ?_
  (apply ow_move; (· rfl); (· ((conv => lhs; whnf) <;> rfl)))
  (apply ow_move; (· rfl); (· ((conv => lhs; whnf) <;> rfl)))
  refine ow_call rfl rfl (ent (by kernel_rfl)) (CallsV.mono (near_gspec g ms (z : Int) hn h4 hW _ (Gr.old H hG)) ?_) rfl
  rintro v w ⟨L1, A, hA, hit, H'⟩
  replace H : St Pu w' w ([.row b7 22 [.slice (some ⟨bp, 0, none⟩) g.ws.length g.ws.length], .row bp 2 (ints .i64 (addR (plL (tb ms) p) ((rowT (tb ms) (z : Int)).take 0))), .row bm 3 (ints .i64 p')] ++ L1) D := (H.call H').perm List.perm_append_comm
  clear H'
  have hpull := addR_pull hW (p := p) (z := z) (by omega) hgi.len hpz
  have hbd := addR_in hW p z
  have hln : ∀ r, (addR (plL (tb ms) p) ((rowT (tb ms) (z : Int)).take r)).length = g.ws.length := fun r => by rw [addR_len, plL_len, hTl]
  have hkey : ∀ x ∈ rowT (tb ms) (z : Int), 0 ≤ x.1 ∧ x.1 < (g.ws.length : Int) := fun x hx => by rw [← hTl]; exact ⟨(hW.rkey hx).1, (hW.rkey hx).2.1⟩
  have hval : ∀ x ∈ rowT (tb ms) (z : Int), 1 ≤ x.2 ∧ x.2 ≤ 1099511627776 := fun x hx => hW.rval hx
  rw [← hsn] at hpull
  rw [hTl] at hbd
  generalize rowT (tb ms) (z : Int) = es at hit hkey hval hbd hln hpull H
  generalize plL (tb ms) p = pl at hbd hln hpull H
  refine ow_nil ?_
  refine wc_block ?_
  refine wc_range hit rfl rfl (by intro x hx; obtain ⟨y, _, rfl⟩ := List.mem_map.1 hx; rfl) H
    (fun k L => L = [.row b7 22 [.slice (some ⟨bp, 0, none⟩) g.ws.length g.ws.length], .row bp 2 (ints .i64 (addR pl (es.take k))), .row bm 3 (ints .i64 p')] ++ L1) (fun _ _ => False) rfl ?hA ?round ?done ?jump
  case hA =>
    rintro k L X w rfl H
    exact itH hA H fun c hc => List.mem_append_left _ (List.mem_append_right _ hc)
  case jump =>
    rintro d w L j h H
    exact h.elim
  case round =>
    rintro l k x L X w hx rfl H
    rw [List.getElem?_map] at hx
    obtain ⟨y, hat, rfl⟩ := Option.map_eq_some_iff.1 hx
    have hy := hkey y (List.mem_of_getElem? hat)
    have hv := hval y (List.mem_of_getElem? hat)
    have h1 := hbd k y.1.toNat
    have h2 := hln k
    have h3 := addR_snoc pl (es.take k) y
    rw [← take_snoc hat] at h3
    rw [h3]
    generalize addR pl (es.take k) = pk at h1 h2 H ⊢
    refine wc_seq ?_
    refine wc_region ?_
    (apply ow_assign; (· rfl); (· ((conv => lhs; whnf) <;> rfl)))
    refine ow_nil ?_
    refine wc_region ?_
    (apply ow_assign; (· rfl); (· ((conv => lhs; whnf) <;> rfl)))
    refine ow_nil ?_
    refine ⟨rfl, rfl, _, H, fun w X H hrec => ?_⟩
    refine wc_block ?_
    refine wc_region ?_
    refine ow_load rfl (tyAt rfl) rfl rfl (H.cell (i := 0) rfl rfl) ?_
    (apply ow_move; (· rfl); (· ((conv => lhs; whnf) <;> rfl)))
    refine ow_idx1 (j := y.1.toNat) rfl (tyAt rfl) rfl (tyAt rfl) rfl rfl (by omega) (by omega) rfl ?_
    refine ow_load rfl (tyAt rfl) rfl rfl (SlH.int (H.rowSl (i := 1) rfl) (by omega)) ?_
    (apply ow_move; (· rfl); (· ((conv => lhs; whnf) <;> rfl)))
    refine ow_add rfl rfl rfl (by simp only [InK]; omega) ?_
    refine ow_idx1 (j := y.1.toNat) rfl (tyAt rfl) rfl (tyAt rfl) rfl rfl (by omega) (by omega) rfl ?_
    refine ow_store (i := 1) (o := 0 + y.1.toNat) (v := .int .i64 (pk.getD y.1.toNat 0 + y.2)) H (tyAt rfl) rfl rfl rfl rfl rfl (by simp; omega) (fun w H => ?_)
    refine ow_nil ?_
    refine ⟨_, rfl, ?_⟩
    rw [← intsI_set, ← Nat.zero_add y.1.toNat]
    simp only [Nat.zero_add] at H ⊢
    exact H
  case done =>
    rintro d w L rfl H
    simp only [List.length_map] at H
    rw [List.take_length, hpull] at H
    skip
    refine ⟨s + 1, ?_, by repeat (first | with_reducible exact Off.mix | with_reducible exact Off.refl | ((with_reducible refine Off.upd ?_ ?_); (· rfl))), ⟨?_, ?_⟩, ?_⟩
    · rw [hp1, hsn, wt0_set hz (by omega) hpz, show most - (wt0 g.ws p g.ws.length + g.ws.getD z 0) = most - wt0 g.ws p g.ws.length - g.ws.getD z 0 by omega]
      first | exact rfl | exact upd_self' rfl rfl | exact upd_self' rfl (upd_self' rfl rfl) | exact upd_self' rfl (upd_self' rfl (upd_self' rfl rfl)) | exact upd_self' rfl (upd_self' rfl (upd_self' rfl (upd_self' rfl rfl)))
    · rw [hp1, hsn, zc_set hz (by omega) hpz, hzc]; omega
    · rw [hp1]
      exact H.sub (List.sublist_append_left _ _)
    · have h5 := zc_set hz (by omega) hpz
      have h6 := zc_le (p.set z 0) g.ws.length
      omega
end Go.Proofs.Ytpbknokakooekaa

