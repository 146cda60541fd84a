/- The statement's function 'sandtablelaw12.GrowPulls' returns true at every input, and changes nothing that was there. -/
import Derived.Test.YtgliblmpiilloaaU4
namespace Go.Proofs.Ytgliblmpiilloaa
set_option linter.all false
open Go Go.Sx Go.Proofs
set_option maxRecDepth 100000
set_option maxHeartbeats 2000000
def tuL (p : List Int) : List Int := p.map fun x => 1 - x
theorem tuL_len (p : List Int) : (tuL p).length = p.length := by simp [tuL]
theorem tuL_at {p : List Int} {j : Nat} (h : j < p.length) : (tuL p).getD j 0 = 1 - p.getD j 0 := by
  unfold tuL
  rw [List.getD_eq_getElem?_getD, List.getD_eq_getElem?_getD, List.getElem?_map, List.getElem?_eq_getElem h]; rfl
theorem tuL_snoc {p : List Int} {i : Nat} (h : i < p.length) : tuL (p.take (i + 1)) = tuL (p.take i) ++ [1 - p.getD i 0] := by
  unfold tuL
  rw [take_snoc (getD_some h), List.map_append]; rfl
theorem pulls_deg {T : List IE} (hW : Wf T) {p : List Int} (hl : p.length = T.length) (hv : ∀ j, j < T.length → p.getD j 0 = 0 ∨ p.getD j 0 = 1) {i : Nat} (hi : i < T.length) : pullZ T p (i : Int) + pullZ T (tuL p) (i : Int) = degT T (i : Int) := by
  unfold pullZ
  rw [if_pos ⟨hl, by omega, by omega⟩, if_pos ⟨by rw [tuL_len]; exact hl, by omega, by omega⟩, Int.toNat_natCast, degT_sum hW]
  unfold plT
  rw [← sumN_add]
  refine sumN_congr fun b hb => ?_
  rw [tuL_at (by omega)]
  rcases hv b hb with h | h
  · rw [h, if_pos rfl, if_neg (by decide)]; omega
  · rw [h, if_neg (by decide), if_pos (by decide)]; omega
theorem sides_turn {p : List Int} : ∀ k, k ≤ p.length → sdU p 0 k = sdU (tuL p) 1 k
  | 0, _ => rfl
  | k + 1, h => by
    by_cases hp : p.getD k 0 = 0
    · rw [sdU_yes hp, sdU_yes (by rw [tuL_at (by omega), hp]; decide), sides_turn k (by omega)]
    · rw [sdU_no hp, sdU_no (by rw [tuL_at (by omega)]; omega), sides_turn k (by omega)]
theorem sides_all {p : List Int} {n : Nat} (hv : ∀ j, j < n → p.getD j 0 = 0 ∨ p.getD j 0 = 1) : ∀ k, k ≤ n → (sdU p 0 k).length + (sdU p 1 k).length = k
  | 0, _ => rfl
  | k + 1, h => by
    have ih := sides_all hv k (by omega)
    rcases hv k (by omega) with hp | hp
    · rw [sdU_yes hp, sdU_no (by rw [hp]; decide), List.length_append]; simp only [List.length_cons, List.length_nil]; omega
    · rw [sdU_no (by rw [hp]; decide), sdU_yes hp, List.length_append]; simp only [List.length_cons, List.length_nil]; omega
theorem pullZ_in {T : List IE} (hW : Wf T) (p : List Int) (i : Int) : 0 ≤ pullZ T p i ∧ pullZ T p i ≤ (T.length : Int) * 1099511627776 := by
  unfold pullZ
  split
  · exact plT_in hW p _
  · exact ⟨Int.le_refl 0, by show (0 : Int) ≤ _; omega⟩
theorem law12Pulls (q q2 : Option Addr) (cap cap2 : Nat) (ws : List Int) (ops : List OpA) (most : Int) (hm : ws.length ≤ 9223372036854775807) (hm2 : ops.length ≤ 9223372036854775807) (hmo : -9223372036854775808 ≤ most ∧ most ≤ 9223372036854775807) (w0 : World) (hq : SlH (hp w0) q (ints .i64 ws)) (hq2 : SlH (hp w0) q2 (ops.flatMap opA)) :
    CallsV Try.prog 17 #[.slice q ws.length cap, .slice q2 ops.length cap2, .int .i64 most] w0 fun v w => v = .bool true ∧ St Pu w0 w [] [] := by
  refine callsV_of Try.func17 rfl rfl ?_
  refine wc_seq ?_
  refine wc_region ?_
  (apply ow_assign; (· rfl); (· ((conv => lhs; whnf) <;> rfl)))
  refine ow_nil ?_
  refine wc_seq ?_
  refine wc_seq ?_
  refine wc_region ?_
  refine ow_call rfl rfl (ent (by kernel_rfl)) (CallsV.mono (alive12 w0) ?_) rfl
  rintro v w ⟨rfl, H⟩
  refine ow_not rfl rfl ?_
  refine ow_nil ?_
  refine wc_cond_false rfl ?_
  refine wc_skip ?_
  refine wc_seq ?_
  refine wc_region ?_
  (apply ow_move; (· rfl); (· ((conv => lhs; whnf) <;> rfl)))
  (apply ow_move; (· rfl); (· ((conv => lhs; whnf) <;> rfl)))
  refine ow_call rfl rfl (ent (by kernel_rfl)) (CallsV.mono (build57_spec q q2 cap cap2 ws ops hm hm2 w (H.oldSl hq) (H.oldSl hq2)) ?_) rfl
  rintro v w (⟨rfl, _, H'⟩ | ⟨g, x, ms, rows, rfl, rfl, hxw, h30, hmay, hW, hn, _, _, H'⟩)
  · replace H := H.call H'
    rw [List.nil_append] at H
    clear H'
    (apply ow_move; (· rfl); (· ((conv => lhs; whnf) <;> rfl)))
    refine ow_extract rfl rfl rfl ?_
    refine ow_extract rfl rfl rfl ?_
    refine ow_extract rfl rfl rfl ?_
    refine ow_alloc (l := [.slice none 0 0, .slice none 0 0]) H rfl (tyAt rfl) rfl (fun b6 w H => ?_)
    (apply ow_assign; (· rfl); (· ((conv => lhs; whnf) <;> rfl)))
    refine ow_storeA (i := 0) (o := 0) (l' := [.slice none 0 0, .slice none 0 0]) H (tyAt rfl) rfl rfl rfl rfl (by simp [Value.oneCell']) (by simp) (fun w H => ?_)
    (apply ow_assign; (· rfl); (· ((conv => lhs; whnf) <;> rfl)))
    refine ow_nil ?_
    refine wc_seq ?_
    refine wc_seq ?_
    refine wc_region ?_
    (apply ow_move; (· rfl); (· ((conv => lhs; whnf) <;> rfl)))
    refine ow_not rfl rfl ?_
    refine ow_nil ?_
    refine wc_cond_true rfl ?_
    refine wc_seq ?_
    refine wc_region ?_
    (apply ow_assign; (· rfl); (· ((conv => lhs; whnf) <;> rfl)))
    refine ow_nil ?_
    refine wc_ret ?_
    obtain ⟨w, hT, H⟩ := H.takes Try.prog
    refine ⟨.inr rfl, w, hT, _, .tmp .nil, ?_⟩
    exact ⟨rfl, H.none⟩
  replace H : St Pu w0 w (grC g ms) [] := (H.call H').sub ((List.sublist_append_left _ _).trans (List.sublist_append_left _ _))
  clear H'
  (apply ow_move; (· rfl); (· ((conv => lhs; whnf) <;> rfl)))
  refine ow_extract rfl rfl rfl ?_
  refine ow_extract rfl rfl rfl ?_
  refine ow_extract rfl rfl rfl ?_
  refine ow_alloc (l := [.slice none 0 0, .slice none 0 0]) H rfl (tyAt rfl) rfl (fun b6 w H => ?_)
  (apply ow_assign; (· rfl); (· ((conv => lhs; whnf) <;> rfl)))
  refine ow_storeA (i := 0) (o := 0) (l' := rfV x rows) H (tyAt rfl) rfl rfl rfl rfl (by simp [Value.oneCell']) (by simp) (fun w H => ?_)
  replace H : St Pu w0 w (grC g ms) [] := H.drop
  have h4 : g.ws.length ≤ 4096 := by omega
  have hTl : (tb ms).length = g.ws.length := by rw [tb_len, hn]
  (apply ow_assign; (· rfl); (· ((conv => lhs; whnf) <;> rfl)))
  refine ow_nil ?_
  refine wc_seq ?_
  refine wc_seq ?_
  refine wc_region ?_
  (apply ow_move; (· rfl); (· ((conv => lhs; whnf) <;> rfl)))
  refine ow_not rfl rfl ?_
  refine ow_nil ?_
  refine wc_cond_false rfl ?_
  refine wc_skip ?_
  refine wc_seq ?_
  refine wc_region ?_
  (apply ow_move; (· rfl); (· ((conv => lhs; whnf) <;> rfl)))
  (apply ow_move; (· rfl); (· ((conv => lhs; whnf) <;> rfl)))
  refine ow_call rfl rfl (ent (by kernel_rfl)) (CallsV.mono (halve_spec g ms most hn h4 hmay hW hmo w (gr_of_ok (okAll H))) ?_) rfl
  rintro v w ⟨bm, rfl, H'⟩
  replace H : St Pu w0 w (.row bm 3 (ints .i64 (halveL (tb ms) g.ws most)) :: grC g ms) [] := H.call H'
  clear H'
  have hgi := gi_all (T := tb ms) (ws := g.ws) (fun j _ => (ws_nn hmay j).1) most (tb ms).length
  change GI (tb ms) g.ws most (halveL (tb ms) g.ws most) at hgi
  have hpl := hgi.len
  have hval := hgi.val
  have hdeg := fun (i : Nat) (hi : i < (tb ms).length) => pulls_deg hW hpl hval hi
  rw [hTl] at hpl hval hdeg
  generalize halveL (tb ms) g.ws most = p at *
  have hall := sides_all hval g.ws.length (Nat.le_refl _)
  have hturn := sides_turn (p := p) g.ws.length (by omega)
  (apply ow_assign; (· rfl); (· ((conv => lhs; whnf) <;> rfl)))
  refine ow_nil ?_
  refine wc_seq ?_
  refine wc_region ?_
  refine ow_buildSlice0 H rfl (tyAt rfl) rfl (tyAt rfl) (fun ba w H => ?_)
  replace H := H.rowApp (i := 0) (len := 0) (sz := 1) rfl rfl (by omega)
  replace H : St Pu w0 w (.app (some ⟨ba, 0, none⟩) 0 0 3 1 (ints .i64 (tuL (p.take 0))) :: .row bm 3 (ints .i64 p) :: grC g ms) [] := H
  rw [hpl]
  (apply ow_assign; (· rfl); (· ((conv => lhs; whnf) <;> rfl)))
  refine ow_nil ?_
  refine wc_seq ?_
  refine wc_seq ?_
  refine wc_region ?_
  (apply ow_move; (· rfl); (· ((conv => lhs; whnf) <;> rfl)))
  refine ow_len rfl rfl (tyAt rfl) rfl ?_
  (apply ow_move; (· rfl); (· ((conv => lhs; whnf) <;> rfl)))
  refine ow_nil ?_
  refine wc_blockJ [11, 13, 34, 35, 36, 37, 38, 39, 40, 41, 42, 43] (fun (s : Option Addr × Nat) e => upd e 11 (.slice s.1 g.ws.length s.2)) (fun s D w => D = [] ∧ St Pu w0 w (.app s.1 g.ws.length s.2 3 1 (ints .i64 (tuL p)) :: .row bm 3 (ints .i64 p) :: grC g ms) []) ?_ ?_
  · refine wc_loopS [11, 13, 34, 35, 36, 37, 38, 39, 40, 41, 42, 43] (fun (s : Nat × Option Addr × Nat) e => upd (upd e 11 (.slice s.2.1 s.1 s.2.2)) 34 (.int .i64 s.1)) (fun s D w => D = [] ∧ s.1 ≤ g.ws.length ∧ St Pu w0 w (.app s.2.1 s.1 s.2.2 3 1 (ints .i64 (tuL (p.take s.1))) :: .row bm 3 (ints .i64 p) :: grC g ms) []) (fun s _ => g.ws.length - s.1) (0, some ⟨ba, 0, none⟩, 0) (by first | exact rfl | exact upd_self' rfl rfl | exact upd_self' rfl (upd_self' rfl rfl) | exact upd_self' rfl (upd_self' rfl (upd_self' rfl rfl)) | exact upd_self' rfl (upd_self' rfl (upd_self' rfl (upd_self' rfl rfl)))) ⟨rfl, Nat.zero_le _, H⟩ ?_
    clear H
    rintro ⟨i, q1, c1⟩ j D w ⟨rfl, hi, H⟩
    dsimp only at hi H ⊢
    refine wc_seq ?_
    refine wc_region ?_
    refine ow_lss rfl rfl rfl ?_
    refine ow_nil ?_
    refine wc_seq ?_
    refine wc_cond_dec rfl (fun h => ?_) (fun h => ?_) <;> try dsimp only at h
    · have hlt : i < g.ws.length := by omega
      have hv := hval i hlt
      refine wc_skip ?_
      refine wc_seq ?_
      refine wc_block ?_
      refine wc_seq ?_
      refine wc_region ?_
      refine ow_idx1 (j := i) rfl (tyAt rfl) rfl (tyAt rfl) rfl rfl rfl hlt rfl ?_
      refine ow_load rfl (tyAt rfl) rfl rfl (SlH.int (H.rowSl (i := 1) rfl) (by omega)) ?_
      (apply ow_assign; (· rfl); (· ((conv => lhs; whnf) <;> rfl)))
      refine ow_nil ?_
      refine wc_region ?_
      (apply ow_move; (· rfl); (· ((conv => lhs; whnf) <;> rfl)))
      (apply ow_move; (· rfl); (· ((conv => lhs; whnf) <;> rfl)))
      refine ow_sub rfl rfl rfl (by simp only [InK]; omega) ?_
      refine ow_buildSlice1 (vs := [.int .i64 (1 - p.getD i 0)]) H rfl (tyAt rfl) rfl (tyAt rfl) rfl rfl rfl rfl rfl (by simp [Value.one]) (fun ea w H => ?_)
      refine ow_append (i := 1) H rfl rfl (tyAt rfl) rfl (tyAt rfl) rfl (by decide) rfl rfl (H.rowSl (i := 0) rfl) rfl (by simp [Value.oneCell']) (by dsimp only; omega) (by omega) (fun p1 d1 w H => ?_)
      dsimp only [List.set] at H
      replace H := H.drop
      rw [← ints_snoc1, ← tuL_snoc (by omega)] at H
      (apply ow_assign; (· rfl); (· ((conv => lhs; whnf) <;> rfl)))
      refine ow_nil ?_
      refine wc_region ?_
      refine ow_add rfl rfl rfl (by simp only [InK]; omega) ?_
      (apply ow_move; (· rfl); (· ((conv => lhs; whnf) <;> rfl)))
      refine ow_nil ?_
      exact ⟨(i + 1, p1, d1), by first | exact rfl | exact upd_self' rfl rfl | exact upd_self' rfl (upd_self' rfl rfl) | exact upd_self' rfl (upd_self' rfl (upd_self' rfl rfl)) | exact upd_self' rfl (upd_self' rfl (upd_self' rfl (upd_self' rfl rfl))), by repeat (first | with_reducible exact Off.mix | with_reducible exact Off.refl | ((with_reducible refine Off.upd ?_ ?_); (· rfl))), ⟨rfl, hlt, H⟩, by dsimp only; omega⟩
    · have hi' : i = g.ws.length := by omega
      subst hi'
      rw [List.take_of_length_le (by omega)] at H
      refine wc_exit ?_
      exact ⟨(q1, c1), by first | exact rfl | exact upd_self' rfl rfl | exact upd_self' rfl (upd_self' rfl rfl) | exact upd_self' rfl (upd_self' rfl (upd_self' rfl rfl)) | exact upd_self' rfl (upd_self' rfl (upd_self' rfl (upd_self' rfl rfl))), by repeat (first | with_reducible exact Off.mix | with_reducible exact Off.refl | ((with_reducible refine Off.upd ?_ ?_); (· rfl)) | ((with_reducible refine Off.mixN ?_ ?_); (· rfl))), ⟨rfl, H⟩⟩
  clear H
  rintro ⟨q11, c11⟩ j D w ⟨rfl, H⟩
  dsimp only at H ⊢
  have htl : (tuL p).length = g.ws.length := by rw [tuL_len, hpl]
  obtain ⟨tu, htu⟩ : ∃ tu, tuL p = tu := ⟨_, rfl⟩
  rw [htu] at H htl hturn hdeg
  have hGr : ∀ {w : World}, St Pu w0 w (.app q11 g.ws.length c11 3 1 (ints .i64 tu) :: .row bm 3 (ints .i64 p) :: grC g ms) [] → Gr (hp w) g ms := fun H => gr_of_ok fun c hc => okAll H c (List.mem_cons_of_mem _ (List.mem_cons_of_mem _ hc))
  have hps := fun (i : Int) (w : World) (H : St Pu w0 w (.app q11 g.ws.length c11 3 1 (ints .i64 tu) :: .row bm 3 (ints .i64 p) :: grC g ms) []) => pull_spec g ms p (some ⟨bm, 0, none⟩) g.ws.length i hn h4 hW w (hGr H) (H.rowSl (i := 1) rfl)
  have hpt := fun (i : Int) (w : World) (H : St Pu w0 w (.app q11 g.ws.length c11 3 1 (ints .i64 tu) :: .row bm 3 (ints .i64 p) :: grC g ms) []) => pull_spec g ms tu q11 c11 i hn h4 hW w (hGr H) (appOk.sl (H.cap (i := 0) rfl))
  rw [hpl] at hps
  rw [htl] at hpt
  have hpi := pullZ_in hW p
  have hti := pullZ_in hW tu
  rw [hTl] at hpi hti
  refine wc_seq ?_
  refine wc_seq ?_
  refine wc_region ?_
  (apply ow_move; (· rfl); (· ((conv => lhs; whnf) <;> rfl)))
  refine ow_len rfl rfl (tyAt rfl) rfl ?_
  (apply ow_move; (· rfl); (· ((conv => lhs; whnf) <;> rfl)))
  refine ow_nil ?_
  refine wc_blockJ [6, 14, 46, 47, 48, 49, 50, 51, 52, 53, 54, 55, 56, 57, 58, 59, 60, 61, 62] (fun (_ : Unit) e => e) (fun _ D w => D = [] ∧ St Pu w0 w (.app q11 g.ws.length c11 3 1 (ints .i64 tu) :: .row bm 3 (ints .i64 p) :: grC g ms) []) ?_ ?_
  · refine wc_loopS [6, 14, 46, 47, 48, 49, 50, 51, 52, 53, 54, 55, 56, 57, 58, 59, 60, 61, 62] (fun (s : Nat) e => upd e 46 (.int .i64 s)) (fun s D w => D = [] ∧ s ≤ g.ws.length ∧ St Pu w0 w (.app q11 g.ws.length c11 3 1 (ints .i64 tu) :: .row bm 3 (ints .i64 p) :: grC g ms) []) (fun s _ => g.ws.length - s) 0 (by first | exact rfl | exact upd_self' rfl rfl | exact upd_self' rfl (upd_self' rfl rfl) | exact upd_self' rfl (upd_self' rfl (upd_self' rfl rfl)) | exact upd_self' rfl (upd_self' rfl (upd_self' rfl (upd_self' rfl rfl)))) ⟨rfl, Nat.zero_le _, H⟩ ?_
    clear H
    rintro i j D w ⟨rfl, hi, H⟩
    refine wc_seq ?_
    refine wc_region ?_
    refine ow_lss rfl rfl rfl ?_
    refine ow_nil ?_
    refine wc_seq ?_
    refine wc_cond_dec rfl (fun h => ?_) (fun h => ?_) <;> try dsimp only at h
    · have hlt : i < g.ws.length := by omega
      have hd := hdeg i hlt
      have h1 := hpi (i : Int)
      have h2 := hti (i : Int)
      refine wc_skip ?_
      refine wc_seq ?_
      refine wc_block ?_
      refine wc_seq ?_
      refine wc_region ?_
      (apply ow_move; (· rfl); (· ((conv => lhs; whnf) <;> rfl)))
      (apply ow_assign; (· rfl); (· ((conv => lhs; whnf) <;> rfl)))
      refine ow_nil ?_
      refine wc_seq ?_
      refine wc_region ?_
      (apply ow_move; (· rfl); (· ((conv => lhs; whnf) <;> rfl)))
      (apply ow_move; (· rfl); (· ((conv => lhs; whnf) <;> rfl)))
      (apply ow_move; (· rfl); (· ((conv => lhs; whnf) <;> rfl)))
      refine ow_call rfl rfl (ent (by kernel_rfl)) (CallsV.mono (hps (i : Int) _ H) ?_) rfl
      rintro v w ⟨rfl, H'⟩
      replace H := H.call H'
      simp only [List.nil_append] at H
      clear H'
      (apply ow_move; (· rfl); (· ((conv => lhs; whnf) <;> rfl)))
      (apply ow_move; (· rfl); (· ((conv => lhs; whnf) <;> rfl)))
      (apply ow_move; (· rfl); (· ((conv => lhs; whnf) <;> rfl)))
      refine ow_call rfl rfl (ent (by kernel_rfl)) (CallsV.mono (hpt (i : Int) _ H) ?_) rfl
      rintro v w ⟨rfl, H'⟩
      replace H := H.call H'
      simp only [List.nil_append] at H
      clear H'
      generalize pullZ (tb ms) p (i : Int) = a1 at h1 hd ⊢
      generalize pullZ (tb ms) tu (i : Int) = a2 at h2 hd ⊢
      refine ow_add rfl rfl rfl (by simp only [InK]; omega) ?_
      (apply ow_move; (· rfl); (· ((conv => lhs; whnf) <;> rfl)))
      (apply ow_move; (· rfl); (· ((conv => lhs; whnf) <;> rfl)))
      refine ow_call rfl rfl (ent (by kernel_rfl)) (CallsV.mono (degree_gspec g ms (i : Int) hn h4 hW _ (hGr H)) ?_) rfl
      rintro v w ⟨rfl, H'⟩
      replace H := H.call H'
      simp only [List.nil_append] at H
      clear H'
      rw [← hd]
      refine ow_neq rfl rfl rfl ?_
      refine ow_nil ?_
      rw [decide_eq_false (show ¬ ¬ (a1 + a2 = a1 + a2) from fun h => h rfl)]
      refine wc_cond_false rfl ?_
      refine wc_skip ?_
      refine wc_region ?_
      refine ow_add rfl rfl rfl (by simp only [InK]; omega) ?_
      (apply ow_move; (· rfl); (· ((conv => lhs; whnf) <;> rfl)))
      refine ow_nil ?_
      exact ⟨i + 1, by first | exact rfl | exact upd_self' rfl rfl | exact upd_self' rfl (upd_self' rfl rfl) | exact upd_self' rfl (upd_self' rfl (upd_self' rfl rfl)) | exact upd_self' rfl (upd_self' rfl (upd_self' rfl (upd_self' rfl rfl))), by repeat (first | with_reducible exact Off.mix | with_reducible exact Off.refl | ((with_reducible refine Off.upd ?_ ?_); (· rfl))), ⟨rfl, hlt, H⟩, by omega⟩
    · have hi' : i = g.ws.length := by omega
      subst hi'
      refine wc_exit ?_
      exact ⟨(), rfl, by repeat (first | with_reducible exact Off.mix | with_reducible exact Off.refl | ((with_reducible refine Off.upd ?_ ?_); (· rfl))), ⟨rfl, H⟩⟩
  clear H
  rintro _ j D w ⟨rfl, H⟩
  have e1 : pullZ (tb ms) p (-1) = 0 := if_neg (fun h => by omega)
  have e2 : pullZ (tb ms) p (g.ws.length : Int) = 0 := if_neg (fun h => by omega)
  have hl0 := sdU_len p 0 g.ws.length
  have hl1 := sdU_len p 1 g.ws.length
  have hS : ∀ (z : Int) (w : World), St Pu w0 w (.app q11 g.ws.length c11 3 1 (ints .i64 tu) :: .row bm 3 (ints .i64 p) :: grC g ms) [] → CallsV Try.prog 64 #[.slice (some ⟨bm, 0, none⟩) g.ws.length g.ws.length, .int .i64 z, .int .i64 1000] w fun v w' => ∃ q1 c1, v = .slice q1 (sdU p z g.ws.length).length c1 ∧ St Pu w w' [.app q1 (sdU p z g.ws.length).length c1 3 1 (ints .i64 (sdU p z g.ws.length))] [] := by
    intro z w H
    have h := sideW_spec (some ⟨bm, 0, none⟩) g.ws.length p z 1000 (by omega) w (H.rowSl (i := 1) rfl)
    have hlz := sdU_len p z p.length
    unfold sdL at h
    rw [List.take_of_length_le (by rw [show (1000 : Int).toNat = 1000 from rfl]; omega), hpl] at h
    exact h
  have hS2 : ∀ (w : World), SlH (hp w) q11 (ints .i64 tu) → CallsV Try.prog 64 #[.slice q11 g.ws.length c11, .int .i64 1, .int .i64 1000] w fun v w' => ∃ q1 c1, v = .slice q1 (sdU p 0 g.ws.length).length c1 ∧ St Pu w w' [.app q1 (sdU p 0 g.ws.length).length c1 3 1 (ints .i64 (sdU p 0 g.ws.length))] [] := by
    intro w hs
    have h := sideW_spec q11 c11 tu 1 1000 (by omega) w hs
    have hlz := sdU_len tu 1 tu.length
    unfold sdL at h
    rw [List.take_of_length_le (by rw [show (1000 : Int).toNat = 1000 from rfl]; omega), htl, ← hturn] at h
    exact h
  refine wc_seq ?_
  refine wc_region ?_
  (apply ow_move; (· rfl); (· ((conv => lhs; whnf) <;> rfl)))
  refine ow_call rfl rfl (ent (by kernel_rfl)) (CallsV.mono (hS 0 w H) ?_) rfl
  rintro v w ⟨qa, ca, rfl, Ha⟩
  have H2 := H.call Ha
  have H3 : St Pu w0 w (.app q11 g.ws.length c11 3 1 (ints .i64 tu) :: .row bm 3 (ints .i64 p) :: grC g ms) [] := H2.drop
  replace H := H2
  clear H2 Ha
  simp only [List.cons_append, List.nil_append] at H
  (apply ow_move; (· rfl); (· ((conv => lhs; whnf) <;> rfl)))
  refine ow_call rfl rfl (ent (by kernel_rfl)) (CallsV.mono (hS 1 w H3) ?_) rfl
  clear H3
  rintro v w ⟨qb, cb, rfl, Hb⟩
  replace H := (H.call Hb).drop
  clear Hb
  generalize hA : sdU p 0 g.ws.length = a at *
  generalize hB : sdU p 1 g.ws.length = b at *
  (apply ow_assign; (· rfl); (· ((conv => lhs; whnf) <;> rfl)))
  (apply ow_assign; (· rfl); (· ((conv => lhs; whnf) <;> rfl)))
  refine ow_nil ?_
  refine wc_seq ?_
  refine wc_region ?_
  (apply ow_move; (· rfl); (· ((conv => lhs; whnf) <;> rfl)))
  refine ow_len rfl rfl (tyAt rfl) rfl ?_
  (apply ow_move; (· rfl); (· ((conv => lhs; whnf) <;> rfl)))
  refine ow_len rfl rfl (tyAt rfl) rfl ?_
  refine ow_add rfl rfl rfl (by simp only [InK]; omega) ?_
  (apply ow_move; (· rfl); (· ((conv => lhs; whnf) <;> rfl)))
  refine ow_len rfl rfl (tyAt rfl) rfl ?_
  refine ow_eql rfl rfl rfl ?_
  (apply ow_move; (· rfl); (· ((conv => lhs; whnf) <;> rfl)))
  refine ow_guard_dec rfl rfl rfl (fun _ => ?_) (fun h => (h (by omega)).elim)
  refine ow_guard_yes rfl rfl rfl rfl ?_
  (apply ow_move; (· rfl); (· ((conv => lhs; whnf) <;> rfl)))
  refine ow_guard_yes rfl rfl rfl rfl ?_
  (apply ow_move; (· rfl); (· ((conv => lhs; whnf) <;> rfl)))
  refine ow_guard_yes rfl rfl rfl rfl ?_
  refine ow_call rfl rfl (ent (by kernel_rfl)) (CallsV.mono (hS2 _ (appOk.sl (H.cap (i := 1) rfl))) ?_) rfl
  rintro v w ⟨qc, cc, rfl, Hc⟩
  replace H := H.call Hc
  clear Hc
  simp only [List.cons_append, List.nil_append] at H
  refine ow_guard_yes rfl rfl rfl rfl ?_
  refine ow_call rfl rfl (ent (by kernel_rfl)) (CallsV.mono (sameInts_spec qa qc _ _ _ _ a a rfl rfl (by omega) (by omega) _ (appOk.sl (H.cap (i := 1) rfl)) (appOk.sl (H.cap (i := 0) rfl))) ?_) rfl
  rintro v w ⟨rfl, H'⟩
  replace H := H.call H'
  simp only [List.nil_append] at H
  clear H'
  rw [decide_eq_true (rfl : a = a)]
  replace H : St Pu w0 w (.app q11 g.ws.length c11 3 1 (ints .i64 tu) :: .row bm 3 (ints .i64 p) :: grC g ms) [] := H.drop.drop
  (apply ow_pick_t; (· rfl); (· rfl); (· ((conv => lhs; whnf) <;> rfl)))
  (apply ow_move; (· rfl); (· ((conv => lhs; whnf) <;> rfl)))
  refine ow_guard_yes rfl rfl rfl rfl ?_
  (apply ow_move; (· rfl); (· ((conv => lhs; whnf) <;> rfl)))
  refine ow_guard_yes rfl rfl rfl rfl ?_
  (apply ow_move; (· rfl); (· ((conv => lhs; whnf) <;> rfl)))
  refine ow_guard_yes rfl rfl rfl rfl ?_
  refine ow_call rfl rfl (ent (by kernel_rfl)) (CallsV.mono (hps (-1) _ H) ?_) rfl
  rintro v w ⟨rfl, H'⟩
  replace H := H.call H'
  simp only [List.nil_append] at H
  clear H'
  rw [e1]
  refine ow_guard_yes rfl rfl rfl rfl ?_
  refine ow_eql rfl rfl rfl ?_
  (apply ow_pick_t; (· rfl); (· rfl); (· ((conv => lhs; whnf) <;> rfl)))
  (apply ow_move; (· rfl); (· ((conv => lhs; whnf) <;> rfl)))
  refine ow_guard_yes rfl rfl rfl rfl ?_
  (apply ow_move; (· rfl); (· ((conv => lhs; whnf) <;> rfl)))
  refine ow_guard_yes rfl rfl rfl rfl ?_
  (apply ow_move; (· rfl); (· ((conv => lhs; whnf) <;> rfl)))
  refine ow_guard_yes rfl rfl rfl rfl ?_
  (apply ow_move; (· rfl); (· ((conv => lhs; whnf) <;> rfl)))
  refine ow_guard_yes rfl rfl rfl rfl ?_
  refine ow_len rfl rfl (tyAt rfl) rfl ?_
  refine ow_guard_yes rfl rfl rfl rfl ?_
  refine ow_call rfl rfl (ent (by kernel_rfl)) (CallsV.mono (hps (g.ws.length : Int) _ H) ?_) rfl
  rintro v w ⟨rfl, H'⟩
  replace H := H.call H'
  simp only [List.nil_append] at H
  clear H'
  rw [e2]
  refine ow_guard_yes rfl rfl rfl rfl ?_
  refine ow_eql rfl rfl rfl ?_
  (apply ow_pick_t; (· rfl); (· rfl); (· ((conv => lhs; whnf) <;> rfl)))
  (apply ow_assign; (· rfl); (· ((conv => lhs; whnf) <;> rfl)))
  refine ow_nil ?_
  refine wc_ret ?_
  obtain ⟨w, hT, H⟩ := H.takes Try.prog
  refine ⟨.inr rfl, w, hT, _, .tmp .nil, ?_⟩
  exact ⟨rfl, H.none⟩
end Go.Proofs.Ytgliblmpiilloaa
