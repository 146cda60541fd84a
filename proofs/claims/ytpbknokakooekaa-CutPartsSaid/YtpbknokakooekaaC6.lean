/- The statement's function 'sandtablelaw09.CutNames' returns true at every input, and changes nothing that was there. -/
import Derived.Test.YtpbknokakooekaaC5
namespace Go.Proofs.Ytpbknokakooekaa
set_option linter.all false
open Go Go.Sx Go.Proofs
set_option maxRecDepth 100000
set_option maxHeartbeats 2000000
def trn (k : Int) (p : List Int) : List Int := p.map fun z => k - 1 - z
def hlf (p : List Int) : List Int := p.map fun z => z / 2
theorem map_at {f : Int → Int} {p : List Int} {j : Nat} (h : j < p.length) : (p.map f).getD j 0 = f (p.getD j 0) := by
  rw [List.getD_eq_getElem?_getD, List.getElem?_map, getD_some h]; rfl
theorem trn_right {n : Nat} {p : List Int} {k : Int} (h : CutR n p k) : CutR n (trn k p) k := ⟨h.1, by unfold trn; rw [List.length_map]; exact h.2.1, fun j hj => by
  unfold trn at hj ⊢
  rw [List.length_map] at hj
  have := h.2.2 j hj
  rw [map_at hj]
  unfold badP at this ⊢
  omega⟩
theorem hlf_right {n : Nat} {p : List Int} {k : Int} (h : CutR n p k) : CutR n (hlf p) k := ⟨h.1, by unfold hlf; rw [List.length_map]; exact h.2.1, fun j hj => by
  unfold hlf at hj ⊢
  rw [List.length_map] at hj
  have := h.2.2 j hj
  rw [map_at hj]
  unfold badP at this ⊢
  omega⟩
theorem trn_cut {T : List IE} (hW : Wf T) {p : List Int} {k : Int} (hl : p.length = T.length) : cutM T (trn k p) = cutM T p := by
  refine Int.le_antisymm ?_ ?_
  · refine cut_mono hW fun a b ha hb h => ?_
    unfold trn
    rw [map_at (by omega), map_at (by omega), h]
  · refine cut_mono hW fun a b ha hb h => ?_
    unfold trn at h
    rw [map_at (by omega), map_at (by omega)] at h
    omega
theorem hlf_cut {T : List IE} (hW : Wf T) {p : List Int} (hl : p.length = T.length) : cutM T (hlf p) ≤ cutM T p := cut_mono hW fun a b ha hb h => by
  unfold hlf
  rw [map_at (by omega), map_at (by omega), h]
theorem trn_wt {ws p : List Int} {k c : Nat} (hc : c < k) : ∀ n, n ≤ p.length → wtAt ws (trn (k : Int) p) (k - 1 - c) n = wtAt ws p c n := fun n hn => by
  unfold wtAt trn
  refine sumN_congr fun t ht => ?_
  rw [map_at (by omega)]
  by_cases h : p.getD t 0 = (c : Int)
  · rw [if_pos h, if_pos (by omega)]
  · rw [if_neg h, if_neg (by omega)]
theorem trn_fit {ws p : List Int} {k : Int} (hR : CutR ws.length p k) : fitsB ws (trn k p) k ↔ fitsB ws p k := by
  have hk := hR.1
  unfold mayK at hk
  obtain ⟨kn, rfl⟩ : ∃ kn : Nat, k = (kn : Int) := ⟨k.toNat, by omega⟩
  have hl : (trn (kn : Int) p).length = p.length := by unfold trn; rw [List.length_map]
  unfold fitsB
  rw [Int.toNat_natCast, hl]
  constructor
  · exact fun h => ⟨hR, fun j hj => by rw [← trn_wt (ws := ws) hj p.length (Nat.le_refl _)]; exact h.2 _ (by omega)⟩
  · refine fun h => ⟨trn_right hR, fun j hj => ?_⟩
    have := trn_wt (ws := ws) (p := p) (k := kn) (c := kn - 1 - j) (by omega) p.length (Nat.le_refl _)
    rw [show kn - 1 - (kn - 1 - j) = j by omega] at this
    rw [this]
    exact h.2 _ (by omega)
theorem law09Names (q q2 q3 : Option Addr) (cap cap2 cap3 : Nat) (ws : List Int) (ops : List OpA) (part : List Int) (k : Int) (hm : ws.length ≤ 9223372036854775807) (hm2 : ops.length ≤ 9223372036854775807) (hm3 : part.length ≤ 9223372036854775807) (w0 : World) (hq : SlH (hp w0) q (ints .i64 ws)) (hq2 : SlH (hp w0) q2 (ops.flatMap opA)) (hs : SlH (hp w0) q3 (ints .i64 part)) :
    CallsV Try.prog 13 #[.slice q ws.length cap, .slice q2 ops.length cap2, .slice q3 part.length cap3, .int .i64 k] w0 fun v w => v = .bool true ∧ St Pu w0 w [] [] := by
  refine callsV_of Try.func13 rfl rfl ?_
  refine wc_seq ?_
  refine wc_region ?_
  (apply ow_assign; (· rfl); (· ((conv => lhs; whnf) <;> rfl)))
  refine ow_nil ?_
  refine wc_seq ?_
  refine wc_seq ?_
  refine wc_region ?_
  refine ow_call rfl rfl (ent (by kernel_rfl)) (CallsV.mono (alive09 w0) ?_) rfl
  rintro v w ⟨rfl, H⟩
  refine ow_not rfl rfl ?_
  refine ow_nil ?_
  refine wc_cond_false rfl ?_
  refine wc_skip ?_
  refine wc_seq ?_
  refine wc_region ?_
  (apply ow_move; (· rfl); (· ((conv => lhs; whnf) <;> rfl)))
  (apply ow_move; (· rfl); (· ((conv => lhs; whnf) <;> rfl)))
  refine ow_call rfl rfl (ent (by kernel_rfl)) (CallsV.mono (build09_spec q q2 cap cap2 ws ops hm hm2 w (H.oldSl hq) (H.oldSl hq2)) ?_) rfl
  rintro v w (⟨rfl, _, H'⟩ | ⟨g, x, ms, rows, rfl, rfl, hxw, h30, hmay, hW, hn, _, hM, H'⟩)
  · replace H := H.call H'
    rw [List.nil_append] at H
    clear H'
    (apply ow_move; (· rfl); (· ((conv => lhs; whnf) <;> rfl)))
    refine ow_extract rfl rfl rfl ?_
    refine ow_extract rfl rfl rfl ?_
    refine ow_extract rfl rfl rfl ?_
    refine ow_alloc (l := [.slice none 0 0, .slice none 0 0]) H rfl (tyAt rfl) rfl (fun b6 w H => ?_)
    (apply ow_assign; (· rfl); (· ((conv => lhs; whnf) <;> rfl)))
    refine ow_storeA (i := 0) (o := 0) (l' := [.slice none 0 0, .slice none 0 0]) H (tyAt rfl) rfl rfl rfl rfl (by simp [Value.oneCell']) (by simp) (fun w H => ?_)
    (apply ow_assign; (· rfl); (· ((conv => lhs; whnf) <;> rfl)))
    refine ow_nil ?_
    refine wc_seq ?_
    refine wc_seq ?_
    refine wc_region ?_
    (apply ow_move; (· rfl); (· ((conv => lhs; whnf) <;> rfl)))
    refine ow_not rfl rfl ?_
    (apply ow_move; (· rfl); (· ((conv => lhs; whnf) <;> rfl)))
    refine ow_guard_no rfl rfl rfl rfl rfl rfl rfl ?_
    refine ow_guard_no rfl rfl rfl rfl rfl rfl rfl ?_
    refine ow_guard_no rfl rfl rfl rfl rfl rfl rfl ?_
    (apply ow_pick_t; (· rfl); (· rfl); (· ((conv => lhs; whnf) <;> rfl)))
    (apply ow_move; (· rfl); (· ((conv => lhs; whnf) <;> rfl)))
    refine ow_guard_no rfl rfl rfl rfl rfl rfl rfl ?_
    refine ow_guard_no rfl rfl rfl rfl rfl rfl rfl ?_
    (apply ow_pick_t; (· rfl); (· rfl); (· ((conv => lhs; whnf) <;> rfl)))
    (apply ow_move; (· rfl); (· ((conv => lhs; whnf) <;> rfl)))
    refine ow_guard_no rfl rfl rfl rfl rfl rfl rfl ?_
    refine ow_guard_no rfl rfl rfl rfl rfl rfl rfl ?_
    refine ow_guard_no rfl rfl rfl rfl rfl rfl rfl ?_
    refine ow_guard_no rfl rfl rfl rfl rfl rfl rfl ?_
    refine ow_guard_no rfl rfl rfl rfl rfl rfl rfl ?_
    (apply ow_pick_t; (· rfl); (· rfl); (· ((conv => lhs; whnf) <;> rfl)))
    refine ow_nil ?_
    refine wc_cond_true rfl ?_
    refine wc_seq ?_
    refine wc_region ?_
    (apply ow_assign; (· rfl); (· ((conv => lhs; whnf) <;> rfl)))
    refine ow_nil ?_
    refine wc_ret ?_
    obtain ⟨w, hT, H⟩ := H.takes Try.prog
    refine ⟨.inr rfl, w, hT, _, .tmp .nil, ?_⟩
    exact ⟨rfl, H.none⟩
  replace H : St Pu w0 w (grC g ms ++ rfC x rows) [] := (H.call H').sub (List.sublist_append_left _ _)
  clear H'
  (apply ow_move; (· rfl); (· ((conv => lhs; whnf) <;> rfl)))
  refine ow_extract rfl rfl rfl ?_
  refine ow_extract rfl rfl rfl ?_
  refine ow_extract rfl rfl rfl ?_
  refine ow_alloc (l := [.slice none 0 0, .slice none 0 0]) H rfl (tyAt rfl) rfl (fun b6 w H => ?_)
  (apply ow_assign; (· rfl); (· ((conv => lhs; whnf) <;> rfl)))
  refine ow_storeA (i := 0) (o := 0) (l' := rfV x rows) H (tyAt rfl) rfl rfl rfl rfl (by simp [Value.oneCell']) (by simp) (fun w H => ?_)
  have h4 : g.ws.length ≤ 4096 := by omega
  have h1k : g.ws.length ≤ 1000 := by omega
  have hTl : (tb ms).length = g.ws.length := by rw [tb_len, hn]
  have hxl : (tb ms).length = x.ws.length := by rw [hTl, hxw]
  replace H : St Pu w0 w ([.row b6 45 (rfV x rows)] ++ (grC g ms ++ rfC x rows)) [] := H
  obtain ⟨RR, hRR⟩ : ∃ RR, grC g ms ++ rfC x rows = RR := ⟨_, rfl⟩
  have hGr : ∀ {w : World} {pre : List Cap}, St Pu w0 w (pre ++ RR) [] → Gr (hp w) g ms := fun H => gr_of_ok fun c hc => okAll H c (List.mem_append_right _ (by rw [← hRR]; exact List.mem_append_left _ hc))
  have hRf : ∀ {w : World} {pre : List Cap}, St Pu w0 w (pre ++ RR) [] → Rf (hp w) x rows := fun H => rf_of_ok fun c hc => okAll H c (List.mem_append_right _ (by rw [← hRR]; exact List.mem_append_right _ hc))
  rw [hRR] at H
  clear hRR
  (apply ow_assign; (· rfl); (· ((conv => lhs; whnf) <;> rfl)))
  refine ow_nil ?_
  refine wc_seq ?_
  refine wc_seq ?_
  refine wc_region ?_
  (apply ow_move; (· rfl); (· ((conv => lhs; whnf) <;> rfl)))
  refine ow_not rfl rfl ?_
  (apply ow_move; (· rfl); (· ((conv => lhs; whnf) <;> rfl)))
  refine ow_guard_yes rfl rfl rfl rfl ?_
  (apply ow_move; (· rfl); (· ((conv => lhs; whnf) <;> rfl)))
  refine ow_guard_yes rfl rfl rfl rfl ?_
  refine ow_len rfl rfl (tyAt rfl) rfl ?_
  refine ow_guard_yes rfl rfl rfl rfl ?_
  refine ow_gtr rfl rfl rfl ?_
  (apply ow_pick_f; (· rfl); (· rfl); (· ((conv => lhs; whnf) <;> rfl)))
  (apply ow_move; (· rfl); (· ((conv => lhs; whnf) <;> rfl)))
  refine ow_guard_dec rfl rfl rfl (fun h => ?_) (fun h => ?_) <;> try dsimp only at h
  · refine ow_guard_no rfl rfl rfl rfl rfl rfl rfl ?_
    refine ow_guard_no rfl rfl rfl rfl rfl rfl rfl ?_
    (apply ow_pick_t; (· rfl); (· rfl); (· ((conv => lhs; whnf) <;> rfl)))
    (apply ow_move; (· rfl); (· ((conv => lhs; whnf) <;> rfl)))
    refine ow_guard_no rfl rfl rfl rfl rfl rfl rfl ?_
    refine ow_guard_no rfl rfl rfl rfl rfl rfl rfl ?_
    refine ow_guard_no rfl rfl rfl rfl rfl rfl rfl ?_
    refine ow_guard_no rfl rfl rfl rfl rfl rfl rfl ?_
    refine ow_guard_no rfl rfl rfl rfl rfl rfl rfl ?_
    (apply ow_pick_t; (· rfl); (· rfl); (· ((conv => lhs; whnf) <;> rfl)))
    refine ow_nil ?_
    refine wc_cond_true rfl ?_
    refine wc_seq ?_
    refine wc_region ?_
    (apply ow_assign; (· rfl); (· ((conv => lhs; whnf) <;> rfl)))
    refine ow_nil ?_
    refine wc_ret ?_
    obtain ⟨w, hT, H⟩ := H.takes Try.prog
    refine ⟨.inr rfl, w, hT, _, .tmp .nil, ?_⟩
    exact ⟨rfl, H.none⟩
  have hp60 : part.length ≤ 60 := by omega
  clear h
  refine ow_guard_yes rfl rfl rfl rfl ?_
  (apply ow_move; (· rfl); (· ((conv => lhs; whnf) <;> rfl)))
  refine ow_guard_yes rfl rfl rfl rfl ?_
  refine ow_gtr rfl rfl rfl ?_
  (apply ow_pick_f; (· rfl); (· rfl); (· ((conv => lhs; whnf) <;> rfl)))
  (apply ow_move; (· rfl); (· ((conv => lhs; whnf) <;> rfl)))
  refine ow_guard_dec rfl rfl rfl (fun h => ?_) (fun h => ?_) <;> try dsimp only at h
  · refine ow_guard_no rfl rfl rfl rfl rfl rfl rfl ?_
    refine ow_guard_no rfl rfl rfl rfl rfl rfl rfl ?_
    refine ow_guard_no rfl rfl rfl rfl rfl rfl rfl ?_
    refine ow_guard_no rfl rfl rfl rfl rfl rfl rfl ?_
    refine ow_guard_no rfl rfl rfl rfl rfl rfl rfl ?_
    (apply ow_pick_t; (· rfl); (· rfl); (· ((conv => lhs; whnf) <;> rfl)))
    refine ow_nil ?_
    refine wc_cond_true rfl ?_
    refine wc_seq ?_
    refine wc_region ?_
    (apply ow_assign; (· rfl); (· ((conv => lhs; whnf) <;> rfl)))
    refine ow_nil ?_
    refine wc_ret ?_
    obtain ⟨w, hT, H⟩ := H.takes Try.prog
    refine ⟨.inr rfl, w, hT, _, .tmp .nil, ?_⟩
    exact ⟨rfl, H.none⟩
  have hk60 : k ≤ 60 := by omega
  clear h
  refine ow_guard_yes rfl rfl rfl rfl ?_
  (apply ow_move; (· rfl); (· ((conv => lhs; whnf) <;> rfl)))
  refine ow_guard_yes rfl rfl rfl rfl ?_
  (apply ow_move; (· rfl); (· ((conv => lhs; whnf) <;> rfl)))
  refine ow_guard_yes rfl rfl rfl rfl ?_
  (apply ow_move; (· rfl); (· ((conv => lhs; whnf) <;> rfl)))
  refine ow_guard_yes rfl rfl rfl rfl ?_
  refine ow_call rfl rfl (ent (by kernel_rfl)) (CallsV.mono (cutRight_spec g ms part q3 cap3 k hm3 _ (hGr H) (H.oldSl hs)) ?_) rfl
  rintro v w ⟨rfl, H'⟩
  replace H : St Pu w0 w ([.row b6 45 (rfV x rows)] ++ RR) [] := H.call H'
  clear H'
  by_cases hR : ¬ CutR g.ws.length part k
  · rw [decide_eq_false hR]
    refine ow_guard_yes rfl rfl rfl rfl ?_
    refine ow_not rfl rfl ?_
    (apply ow_pick_f; (· rfl); (· rfl); (· ((conv => lhs; whnf) <;> rfl)))
    refine ow_nil ?_
    refine wc_cond_true rfl ?_
    refine wc_seq ?_
    refine wc_region ?_
    (apply ow_assign; (· rfl); (· ((conv => lhs; whnf) <;> rfl)))
    refine ow_nil ?_
    refine wc_ret ?_
    obtain ⟨w, hT, H⟩ := H.takes Try.prog
    refine ⟨.inr rfl, w, hT, _, .tmp .nil, ?_⟩
    exact ⟨rfl, H.none⟩
  replace hR := Decidable.of_not_not hR
  rw [decide_eq_true hR]
  have hk := hR.1
  unfold mayK at hk
  have hpl := hR.2.1
  obtain ⟨kn, rfl⟩ : ∃ kn : Nat, k = (kn : Int) := ⟨k.toNat, by omega⟩
  replace H : St Pu w0 w ([] ++ RR) [] := H.sub (List.sublist_append_right _ _)
  refine ow_guard_yes rfl rfl rfl rfl ?_
  refine ow_not rfl rfl ?_
  (apply ow_pick_f; (· rfl); (· rfl); (· ((conv => lhs; whnf) <;> rfl)))
  refine ow_nil ?_
  refine wc_cond_false rfl ?_
  refine wc_skip ?_
  refine wc_seq ?_
  refine wc_region ?_
  refine ow_buildSlice0 H rfl (tyAt rfl) rfl (tyAt rfl) (fun ba w H => ?_)
  replace H := H.rowApp (i := 0) (len := 0) (sz := 1) rfl rfl (by omega)
  dsimp only [List.set] at H
  replace H : St Pu w0 w (.app (some ⟨ba, 0, none⟩) 0 0 3 1 (ints .i64 (trn (kn : Int) (part.take 0))) :: RR) [] := H
  refine ow_buildSlice0 H rfl (tyAt rfl) rfl (tyAt rfl) (fun bb w H => ?_)
  replace H := H.rowApp (i := 0) (len := 0) (sz := 1) rfl rfl (by omega)
  dsimp only [List.set] at H
  replace H : St Pu w0 w ([.app (some ⟨bb, 0, none⟩) 0 0 3 1 (ints .i64 (hlf (part.take 0))), .app (some ⟨ba, 0, none⟩) 0 0 3 1 (ints .i64 (trn (kn : Int) (part.take 0)))] ++ RR) [] := H
  (apply ow_assign; (· rfl); (· ((conv => lhs; whnf) <;> rfl)))
  (apply ow_assign; (· rfl); (· ((conv => lhs; whnf) <;> rfl)))
  refine ow_nil ?_
  refine wc_seq ?_
  refine wc_seq ?_
  refine wc_region ?_
  (apply ow_move; (· rfl); (· ((conv => lhs; whnf) <;> rfl)))
  refine ow_len rfl rfl (tyAt rfl) rfl ?_
  (apply ow_move; (· rfl); (· ((conv => lhs; whnf) <;> rfl)))
  refine ow_nil ?_
  refine wc_blockJ [12, 13, 15, 50, 51, 52, 53, 54, 55, 56, 57, 58, 59, 60, 61, 62, 63, 64, 65, 66] (fun (s : Option Addr × Nat × Option Addr × Nat) e => upd (upd e 12 (.slice s.1 part.length s.2.1)) 13 (.slice s.2.2.1 part.length s.2.2.2)) (fun s D w => D = [] ∧ St Pu w0 w ([.app s.2.2.1 part.length s.2.2.2 3 1 (ints .i64 (hlf part)), .app s.1 part.length s.2.1 3 1 (ints .i64 (trn (kn : Int) part))] ++ RR) []) ?_ ?_
  · refine wc_loopS [12, 13, 15, 50, 51, 52, 53, 54, 55, 56, 57, 58, 59, 60, 61, 62, 63, 64, 65, 66] (fun (s : Nat × Option Addr × Nat × Option Addr × Nat) e => upd (upd (upd e 12 (.slice s.2.1 s.1 s.2.2.1)) 13 (.slice s.2.2.2.1 s.1 s.2.2.2.2)) 50 (.int .i64 s.1)) (fun s D w => D = [] ∧ s.1 ≤ part.length ∧ St Pu w0 w ([.app s.2.2.2.1 s.1 s.2.2.2.2 3 1 (ints .i64 (hlf (part.take s.1))), .app s.2.1 s.1 s.2.2.1 3 1 (ints .i64 (trn (kn : Int) (part.take s.1)))] ++ RR) []) (fun s _ => part.length - s.1) (0, some ⟨ba, 0, none⟩, 0, some ⟨bb, 0, none⟩, 0) (by first | exact rfl | exact upd_self' rfl rfl | exact upd_self' rfl (upd_self' rfl rfl) | exact upd_self' rfl (upd_self' rfl (upd_self' rfl rfl)) | exact upd_self' rfl (upd_self' rfl (upd_self' rfl (upd_self' rfl rfl)))) ⟨rfl, Nat.zero_le _, H⟩ ?_
    clear H
    rintro ⟨i, qa, ca, qb, cb⟩ j D w ⟨rfl, hi, H⟩
    dsimp only at hi H ⊢
    refine wc_seq ?_
    refine wc_region ?_
    refine ow_lss rfl rfl rfl ?_
    refine ow_nil ?_
    refine wc_seq ?_
    refine wc_cond_dec rfl (fun h => ?_) (fun h => ?_) <;> try dsimp only at h
    · have hlt : i < part.length := by omega
      clear h
      have hbi := hR.2.2 i hlt
      unfold badP at hbi
      have ht1 : trn (kn : Int) (part.take (i + 1)) = trn (kn : Int) (part.take i) ++ [(kn : Int) - 1 - part.getD i 0] := by unfold trn; rw [take_snoc (getD_some hlt), List.map_append]; rfl
      have ht2 : hlf (part.take (i + 1)) = hlf (part.take i) ++ [part.getD i 0 / 2] := by unfold hlf; rw [take_snoc (getD_some hlt), List.map_append]; rfl
      have hsx := hs
      obtain ⟨bq, o, rfl⟩ := hs.some_of (by simp; omega)
      refine wc_skip ?_
      refine wc_seq ?_
      refine wc_block ?_
      refine wc_seq ?_
      refine wc_region ?_
      refine ow_idx1 (j := i) rfl (tyAt rfl) rfl (tyAt rfl) rfl rfl rfl hlt rfl ?_
      refine ow_load rfl (tyAt rfl) rfl rfl ((H.oldSl hsx).int hlt) ?_
      (apply ow_assign; (· rfl); (· ((conv => lhs; whnf) <;> rfl)))
      refine ow_nil ?_
      refine wc_region ?_
      (apply ow_move; (· rfl); (· ((conv => lhs; whnf) <;> rfl)))
      (apply ow_move; (· rfl); (· ((conv => lhs; whnf) <;> rfl)))
      refine ow_sub rfl rfl rfl (by simp only [InK]; omega) ?_
      (apply ow_move; (· rfl); (· ((conv => lhs; whnf) <;> rfl)))
      refine ow_sub rfl rfl rfl (by simp only [InK]; omega) ?_
      refine ow_buildSlice1 (vs := [.int .i64 ((kn : Int) - 1 - part.getD i 0)]) H rfl (tyAt rfl) rfl (tyAt rfl) rfl rfl rfl rfl rfl (by simp [Value.one]) (fun ea w H => ?_)
      refine ow_append (i := 2) H rfl rfl (tyAt rfl) rfl (tyAt rfl) rfl (by decide) rfl rfl (H.rowSl (i := 0) rfl) rfl (by simp [Value.oneCell']) (by dsimp only; omega) (by omega) (fun p1 d1 w H => ?_)
      simp only [List.cons_append, List.set] at H
      replace H := H.drop
      (apply ow_move; (· rfl); (· ((conv => lhs; whnf) <;> rfl)))
      (apply ow_move; (· rfl); (· ((conv => lhs; whnf) <;> rfl)))
      refine ow_quo rfl rfl rfl (by omega) (by omega) (by simp only [InK]; omega) ?_
      refine ow_buildSlice1 (vs := [.int .i64 (part.getD i 0 / 2)]) H rfl (tyAt rfl) rfl (tyAt rfl) rfl rfl rfl rfl rfl (by simp [Value.one]) (fun eb w H => ?_)
      refine ow_append (i := 1) H rfl rfl (tyAt rfl) rfl (tyAt rfl) rfl (by decide) rfl rfl (H.rowSl (i := 0) rfl) rfl (by simp [Value.oneCell']) (by dsimp only; omega) (by omega) (fun p2 d2 w H => ?_)
      simp only [List.cons_append, List.set] at H
      replace H := H.drop
      rw [← ints_snoc1, ← ints_snoc1, ← ht1, ← ht2] at H
      (apply ow_assign; (· rfl); (· ((conv => lhs; whnf) <;> rfl)))
      (apply ow_assign; (· rfl); (· ((conv => lhs; whnf) <;> rfl)))
      refine ow_nil ?_
      refine wc_region ?_
      refine ow_add rfl rfl rfl (by simp only [InK]; omega) ?_
      (apply ow_move; (· rfl); (· ((conv => lhs; whnf) <;> rfl)))
      refine ow_nil ?_
      exact ⟨(i + 1, p1, d1, p2, d2), by first | exact rfl | exact upd_self' rfl rfl | exact upd_self' rfl (upd_self' rfl rfl) | exact upd_self' rfl (upd_self' rfl (upd_self' rfl rfl)) | exact upd_self' rfl (upd_self' rfl (upd_self' rfl (upd_self' rfl rfl))), by repeat (first | with_reducible exact Off.mix | with_reducible exact Off.refl | ((with_reducible refine Off.upd ?_ ?_); (· rfl))), ⟨rfl, hlt, H⟩, by dsimp only; omega⟩
    · have hi' : i = part.length := by omega
      subst hi'
      rw [List.take_length] at H
      refine wc_exit ?_
      exact ⟨(qa, ca, qb, cb), by first | exact rfl | exact upd_self' rfl rfl | exact upd_self' rfl (upd_self' rfl rfl) | exact upd_self' rfl (upd_self' rfl (upd_self' rfl rfl)) | exact upd_self' rfl (upd_self' rfl (upd_self' rfl (upd_self' rfl rfl))), by repeat (first | with_reducible exact Off.mix | with_reducible exact Off.refl | ((with_reducible refine Off.upd ?_ ?_); (· rfl))), ⟨rfl, H⟩⟩
  clear H
  rintro ⟨qa, ca, qb, cb⟩ j D w ⟨rfl, H⟩
  dsimp only at H ⊢
  have hRt := trn_right hR
  have hRh := hlf_right hR
  have htl : (trn (kn : Int) part).length = part.length := by unfold trn; rw [List.length_map]
  have hhl : (hlf part).length = part.length := by unfold hlf; rw [List.length_map]
  have hct := fun w hG hsz => cut_spec g ms (trn (kn : Int) part) qa ca (kn : Int) (by omega) hn h1k hW w hG hsz
  rw [if_pos hRt, htl, trn_cut hW (by omega)] at hct
  have hch := fun w hG hsz => cut_spec g ms (hlf part) qb cb (kn : Int) (by omega) hn h1k hW w hG hsz
  rw [if_pos hRh, hhl] at hch
  have hcp := fun w hG hsz => cut_spec g ms part q3 cap3 (kn : Int) hm3 hn h1k hW w hG hsz
  rw [if_pos hR] at hcp
  have hft := fun w hG hsz => fits_spec g ms (trn (kn : Int) part) qa ca (kn : Int) (by omega) hmay hn h4 w hG hsz
  rw [htl, show decide (fitsB g.ws (trn (kn : Int) part) (kn : Int)) = decide (fitsB g.ws part (kn : Int)) from decide_eq_decide.2 (trn_fit hR)] at hft
  have hfp := fun w hG hsz => fits_spec g ms part q3 cap3 (kn : Int) hm3 hmay hn h4 w hG hsz
  have hwt := fun w hG hsz => weights_spec g ms (trn (kn : Int) part) qa ca kn (by omega) hmay hn h4 w hG hsz
  rw [htl] at hwt
  have hcl := hlf_cut hW (p := part) (by omega)
  have htw : ∀ c, c < kn → (wtL g.ws (trn (kn : Int) part) kn part.length).getD (kn - 1 - c) 0 = (wtL g.ws part kn part.length).getD c 0 := fun c hc => by
    rw [wtL_at hc, wtL_at (by omega), trn_wt hc _ (Nat.le_refl _)]
  refine wc_seq ?_
  refine wc_region ?_
  (apply ow_move; (· rfl); (· ((conv => lhs; whnf) <;> rfl)))
  (apply ow_move; (· rfl); (· ((conv => lhs; whnf) <;> rfl)))
  (apply ow_move; (· rfl); (· ((conv => lhs; whnf) <;> rfl)))
  refine ow_call rfl rfl (ent (by kernel_rfl)) (CallsV.mono (weights_spec g ms part q3 cap3 kn hm3 hmay hn h4 _ (hGr H) (H.oldSl hs)) ?_) rfl
  rintro v w (⟨hno, _⟩ | ⟨_, bwt, rfl, H'⟩)
  · exact absurd hR hno
  replace H : St Pu w0 w ([.row bwt 2 (ints .i64 (wtL g.ws part kn part.length)), .app qb part.length cb 3 1 (ints .i64 (hlf part)), .app qa part.length ca 3 1 (ints .i64 (trn (kn : Int) part))] ++ RR) [] := H.call H'
  clear H'
  (apply ow_move; (· rfl); (· ((conv => lhs; whnf) <;> rfl)))
  (apply ow_move; (· rfl); (· ((conv => lhs; whnf) <;> rfl)))
  (apply ow_move; (· rfl); (· ((conv => lhs; whnf) <;> rfl)))
  refine ow_call rfl rfl (ent (by kernel_rfl)) (CallsV.mono (hwt _ (hGr H) (appOk.sl (H.cap (i := 2) rfl))) ?_) rfl
  rintro v w (⟨hno, _⟩ | ⟨_, bwu, rfl, H'⟩)
  · exact absurd hRt hno
  replace H : St Pu w0 w ([.row bwu 2 (ints .i64 (wtL g.ws (trn (kn : Int) part) kn part.length)), .row bwt 2 (ints .i64 (wtL g.ws part kn part.length)), .app qb part.length cb 3 1 (ints .i64 (hlf part)), .app qa part.length ca 3 1 (ints .i64 (trn (kn : Int) part))] ++ RR) [] := H.call H'
  clear H'
  have hl1 := wtL_len g.ws part kn part.length
  have hl2 := wtL_len g.ws (trn (kn : Int) part) kn part.length
  generalize wtL g.ws (trn (kn : Int) part) kn part.length = WU at *
  generalize wtL g.ws part kn part.length = W at *
  (apply ow_assign; (· rfl); (· ((conv => lhs; whnf) <;> rfl)))
  (apply ow_assign; (· rfl); (· ((conv => lhs; whnf) <;> rfl)))
  refine ow_nil ?_
  refine wc_seq ?_
  refine wc_seq ?_
  refine wc_region ?_
  (apply ow_move; (· rfl); (· ((conv => lhs; whnf) <;> rfl)))
  refine ow_len rfl rfl (tyAt rfl) rfl ?_
  (apply ow_move; (· rfl); (· ((conv => lhs; whnf) <;> rfl)))
  refine ow_nil ?_
  refine wc_blockJ [8, 18, 77, 78, 79, 80, 81, 82, 83, 84, 85, 86, 87, 88, 89, 90, 91, 92] (fun (_ : Unit) e => e) (fun _ D w => D = [] ∧ St Pu w0 w ([.row bwu 2 (ints .i64 WU), .row bwt 2 (ints .i64 W), .app qb part.length cb 3 1 (ints .i64 (hlf part)), .app qa part.length ca 3 1 (ints .i64 (trn (kn : Int) part))] ++ RR) []) ?_ ?_
  · refine wc_loopS [8, 18, 77, 78, 79, 80, 81, 82, 83, 84, 85, 86, 87, 88, 89, 90, 91, 92] (fun (s : Nat) e => upd e 77 (.int .i64 s)) (fun s D w => D = [] ∧ s ≤ kn ∧ St Pu w0 w ([.row bwu 2 (ints .i64 WU), .row bwt 2 (ints .i64 W), .app qb part.length cb 3 1 (ints .i64 (hlf part)), .app qa part.length ca 3 1 (ints .i64 (trn (kn : Int) part))] ++ RR) []) (fun s _ => kn - s) 0 (by first | exact rfl | exact upd_self' rfl rfl | exact upd_self' rfl (upd_self' rfl rfl) | exact upd_self' rfl (upd_self' rfl (upd_self' rfl rfl)) | exact upd_self' rfl (upd_self' rfl (upd_self' rfl (upd_self' rfl rfl)))) ⟨rfl, Nat.zero_le _, H⟩ ?_
    clear H
    rintro i jj D w ⟨rfl, hi, H⟩
    refine wc_seq ?_
    refine wc_region ?_
    refine ow_lss rfl rfl rfl ?_
    refine ow_nil ?_
    refine wc_seq ?_
    refine wc_cond_dec rfl (fun h => ?_) (fun h => ?_) <;> try dsimp only at h
    · have hlt : i < kn := by omega
      clear h
      have htwi := htw i hlt
      refine wc_skip ?_
      refine wc_seq ?_
      refine wc_block ?_
      refine wc_seq ?_
      refine wc_region ?_
      (apply ow_move; (· rfl); (· ((conv => lhs; whnf) <;> rfl)))
      (apply ow_assign; (· rfl); (· ((conv => lhs; whnf) <;> rfl)))
      refine ow_nil ?_
      refine wc_seq ?_
      refine wc_drawK (fun w => St Pu w0 w ([.row bwu 2 (ints .i64 WU), .row bwt 2 (ints .i64 W), .app qb part.length cb 3 1 (ints .i64 (hlf part)), .app qa part.length ca 3 1 (ints .i64 (trn (kn : Int) part))] ++ RR) []) 99 (by kernel_rfl) (by kernel_rfl) (by intro c e D w h; first | exact h.elim | (rcases h with ⟨h | h, _⟩ <;> cases h)) ?_
      replace H := H.drew
      apply ak_take (i := 0) rfl rfl rfl rfl (by kernel_rfl) (by with_reducible first | exact H | rfl)
      · intro w Q' HS hq; replace H := HS; clear HS; (apply ow_move; (· rfl); (· ((conv => lhs; whnf) <;> rfl))); exact ow_nil hq
      apply ak_take (i := 1) rfl rfl rfl rfl (by kernel_rfl) (by with_reducible first | exact H | rfl)
      · intro w Q' HS hq; replace H := HS; clear HS; (apply ow_move; (· rfl); (· ((conv => lhs; whnf) <;> rfl))); exact ow_nil hq
      apply ak_take (i := 2) rfl rfl rfl rfl (by kernel_rfl) (by with_reducible first | exact H | rfl)
      · intro w Q' HS hq; replace H := HS; clear HS; refine ow_idx1 (j := i) rfl (tyAt rfl) rfl (tyAt rfl) rfl rfl rfl hlt rfl ?_; exact ow_nil hq
      apply ak_take (i := 3) rfl rfl rfl rfl (by kernel_rfl) (by with_reducible first | exact H | rfl)
      · intro w Q' HS hq; replace H := HS; clear HS; refine ow_load rfl (tyAt rfl) rfl rfl (SlH.int (H.rowSl (i := 1) rfl) (by omega)) ?_; exact ow_nil hq
      apply ak_take (i := 4) rfl rfl rfl rfl (by kernel_rfl) (by with_reducible first | exact H | rfl)
      · intro w Q' HS hq; replace H := HS; clear HS; (apply ow_move; (· rfl); (· ((conv => lhs; whnf) <;> rfl))); exact ow_nil hq
      apply ak_take (i := 5) rfl rfl rfl rfl (by kernel_rfl) (by with_reducible first | exact H | rfl)
      · intro w Q' HS hq; replace H := HS; clear HS; (apply ow_move; (· rfl); (· ((conv => lhs; whnf) <;> rfl))); exact ow_nil hq
      apply ak_take (i := 6) rfl rfl rfl rfl (by kernel_rfl) (by with_reducible first | exact H | rfl)
      · intro w Q' HS hq; replace H := HS; clear HS; refine ow_sub rfl rfl rfl (by simp only [InK]; omega) ?_; exact ow_nil hq
      apply ak_take (i := 7) rfl rfl rfl rfl (by kernel_rfl) (by with_reducible first | exact H | rfl)
      · intro w Q' HS hq; replace H := HS; clear HS; (apply ow_move; (· rfl); (· ((conv => lhs; whnf) <;> rfl))); exact ow_nil hq
      apply ak_take (i := 8) rfl rfl rfl rfl (by kernel_rfl) (by with_reducible first | exact H | rfl)
      · intro w Q' HS hq; replace H := HS; clear HS; refine ow_sub rfl rfl rfl (by simp only [InK]; omega) ?_; exact ow_nil hq
      apply ak_take (i := 9) rfl rfl rfl rfl (by kernel_rfl) (by with_reducible first | exact H | rfl)
      · intro w Q' HS hq; replace H := HS; clear HS; refine ow_idx1 (j := kn - 1 - i) rfl (tyAt rfl) rfl (tyAt rfl) rfl rfl (by omega) (by omega) rfl ?_; exact ow_nil hq
      apply ak_take (i := 10) rfl rfl rfl rfl (by kernel_rfl) (by with_reducible first | exact H | rfl)
      · intro w Q' HS hq; replace H := HS; clear HS; refine ow_load rfl (tyAt rfl) rfl rfl (SlH.int (H.rowSl (i := 0) rfl) (by omega)) ?_; exact ow_nil hq
      apply ak_take (i := 11) rfl rfl rfl rfl (by kernel_rfl) (by with_reducible first | exact H | rfl)
      · intro w Q' HS hq; replace H := HS; clear HS; refine ow_neq rfl rfl rfl ?_; exact ow_nil hq
      refine ak_done (by kernel_rfl) ?_
      rw [htwi, decide_eq_false (show ¬ ¬ (W.getD i 0 = W.getD i 0) from fun h => h rfl)]
      refine wc_cond_false rfl ?_
      refine wc_skip ?_
      refine wc_region ?_
      refine ow_add rfl rfl rfl (by simp only [InK]; omega) ?_
      (apply ow_move; (· rfl); (· ((conv => lhs; whnf) <;> rfl)))
      refine ow_nil ?_
      exact ⟨i + 1, by first | exact rfl | exact upd_self' rfl rfl | exact upd_self' rfl (upd_self' rfl rfl) | exact upd_self' rfl (upd_self' rfl (upd_self' rfl rfl)) | exact upd_self' rfl (upd_self' rfl (upd_self' rfl (upd_self' rfl rfl))), by repeat (first | with_reducible exact Off.mix | with_reducible exact Off.refl | ((with_reducible refine Off.upd ?_ ?_); (· rfl))), ⟨rfl, hlt, H⟩, by omega⟩
    · have hi' : i = kn := by omega
      subst hi'
      refine wc_exit ?_
      exact ⟨(), rfl, by repeat (first | with_reducible exact Off.mix | with_reducible exact Off.refl | ((with_reducible refine Off.upd ?_ ?_); (· rfl))), ⟨rfl, H⟩⟩
  clear H
  rintro _ jj D w ⟨rfl, H⟩
  replace H : St Pu w0 w ([.app qb part.length cb 3 1 (ints .i64 (hlf part)), .app qa part.length ca 3 1 (ints .i64 (trn (kn : Int) part))] ++ RR) [] := H.drop.drop
  generalize cutM (tb ms) (hlf part) = CH at *
  generalize cutM (tb ms) part = CP at *
  generalize decide (fitsB g.ws part (kn : Int)) = FB at *
  refine wc_seq ?_
  refine wc_region ?_
  (apply ow_move; (· rfl); (· ((conv => lhs; whnf) <;> rfl)))
  (apply ow_move; (· rfl); (· ((conv => lhs; whnf) <;> rfl)))
  (apply ow_move; (· rfl); (· ((conv => lhs; whnf) <;> rfl)))
  refine ow_call rfl rfl (ent (by kernel_rfl)) (CallsV.mono (hct _ (hGr H) (appOk.sl (H.cap (i := 1) rfl))) ?_) rfl
  rintro v w ⟨rfl, H'⟩
  replace H : St Pu w0 w ([.app qb part.length cb 3 1 (ints .i64 (hlf part)), .app qa part.length ca 3 1 (ints .i64 (trn (kn : Int) part))] ++ RR) [] := H.call H'
  clear H'
  (apply ow_move; (· rfl); (· ((conv => lhs; whnf) <;> rfl)))
  (apply ow_move; (· rfl); (· ((conv => lhs; whnf) <;> rfl)))
  (apply ow_move; (· rfl); (· ((conv => lhs; whnf) <;> rfl)))
  refine ow_call rfl rfl (ent (by kernel_rfl)) (CallsV.mono (hcp _ (hGr H) (H.oldSl hs)) ?_) rfl
  rintro v w ⟨rfl, H'⟩
  replace H : St Pu w0 w ([.app qb part.length cb 3 1 (ints .i64 (hlf part)), .app qa part.length ca 3 1 (ints .i64 (trn (kn : Int) part))] ++ RR) [] := H.call H'
  clear H'
  refine ow_eql rfl rfl rfl ?_
  (apply ow_move; (· rfl); (· ((conv => lhs; whnf) <;> rfl)))
  refine ow_guard_dec rfl rfl rfl (fun _ => ?_) (fun h => (h (by with_reducible rfl)).elim)
  refine ow_guard_yes rfl rfl rfl rfl ?_
  (apply ow_move; (· rfl); (· ((conv => lhs; whnf) <;> rfl)))
  refine ow_guard_yes rfl rfl rfl rfl ?_
  (apply ow_move; (· rfl); (· ((conv => lhs; whnf) <;> rfl)))
  refine ow_guard_yes rfl rfl rfl rfl ?_
  (apply ow_move; (· rfl); (· ((conv => lhs; whnf) <;> rfl)))
  refine ow_guard_yes rfl rfl rfl rfl ?_
  rw [decide_eq_true (rfl : CP = CP)]
  skip
  refine ow_call rfl rfl (ent (by kernel_rfl)) (CallsV.mono (hch _ (hGr H) (appOk.sl (H.cap (i := 0) rfl))) ?_) rfl
  rintro v w ⟨rfl, H'⟩
  replace H : St Pu w0 w ([.app qb part.length cb 3 1 (ints .i64 (hlf part)), .app qa part.length ca 3 1 (ints .i64 (trn (kn : Int) part))] ++ RR) [] := H.call H'
  clear H'
  refine ow_guard_yes rfl rfl rfl rfl ?_
  (apply ow_move; (· rfl); (· ((conv => lhs; whnf) <;> rfl)))
  refine ow_guard_yes rfl rfl rfl rfl ?_
  (apply ow_move; (· rfl); (· ((conv => lhs; whnf) <;> rfl)))
  refine ow_guard_yes rfl rfl rfl rfl ?_
  (apply ow_move; (· rfl); (· ((conv => lhs; whnf) <;> rfl)))
  refine ow_guard_yes rfl rfl rfl rfl ?_
  refine ow_call rfl rfl (ent (by kernel_rfl)) (CallsV.mono (hcp _ (hGr H) (H.oldSl hs)) ?_) rfl
  rintro v w ⟨rfl, H'⟩
  replace H : St Pu w0 w ([.app qb part.length cb 3 1 (ints .i64 (hlf part)), .app qa part.length ca 3 1 (ints .i64 (trn (kn : Int) part))] ++ RR) [] := H.call H'
  clear H'
  refine ow_guard_yes rfl rfl rfl rfl ?_
  refine ow_leq rfl rfl rfl ?_
  (apply ow_pick_t; (· rfl); (· rfl); (· ((conv => lhs; whnf) <;> rfl)))
  (apply ow_move; (· rfl); (· ((conv => lhs; whnf) <;> rfl)))
  rw [decide_eq_true hcl]
  refine ow_guard_yes rfl rfl rfl rfl ?_
  (apply ow_move; (· rfl); (· ((conv => lhs; whnf) <;> rfl)))
  refine ow_guard_yes rfl rfl rfl rfl ?_
  (apply ow_move; (· rfl); (· ((conv => lhs; whnf) <;> rfl)))
  refine ow_guard_yes rfl rfl rfl rfl ?_
  (apply ow_move; (· rfl); (· ((conv => lhs; whnf) <;> rfl)))
  refine ow_guard_yes rfl rfl rfl rfl ?_
  refine ow_call rfl rfl (ent (by kernel_rfl)) (CallsV.mono (hft _ (hGr H) (appOk.sl (H.cap (i := 1) rfl))) ?_) rfl
  rintro v w ⟨rfl, H'⟩
  replace H : St Pu w0 w ([.app qb part.length cb 3 1 (ints .i64 (hlf part)), .app qa part.length ca 3 1 (ints .i64 (trn (kn : Int) part))] ++ RR) [] := H.call H'
  clear H'
  refine ow_guard_yes rfl rfl rfl rfl ?_
  (apply ow_move; (· rfl); (· ((conv => lhs; whnf) <;> rfl)))
  refine ow_guard_yes rfl rfl rfl rfl ?_
  (apply ow_move; (· rfl); (· ((conv => lhs; whnf) <;> rfl)))
  refine ow_guard_yes rfl rfl rfl rfl ?_
  (apply ow_move; (· rfl); (· ((conv => lhs; whnf) <;> rfl)))
  refine ow_guard_yes rfl rfl rfl rfl ?_
  refine ow_call rfl rfl (ent (by kernel_rfl)) (CallsV.mono (hfp _ (hGr H) (H.oldSl hs)) ?_) rfl
  rintro v w ⟨rfl, H'⟩
  replace H : St Pu w0 w ([.app qb part.length cb 3 1 (ints .i64 (hlf part)), .app qa part.length ca 3 1 (ints .i64 (trn (kn : Int) part))] ++ RR) [] := H.call H'
  clear H'
  refine ow_guard_yes rfl rfl rfl rfl ?_
  refine ow_eqlb rfl rfl rfl (tyAt rfl) rfl ?_
  (apply ow_pick_t; (· rfl); (· rfl); (· ((conv => lhs; whnf) <;> rfl)))
  (apply ow_assign; (· rfl); (· ((conv => lhs; whnf) <;> rfl)))
  refine ow_nil ?_
  refine wc_ret ?_
  obtain ⟨w, hT, H⟩ := H.takes Try.prog
  refine ⟨.inr rfl, w, hT, _, .tmp .nil, ?_⟩
  exact ⟨congrArg Value.bool (show (FB == FB) = true by simp), H.none⟩
end Go.Proofs.Ytpbknokakooekaa

