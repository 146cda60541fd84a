/- The statement's function 'sandtablelaw11.CoarseCuts' returns true at every input, and changes nothing that was there. -/
import Derived.Test.YtpbknokakooekaaO6
import Derived.Test.YtpbknokakooekaaO7
namespace Go.Proofs.Ytpbknokakooekaa
set_option linter.all false
open Go Go.Sx Go.Proofs
set_option maxRecDepth 100000
set_option maxHeartbeats 2000000
theorem liftL_len (q a : List Int) : (liftL q a).length = a.length := by unfold liftL; rw [List.length_map]
theorem lift_wtn {ws p a : List Int} {nl : Nat} {j : Nat} (ha : ∀ i, i < a.length → inR nl (a.getD i 0)) : ∀ n, n ≤ a.length → wtAt ws (liftL p a) j n = sumN nl fun c => if p.getD c 0 = (j : Int) then wtAt ws a c n else 0
  | 0, _ => by
    rw [sumN_congr (g := fun _ => 0) (fun c _ => by unfold wtAt; split <;> rfl), sumN_zero]
    rfl
  | n + 1, h => by
    have ih := lift_wtn (ws := ws) (p := p) (j := j) ha n (by omega)
    have hr := ha n (by omega)
    unfold inR at hr
    have hl := liftL_at (q := p) (a := a) (j := n) (by omega)
    have e : ∀ c : Nat, (if p.getD c 0 = (j : Int) then wtAt ws a c (n + 1) else 0) = (if p.getD c 0 = (j : Int) then wtAt ws a c n else 0) + (if c = (a.getD n 0).toNat then (if p.getD (a.getD n 0).toNat 0 = (j : Int) then ws.getD n 0 else 0) else 0) := fun c => by
      have e1 : wtAt ws a c (n + 1) = wtAt ws a c n + (if a.getD n 0 = (c : Int) then ws.getD n 0 else 0) := by unfold wtAt; rw [sumN_succ]
      rw [e1]
      by_cases hc : c = (a.getD n 0).toNat
      · rw [if_pos hc, ← hc, if_pos (show a.getD n 0 = (c : Int) by omega)]
        split <;> omega
      · rw [if_neg hc, if_neg (show ¬ a.getD n 0 = (c : Int) by omega)]
        split <;> omega
    rw [sumN_congr (fun c _ => e c), sumN_add, ← ih, sumN_upd (g := fun _ => 0) _ (by omega) rfl, sumN_zero]
    have e2 : wtAt ws (liftL p a) j (n + 1) = wtAt ws (liftL p a) j n + (if (liftL p a).getD n 0 = (j : Int) then ws.getD n 0 else 0) := by unfold wtAt; rw [sumN_succ]
    rw [e2, hl]
    omega
theorem lift_wt {m ws p : List Int} (hR : RightP m) (k : Nat) : wtL ws (liftL p (inL m ws)) k m.length = wtL (nwL m ws) p k (nwL m ws).length := by
  have h0 := nmb_inv (ws := ws) hR m.length (Nat.le_refl _)
  refine extI (by rw [wtL_len, wtL_len]) fun j hj => ?_
  rw [wtL_len] at hj
  rw [wtL_at hj, wtL_at hj, lift_wtn (inL_in hR) m.length (by rw [inL_len hR]; exact Nat.le_refl _)]
  unfold wtAt
  refine sumN_congr fun c hc => ?_
  have : (nwL m ws).getD c 0 = wtAt ws (inL m ws) c m.length := h0.wt c hc
  rw [this]
  rfl
theorem lift_right {m ws p : List Int} {k : Int} (hR : RightP m) (hl : m.length = ws.length) (h : CutR (nwL m ws).length p k) : CutR ws.length (liftL p (inL m ws)) k := ⟨h.1, by rw [liftL_len, inL_len hR, hl], fun j hj => by
  rw [liftL_len] at hj
  have hi := inL_in (ws := ws) hR j hj
  unfold inR at hi
  rw [liftL_at hj]
  exact h.2.2 _ (by rw [h.2.1]; omega)⟩
theorem lift_cut {m ws p : List Int} {T : List IE} (hW : Wf T) (hTl : T.length = ws.length) (hR : RightP m) (hl : m.length = ws.length) (h0 : (ShJ ws m T).1 = 0) : cutM (ShJ ws m T).2 p = cutM T (liftL p (inL m ws)) := by
  unfold ShJ at h0 ⊢
  rw [sh_cut (inL_in hR) (edgesT T) (fun x hx => ?_) h0, ← cut_mat hW]
  · rfl
  · have := edges_in hW hx
    rw [inL_len hR, hl, ← hTl]
    exact ⟨this.1, this.2.1⟩
theorem law11Cuts (q q2 q3 : Option Addr) (cap cap2 cap3 : Nat) (ws : List Int) (ops : List OpA) (part : List Int) (k : Int) (hm : ws.length ≤ 9223372036854775807) (hm2 : ops.length ≤ 9223372036854775807) (hm3 : part.length ≤ 9223372036854775807) (hcp : part.length ≤ cap3) (w0 : World) (hq : SlH (hp w0) q (ints .i64 ws)) (hq2 : SlH (hp w0) q2 (ops.flatMap opA)) (hs : SlH (hp w0) q3 (ints .i64 part)) :
    CallsV Try.prog 17 #[.slice q ws.length cap, .slice q2 ops.length cap2, .slice q3 part.length cap3, .int .i64 k] w0 fun v w => v = .bool true ∧ St Pu w0 w [] [] := by
  refine callsV_of Try.func17 rfl rfl ?_
  refine wc_seq ?_
  refine wc_region ?_
  (apply ow_assign; (· rfl); (· ((conv => lhs; whnf) <;> rfl)))
  refine ow_nil ?_
  refine wc_seq ?_
  refine wc_seq ?_
  refine wc_region ?_
  refine ow_call rfl rfl (ent (by kernel_rfl)) (CallsV.mono (alive11 w0) ?_) rfl
  rintro v w ⟨rfl, H⟩
  refine ow_not rfl rfl ?_
  refine ow_nil ?_
  refine wc_cond_false rfl ?_
  refine wc_skip ?_
  refine wc_seq ?_
  refine wc_region ?_
  (apply ow_move; (· rfl); (· ((conv => lhs; whnf) <;> rfl)))
  (apply ow_move; (· rfl); (· ((conv => lhs; whnf) <;> rfl)))
  refine ow_call rfl rfl (ent (by kernel_rfl)) (CallsV.mono (build11_spec q q2 cap cap2 ws ops hm hm2 w (H.oldSl hq) (H.oldSl hq2)) ?_) rfl
  rintro v w (⟨rfl, _, H'⟩ | ⟨g, x, ms, rows, rfl, rfl, hxw, h30, hmay, hW, hn, _, hM, H'⟩)
  · replace H := H.call H'
    rw [List.nil_append] at H
    clear H'
    (apply ow_move; (· rfl); (· ((conv => lhs; whnf) <;> rfl)))
    refine ow_extract rfl rfl rfl ?_
    refine ow_extract rfl rfl rfl ?_
    refine ow_extract rfl rfl rfl ?_
    refine ow_alloc (l := [.slice none 0 0, .slice none 0 0]) H rfl (tyAt rfl) rfl (fun b6 w H => ?_)
    (apply ow_assign; (· rfl); (· ((conv => lhs; whnf) <;> rfl)))
    refine ow_storeA (i := 0) (o := 0) (l' := [.slice none 0 0, .slice none 0 0]) H (tyAt rfl) rfl rfl rfl rfl (by simp [Value.oneCell']) (by simp) (fun w H => ?_)
    (apply ow_assign; (· rfl); (· ((conv => lhs; whnf) <;> rfl)))
    refine ow_nil ?_
    refine wc_seq ?_
    refine wc_seq ?_
    refine wc_region ?_
    (apply ow_move; (· rfl); (· ((conv => lhs; whnf) <;> rfl)))
    refine ow_not rfl rfl ?_
    (apply ow_move; (· rfl); (· ((conv => lhs; whnf) <;> rfl)))
    refine ow_guard_no rfl rfl rfl rfl rfl rfl rfl ?_
    refine ow_guard_no rfl rfl rfl rfl rfl rfl rfl ?_
    refine ow_guard_no rfl rfl rfl rfl rfl rfl rfl ?_
    (apply ow_pick_t; (· rfl); (· rfl); (· ((conv => lhs; whnf) <;> rfl)))
    (apply ow_move; (· rfl); (· ((conv => lhs; whnf) <;> rfl)))
    refine ow_guard_no rfl rfl rfl rfl rfl rfl rfl ?_
    refine ow_guard_no rfl rfl rfl rfl rfl rfl rfl ?_
    (apply ow_pick_t; (· rfl); (· rfl); (· ((conv => lhs; whnf) <;> rfl)))
    (apply ow_move; (· rfl); (· ((conv => lhs; whnf) <;> rfl)))
    refine ow_guard_no rfl rfl rfl rfl rfl rfl rfl ?_
    refine ow_guard_no rfl rfl rfl rfl rfl rfl rfl ?_
    (apply ow_pick_t; (· rfl); (· rfl); (· ((conv => lhs; whnf) <;> rfl)))
    refine ow_nil ?_
    refine wc_cond_true rfl ?_
    refine wc_seq ?_
    refine wc_region ?_
    (apply ow_assign; (· rfl); (· ((conv => lhs; whnf) <;> rfl)))
    refine ow_nil ?_
    refine wc_ret ?_
    obtain ⟨w, hT, H⟩ := H.takes Try.prog
    refine ⟨.inr rfl, w, hT, _, .tmp .nil, ?_⟩
    exact ⟨rfl, H.none⟩
  replace H : St Pu w0 w (grC g ms ++ rfC x rows) [] := (H.call H').sub (List.sublist_append_left _ _)
  clear H'
  (apply ow_move; (· rfl); (· ((conv => lhs; whnf) <;> rfl)))
  refine ow_extract rfl rfl rfl ?_
  refine ow_extract rfl rfl rfl ?_
  refine ow_extract rfl rfl rfl ?_
  refine ow_alloc (l := [.slice none 0 0, .slice none 0 0]) H rfl (tyAt rfl) rfl (fun b6 w H => ?_)
  (apply ow_assign; (· rfl); (· ((conv => lhs; whnf) <;> rfl)))
  refine ow_storeA (i := 0) (o := 0) (l' := rfV x rows) H (tyAt rfl) rfl rfl rfl rfl (by simp [Value.oneCell']) (by simp) (fun w H => ?_)
  have h4 : g.ws.length ≤ 4096 := by omega
  have h1k : g.ws.length ≤ 1000 := by omega
  have hTl : (tb ms).length = g.ws.length := by rw [tb_len, hn]
  have hxl : (tb ms).length = x.ws.length := by rw [hTl, hxw]
  replace H : St Pu w0 w ([.row b6 45 (rfV x rows)] ++ (grC g ms ++ rfC x rows)) [] := H
  obtain ⟨RR, hRR⟩ : ∃ RR, grC g ms ++ rfC x rows = RR := ⟨_, rfl⟩
  have hGr : ∀ {w : World} {pre : List Cap}, St Pu w0 w (pre ++ RR) [] → Gr (hp w) g ms := fun H => gr_of_ok fun c hc => okAll H c (List.mem_append_right _ (by rw [← hRR]; exact List.mem_append_left _ hc))
  have hRf : ∀ {w : World} {pre : List Cap}, St Pu w0 w (pre ++ RR) [] → Rf (hp w) x rows := fun H => rf_of_ok fun c hc => okAll H c (List.mem_append_right _ (by rw [← hRR]; exact List.mem_append_right _ hc))
  rw [hRR] at H
  clear hRR
  have hmr := (heavy_hi hW).rt
  have hml : (heavyL (tb ms)).length = g.ws.length := by rw [heavyL_len]; exact hTl
  (apply ow_assign; (· rfl); (· ((conv => lhs; whnf) <;> rfl)))
  refine ow_nil ?_
  refine wc_seq ?_
  refine wc_seq ?_
  refine wc_region ?_
  (apply ow_move; (· rfl); (· ((conv => lhs; whnf) <;> rfl)))
  refine ow_not rfl rfl ?_
  (apply ow_move; (· rfl); (· ((conv => lhs; whnf) <;> rfl)))
  refine ow_guard_yes rfl rfl rfl rfl ?_
  (apply ow_move; (· rfl); (· ((conv => lhs; whnf) <;> rfl)))
  refine ow_guard_yes rfl rfl rfl rfl ?_
  refine ow_len rfl rfl (tyAt rfl) rfl ?_
  refine ow_guard_yes rfl rfl rfl rfl ?_
  refine ow_gtr rfl rfl rfl ?_
  (apply ow_pick_f; (· rfl); (· rfl); (· ((conv => lhs; whnf) <;> rfl)))
  (apply ow_move; (· rfl); (· ((conv => lhs; whnf) <;> rfl)))
  refine ow_guard_dec rfl rfl rfl (fun h => ?_) (fun h => ?_) <;> try dsimp only at h
  · refine ow_guard_no rfl rfl rfl rfl rfl rfl rfl ?_
    refine ow_guard_no rfl rfl rfl rfl rfl rfl rfl ?_
    (apply ow_pick_t; (· rfl); (· rfl); (· ((conv => lhs; whnf) <;> rfl)))
    (apply ow_move; (· rfl); (· ((conv => lhs; whnf) <;> rfl)))
    refine ow_guard_no rfl rfl rfl rfl rfl rfl rfl ?_
    refine ow_guard_no rfl rfl rfl rfl rfl rfl rfl ?_
    (apply ow_pick_t; (· rfl); (· rfl); (· ((conv => lhs; whnf) <;> rfl)))
    refine ow_nil ?_
    refine wc_cond_true rfl ?_
    refine wc_seq ?_
    refine wc_region ?_
    (apply ow_assign; (· rfl); (· ((conv => lhs; whnf) <;> rfl)))
    refine ow_nil ?_
    refine wc_ret ?_
    obtain ⟨w, hT, H⟩ := H.takes Try.prog
    refine ⟨.inr rfl, w, hT, _, .tmp .nil, ?_⟩
    exact ⟨rfl, H.none⟩
  have hp60 : part.length ≤ 60 := by omega
  clear h
  refine ow_guard_yes rfl rfl rfl rfl ?_
  (apply ow_move; (· rfl); (· ((conv => lhs; whnf) <;> rfl)))
  refine ow_guard_yes rfl rfl rfl rfl ?_
  refine ow_lss rfl rfl rfl ?_
  (apply ow_pick_f; (· rfl); (· rfl); (· ((conv => lhs; whnf) <;> rfl)))
  (apply ow_move; (· rfl); (· ((conv => lhs; whnf) <;> rfl)))
  refine ow_guard_dec rfl rfl rfl (fun h => ?_) (fun h => ?_) <;> try dsimp only at h
  · refine ow_guard_no rfl rfl rfl rfl rfl rfl rfl ?_
    refine ow_guard_no rfl rfl rfl rfl rfl rfl rfl ?_
    (apply ow_pick_t; (· rfl); (· rfl); (· ((conv => lhs; whnf) <;> rfl)))
    refine ow_nil ?_
    refine wc_cond_true rfl ?_
    refine wc_seq ?_
    refine wc_region ?_
    (apply ow_assign; (· rfl); (· ((conv => lhs; whnf) <;> rfl)))
    refine ow_nil ?_
    refine wc_ret ?_
    obtain ⟨w, hT, H⟩ := H.takes Try.prog
    refine ⟨.inr rfl, w, hT, _, .tmp .nil, ?_⟩
    exact ⟨rfl, H.none⟩
  have hk1 : 1 ≤ k := by omega
  clear h
  refine ow_guard_yes rfl rfl rfl rfl ?_
  (apply ow_move; (· rfl); (· ((conv => lhs; whnf) <;> rfl)))
  refine ow_guard_yes rfl rfl rfl rfl ?_
  refine ow_gtr rfl rfl rfl ?_
  (apply ow_pick_f; (· rfl); (· rfl); (· ((conv => lhs; whnf) <;> rfl)))
  refine ow_nil ?_
  refine wc_cond_dec rfl (fun h => ?_) (fun h => ?_) <;> try dsimp only at h
  · refine wc_seq ?_
    refine wc_region ?_
    (apply ow_assign; (· rfl); (· ((conv => lhs; whnf) <;> rfl)))
    refine ow_nil ?_
    refine wc_ret ?_
    obtain ⟨w, hT, H⟩ := H.takes Try.prog
    refine ⟨.inr rfl, w, hT, _, .tmp .nil, ?_⟩
    exact ⟨rfl, H.none⟩
  have hk60 : k ≤ 60 := by omega
  clear h
  obtain ⟨kn, rfl⟩ : ∃ kn : Nat, k = (kn : Int) := ⟨k.toNat, by omega⟩
  refine wc_skip ?_
  refine wc_seq ?_
  refine wc_region ?_
  (apply ow_move; (· rfl); (· ((conv => lhs; whnf) <;> rfl)))
  (apply ow_move; (· rfl); (· ((conv => lhs; whnf) <;> rfl)))
  refine ow_call rfl rfl (ent (by kernel_rfl)) (CallsV.mono (heavy_spec g ms hn h4 hW _ (hGr H)) ?_) rfl
  rintro v w ⟨bh, rfl, H'⟩
  replace H : St Pu w0 w ([.row bh 3 (ints .i64 (heavyL (tb ms))), .row b6 45 (rfV x rows)] ++ RR) [] := H.call H'
  clear H'
  skip
  refine ow_call rfl rfl (ent (by kernel_rfl)) (CallsV.mono (shrink_spec g ms (heavyL (tb ms)) (some ⟨bh, 0, none⟩) _ (by omega) hn hmay h4 hW _ (hGr H) (H.rowSl (i := 0) rfl)) ?_) rfl
  rintro v w (⟨f, rfl, hE, H'⟩ | ⟨g', ms', bi, rfl, hO, hgw, htb, H'⟩)
  · have hf := hE.1
    replace H := H.call H'
    clear H'
    (apply ow_move; (· rfl); (· ((conv => lhs; whnf) <;> rfl)))
    refine ow_extract rfl rfl rfl ?_
    refine ow_extract rfl rfl rfl ?_
    refine ow_extract rfl rfl rfl ?_
    (apply ow_assign; (· rfl); (· ((conv => lhs; whnf) <;> rfl)))
    (apply ow_assign; (· rfl); (· ((conv => lhs; whnf) <;> rfl)))
    (apply ow_assign; (· rfl); (· ((conv => lhs; whnf) <;> rfl)))
    refine ow_nil ?_
    refine wc_seq ?_
    refine wc_seq ?_
    refine wc_region ?_
    (apply ow_move; (· rfl); (· ((conv => lhs; whnf) <;> rfl)))
    refine ow_neq rfl rfl rfl ?_
    refine ow_nil ?_
    refine wc_cond_dec rfl (fun h => ?_) (fun h => ?_) <;> try dsimp only at h
    · refine wc_seq ?_
      refine wc_region ?_
      (apply ow_move; (· rfl); (· ((conv => lhs; whnf) <;> rfl)))
      refine ow_eqlPn rfl rfl rfl (tyAt rfl) rfl ?_
      (apply ow_move; (· rfl); (· ((conv => lhs; whnf) <;> rfl)))
      refine ow_guard_yes rfl rfl rfl rfl ?_
      (apply ow_move; (· rfl); (· ((conv => lhs; whnf) <;> rfl)))
      refine ow_guard_yes rfl rfl rfl rfl ?_
      refine ow_len rfl rfl (tyAt rfl) rfl ?_
      refine ow_guard_yes rfl rfl rfl rfl ?_
      refine ow_eql rfl rfl rfl ?_
      (apply ow_pick_t; (· rfl); (· rfl); (· ((conv => lhs; whnf) <;> rfl)))
      (apply ow_assign; (· rfl); (· ((conv => lhs; whnf) <;> rfl)))
      refine ow_nil ?_
      refine wc_ret ?_
      obtain ⟨w, hT, H⟩ := H.takes Try.prog
      refine ⟨.inr rfl, w, hT, _, .tmp .nil, ?_⟩
      exact ⟨rfl, H.none⟩
    · exact absurd h (by omega)
  obtain ⟨a, had⟩ : ∃ a, inL (heavyL (tb ms)) g.ws = a := ⟨_, rfl⟩
  have hal := inL_len (ws := g.ws) hmr
  have hain := inL_in (ws := g.ws) hmr
  have hsum : g'.ws.sum = g.ws.sum := by rw [hgw]; exact nw_sum hmr hml
  have hcnt : cntM (heavyL (tb ms)) = (g'.ws.length : Int) := by rw [hgw]; exact cnt_nw hmr
  have hnl := nwL_le (ws := g.ws) hmr
  have hmay' : ∀ z ∈ g'.ws, mayW z := by rw [hgw]; exact hO.2.1
  have hshw := shJ_wf (n := (nwL (heavyL (tb ms)) g.ws).length) (a := inL (heavyL (tb ms)) g.ws) (edgesT (tb ms))
  have hW' : Wf (tb ms') := by rw [htb]; exact hshw.1
  have hn' : ms'.length = g'.ws.length := by rw [← tb_len, htb, hgw]; exact hshw.2
  have hcut := fun p => lift_cut (p := p) hW hTl hmr hml hO.2.2
  have hlr := fun p (h : CutR g'.ws.length p (kn : Int)) => lift_right (p := p) (k := (kn : Int)) hmr hml (by rw [← hgw]; exact h)
  have hlw := fun p => lift_wt (ws := g.ws) (p := p) hmr kn
  rw [← hgw] at hain hnl hlw
  rw [← htb] at hcut
  rw [had] at hal hain hcut hlr hlw
  rw [hml] at hal hlw hnl
  replace H : St Pu w0 w ([.row bi 3 (ints .i64 (inL (heavyL (tb ms)) g.ws)), .row bh 3 (ints .i64 (heavyL (tb ms))), .row b6 45 (rfV x rows)] ++ (grC g' ms' ++ RR)) [] := (H.call H').perm (List.Perm.append_left [_] (List.perm_append_comm_assoc (grC g' ms') [_, _] RR))
  clear H' hO hgw htb hshw
  rw [had] at H
  rw [hml]
  clear had
  have hGr' : ∀ {w : World} {pre : List Cap}, St Pu w0 w (pre ++ (grC g' ms' ++ RR)) [] → Gr (hp w) g' ms' := fun H => gr_atR H
  have hGr2 : ∀ {w : World} {pre : List Cap}, St Pu w0 w (pre ++ (grC g' ms' ++ RR)) [] → Gr (hp w) g ms := fun {w pre} H => hGr (pre := pre ++ grC g' ms') (by rw [List.append_assoc]; exact H)
  obtain ⟨R2, hR2⟩ : ∃ R2, grC g' ms' ++ RR = R2 := ⟨_, rfl⟩
  rw [hR2] at H
  simp only [hR2] at hGr' hGr2
  (apply ow_move; (· rfl); (· ((conv => lhs; whnf) <;> rfl)))
  refine ow_extract rfl rfl rfl ?_
  refine ow_extract rfl rfl rfl ?_
  refine ow_extract rfl rfl rfl ?_
  (apply ow_assign; (· rfl); (· ((conv => lhs; whnf) <;> rfl)))
  (apply ow_assign; (· rfl); (· ((conv => lhs; whnf) <;> rfl)))
  (apply ow_assign; (· rfl); (· ((conv => lhs; whnf) <;> rfl)))
  refine ow_nil ?_
  refine wc_seq ?_
  refine wc_seq ?_
  refine wc_region ?_
  (apply ow_move; (· rfl); (· ((conv => lhs; whnf) <;> rfl)))
  refine ow_neq rfl rfl rfl ?_
  refine ow_nil ?_
  refine wc_cond_false rfl ?_
  refine wc_skip ?_
  refine wc_seq ?_
  refine wc_seq ?_
  refine wc_region ?_
  (apply ow_move; (· rfl); (· ((conv => lhs; whnf) <;> rfl)))
  refine ow_call rfl rfl (ent (by kernel_rfl)) (CallsV.mono (total_spec g' ms' (by omega) hmay' _ (hGr' H)) ?_) rfl
  rintro v w' ⟨rfl, rfl⟩
  rw [hsum]
  (apply ow_move; (· rfl); (· ((conv => lhs; whnf) <;> rfl)))
  refine ow_call rfl rfl (ent (by kernel_rfl)) (CallsV.mono (total_spec g ms h4 hmay _ (hGr2 H)) ?_) rfl
  rintro v w' ⟨rfl, rfl⟩
  refine ow_neq rfl rfl rfl ?_
  (apply ow_move; (· rfl); (· ((conv => lhs; whnf) <;> rfl)))
  refine ow_guard_dec rfl rfl rfl (fun h => (h (by with_reducible rfl)).elim) (fun _ => ?_)
  refine ow_guard_yes rfl rfl rfl rfl ?_
  (apply ow_move; (· rfl); (· ((conv => lhs; whnf) <;> rfl)))
  refine ow_guard_yes rfl rfl rfl rfl ?_
  refine ow_call rfl rfl (ent (by kernel_rfl)) (CallsV.mono (glen_spec g' ms' _ (hGr' H)) ?_) rfl
  rintro v w' ⟨rfl, rfl⟩
  refine ow_guard_yes rfl rfl rfl rfl ?_
  (apply ow_move; (· rfl); (· ((conv => lhs; whnf) <;> rfl)))
  refine ow_guard_yes rfl rfl rfl rfl ?_
  refine ow_call rfl rfl (ent (by kernel_rfl)) (CallsV.mono (heavy_spec g ms hn h4 hW _ (hGr2 H)) ?_) rfl
  rintro v w ⟨bh2, rfl, H'⟩
  replace H := H.call H'
  clear H'
  refine ow_guard_yes rfl rfl rfl rfl ?_
  refine ow_call rfl rfl (ent (by kernel_rfl)) (CallsV.mono (count_spec (some ⟨bh2, 0, none⟩) _ (heavyL (tb ms)) (by omega) _ (H.rowSl (i := 0) rfl)) ?_) rfl
  rintro v w ⟨rfl, H'⟩
  replace H := (H.call H').drop
  clear H'
  rw [hcnt]
  refine ow_guard_yes rfl rfl rfl rfl ?_
  refine ow_neq rfl rfl rfl ?_
  (apply ow_pick_f; (· rfl); (· rfl); (· ((conv => lhs; whnf) <;> rfl)))
  (apply ow_move; (· rfl); (· ((conv => lhs; whnf) <;> rfl)))
  refine ow_guard_dec rfl rfl rfl (fun h => (h (by with_reducible rfl)).elim) (fun _ => ?_)
  refine ow_guard_yes rfl rfl rfl rfl ?_
  (apply ow_move; (· rfl); (· ((conv => lhs; whnf) <;> rfl)))
  refine ow_guard_yes rfl rfl rfl rfl ?_
  refine ow_len rfl rfl (tyAt rfl) rfl ?_
  refine ow_guard_yes rfl rfl rfl rfl ?_
  (apply ow_move; (· rfl); (· ((conv => lhs; whnf) <;> rfl)))
  refine ow_guard_yes rfl rfl rfl rfl ?_
  refine ow_call rfl rfl (ent (by kernel_rfl)) (CallsV.mono (glen_spec g' ms' _ (hGr' H)) ?_) rfl
  rintro v w' ⟨rfl, rfl⟩
  refine ow_guard_yes rfl rfl rfl rfl ?_
  refine ow_lss rfl rfl rfl ?_
  (apply ow_pick_f; (· rfl); (· rfl); (· ((conv => lhs; whnf) <;> rfl)))
  refine ow_nil ?_
  refine wc_cond_dec rfl (fun h => ?_) (fun h => ?_) <;> try dsimp only at h
  · refine wc_seq ?_
    refine wc_region ?_
    (apply ow_move; (· rfl); (· ((conv => lhs; whnf) <;> rfl)))
    refine ow_call rfl rfl (ent (by kernel_rfl)) (CallsV.mono (total_spec g' ms' (by omega) hmay' _ (hGr' H)) ?_) rfl
    rintro v w' ⟨rfl, rfl⟩
    rw [hsum]
    (apply ow_move; (· rfl); (· ((conv => lhs; whnf) <;> rfl)))
    refine ow_call rfl rfl (ent (by kernel_rfl)) (CallsV.mono (total_spec g ms h4 hmay _ (hGr2 H)) ?_) rfl
    rintro v w' ⟨rfl, rfl⟩
    refine ow_eql rfl rfl rfl ?_
    (apply ow_move; (· rfl); (· ((conv => lhs; whnf) <;> rfl)))
    refine ow_guard_dec rfl rfl rfl (fun _ => ?_) (fun h => (h (by with_reducible rfl)).elim)
    refine ow_guard_yes rfl rfl rfl rfl ?_
    (apply ow_move; (· rfl); (· ((conv => lhs; whnf) <;> rfl)))
    refine ow_guard_yes rfl rfl rfl rfl ?_
    refine ow_len rfl rfl (tyAt rfl) rfl ?_
    refine ow_guard_yes rfl rfl rfl rfl ?_
    (apply ow_move; (· rfl); (· ((conv => lhs; whnf) <;> rfl)))
    refine ow_guard_yes rfl rfl rfl rfl ?_
    refine ow_call rfl rfl (ent (by kernel_rfl)) (CallsV.mono (glen_spec g' ms' _ (hGr' H)) ?_) rfl
    rintro v w' ⟨rfl, rfl⟩
    refine ow_guard_yes rfl rfl rfl rfl ?_
    refine ow_lss rfl rfl rfl ?_
    (apply ow_pick_t; (· rfl); (· rfl); (· ((conv => lhs; whnf) <;> rfl)))
    (apply ow_assign; (· rfl); (· ((conv => lhs; whnf) <;> rfl)))
    refine ow_nil ?_
    refine wc_ret ?_
    obtain ⟨w, hT, H⟩ := H.takes Try.prog
    refine ⟨.inr rfl, w, hT, _, .tmp .nil, ?_⟩
    exact ⟨congrArg Value.bool (decide_eq_true h), H.none⟩
  have hpn : g'.ws.length ≤ part.length := by omega
  clear h
  have hPs := fun {w : World} {L : List Cap} (H : St Pu w0 w L []) => (H.oldSl hs).sub1 (cap := cap3) (by simp; omega) 0 g'.ws.length
  obtain ⟨P, hP⟩ : ∃ P, part.take g'.ws.length = P := ⟨_, rfl⟩
  have hPl : P.length = g'.ws.length := by rw [← hP, List.length_take]; omega
  simp only [List.drop_zero, show (ints .i64 part).take g'.ws.length = ints .i64 P by rw [← hP]; unfold ints; rw [List.map_take]] at hPs
  clear hP
  have hcr := fun w hG hsz => cutRight_spec g' ms' P (subP q3 cap3 0 1) cap3 (kn : Int) (by omega) w hG hsz
  have hlf := fun w h1 h2 => lift_spec P a (subP q3 cap3 0 1) (some ⟨bi, 0, none⟩) cap3 g.ws.length (by omega) (by omega) w h1 h2
  have hcl := fun bl w hG hsz => cutRight_spec g ms (liftL P a) (some ⟨bl, 0, none⟩) g.ws.length (kn : Int) (by rw [liftL_len]; omega) w hG hsz
  have hc1 := fun bl w hG hsz => cut_spec g ms (liftL P a) (some ⟨bl, 0, none⟩) g.ws.length (kn : Int) (by rw [liftL_len]; omega) hn h1k hW w hG hsz
  have hc2 := fun w hG hsz => cut_spec g' ms' P (subP q3 cap3 0 1) cap3 (kn : Int) (by omega) hn' (by omega) hW' w hG hsz
  have hw1 := fun bl w hG hsz => weights_spec g ms (liftL P a) (some ⟨bl, 0, none⟩) g.ws.length kn (by rw [liftL_len]; omega) hmay hn h4 w hG hsz
  have hw2 := fun w hG hsz => weights_spec g' ms' P (subP q3 cap3 0 1) cap3 kn (by omega) hmay' hn' (by omega) w hG hsz
  rw [liftL_len, hal] at hcl hc1 hw1
  rw [hPl] at hcr hlf hc2 hw2
  rw [hal] at hlf
  refine wc_skip ?_
  refine wc_seq ?_
  refine wc_region ?_
  (apply ow_move; (· rfl); (· ((conv => lhs; whnf) <;> rfl)))
  (apply ow_move; (· rfl); (· ((conv => lhs; whnf) <;> rfl)))
  refine ow_call rfl rfl (ent (by kernel_rfl)) (CallsV.mono (glen_spec g' ms' _ (hGr' H)) ?_) rfl
  rintro v w' ⟨rfl, rfl⟩
  skip
  refine ow_sliceHi (m := (g'.ws.length : Int)) rfl (tyAt rfl) rfl (tyAt rfl) rfl rfl (by omega) (by omega) ?_
  (apply ow_assign; (· rfl); (· ((conv => lhs; whnf) <;> rfl)))
  refine ow_nil ?_
  refine wc_seq ?_
  refine wc_seq ?_
  refine wc_region ?_
  (apply ow_move; (· rfl); (· ((conv => lhs; whnf) <;> rfl)))
  (apply ow_move; (· rfl); (· ((conv => lhs; whnf) <;> rfl)))
  (apply ow_move; (· rfl); (· ((conv => lhs; whnf) <;> rfl)))
  refine ow_call rfl rfl (ent (by kernel_rfl)) (CallsV.mono (hcr _ (hGr' H) (hPs H)) ?_) rfl
  rintro v w ⟨rfl, H'⟩
  replace H := H.call H'
  rw [List.nil_append] at H
  clear H' hcr
  by_cases hR : ¬ CutR g'.ws.length P (kn : Int)
  · rw [decide_eq_false hR]
    refine ow_not rfl rfl ?_
    refine ow_nil ?_
    refine wc_cond_true rfl ?_
    refine wc_seq ?_
    refine wc_region ?_
    (apply ow_assign; (· rfl); (· ((conv => lhs; whnf) <;> rfl)))
    refine ow_nil ?_
    refine wc_ret ?_
    obtain ⟨w, hT, H⟩ := H.takes Try.prog
    refine ⟨.inr rfl, w, hT, _, .tmp .nil, ?_⟩
    exact ⟨rfl, H.none⟩
  replace hR := Decidable.of_not_not hR
  rw [decide_eq_true hR]
  have hRl := hlr P hR
  rw [if_pos hR, hcut P] at hc2
  rw [decide_eq_true hRl] at hcl
  rw [if_pos hRl] at hc1
  rw [hlw P] at hw1
  refine ow_not rfl rfl ?_
  refine ow_nil ?_
  refine wc_cond_false rfl ?_
  refine wc_skip ?_
  refine wc_seq ?_
  refine wc_region ?_
  (apply ow_move; (· rfl); (· ((conv => lhs; whnf) <;> rfl)))
  (apply ow_move; (· rfl); (· ((conv => lhs; whnf) <;> rfl)))
  refine ow_call rfl rfl (ent (by kernel_rfl)) (CallsV.mono (hlf _ (hPs H) (H.rowSl (i := 0) rfl)) ?_) rfl
  clear hlf
  rintro v w hh
  obtain ⟨_, bl, rfl, H'⟩ := hh.resolve_left (fun h => h.1 (by unfold liftOk; rw [hPl]; exact hain))
  clear hh
  replace H := H.call H'
  clear H'
  rw [List.cons_append, List.nil_append] at H
  (apply ow_move; (· rfl); (· ((conv => lhs; whnf) <;> rfl)))
  refine ow_extract rfl rfl rfl ?_
  refine ow_extract rfl rfl rfl ?_
  (apply ow_assign; (· rfl); (· ((conv => lhs; whnf) <;> rfl)))
  (apply ow_assign; (· rfl); (· ((conv => lhs; whnf) <;> rfl)))
  refine ow_nil ?_
  refine wc_seq ?_
  refine wc_seq ?_
  refine wc_region ?_
  (apply ow_move; (· rfl); (· ((conv => lhs; whnf) <;> rfl)))
  refine ow_neq rfl rfl rfl ?_
  (apply ow_move; (· rfl); (· ((conv => lhs; whnf) <;> rfl)))
  refine ow_guard_yes rfl rfl rfl rfl ?_
  (apply ow_move; (· rfl); (· ((conv => lhs; whnf) <;> rfl)))
  refine ow_guard_yes rfl rfl rfl rfl ?_
  (apply ow_move; (· rfl); (· ((conv => lhs; whnf) <;> rfl)))
  refine ow_guard_yes rfl rfl rfl rfl ?_
  (apply ow_move; (· rfl); (· ((conv => lhs; whnf) <;> rfl)))
  refine ow_guard_yes rfl rfl rfl rfl ?_
  refine ow_call rfl rfl (ent (by kernel_rfl)) (CallsV.mono (hcl bl _ (hGr2 (pre := [_, _, _, _]) H) (H.rowSl (i := 0) rfl)) ?_) rfl
  rintro v w ⟨rfl, H'⟩
  replace H := H.call H'
  rw [List.nil_append] at H
  clear H' hcl
  refine ow_guard_yes rfl rfl rfl rfl ?_
  refine ow_not rfl rfl ?_
  (apply ow_pick_f; (· rfl); (· rfl); (· ((conv => lhs; whnf) <;> rfl)))
  (apply ow_move; (· rfl); (· ((conv => lhs; whnf) <;> rfl)))
  refine ow_guard_yes rfl rfl rfl rfl ?_
  (apply ow_move; (· rfl); (· ((conv => lhs; whnf) <;> rfl)))
  refine ow_guard_yes rfl rfl rfl rfl ?_
  (apply ow_move; (· rfl); (· ((conv => lhs; whnf) <;> rfl)))
  refine ow_guard_yes rfl rfl rfl rfl ?_
  (apply ow_move; (· rfl); (· ((conv => lhs; whnf) <;> rfl)))
  refine ow_guard_yes rfl rfl rfl rfl ?_
  refine ow_call rfl rfl (ent (by kernel_rfl)) (CallsV.mono (hc1 bl _ (hGr2 (pre := [_, _, _, _]) H) (H.rowSl (i := 0) rfl)) ?_) rfl
  rintro v w ⟨rfl, H'⟩
  replace H := H.call H'
  rw [List.nil_append] at H
  clear H' hc1
  refine ow_guard_yes rfl rfl rfl rfl ?_
  (apply ow_move; (· rfl); (· ((conv => lhs; whnf) <;> rfl)))
  refine ow_guard_yes rfl rfl rfl rfl ?_
  (apply ow_move; (· rfl); (· ((conv => lhs; whnf) <;> rfl)))
  refine ow_guard_yes rfl rfl rfl rfl ?_
  (apply ow_move; (· rfl); (· ((conv => lhs; whnf) <;> rfl)))
  refine ow_guard_yes rfl rfl rfl rfl ?_
  refine ow_call rfl rfl (ent (by kernel_rfl)) (CallsV.mono (hc2 _ (hGr' (pre := [_, _, _, _]) H) (hPs H)) ?_) rfl
  rintro v w ⟨rfl, H'⟩
  replace H := H.call H'
  rw [List.nil_append] at H
  clear H' hc2
  refine ow_guard_yes rfl rfl rfl rfl ?_
  refine ow_neq rfl rfl rfl ?_
  (apply ow_pick_f; (· rfl); (· rfl); (· ((conv => lhs; whnf) <;> rfl)))
  refine ow_nil ?_
  refine wc_cond_dec rfl (fun h => ?_) (fun h => ?_) <;> try dsimp only at h
  · exact absurd rfl h
  clear h
  refine wc_skip ?_
  refine wc_seq ?_
  refine wc_region ?_
  (apply ow_move; (· rfl); (· ((conv => lhs; whnf) <;> rfl)))
  (apply ow_move; (· rfl); (· ((conv => lhs; whnf) <;> rfl)))
  (apply ow_move; (· rfl); (· ((conv => lhs; whnf) <;> rfl)))
  refine ow_call rfl rfl (ent (by kernel_rfl)) (CallsV.mono (hw1 bl _ (hGr2 (pre := [_, _, _, _]) H) (H.rowSl (i := 0) rfl)) ?_) rfl
  rintro v w hh
  obtain ⟨_, bwa, rfl, H'⟩ := hh.resolve_left (fun h => h.1 hRl)
  clear hh hw1
  replace H := H.call H'
  clear H'
  rw [List.cons_append, List.nil_append] at H
  (apply ow_move; (· rfl); (· ((conv => lhs; whnf) <;> rfl)))
  (apply ow_move; (· rfl); (· ((conv => lhs; whnf) <;> rfl)))
  (apply ow_move; (· rfl); (· ((conv => lhs; whnf) <;> rfl)))
  refine ow_call rfl rfl (ent (by kernel_rfl)) (CallsV.mono (hw2 _ (hGr' (pre := [_, _, _, _, _]) H) (hPs H)) ?_) rfl
  rintro v w hh
  obtain ⟨_, bwb, rfl, H'⟩ := hh.resolve_left (fun h => h.1 hR)
  clear hh hw2
  replace H := H.call H'
  clear H'
  rw [List.cons_append, List.nil_append] at H
  have hwl := wtL_len g'.ws P kn g'.ws.length
  replace H : St Pu w0 w [.row bwb 2 (ints .i64 (wtL g'.ws P kn g'.ws.length)), .row bwa 2 (ints .i64 (wtL g'.ws P kn g'.ws.length))] [] := H.sub (.cons₂ _ (.cons₂ _ (List.nil_sublist _)))
  generalize wtL g'.ws P kn g'.ws.length = W at *
  (apply ow_assign; (· rfl); (· ((conv => lhs; whnf) <;> rfl)))
  (apply ow_assign; (· rfl); (· ((conv => lhs; whnf) <;> rfl)))
  refine ow_nil ?_
  refine wc_seq ?_
  refine wc_seq ?_
  refine wc_region ?_
  (apply ow_move; (· rfl); (· ((conv => lhs; whnf) <;> rfl)))
  refine ow_len rfl rfl (tyAt rfl) rfl ?_
  (apply ow_move; (· rfl); (· ((conv => lhs; whnf) <;> rfl)))
  refine ow_nil ?_
  refine wc_block ?_
  refine wc_loopS [8, 19, 138, 139, 140, 141, 142, 143, 144, 145, 146, 147, 148, 149, 150] (fun (s : Nat) e => upd e 138 (.int .i64 s)) (fun s D w => D = [] ∧ s ≤ kn ∧ St Pu w0 w [.row bwb 2 (ints .i64 W), .row bwa 2 (ints .i64 W)] []) (fun s _ => kn - s) 0 (by first | exact rfl | exact upd_self' rfl rfl | exact upd_self' rfl (upd_self' rfl rfl) | exact upd_self' rfl (upd_self' rfl (upd_self' rfl rfl)) | exact upd_self' rfl (upd_self' rfl (upd_self' rfl (upd_self' rfl rfl)))) ⟨rfl, Nat.zero_le _, H⟩ ?_
  clear H
  rintro i j D w ⟨rfl, hi, H⟩
  refine wc_seq ?_
  refine wc_region ?_
  refine ow_lss rfl rfl rfl ?_
  refine ow_nil ?_
  refine wc_seq ?_
  refine wc_cond_dec rfl (fun h => ?_) (fun h => ?_) <;> try dsimp only at h
  · have hlt : i < kn := by omega
    clear h
    refine wc_skip ?_
    refine wc_seq ?_
    refine wc_block ?_
    refine wc_seq ?_
    refine wc_region ?_
    (apply ow_move; (· rfl); (· ((conv => lhs; whnf) <;> rfl)))
    (apply ow_assign; (· rfl); (· ((conv => lhs; whnf) <;> rfl)))
    refine ow_nil ?_
    refine wc_seq ?_
    refine wc_drawK (fun w => St Pu w0 w [.row bwb 2 (ints .i64 W), .row bwa 2 (ints .i64 W)] []) 99 (by kernel_rfl) (by kernel_rfl) (by intro c e D w h; first | exact h.elim | (rcases h with ⟨h | h, _⟩ <;> cases h)) ?_
    replace H := H.drew
    apply ak_take (i := 0) rfl rfl rfl rfl (by kernel_rfl) (by with_reducible first | exact H | rfl)
    · intro w Q' HS hq; replace H := HS; clear HS; (apply ow_move; (· rfl); (· ((conv => lhs; whnf) <;> rfl))); exact ow_nil hq
    apply ak_take (i := 1) rfl rfl rfl rfl (by kernel_rfl) (by with_reducible first | exact H | rfl)
    · intro w Q' HS hq; replace H := HS; clear HS; (apply ow_move; (· rfl); (· ((conv => lhs; whnf) <;> rfl))); exact ow_nil hq
    apply ak_take (i := 2) rfl rfl rfl rfl (by kernel_rfl) (by with_reducible first | exact H | rfl)
    · intro w Q' HS hq; replace H := HS; clear HS; refine ow_idx1 (j := i) rfl (tyAt rfl) rfl (tyAt rfl) rfl rfl rfl hlt rfl ?_; exact ow_nil hq
    apply ak_take (i := 3) rfl rfl rfl rfl (by kernel_rfl) (by with_reducible first | exact H | rfl)
    · intro w Q' HS hq; replace H := HS; clear HS; refine ow_load rfl (tyAt rfl) rfl rfl (SlH.int (H.rowSl (i := 1) rfl) (by omega)) ?_; exact ow_nil hq
    apply ak_take (i := 4) rfl rfl rfl rfl (by kernel_rfl) (by with_reducible first | exact H | rfl)
    · intro w Q' HS hq; replace H := HS; clear HS; (apply ow_move; (· rfl); (· ((conv => lhs; whnf) <;> rfl))); exact ow_nil hq
    apply ak_take (i := 5) rfl rfl rfl rfl (by kernel_rfl) (by with_reducible first | exact H | rfl)
    · intro w Q' HS hq; replace H := HS; clear HS; (apply ow_move; (· rfl); (· ((conv => lhs; whnf) <;> rfl))); exact ow_nil hq
    apply ak_take (i := 6) rfl rfl rfl rfl (by kernel_rfl) (by with_reducible first | exact H | rfl)
    · intro w Q' HS hq; replace H := HS; clear HS; refine ow_idx1 (j := i) rfl (tyAt rfl) rfl (tyAt rfl) rfl rfl rfl hlt rfl ?_; exact ow_nil hq
    apply ak_take (i := 7) rfl rfl rfl rfl (by kernel_rfl) (by with_reducible first | exact H | rfl)
    · intro w Q' HS hq; replace H := HS; clear HS; refine ow_load rfl (tyAt rfl) rfl rfl (SlH.int (H.rowSl (i := 0) rfl) (by omega)) ?_; exact ow_nil hq
    apply ak_take (i := 8) rfl rfl rfl rfl (by kernel_rfl) (by with_reducible first | exact H | rfl)
    · intro w Q' HS hq; replace H := HS; clear HS; refine ow_neq rfl rfl rfl ?_; exact ow_nil hq
    refine ak_done (by kernel_rfl) ?_
    skip
    refine wc_cond_dec rfl (fun h => ?_) (fun h => ?_) <;> try dsimp only at h
    · exact absurd rfl h
    refine wc_skip ?_
    refine wc_region ?_
    refine ow_add rfl rfl rfl (by simp only [InK]; omega) ?_
    (apply ow_move; (· rfl); (· ((conv => lhs; whnf) <;> rfl)))
    refine ow_nil ?_
    exact ⟨i + 1, by first | exact rfl | exact upd_self' rfl rfl | exact upd_self' rfl (upd_self' rfl rfl) | exact upd_self' rfl (upd_self' rfl (upd_self' rfl rfl)) | exact upd_self' rfl (upd_self' rfl (upd_self' rfl (upd_self' rfl rfl))), by repeat (first | with_reducible exact Off.mix | with_reducible exact Off.refl | ((with_reducible refine Off.upd ?_ ?_); (· rfl))), ⟨rfl, hlt, H⟩, by omega⟩
  · refine wc_exit ?_
    refine wc_seq ?_
    refine wc_region ?_
    (apply ow_move; (· rfl); (· ((conv => lhs; whnf) <;> rfl)))
    refine ow_len rfl rfl (tyAt rfl) rfl ?_
    (apply ow_move; (· rfl); (· ((conv => lhs; whnf) <;> rfl)))
    refine ow_len rfl rfl (tyAt rfl) rfl ?_
    refine ow_eql rfl rfl rfl ?_
    (apply ow_assign; (· rfl); (· ((conv => lhs; whnf) <;> rfl)))
    refine ow_nil ?_
    refine wc_ret ?_
    obtain ⟨w, hT, H⟩ := H.takes Try.prog
    refine ⟨.inr rfl, w, hT, _, .tmp .nil, ?_⟩
    exact ⟨congrArg Value.bool (decide_eq_true rfl), H.none⟩
end Go.Proofs.Ytpbknokakooekaa

