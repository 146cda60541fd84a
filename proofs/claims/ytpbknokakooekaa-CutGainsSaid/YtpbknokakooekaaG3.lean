/- Graphs: Join. -/
import Derived.Test.YtpbknokakooekaaG2
namespace Go.Proofs.Ytpbknokakooekaa
set_option linter.all false
open Go Go.Sx Go.Proofs
set_option maxRecDepth 100000
set_option maxHeartbeats 2000000
def joinN (T : List IE) (n : Nat) (a b w : Int) : Nat × List IE :=
  if inR n a ∧ inR n b ∧ a ≠ b then if mayW w ∧ mayW (btw T a b + w) then (0, joinT T a.toNat b.toNat (btw T a b + w)) else (23, T) else (1, T)
theorem flat_set {ms : List MpT} {i : Nat} {m m' : MpT} (h : ms[i]? = some m) : ((ms.set i m').flatMap mpT).Perm (mpT m' ++ (ms.eraseIdx i).flatMap mpT) := by
  obtain ⟨hlt, _⟩ := List.getElem?_eq_some_iff.1 h
  rw [List.set_eq_take_append_cons_drop, if_pos hlt, List.eraseIdx_eq_take_drop_succ, List.flatMap_append, List.flatMap_cons, List.flatMap_append]
  rw [← List.append_assoc, ← List.append_assoc]
  exact List.perm_append_comm.append_right _
theorem set_ptr {ms : List MpT} {i : Nat} {m m' : MpT} (h : ms[i]? = some m) (hp : m'.1 = m.1) : (ms.set i m').map ptrT = ms.map ptrT := by
  apply List.ext_getElem?
  intro k
  rw [List.getElem?_map, List.getElem?_map, List.getElem?_set]
  by_cases hk : i = k
  · subst hk
    rw [if_pos rfl, if_pos (List.getElem?_eq_some_iff.1 h).1, h]
    simp [ptrT, hp]
  · rw [if_neg hk]
theorem grH_set {g : GX} {ms : List MpT} {i : Nat} {m m' : MpT} (h : ms[i]? = some m) (hp : m'.1 = m.1) : grH g (ms.set i m') = grH g ms := by
  unfold grH; rw [set_ptr h hp, List.length_set]
theorem gr_perm {g : GX} {ms : List MpT} {i : Nat} {m m' : MpT} (h : ms[i]? = some m) (hp : m'.1 = m.1) (L : List Cap) : (grC g (ms.set i m') ++ L).Perm (mpT m' ++ (grH g ms ++ ((ms.eraseIdx i).flatMap mpT ++ L))) := by
  unfold grC
  rw [grH_set h hp]
  have h1 := (flat_set (m' := m') h).append_right L
  rw [List.append_assoc] at h1
  rw [List.append_assoc]
  exact (h1.append_left _).trans (List.perm_append_comm_assoc _ _ _)
theorem tb_set (ms : List MpT) (i : Nat) (m' : MpT) : tb (ms.set i m') = (tb ms).set i m'.2.2.2 := by unfold tb; rw [List.map_set]
theorem set_same {α : Type} {l : List α} {i : Nat} {x : α} (h : l[i]? = some x) : l.set i x = l := by
  apply List.ext_getElem?
  intro k
  rw [List.getElem?_set]
  by_cases hk : i = k
  · subst hk; rw [if_pos rfl, if_pos (List.getElem?_eq_some_iff.1 h).1, h]
  · rw [if_neg hk]
theorem tb_at {ms : List MpT} {i : Nat} {m : MpT} (h : ms[i]? = some m) : (tb ms).getD i [] = m.2.2.2 := by unfold tb; rw [List.getD_eq_getElem?_getD, List.getElem?_map, h]; rfl
theorem join_gspec (g : GX) (ms : List MpT) (a b z : Int) (hn : ms.length = g.ws.length) (h4 : g.ws.length ≤ 4096) (hW : Wf (tb ms)) (w0 : World) (H : St (fps (grC g ms)) w0 w0 (grC g ms) []) :
    CallsV Try.prog 70 #[.pointer (some ⟨g.b, 0, none⟩), .int .i64 a, .int .i64 b, .int .i64 z] w0 fun v w => v = .int .i64 ((joinN (tb ms) g.ws.length a b z).1 : Nat) ∧ ∃ ms', tb ms' = (joinN (tb ms) g.ws.length a b z).2 ∧ St (fps (grC g ms)) w0 w (grC g ms') [] := by
  refine callsV_of Try.func70 rfl rfl ?_
  have hG : Gr (hp w0) g ms := gr_of_ok (okAll H)
  unfold joinN
  by_cases hc : inR g.ws.length a ∧ inR g.ws.length b ∧ a ≠ b
  · obtain ⟨ha, hb, hab⟩ := hc
    rw [if_pos ⟨ha, hb, hab⟩]
    refine wc_seq ?_
    refine wc_region ?_
    (apply ow_assign; (· rfl); (· ((conv => lhs; whnf) <;> rfl)))
    refine ow_nil ?_
    refine wc_seq ?_
    refine wc_seq ?_
    refine wc_region ?_
    (apply ow_move; (· rfl); (· ((conv => lhs; whnf) <;> rfl)))
    (apply ow_move; (· rfl); (· ((conv => lhs; whnf) <;> rfl)))
    refine ow_call rfl rfl (ent (by kernel_rfl)) (CallsV.mono (there_spec g ms a w0 hG) ?_) rfl
    rintro v w ⟨rfl, rfl⟩
    rw [decide_eq_true ha]
    refine ow_not rfl rfl ?_
    (apply ow_move; (· rfl); (· ((conv => lhs; whnf) <;> rfl)))
    refine ow_guard_yes rfl rfl rfl rfl ?_
    (apply ow_move; (· rfl); (· ((conv => lhs; whnf) <;> rfl)))
    refine ow_guard_yes rfl rfl rfl rfl ?_
    (apply ow_move; (· rfl); (· ((conv => lhs; whnf) <;> rfl)))
    refine ow_guard_yes rfl rfl rfl rfl ?_
    refine ow_call rfl rfl (ent (by kernel_rfl)) (CallsV.mono (there_spec g ms b w hG) ?_) rfl
    rintro v w' ⟨rfl, rfl⟩
    rw [decide_eq_true hb]
    refine ow_guard_yes rfl rfl rfl rfl ?_
    refine ow_not rfl rfl ?_
    (apply ow_pick_f; (· rfl); (· rfl); (· ((conv => lhs; whnf) <;> rfl)))
    (apply ow_move; (· rfl); (· ((conv => lhs; whnf) <;> rfl)))
    refine ow_guard_yes rfl rfl rfl rfl ?_
    (apply ow_move; (· rfl); (· ((conv => lhs; whnf) <;> rfl)))
    refine ow_guard_yes rfl rfl rfl rfl ?_
    (apply ow_move; (· rfl); (· ((conv => lhs; whnf) <;> rfl)))
    refine ow_guard_yes rfl rfl rfl rfl ?_
    refine ow_eql rfl rfl rfl ?_
    (apply ow_pick_f; (· rfl); (· rfl); (· ((conv => lhs; whnf) <;> rfl)))
    refine ow_nil ?_
    rw [decide_eq_false hab]
    refine wc_cond_false rfl ?_
    refine wc_skip ?_
    refine wc_seq ?_
    refine wc_region ?_
    (apply ow_move; (· rfl); (· ((conv => lhs; whnf) <;> rfl)))
    (apply ow_move; (· rfl); (· ((conv => lhs; whnf) <;> rfl)))
    (apply ow_move; (· rfl); (· ((conv => lhs; whnf) <;> rfl)))
    refine ow_call rfl rfl (ent (by kernel_rfl)) (CallsV.mono (between_spec g ms a b hn h4 hW w' hG) ?_) rfl
    rintro v w ⟨rfl, H'⟩
    replace H : St (fps (grC g ms)) w' w (grC g ms) [] := H.call H'
    clear H' hG
    have hbt := hW.btw_le a b
    (apply ow_assign; (· rfl); (· ((conv => lhs; whnf) <;> rfl)))
    refine ow_nil ?_
    refine wc_seq ?_
    refine wc_seq ?_
    refine wc_region ?_
    (apply ow_move; (· rfl); (· ((conv => lhs; whnf) <;> rfl)))
    refine ow_call rfl rfl (ent (by kernel_rfl)) (CallsV.mono (may_spec z w) ?_) rfl
    rintro v w2 ⟨rfl, rfl⟩
    by_cases hz : mayW z
    · rw [decide_eq_true hz]
      have hz' := hz
      unfold mayW at hz'
      refine ow_not rfl rfl ?_
      (apply ow_move; (· rfl); (· ((conv => lhs; whnf) <;> rfl)))
      refine ow_guard_yes rfl rfl rfl rfl ?_
      (apply ow_move; (· rfl); (· ((conv => lhs; whnf) <;> rfl)))
      refine ow_guard_yes rfl rfl rfl rfl ?_
      (apply ow_move; (· rfl); (· ((conv => lhs; whnf) <;> rfl)))
      refine ow_guard_yes rfl rfl rfl rfl ?_
      refine ow_add rfl rfl rfl (by simp only [InK]; omega) ?_
      refine ow_guard_yes rfl rfl rfl rfl ?_
      refine ow_call rfl rfl (ent (by kernel_rfl)) (CallsV.mono (may_spec (btw (tb ms) a b + z) w2) ?_) rfl
      rintro v w3 ⟨rfl, rfl⟩
      by_cases hy : mayW (btw (tb ms) a b + z)
      · rw [decide_eq_true hy, if_pos ⟨hz, hy⟩]
        obtain ⟨ma, hma, hra, hmma⟩ := ms_at hn ha
        obtain ⟨mb, hmb, hrb, hmmb⟩ := ms_at hn hb
        have hla := hW.rlen a
        have hasca := hW.rasc a
        have hlb := hW.rlen b
        have hascb := hW.rasc b
        rw [tb_len] at hla hlb
        rw [hra] at hla hasca
        rw [hrb] at hlb hascb
        obtain ⟨y, hyy⟩ : ∃ y, btw (tb ms) a b + z = y := ⟨_, rfl⟩
        have hy9 := hy
        unfold mayW at hy9
        rw [hyy] at hy ⊢
        have hG : Gr (hp w3) g ms := gr_of_ok (okAll H)
        have hnab : a.toNat ≠ b.toNat := by have := ha.1; have := hb.1; omega
        have ea : (a.toNat : Int) = a := by have := ha.1; omega
        have eb : (b.toNat : Int) = b := by have := hb.1; omega
        have H1 : St (fps (grC g ms)) w' w3 (mpT ma ++ (grH g ms ++ ((ms.eraseIdx a.toNat).flatMap mpT ++ []))) [] := by
          have e := gr_perm (g := g) (m' := ma) hma rfl []
          rw [set_same hma, List.append_nil] at e
          exact H.perm e
        refine ow_guard_yes rfl rfl rfl rfl ?_
        refine ow_not rfl rfl ?_
        (apply ow_pick_f; (· rfl); (· rfl); (· ((conv => lhs; whnf) <;> rfl)))
        refine ow_nil ?_
        refine wc_cond_false rfl ?_
        refine wc_skip ?_
        refine wc_seq ?_
        refine wc_region ?_
        (apply ow_move; (· rfl); (· ((conv => lhs; whnf) <;> rfl)))
        refine ow_nilCheck_ptr rfl rfl ?_
        refine ow_fieldAddr rfl (tyAt rfl) rfl rfl rfl (tyAt rfl) rfl rfl ?_
        refine ow_load rfl (tyAt rfl) rfl rfl (hG.1.cell (j := 1) rfl) ?_
        (apply ow_move; (· rfl); (· ((conv => lhs; whnf) <;> rfl)))
        obtain ⟨bp, o, hpw⟩ := hG.2.2.1.some_of (by have := ha.1; have := ha.2; simp; omega)
        have hs := hG.2.2.1
        rw [hpw] at hs ⊢
        refine ow_idx1 (j := a.toNat) rfl (tyAt rfl) rfl (tyAt rfl) rfl rfl (by have := ha.1; omega) (by have := ha.1; have := ha.2; omega) rfl ?_
        refine ow_load rfl (tyAt rfl) rfl rfl (hs.cell (j := a.toNat) (v := ptrT ma) (by rw [List.getElem?_map, hma]; rfl)) ?_
        rw [← hpw]
        clear hs hpw
        (apply ow_move; (· rfl); (· ((conv => lhs; whnf) <;> rfl)))
        (apply ow_move; (· rfl); (· ((conv => lhs; whnf) <;> rfl)))
        (apply ow_move; (· rfl); (· ((conv => lhs; whnf) <;> rfl)))
        refine ow_add rfl rfl rfl (by simp only [InK]; omega) ?_
        rw [hyy]
        refine ow_call rfl rfl (ent (by kernel_rfl)) (CallsV.mono (putC_spec ma.1 ma.2.1 ma.2.2.1 ma.2.2.2 b y (by omega) hasca _ H1.begin) ?_) rfl
        rintro v w4 ⟨rfl, p2, c2, H'⟩
        have H2 := H1.callC (fun _ h => h) H'
        clear H' H1 H hG
        obtain ⟨ma', hma'⟩ : ∃ ma' : MpT, ma' = (ma.1, p2, c2, putE ltI ma.2.2.2 b y) := ⟨_, rfl⟩
        have H : St (fps (grC g ms)) w' w4 (grC g (ms.set a.toNat ma')) [] := by
          have e := (gr_perm (g := g) (m' := ma') hma (by rw [hma']) []).symm
          rw [hma', List.append_nil, List.append_nil] at e
          rw [List.append_nil] at H2
          rw [hma']
          exact H2.perm e
        clear H2
        have hmb2 : (ms.set a.toNat ma')[b.toNat]? = some mb := by rw [List.getElem?_set_ne hnab, hmb]
        have hG : Gr (hp w4) g (ms.set a.toNat ma') := gr_of_ok (okAll H)
        have H1 : St (fps (grC g ms)) w' w4 (mpT mb ++ (grH g (ms.set a.toNat ma') ++ (((ms.set a.toNat ma').eraseIdx b.toNat).flatMap mpT ++ []))) [] := by
          have e := gr_perm (g := g) (m' := mb) hmb2 rfl []
          rw [set_same hmb2, List.append_nil] at e
          exact H.perm e
        have hn2 : (ms.set a.toNat ma').length = g.ws.length := by rw [List.length_set, hn]
        refine ow_nil ?_
        refine wc_seq ?_
        refine wc_region ?_
        (apply ow_move; (· rfl); (· ((conv => lhs; whnf) <;> rfl)))
        refine ow_nilCheck_ptr rfl rfl ?_
        refine ow_fieldAddr rfl (tyAt rfl) rfl rfl rfl (tyAt rfl) rfl rfl ?_
        refine ow_load rfl (tyAt rfl) rfl rfl (hG.1.cell (j := 1) rfl) ?_
        (apply ow_move; (· rfl); (· ((conv => lhs; whnf) <;> rfl)))
        obtain ⟨bp2, o2, hpw⟩ := hG.2.2.1.some_of (by have := hb.1; have := hb.2; rw [List.length_map]; omega)
        have hs := hG.2.2.1
        rw [hpw] at hs ⊢
        refine ow_idx1 (j := b.toNat) rfl (tyAt rfl) rfl (tyAt rfl) rfl rfl eb.symm (by have := hb.2; omega) rfl ?_
        refine ow_load rfl (tyAt rfl) rfl rfl (hs.cell (j := b.toNat) (v := ptrT mb) (by rw [List.getElem?_map, hmb2]; rfl)) ?_
        rw [← hpw]
        clear hs hpw
        (apply ow_move; (· rfl); (· ((conv => lhs; whnf) <;> rfl)))
        (apply ow_move; (· rfl); (· ((conv => lhs; whnf) <;> rfl)))
        (apply ow_move; (· rfl); (· ((conv => lhs; whnf) <;> rfl)))
        refine ow_add rfl rfl rfl (by simp only [InK]; omega) ?_
        rw [hyy]
        refine ow_call rfl rfl (ent (by kernel_rfl)) (CallsV.mono (putC_spec mb.1 mb.2.1 mb.2.2.1 mb.2.2.2 a y (by omega) hascb _ H1.begin) ?_) rfl
        rintro v w5 ⟨rfl, p3, c3, H'⟩
        have H2 := H1.callC (fun _ h => h) H'
        obtain ⟨mb', hmb'⟩ : ∃ mb' : MpT, mb' = (mb.1, p3, c3, putE ltI mb.2.2.2 a y) := ⟨_, rfl⟩
        have H : St (fps (grC g ms)) w' w5 (grC g ((ms.set a.toNat ma').set b.toNat mb')) [] := by
          have e := (gr_perm (g := g) (m' := mb') hmb2 (by rw [hmb']) []).symm
          rw [hmb', List.append_nil, List.append_nil] at e
          rw [List.append_nil] at H2
          rw [hmb']
          exact H2.perm e
        refine ow_nil ?_
        refine wc_seq ?_
        refine wc_region ?_
        (apply ow_assign; (· rfl); (· ((conv => lhs; whnf) <;> rfl)))
        refine ow_nil ?_
        refine wc_ret ?_
        obtain ⟨w, hT, H⟩ := H.takes Try.prog
        refine ⟨.inr rfl, w, hT, _, .tmp .nil, ?_⟩
        refine ⟨rfl, _, ?_, H⟩
        unfold joinT
        rw [tb_set, tb_set, tb_at hma, tb_at hmb, ea, eb, hma', hmb']
      · rw [decide_eq_false hy, if_neg (fun h => hy h.2)]
        refine ow_guard_yes rfl rfl rfl rfl ?_
        refine ow_not rfl rfl ?_
        (apply ow_pick_f; (· rfl); (· rfl); (· ((conv => lhs; whnf) <;> rfl)))
        refine ow_nil ?_
        refine wc_cond_true rfl ?_
        refine wc_seq ?_
        refine wc_region ?_
        (apply ow_assign; (· rfl); (· ((conv => lhs; whnf) <;> rfl)))
        refine ow_nil ?_
        refine wc_ret ?_
        obtain ⟨w, hT, H⟩ := H.takes Try.prog
        refine ⟨.inr rfl, w, hT, _, .tmp .nil, ?_⟩
        exact ⟨rfl, ms, rfl, H⟩
    · rw [decide_eq_false hz, if_neg (fun h => hz h.1)]
      refine ow_not rfl rfl ?_
      (apply ow_move; (· rfl); (· ((conv => lhs; whnf) <;> rfl)))
      refine ow_guard_no rfl rfl rfl rfl rfl rfl rfl ?_
      refine ow_guard_no rfl rfl rfl rfl rfl rfl rfl ?_
      refine ow_guard_no rfl rfl rfl rfl rfl rfl rfl ?_
      refine ow_guard_no rfl rfl rfl rfl rfl rfl rfl ?_
      refine ow_guard_no rfl rfl rfl rfl rfl rfl rfl ?_
      (apply ow_pick_t; (· rfl); (· rfl); (· ((conv => lhs; whnf) <;> rfl)))
      refine ow_nil ?_
      refine wc_cond_true rfl ?_
      refine wc_seq ?_
      refine wc_region ?_
      (apply ow_assign; (· rfl); (· ((conv => lhs; whnf) <;> rfl)))
      refine ow_nil ?_
      refine wc_ret ?_
      obtain ⟨w, hT, H⟩ := H.takes Try.prog
      refine ⟨.inr rfl, w, hT, _, .tmp .nil, ?_⟩
      exact ⟨rfl, ms, rfl, H⟩
  · rw [if_neg hc]
    refine wc_seq ?_
    refine wc_region ?_
    (apply ow_assign; (· rfl); (· ((conv => lhs; whnf) <;> rfl)))
    refine ow_nil ?_
    refine wc_seq ?_
    refine wc_seq ?_
    refine wc_region ?_
    (apply ow_move; (· rfl); (· ((conv => lhs; whnf) <;> rfl)))
    (apply ow_move; (· rfl); (· ((conv => lhs; whnf) <;> rfl)))
    refine ow_call rfl rfl (ent (by kernel_rfl)) (CallsV.mono (there_spec g ms a w0 hG) ?_) rfl
    rintro v w ⟨rfl, rfl⟩
    by_cases ha : inR g.ws.length a
    · rw [decide_eq_true ha]
      refine ow_not rfl rfl ?_
      (apply ow_move; (· rfl); (· ((conv => lhs; whnf) <;> rfl)))
      refine ow_guard_yes rfl rfl rfl rfl ?_
      (apply ow_move; (· rfl); (· ((conv => lhs; whnf) <;> rfl)))
      refine ow_guard_yes rfl rfl rfl rfl ?_
      (apply ow_move; (· rfl); (· ((conv => lhs; whnf) <;> rfl)))
      refine ow_guard_yes rfl rfl rfl rfl ?_
      refine ow_call rfl rfl (ent (by kernel_rfl)) (CallsV.mono (there_spec g ms b w hG) ?_) rfl
      rintro v w' ⟨rfl, rfl⟩
      by_cases hb : inR g.ws.length b
      · have hab : a = b := Classical.byContradiction fun h => hc ⟨ha, hb, h⟩
        rw [decide_eq_true hb]
        refine ow_guard_yes rfl rfl rfl rfl ?_
        refine ow_not rfl rfl ?_
        (apply ow_pick_f; (· rfl); (· rfl); (· ((conv => lhs; whnf) <;> rfl)))
        (apply ow_move; (· rfl); (· ((conv => lhs; whnf) <;> rfl)))
        refine ow_guard_yes rfl rfl rfl rfl ?_
        (apply ow_move; (· rfl); (· ((conv => lhs; whnf) <;> rfl)))
        refine ow_guard_yes rfl rfl rfl rfl ?_
        (apply ow_move; (· rfl); (· ((conv => lhs; whnf) <;> rfl)))
        refine ow_guard_yes rfl rfl rfl rfl ?_
        refine ow_eql rfl rfl rfl ?_
        (apply ow_pick_f; (· rfl); (· rfl); (· ((conv => lhs; whnf) <;> rfl)))
        refine ow_nil ?_
        rw [decide_eq_true hab]
        refine wc_cond_true rfl ?_
        refine wc_seq ?_
        refine wc_region ?_
        (apply ow_assign; (· rfl); (· ((conv => lhs; whnf) <;> rfl)))
        refine ow_nil ?_
        refine wc_ret ?_
        obtain ⟨w, hT, H⟩ := H.takes Try.prog
        refine ⟨.inr rfl, w, hT, _, .tmp .nil, ?_⟩
        exact ⟨rfl, ms, rfl, H⟩
      · rw [decide_eq_false hb]
        refine ow_guard_yes rfl rfl rfl rfl ?_
        refine ow_not rfl rfl ?_
        (apply ow_pick_f; (· rfl); (· rfl); (· ((conv => lhs; whnf) <;> rfl)))
        (apply ow_move; (· rfl); (· ((conv => lhs; whnf) <;> rfl)))
        refine ow_guard_no rfl rfl rfl rfl rfl rfl rfl ?_
        refine ow_guard_no rfl rfl rfl rfl rfl rfl rfl ?_
        refine ow_guard_no rfl rfl rfl rfl rfl rfl rfl ?_
        (apply ow_pick_t; (· rfl); (· rfl); (· ((conv => lhs; whnf) <;> rfl)))
        refine ow_nil ?_
        refine wc_cond_true rfl ?_
        refine wc_seq ?_
        refine wc_region ?_
        (apply ow_assign; (· rfl); (· ((conv => lhs; whnf) <;> rfl)))
        refine ow_nil ?_
        refine wc_ret ?_
        obtain ⟨w, hT, H⟩ := H.takes Try.prog
        refine ⟨.inr rfl, w, hT, _, .tmp .nil, ?_⟩
        exact ⟨rfl, ms, rfl, H⟩
    · rw [decide_eq_false ha]
      refine ow_not rfl rfl ?_
      (apply ow_move; (· rfl); (· ((conv => lhs; whnf) <;> rfl)))
      refine ow_guard_no rfl rfl rfl rfl rfl rfl rfl ?_
      refine ow_guard_no rfl rfl rfl rfl rfl rfl rfl ?_
      refine ow_guard_no rfl rfl rfl rfl rfl rfl rfl ?_
      refine ow_guard_no rfl rfl rfl rfl rfl rfl rfl ?_
      (apply ow_pick_t; (· rfl); (· rfl); (· ((conv => lhs; whnf) <;> rfl)))
      (apply ow_move; (· rfl); (· ((conv => lhs; whnf) <;> rfl)))
      refine ow_guard_no rfl rfl rfl rfl rfl rfl rfl ?_
      refine ow_guard_no rfl rfl rfl rfl rfl rfl rfl ?_
      refine ow_guard_no rfl rfl rfl rfl rfl rfl rfl ?_
      (apply ow_pick_t; (· rfl); (· rfl); (· ((conv => lhs; whnf) <;> rfl)))
      refine ow_nil ?_
      refine wc_cond_true rfl ?_
      refine wc_seq ?_
      refine wc_region ?_
      (apply ow_assign; (· rfl); (· ((conv => lhs; whnf) <;> rfl)))
      refine ow_nil ?_
      refine wc_ret ?_
      obtain ⟨w, hT, H⟩ := H.takes Try.prog
      refine ⟨.inr rfl, w, hT, _, .tmp .nil, ?_⟩
      exact ⟨rfl, ms, rfl, H⟩
end Go.Proofs.Ytpbknokakooekaa

